/- What the printed functions of layer 5 compute, in plain words: the cut, the join, and the comparisons of lists of strings. -/
import Derived.Test.YtpdhfnpnilpipaaPChainCutsx2
import Derived.Test.YtpdhfnpnilpipaaChShelf
namespace Go.Proofs.Ytpdhfnpnilpipaa.Ch
open Go.RowKit Go.Proofs.Ytpdhfnpnilpipaa.PChainCuts Go.Proofs.YtpdhfnpnilpipaaW.PrintWords Go.Proofs.YtpdhfnpnilpipaaW.PrintLast

/-- The pieces of a value. -/
def cutOf (s : ByteArray) : List ByteArray := if 24 < s.size ∧ s.size ≤ 400 then (if s.size ≤ 240 then [s] else [s.extract 0 240, s.extract 240 s.size]) else []
theorem toList_inj {s t : ByteArray} : s.toList = t.toList ↔ s = t := by
  constructor
  · intro h
    apply ByteArray.ext
    rw [ByteArray.toList_eq, ByteArray.toList_eq] at h
    exact Array.toList_inj.1 h
  · intro h; rw [h]
theorem size_nil (s : ByteArray) : s.size = s.data.toList.length := by rw [Array.length_toList]; rfl
theorem toList_nil (s : ByteArray) : s.toList = [] ↔ s.size = 0 := by
  rw [ByteArray.toList_eq, size_nil]
  exact List.length_eq_zero_iff.symm
theorem ext_size (s : ByteArray) (a b : Nat) : (s.extract a b).size = min b s.size - a := by simp
theorem ext_all (s : ByteArray) : s.extract 0 s.size = s := by simp
theorem cut_step (k : Nat) (s : ByteArray) (xs : List ByteArray) (hx : xs.length < 5) (h1 : 0 < s.size) (h2 : s.size ≤ 240) : chain_Cut.l0 (k + 2) s xs = some (xs ++ [s]) := by
  have hn : s.toList ≠ [] := by rw [Ne, toList_nil]; omega
  have hm : mn (s.size : Int) 240 = (s.size : Int) := by unfold mn; omega
  simp only [chain_Cut.l0]
  rw [if_neg hn, hm, if_pos (by omega), if_pos (by omega), if_pos (by omega), Int.toNat_natCast]
  rw [if_pos ((toList_nil _).2 (by rw [ext_size]; omega)), ext_all]
theorem cut_tells (k : Nat) (s : ByteArray) : chain_Cut.f (k + 3) s = some (cutOf s) := by
  unfold chain_Cut.f chain_chained.f cutOf
  by_cases h : 24 < s.size
  · rw [if_pos (by omega)]
    simp only [Option.bind_some]
    by_cases h4 : s.size ≤ 400
    · rw [if_pos (by simpa using (by omega : (s.size : Int) ≤ 400)), if_pos ⟨h, h4⟩]
      by_cases h2 : s.size ≤ 240
      · rw [if_pos h2, show k + 3 = (k + 1) + 2 from rfl, cut_step _ _ _ (by simp) (by omega) h2]; rfl
      · rw [if_neg h2]
        have hn : s.toList ≠ [] := by rw [Ne, toList_nil]; omega
        have hm : mn (s.size : Int) 240 = 240 := by unfold mn; omega
        rw [show k + 3 = (k + 2) + 1 from rfl, chain_Cut.l0]
        rw [if_neg hn, hm, if_pos (by omega), if_pos (by omega), if_pos (by simp)]
        rw [cut_step _ _ _ (by simp) (by rw [ext_size]; simp; omega) (by rw [ext_size]; simp; omega)]
        rfl
    · rw [if_neg (by simpa using (by omega : (400:Int) < (s.size : Int))), if_neg (by omega)]
  · rw [if_neg (by omega), if_neg (by omega)]
    simp
theorem awake_tells (k : Nat) : sapwoodlaw05_awake.f (k + 3) = some true := by
  unfold sapwoodlaw05_awake.f chain_Pages.f
  rw [if_pos (by omega), cut_tells]
  simp only [Option.bind_some]
  have e1 : (cutOf (strOfNums (List.replicate 241 0))).length = 2 := by
    unfold cutOf
    have : (strOfNums (List.replicate 241 0)).size = 241 := by rw [size_nil]; unfold strOfNums; rw [List.toList_toArray, List.length_map, List.length_replicate]
    rw [this]; rfl
  rw [e1, cut_tells]
  simp only [Option.bind_some]
  have e2 : (cutOf ⟨#[97]⟩).length = 0 := by unfold cutOf; rw [if_neg (by decide)]; rfl
  rw [e2]; rfl
theorem pages_tells (k : Nat) (s : ByteArray) : chain_Pages.f (k + 3) s = some ((cutOf s).length : Int) := by
  unfold chain_Pages.f; rw [cut_tells]; rfl
theorem refcut_tells (k : Nat) (s : ByteArray) : sapwoodref05_Cut.f (k + 1) s = some (cutOf s) := by
  unfold sapwoodref05_Cut.f cutOf
  by_cases h : 24 < s.size
  · rw [if_neg (by omega)]
    by_cases h4 : s.size ≤ 400
    · rw [decide_eq_false (by omega), sapwoodref05_Cut.j0, if_neg (by simp), if_pos (⟨h, h4⟩ : 24 < s.size ∧ s.size ≤ 400)]
      by_cases h2 : s.size ≤ 240
      · rw [if_pos (by omega : (s.size : Int) ≤ 240), if_pos h2]
      · rw [if_neg (by omega : ¬ (s.size : Int) ≤ 240), if_neg h2, if_pos (by omega), if_pos (by omega)]
    · rw [decide_eq_true (by omega), sapwoodref05_Cut.j0, if_pos rfl, if_neg (by omega)]
  · rw [if_pos (by omega), sapwoodref05_Cut.j0, if_pos rfl, if_neg (by omega)]
theorem rdOf_at (l : List ByteArray) (i : Nat) : rdOf ByteArray.empty l (i : Int) = l.getD i ByteArray.empty := by
  unfold rdOf; simp
theorem drop_step {α : Type} (xs : List α) (i : Nat) (d : α) (h : i < xs.length) : xs.drop i = xs.getD i d :: xs.drop (i + 1) := by
  rw [List.drop_eq_getElem_cons h, List.getD_eq_getElem?_getD, List.getElem?_eq_getElem h]; rfl
theorem wrap_next {i n : Nat} (h : i < n) (hn : n ≤ 9223372036854775807) : wrap64 ((i : Int) + 1) = ((i + 1 : Nat) : Int) := by unfold wrap64; omega
theorem equal_loop (xs ys : List ByteArray) (hl : xs.length = ys.length) (hm : xs.length ≤ 9223372036854775807) (d : Nat) :
    ∀ (k i : Nat), i + d = xs.length → d < k → slices_Equal_string_string.l0 k xs ys (xs.length : Int) (i : Int) = some (decide (xs.drop i = ys.drop i)) := by
  induction d with
  | zero =>
    intro k i hi hk
    obtain ⟨k, rfl⟩ : ∃ m, k = m + 1 := ⟨k - 1, by omega⟩
    rw [slices_Equal_string_string.l0, if_neg (by omega), List.drop_of_length_le (by omega), List.drop_of_length_le (by omega)]
    simp
  | succ d ih =>
    intro k i hi hk
    obtain ⟨k, rfl⟩ : ∃ m, k = m + 1 := ⟨k - 1, by omega⟩
    rw [slices_Equal_string_string.l0, if_pos (by omega), if_pos (by omega), if_pos (by omega), if_pos (by omega)]
    rw [rdOf_at, rdOf_at, wrap_next (n := xs.length) (by omega) hm, ih k (i + 1) (by omega) (by omega)]
    rw [drop_step xs i ByteArray.empty (by omega), drop_step ys i ByteArray.empty (by omega)]
    by_cases he : xs.getD i ByteArray.empty = ys.getD i ByteArray.empty
    · rw [if_pos (toList_inj.2 he), he]
      simp only [List.cons.injEq, true_and]
    · rw [if_neg (fun h => he (toList_inj.1 h))]
      simp only [List.cons.injEq, he, false_and, decide_false]
theorem equal_tells (k : Nat) (xs ys : List ByteArray) (hm : xs.length ≤ 9223372036854775807) (hk : xs.length < k) : slices_Equal_string_string.f k xs ys = some (decide (xs = ys)) := by
  unfold slices_Equal_string_string.f
  by_cases h : xs.length = ys.length
  · rw [if_pos (by omega)]
    have := equal_loop xs ys h hm xs.length k 0 (by omega) hk
    simpa using this
  · rw [if_neg (by omega), decide_eq_false (fun e => h (by rw [e]))]
theorem same_loop (xs ys : List ByteArray) (hl : xs.length = ys.length) (hm : xs.length ≤ 9223372036854775807) (d : Nat) :
    ∀ (k i : Nat), i + d = xs.length → d < k → sapwoodlaw05_same.l0 k xs ys (xs.length : Int) (i : Int) = some (decide (xs.drop i = ys.drop i)) := by
  induction d with
  | zero =>
    intro k i hi hk
    obtain ⟨k, rfl⟩ : ∃ m, k = m + 1 := ⟨k - 1, by omega⟩
    rw [sapwoodlaw05_same.l0, if_neg (by omega), List.drop_of_length_le (by omega), List.drop_of_length_le (by omega)]
    simp
  | succ d ih =>
    intro k i hi hk
    obtain ⟨k, rfl⟩ : ∃ m, k = m + 1 := ⟨k - 1, by omega⟩
    rw [sapwoodlaw05_same.l0, if_pos (by omega), if_pos (by omega), if_pos (by omega), if_pos (by omega)]
    rw [rdOf_at, rdOf_at, wrap_next (n := xs.length) (by omega) hm, ih k (i + 1) (by omega) (by omega)]
    rw [drop_step xs i ByteArray.empty (by omega), drop_step ys i ByteArray.empty (by omega)]
    by_cases he : xs.getD i ByteArray.empty = ys.getD i ByteArray.empty
    · rw [if_pos (toList_inj.2 he), he]
      simp only [List.cons.injEq, true_and]
    · rw [if_neg (fun h => he (toList_inj.1 h))]
      simp only [List.cons.injEq, he, false_and, decide_false]
theorem same_tells (k : Nat) (xs ys : List ByteArray) (hm : xs.length ≤ 9223372036854775807) (hk : xs.length < k) : sapwoodlaw05_same.f k xs ys = some (decide (xs = ys)) := by
  unfold sapwoodlaw05_same.f
  by_cases h : xs.length = ys.length
  · rw [if_pos (by omega)]
    have := same_loop xs ys h hm xs.length k 0 (by omega) hk
    simpa using this
  · rw [if_neg (by omega), decide_eq_false (fun e => h (by rw [e]))]
/-- Are pieces of a size that is looked at? -/
def fewB (l : List ByteArray) : Bool := decide (l.length ≤ 20) && l.all fun s => decide (s.size ≤ 2000)
theorem few_loop (xs : List ByteArray) (hm : xs.length ≤ 20) (d : Nat) :
    ∀ (k i : Nat), i + d = xs.length → d < k → sapwoodlaw05_few.l0 k xs (xs.length : Int) (i : Int) = some ((xs.drop i).all fun s => decide (s.size ≤ 2000)) := by
  induction d with
  | zero =>
    intro k i hi hk
    obtain ⟨k, rfl⟩ : ∃ m, k = m + 1 := ⟨k - 1, by omega⟩
    rw [sapwoodlaw05_few.l0, if_neg (by omega), List.drop_of_length_le (by omega)]
    rfl
  | succ d ih =>
    intro k i hi hk
    obtain ⟨k, rfl⟩ : ∃ m, k = m + 1 := ⟨k - 1, by omega⟩
    rw [sapwoodlaw05_few.l0, if_pos (by omega), if_pos (by omega), if_pos (by omega)]
    rw [rdOf_at, wrap_next (n := xs.length) (by omega) (by omega), ih k (i + 1) (by omega) (by omega)]
    rw [drop_step xs i ByteArray.empty (by omega)]
    rw [List.all_cons]
    by_cases he : (xs.getD i ByteArray.empty).size ≤ 2000
    · rw [if_neg (by omega), decide_eq_true he]; rfl
    · rw [if_pos (by omega), decide_eq_false he]; rfl
theorem few_tells (k : Nat) (xs : List ByteArray) (hk : 20 < k) : sapwoodlaw05_few.f k xs = some (fewB xs) := by
  unfold sapwoodlaw05_few.f fewB
  by_cases h : xs.length ≤ 20
  · rw [if_neg (by omega), decide_eq_true h]
    have := few_loop xs h xs.length k 0 (by omega) (by omega)
    simpa using this
  · rw [if_pos (by omega), decide_eq_false h]; rfl
/-- Pieces, one behind the other. -/
def joinAll (xs : List ByteArray) : ByteArray := ⟨(Lib.join (xs.map (·.data.toList)) []).toArray⟩
theorem join_flat (l : List (List UInt8)) : Lib.join l [] = l.flatten := by
  induction l with
  | nil => rfl
  | cons a l ih =>
    cases l with
    | nil => simp [Lib.join]
    | cons b l => simp only [Lib.join] at ih ⊢; simp [ih]
theorem joinAll_data (xs : List ByteArray) : (joinAll xs).data.toList = (xs.map (·.data.toList)).flatten := by
  simp [joinAll, join_flat]
theorem ba_ext {s t : ByteArray} (h : s.data.toList = t.data.toList) : s = t := ByteArray.ext (Array.toList_inj.1 h)
theorem join_take (xs : List ByteArray) (i : Nat) (h : i < xs.length) : joinAll (xs.take i) ++ xs.getD i ByteArray.empty = joinAll (xs.take (i + 1)) := by
  apply ba_ext
  rw [joinAll_data, ByteArray.data_append, Array.toList_append, joinAll_data, List.getD_eq_getElem?_getD, List.getElem?_eq_getElem h]
  rw [List.take_succ_eq_append_getElem h, List.map_append, List.flatten_append]
  simp
theorem join_size (xs : List ByteArray) : (joinAll xs).size = (xs.map ByteArray.size).sum := by
  rw [size_nil, joinAll_data, List.length_flatten, List.map_map]
  congr 1
theorem sum_le (xs : List ByteArray) (h : ∀ x ∈ xs, x.size ≤ 2000) : (xs.map ByteArray.size).sum ≤ xs.length * 2000 := by
  induction xs with
  | nil => simp
  | cons a l ih =>
    have h1 := h a (by simp)
    have h2 := ih (fun x hx => h x (by simp [hx]))
    simp only [List.map_cons, List.sum_cons, List.length_cons]
    omega
theorem few_join {xs : List ByteArray} (h : fewB xs = true) : (joinAll xs).size ≤ 40000 ∧ xs.length ≤ 20 := by
  unfold fewB at h
  rw [Bool.and_eq_true, decide_eq_true_eq, List.all_eq_true] at h
  have := sum_le xs (fun x hx => by simpa using h.2 x hx)
  rw [join_size]; omega
/-- The answer of Join, as the document says it. -/
def joinOf (xs : List ByteArray) (size : Int) : ByteArray × Int :=
  if 24 < size ∧ size ≤ 400 ∧ xs.length ≤ 2 then (if ((joinAll xs).size : Int) = size ∧ cutOf (joinAll xs) = xs then (joinAll xs, 0) else (ByteArray.empty, 3)) else (ByteArray.empty, 4)
theorem refjoin_l1 (xs : List ByteArray) (s : ByteArray) (ys : List ByteArray) (hl : ys.length = xs.length) (hm : xs.length ≤ 2) (d : Nat) :
    ∀ (k i : Nat), i + d = ys.length → d < k → sapwoodref05_Join.l1 k xs s ys (ys.length : Int) (i : Int) = some (if ys.drop i = xs.drop i then (s, 0) else (ByteArray.empty, 3)) := by
  induction d with
  | zero =>
    intro k i hi hk
    obtain ⟨k, rfl⟩ : ∃ m, k = m + 1 := ⟨k - 1, by omega⟩
    rw [sapwoodref05_Join.l1, if_neg (by omega), List.drop_of_length_le (by omega), List.drop_of_length_le (by omega)]
    simp
  | succ d ih =>
    intro k i hi hk
    obtain ⟨k, rfl⟩ : ∃ m, k = m + 1 := ⟨k - 1, by omega⟩
    rw [sapwoodref05_Join.l1, if_pos (by omega), if_pos (by omega), if_pos (by omega), if_pos (by omega)]
    rw [rdOf_at, rdOf_at, wrap_next (n := xs.length) (by omega) (by omega), ih k (i + 1) (by omega) (by omega)]
    rw [drop_step ys i ByteArray.empty (by omega), drop_step xs i ByteArray.empty (by omega)]
    by_cases he : ys.getD i ByteArray.empty = xs.getD i ByteArray.empty
    · rw [if_pos (toList_inj.2 he), he]
      simp only [List.cons.injEq, true_and]
    · rw [if_neg (fun h => he (toList_inj.1 h)), if_neg (fun h => he (List.cons.inj h).1)]
      rfl
theorem refjoin_l0 (xs : List ByteArray) (size : Int) (hm : xs.length ≤ 2) (hb : (joinAll xs).size ≤ 9223372036854775807) (d : Nat) :
    ∀ (k i : Nat), i + d = xs.length → d + 6 < k → sapwoodref05_Join.l0 k xs size (joinAll (xs.take i)) (xs.length : Int) (i : Int) =
      some (if ((joinAll xs).size : Int) = size ∧ cutOf (joinAll xs) = xs then (joinAll xs, 0) else (ByteArray.empty, 3)) := by
  induction d with
  | zero =>
    intro k i hi hk
    obtain ⟨k, rfl⟩ : ∃ m, k = m + 6 := ⟨k - 6, by omega⟩
    rw [sapwoodref05_Join.l0, if_neg (by omega), List.take_of_length_le (by omega), refcut_tells (k + 4)]
    simp only [Option.bind_some]
    by_cases hs : ((joinAll xs).size : Int) = size
    · rw [if_pos hs, sapwoodref05_Join.j2]
      by_cases hl : (cutOf (joinAll xs)).length = xs.length
      · rw [if_neg (by simp [hl])]
        have := refjoin_l1 xs (joinAll xs) _ hl hm (cutOf (joinAll xs)).length (k + 4) 0 (by omega) (by omega)
        rw [show ((0 : Nat) : Int) = 0 from rfl] at this
        rw [this]
        simp only [List.drop_zero, hs, true_and]
      · rw [if_pos (by rw [bne_iff_ne]; omega), if_neg (fun h => hl (by rw [h.2]))]
        rfl
    · rw [if_neg hs, sapwoodref05_Join.j2, if_pos rfl, if_neg (fun h => hs h.1)]
      rfl
  | succ d ih =>
    intro k i hi hk
    obtain ⟨k, rfl⟩ : ∃ m, k = m + 1 := ⟨k - 1, by omega⟩
    rw [sapwoodref05_Join.l0, if_pos (by omega), if_pos (by omega), if_pos (by omega)]
    have hle : (joinAll (xs.take i)).size + (xs.getD i ByteArray.empty).size ≤ (joinAll xs).size := by
      rw [join_size, join_size]
      have : (xs.map ByteArray.size).sum = ((xs.take i).map ByteArray.size).sum + ((xs.drop i).map ByteArray.size).sum := by
        rw [← List.sum_append_nat, ← List.map_append, List.take_append_drop]
      rw [this, drop_step xs i ByteArray.empty (by omega)]
      simp only [List.map_cons, List.sum_cons]
      omega
    rw [rdOf_at, if_pos (by omega), join_take xs i (by omega), wrap_next (n := xs.length) (by omega) (by omega)]
    exact ih k (i + 1) (by omega) (by omega)
theorem refjoin_tells (k : Nat) (xs : List ByteArray) (size : Int) (hb : (joinAll xs).size ≤ 9223372036854775807) (hk : 10 < k) : sapwoodref05_Join.f k xs size = some (joinOf xs size) := by
  unfold sapwoodref05_Join.f joinOf
  obtain ⟨k, rfl⟩ : ∃ m, k = m + 10 := ⟨k - 10, by omega⟩
  have hno : ∀ (b : Bool), b = true → sapwoodref05_Join.j0 (k + 10) xs size b = some (ByteArray.empty, 4) := by
    intro b hb
    rw [sapwoodref05_Join.j0, if_pos hb]; rfl
  by_cases h1 : size < 25
  · rw [if_pos h1, hno _ rfl, if_neg (by omega)]
  · rw [if_neg h1]
    by_cases h2 : size > 400
    · rw [if_pos h2, hno _ rfl, if_neg (by omega)]
    · rw [if_neg h2]
      by_cases h3 : (xs.length : Int) > 2
      · rw [hno _ (decide_eq_true h3), if_neg (by omega)]
      · rw [decide_eq_false h3, sapwoodref05_Join.j0, if_neg (by simp), if_pos (by omega)]
        have := refjoin_l0 xs size (by omega) hb xs.length (k + 9) 0 (by omega) (by omega)
        exact this
theorem cut_none {s : ByteArray} (h : (cutOf s).length = 0) : s.size ≤ 24 ∨ 400 < s.size := by
  unfold cutOf at h
  split at h
  · split at h <;> simp at h
  · omega
theorem cut_some {s : ByteArray} (h : (cutOf s).length ≠ 0) : 24 < s.size ∧ s.size ≤ 400 ∧ ((cutOf s = [s] ∧ s.size ≤ 240) ∨ (cutOf s = [s.extract 0 240, s.extract 240 s.size] ∧ 240 < s.size)) := by
  unfold cutOf at h ⊢
  split at h
  · rename_i hs
    rw [if_pos hs]
    refine ⟨hs.1, hs.2, ?_⟩
    by_cases h2 : s.size ≤ 240
    · left; rw [if_pos h2]; exact ⟨rfl, h2⟩
    · right; rw [if_neg h2]; exact ⟨rfl, by omega⟩
  · simp at h
theorem join_one (s : ByteArray) : joinAll [s] = s := by
  apply ba_ext; rw [joinAll_data]; simp
theorem join_two (s t : ByteArray) : joinAll [s, t] = s ++ t := by
  apply ba_ext; rw [joinAll_data, ByteArray.data_append, Array.toList_append]; simp
theorem cut_join {s : ByteArray} (h : (cutOf s).length ≠ 0) : joinAll (cutOf s) = s := by
  obtain ⟨_, _, h | h⟩ := cut_some h
  · rw [h.1, join_one]
  · rw [h.1, join_two]
    apply ba_ext
    rw [ByteArray.data_append, Array.toList_append, Lib.extract_data, Lib.extract_data]
    simp only [List.drop_zero, Nat.sub_zero]
    rw [size_nil s, ← List.length_drop, List.take_length]
    exact List.take_append_drop _ _
theorem cut_two (s : ByteArray) : (cutOf s).length ≤ 2 := by
  unfold cutOf; split
  · split <;> simp
  · simp
theorem back_same {s : ByteArray} (h : (cutOf s).length ≠ 0) : joinOf (cutOf s) (s.size : Int) = (s, 0) := by
  have hc := cut_some h
  unfold joinOf
  rw [if_pos ⟨by omega, by omega, cut_two s⟩, cut_join h, if_pos ⟨rfl, rfl⟩]
theorem back_fewer {s : ByteArray} (h : (cutOf s).length ≠ 0) : joinOf ((cutOf s).take ((cutOf s).length - 1)) (s.size : Int) = (ByteArray.empty, 3) := by
  have hc := cut_some h
  have h2 := cut_two s
  unfold joinOf
  rw [if_pos ⟨by omega, by omega, by rw [List.length_take]; omega⟩, if_neg]
  rintro ⟨h3, _⟩
  have h3 : (joinAll ((cutOf s).take ((cutOf s).length - 1))).size = s.size := by omega
  obtain ⟨_, _, h | h⟩ := hc
  · rw [h.1, join_size] at h3
    simp at h3; omega
  · rw [h.1, join_size] at h3
    simp at h3; omega
theorem back_other {s : ByteArray} (h : (cutOf s).length ≠ 0) (size : Int) : ((joinOf (cutOf s) size).2 == 0) = (size == (s.size : Int)) := by
  by_cases he : size = s.size
  · subst he; rw [back_same h]; simp
  · have h1 : (size == (s.size : Int)) = false := by simp [he]
    rw [h1]
    unfold joinOf
    split
    · rw [cut_join h, if_neg (fun z => he z.1.symm)]; rfl
    · rfl
theorem joinOf_cases (xs : List ByteArray) (size : Int) : (joinOf xs size = (joinAll xs, 0) ∧ ((joinAll xs).size : Int) = size ∧ cutOf (joinAll xs) = xs) ∨ joinOf xs size = (ByteArray.empty, 3) ∨ joinOf xs size = (ByteArray.empty, 4) := by
  unfold joinOf
  split
  · split
    · rename_i h; exact .inl ⟨rfl, h⟩
    · exact .inr (.inl rfl)
  · exact .inr (.inr rfl)
theorem piece_facts (s : ByteArray) (k : Nat) (h : k < (cutOf s).length) : ∃ x, (cutOf s)[k]? = some x ∧ 1 ≤ x.size ∧ x.size ≤ 240 ∧ (k + 1 < (cutOf s).length → x.size = 240) := by
  obtain ⟨h1, h2, hc | hc⟩ := cut_some (s := s) (by omega)
  · rw [hc.1] at h ⊢
    have : k = 0 := by simpa using h
    subst this
    exact ⟨s, rfl, by omega, by omega, fun h => by simp at h⟩
  · rw [hc.1] at h ⊢
    have : k = 0 ∨ k = 1 := by simp at h; omega
    rcases this with rfl | rfl
    · exact ⟨_, rfl, by rw [ext_size]; omega, by rw [ext_size]; omega, fun _ => by rw [ext_size]; omega⟩
    · exact ⟨_, rfl, by rw [ext_size]; omega, by rw [ext_size]; omega, fun h => by simp at h⟩
theorem cut_sizes (s : ByteArray) : (cutOf s).map ByteArray.size = if 24 < s.size ∧ s.size ≤ 400 then (if s.size ≤ 240 then [s.size] else [240, s.size - 240]) else [] := by
  unfold cutOf
  split
  · split
    · rfl
    · simp only [List.map_cons, List.map_nil, ext_size]
      rw [Nat.min_eq_left (by omega), Nat.min_self, Nat.sub_zero]
  · rfl
/-- How many bytes the first j pieces have. -/
def sumTo (l : List ByteArray) (j : Nat) : Nat := ((l.take j).map ByteArray.size).sum
theorem sum_all {s : ByteArray} (h : (cutOf s).length ≠ 0) : sumTo (cutOf s) (cutOf s).length = s.size := by
  unfold sumTo
  rw [List.take_length, ← join_size, cut_join h]
theorem sumTo_next (l : List ByteArray) (j : Nat) (x : ByteArray) (h : l[j]? = some x) : sumTo l (j + 1) = sumTo l j + x.size := by
  unfold sumTo
  rw [List.take_add_one, h]; simp
theorem sumTo_le (s : ByteArray) (j : Nat) : sumTo (cutOf s) j ≤ 400 := by
  have h : sumTo (cutOf s) j ≤ ((cutOf s).map ByteArray.size).sum := by
    unfold sumTo
    have : ((cutOf s).map ByteArray.size).sum = (((cutOf s).take j).map ByteArray.size).sum + (((cutOf s).drop j).map ByteArray.size).sum := by
      rw [← List.sum_append_nat, ← List.map_append, List.take_append_drop]
    omega
  by_cases h0 : (cutOf s).length = 0
  · rw [List.length_eq_zero_iff.1 h0] at h ⊢; unfold sumTo; simp
  · have := cut_some h0
    rw [← join_size, cut_join h0] at h
    omega
theorem cut_alike {s t : ByteArray} (h : s.size = t.size) : (cutOf s).length = (cutOf t).length ∧ ∀ j, j < (cutOf s).length → ∃ x y, (cutOf s)[j]? = some x ∧ (cutOf t)[j]? = some y ∧ x.size = y.size := by
  have hm : (cutOf s).map ByteArray.size = (cutOf t).map ByteArray.size := by rw [cut_sizes, cut_sizes, h]
  have hl : (cutOf s).length = (cutOf t).length := by simpa using congrArg List.length hm
  refine ⟨hl, fun j hj => ⟨(cutOf s)[j], (cutOf t)[j], List.getElem?_eq_getElem hj, List.getElem?_eq_getElem (by omega), ?_⟩⟩
  have := congrArg (fun l => l[j]?) hm
  simpa [List.getElem?_map, List.getElem?_eq_getElem hj, List.getElem?_eq_getElem (show j < (cutOf t).length by omega)] using this
theorem cut_length_pos {s : ByteArray} (h : (cutOf s).length ≠ 0) : 0 < (cutOf s).length := by omega
end Go.Proofs.Ytpdhfnpnilpipaa.Ch
