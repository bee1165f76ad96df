/- A device as two lists: its pages, and the writes that wait; what reading, syncing and a crash do to them. No program in sight. -/
import Derived.WalkKit
import Derived.Lib.Strings
namespace Go.Proofs.YtpgpphmpnebafaaGreat.Dv
open Go.RowKit

theorem ba_ext {s t : ByteArray} (h : s.data.toList = t.data.toList) : s = t := ByteArray.ext (Array.toList_inj.1 h)
theorem size_data (s : ByteArray) : s.size = s.data.toList.length := by rw [Array.length_toList]; rfl
theorem ext_size (s : ByteArray) (a b : Nat) : (s.extract a b).size = min b s.size - a := by simp
theorem ext_all {s : ByteArray} {n : Nat} (h : s.size ≤ n) : s.extract 0 n = s := by
  apply ba_ext
  rw [Lib.extract_data, List.drop_zero, List.take_of_length_le (by rw [← size_data]; omega)]
/-- A page of bytes 0. -/
def zeroPage : ByteArray := ⟨(List.replicate 256 (0 : UInt8)).toArray⟩
theorem zeroPage_size : zeroPage.size = 256 := by rw [size_data]; unfold zeroPage; rw [List.toList_toArray, List.length_replicate]
/-- All that waits is laid. -/
def dSync : List ByteArray → List (Nat × ByteArray) → List ByteArray
  | P, [] => P
  | P, q :: Q => dSync (P.set q.1 q.2) Q
theorem dSync_length (Q : List (Nat × ByteArray)) : ∀ P : List ByteArray, (dSync P Q).length = P.length := by
  induction Q with
  | nil => intro P; rfl
  | cons q Q ih => intro P; rw [dSync, ih, List.length_set]
theorem dSync_snoc (q : Nat × ByteArray) (Q : List (Nat × ByteArray)) : ∀ P : List ByteArray, dSync P (Q ++ [q]) = (dSync P Q).set q.1 q.2 := by
  induction Q with
  | nil => intro P; rfl
  | cons r Q ih => intro P; rw [List.cons_append, dSync, ih]; rfl
theorem dSync_append (Q R : List (Nat × ByteArray)) : ∀ P : List ByteArray, dSync P (Q ++ R) = dSync (dSync P Q) R := by
  induction Q with
  | nil => intro P; rfl
  | cons q Q ih => intro P; rw [List.cons_append, dSync, ih]; rfl
/-- The page as it is read. -/
def dRead (P : List ByteArray) (Q : List (Nat × ByteArray)) (i : Nat) : ByteArray := (dSync P Q).getD i ByteArray.empty
theorem dRead_nil (P : List ByteArray) (i : Nat) : dRead P [] i = P.getD i ByteArray.empty := rfl
theorem dRead_hit (P : List ByteArray) (Q : List (Nat × ByteArray)) (q : Nat × ByteArray) (h : q.1 < P.length) : dRead P (Q ++ [q]) q.1 = q.2 := by
  unfold dRead
  rw [dSync_snoc, List.getD_eq_getElem?_getD, List.getElem?_set_self (by rw [dSync_length]; exact h)]; rfl
theorem dRead_miss (P : List ByteArray) (Q : List (Nat × ByteArray)) (q : Nat × ByteArray) (i : Nat) (h : q.1 ≠ i) : dRead P (Q ++ [q]) i = dRead P Q i := by
  unfold dRead
  rw [dSync_snoc, List.getD_eq_getElem?_getD, List.getElem?_set_ne h, ← List.getD_eq_getElem?_getD]
/-- All pages, one behind the other. -/
def joinP (l : List ByteArray) : ByteArray := ⟨(l.map (·.data.toList)).flatten.toArray⟩
theorem joinP_data (l : List ByteArray) : (joinP l).data.toList = (l.map (·.data.toList)).flatten := by simp [joinP]
theorem joinP_nil : joinP [] = ByteArray.empty := rfl
theorem joinP_snoc (l : List ByteArray) (s : ByteArray) : joinP (l ++ [s]) = joinP l ++ s := by
  apply ba_ext
  rw [joinP_data, ByteArray.data_append, Array.toList_append, joinP_data]; simp
theorem joinP_cons (l : List ByteArray) (s : ByteArray) : joinP (s :: l) = s ++ joinP l := by
  apply ba_ext
  rw [joinP_data, ByteArray.data_append, Array.toList_append, joinP_data]; simp
theorem joinP_size {l : List ByteArray} {n : Nat} (h : ∀ s ∈ l, s.size = n) : (joinP l).size = l.length * n := by
  induction l with
  | nil => simp [joinP_nil]
  | cons a l ih =>
    rw [joinP_cons, ByteArray.size_append, ih (fun s hs => h s (by simp [hs])), h a (by simp), List.length_cons, Nat.add_mul]; omega
theorem join_take_succ (l : List ByteArray) (k : Nat) (h : k < l.length) : joinP (l.take (k + 1)) = joinP (l.take k) ++ l.getD k ByteArray.empty := by
  rw [List.take_succ_eq_append_getElem h, joinP_snoc, List.getD_eq_getElem?_getD, List.getElem?_eq_getElem h]; rfl
theorem dSync_sizes (Q : List (Nat × ByteArray)) : ∀ P : List ByteArray, (∀ s ∈ P, s.size = 256) → (∀ q ∈ Q, q.2.size = 256) → ∀ s ∈ dSync P Q, s.size = 256 := by
  induction Q with
  | nil => intro P hP _ s hs; exact hP s hs
  | cons q Q ih =>
    intro P hP hQ s hs
    refine ih (P.set q.1 q.2) (fun s hs => ?_) (fun q hq => hQ q (by simp [hq])) s hs
    rcases List.mem_or_eq_of_mem_set hs with h | h
    · exact hP s h
    · rw [h]; exact hQ q (by simp)
/-- How many pages an image has. -/
def imgLen (s : ByteArray) : Nat := (s.size + 255) / 256
/-- Page i of an image. -/
def imgPage (s : ByteArray) (i : Nat) : ByteArray := s.extract (i * 256) (i * 256 + 256) ++ zeroPage.extract (s.extract (i * 256) (i * 256 + 256)).size 256
theorem imgPage_size (s : ByteArray) (i : Nat) : (imgPage s i).size = 256 := by
  unfold imgPage
  rw [ByteArray.size_append, ext_size, ext_size, zeroPage_size]; omega
/-- An image's first k pages laid, the others still of bytes 0. -/
def imgTo (s : ByteArray) (k : Nat) : List ByteArray := (List.range k).map (imgPage s) ++ List.replicate (imgLen s - k) zeroPage
theorem imgTo_length (s : ByteArray) (k : Nat) (h : k ≤ imgLen s) : (imgTo s k).length = imgLen s := by
  unfold imgTo; rw [List.length_append, List.length_map, List.length_range, List.length_replicate]; omega
theorem imgTo_next (s : ByteArray) (k : Nat) (h : k < imgLen s) : (imgTo s k)[k]? = some zeroPage ∧ (imgTo s k).set k (imgPage s k) = imgTo s (k + 1) := by
  have hl : ((List.range k).map (imgPage s)).length = k := by rw [List.length_map, List.length_range]
  obtain ⟨m, hm⟩ : ∃ m, imgLen s - k = m + 1 := ⟨imgLen s - k - 1, by omega⟩
  have hm2 : imgLen s - (k + 1) = m := by omega
  unfold imgTo
  rw [hm, hm2, List.replicate_succ]
  constructor
  · rw [List.getElem?_append_right (by omega), hl, Nat.sub_self]; rfl
  · rw [List.set_append_right _ _ (by omega), hl, Nat.sub_self, List.set_cons_zero, List.range_succ, List.map_append, List.append_assoc]; rfl
def imgPages (s : ByteArray) : List ByteArray := (List.range (imgLen s)).map (imgPage s)
theorem imgTo_all (s : ByteArray) : imgTo s (imgLen s) = imgPages s := by unfold imgTo imgPages; rw [Nat.sub_self]; simp
/-- Is write number k kept? -/
def kept (keep : Nat) (k : Nat) : Bool := keep / 2 ^ (k % 64) % 2 == 1
/-- How much of write number k is there. -/
def upto (torn part : Int) (k : Nat) : Nat := if (k : Int) = torn then (max 0 (min part 256)).toNat else 256
theorem upto_le (torn part : Int) (k : Nat) : upto torn part k ≤ 256 := by unfold upto; split <;> omega
/-- A beginning of one page over another one. -/
def patch (b : ByteArray) (n : Nat) (old : ByteArray) : ByteArray := b.extract 0 n ++ old.extract n old.size
theorem patch_size {b old : ByteArray} {n : Nat} (hb : b.size = 256) (ho : old.size = 256) (hn : n ≤ 256) : (patch b n old).size = 256 := by
  unfold patch
  rw [ByteArray.size_append, ext_size, ext_size]; omega
def dLay (keep : Nat) (torn part : Int) (k : Nat) (P : List ByteArray) (q : Nat × ByteArray) : List ByteArray :=
  if kept keep k then P.set q.1 (patch q.2 (upto torn part k) (P.getD q.1 ByteArray.empty)) else P
theorem dLay_length (keep : Nat) (torn part : Int) (k : Nat) (P : List ByteArray) (q : Nat × ByteArray) : (dLay keep torn part k P q).length = P.length := by
  unfold dLay; split <;> simp
/-- What a crash leaves of the pages; k: the first write's number. -/
def dCrash (keep : Nat) (torn part : Int) : Nat → List ByteArray → List (Nat × ByteArray) → List ByteArray
  | _, P, [] => P
  | k, P, q :: Q => dCrash keep torn part (k + 1) (dLay keep torn part k P q) Q
theorem dCrash_snoc (keep : Nat) (torn part : Int) (q : Nat × ByteArray) (Q : List (Nat × ByteArray)) : ∀ (k : Nat) (P : List ByteArray), dCrash keep torn part k P (Q ++ [q]) = dLay keep torn part (k + Q.length) (dCrash keep torn part k P Q) q := by
  induction Q with
  | nil => intro k P; rfl
  | cons r Q ih =>
    intro k P
    rw [List.cons_append, dCrash, ih, List.length_cons]
    rw [show k + 1 + Q.length = k + (Q.length + 1) from by omega]; rfl
theorem dCrash_length (keep : Nat) (torn part : Int) (Q : List (Nat × ByteArray)) : ∀ (k : Nat) (P : List ByteArray), (dCrash keep torn part k P Q).length = P.length := by
  induction Q with
  | nil => intro k P; rfl
  | cons q Q ih => intro k P; rw [dCrash, ih, dLay_length]
theorem take_snoc {α : Type} (l : List α) (k : Nat) (x : α) (h : l[k]? = some x) : l.take (k + 1) = l.take k ++ [x] := by
  have hk := (List.getElem?_eq_some_iff.1 h).1
  rw [List.take_succ_eq_append_getElem hk]
  have : l[k] = x := by rw [List.getElem?_eq_getElem hk] at h; exact Option.some.inj h
  rw [this]
end Go.Proofs.YtpgpphmpnebafaaGreat.Dv
