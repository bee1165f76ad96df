/- Words by their numbers, and numbers in decimal digits: the program's and the document's, by walks. -/
import Derived.Test.YtpjgmcoimniheaaDoorScA
import Derived.Test.YtpjgmcoimniheaaDoorSlShelf
import Derived.Lib.ItoaLen
import Derived.Deep.RegionHeld3
namespace Go.Proofs.YtpjgmcoimniheaaDoor.Sl
open Go.RowKit Go.Proofs.YtpjgmcoimniheaaDoor.By Go.Proofs.YtpjgmcoimniheaaDoor.Mt
set_option linter.unusedSimpArgs false
set_option linter.unusedVariables false

def StrsAt (w : World) (g : Nat) (L : List ByteArray) : Prop := ∀ (k : Nat) (s : ByteArray), L[k]? = some s → w.cell? ⟨g, k, none⟩ = some (.string s)
theorem strs_new (w : World) (L : List ByteArray) : StrsAt (w.alloc (.cells (L.map Value.string).toArray 9 (0, 0))) w.heap.size L := by
  intro k s hk
  rw [cell_at (new_block w _), ← Array.getElem?_toList, List.getElem?_map, hk]; rfl
/-- A word by its number. -/
def wd (n : Int) (L : List ByteArray) : ByteArray := if n < 0 ∨ (L.length : Int) ≤ n then ⟨#[63]⟩ else L.getD n.toNat ⟨#[]⟩
def errL : List ByteArray := [⟨#[111, 107]⟩, ⟨#[97, 114, 103]⟩, ⟨#[115, 104, 111, 114, 116]⟩, ⟨#[102, 111, 114, 109]⟩, ⟨#[108, 111, 110, 103]⟩, ⟨#[115, 117, 109]⟩, ⟨#[111, 118, 101, 114]⟩, ⟨#[110, 111, 110, 101]⟩, ⟨#[102, 117, 108, 108]⟩, ⟨#[108, 111, 115, 116]⟩, ⟨#[115, 116, 97, 116, 101]⟩, ⟨#[99, 111, 114, 114, 117, 112, 116]⟩, ⟨#[104, 97, 110, 100, 108, 101]⟩]
def kindL : List ByteArray := [⟨#[63]⟩, ⟨#[99, 97, 108, 108]⟩, ⟨#[112, 105, 99, 107]⟩, ⟨#[112, 111, 119, 101, 114]⟩, ⟨#[114, 101, 97, 100]⟩, ⟨#[101, 110, 100]⟩]
theorem wd_len (n : Int) (L : List ByteArray) (m : Nat) (hm : 1 ≤ m) (h : ∀ s ∈ L, s.size ≤ m) : (wd n L).size ≤ m := by
  unfold wd
  split
  · exact hm
  · rw [List.getD_eq_getElem?_getD]
    cases he : L[n.toNat]? with
    | none => exact Nat.zero_le _
    | some s => exact h s (List.mem_of_getElem? he)
set_option maxRecDepth 100000 in
set_option maxHeartbeats 4000000 in
theorem word_any (n : Int) (g : Nat) (L : List ByteArray) (w : World) (h : StrsAt w g L) : Calls Tryd.prog 8 #[.int .i64 n, .slice (some ⟨g, 0, none⟩) L.length L.length] w fun x w' => x = .returned (.string (wd n L)) ∧ w = w' := by
  by_cases h0 : n < 0
  · have t1 : decide (n < 0) = true := decide_eq_true h0
    have e : wd n L = ⟨#[63]⟩ := if_pos (.inl h0)
    rw [e]
    clear e h0
    go_enter Tryd.func8, Tryd.ntmps8
    go_wp2_with fail
    go_ret
    exact ⟨rfl, rfl⟩
  · have t1 : decide (n < 0) = false := decide_eq_false h0
    by_cases h1 : (L.length : Int) ≤ n
    · have t2 : decide ((L.length : Int) ≤ n) = true := decide_eq_true h1
      have e : wd n L = ⟨#[63]⟩ := if_pos (.inr h1)
      rw [e]
      clear e
      go_enter Tryd.func8, Tryd.ntmps8
      go_wp2_with fail
      go_ret
      exact ⟨rfl, rfl⟩
    · obtain ⟨k, rfl⟩ : ∃ k : Nat, n = (k : Int) := ⟨n.toNat, by omega⟩
      have hk : k < L.length := by omega
      have t2 : decide ((L.length : Int) ≤ (k : Int)) = false := decide_eq_false h1
      have t3 : decide (L.length ≤ k) = false := decide_eq_false (by omega)
      have e : wd (k : Int) L = L[k] := by
        unfold wd
        rw [if_neg (by omega), List.getD_eq_getElem?_getD, Int.toNat_natCast, List.getElem?_eq_getElem hk]; rfl
      rw [e]
      have hc := h k _ (List.getElem?_eq_getElem hk)
      obtain ⟨s, hs⟩ : ∃ s, s = L[k] := ⟨_, rfl⟩
      rw [← hs] at hc ⊢
      have i1 : (0 : Int) ≤ (k : Int) := by omega
      have i2 : (k : Int) < (L.length : Int) := by omega
      clear e hs h h0 h1
      go_enter Tryd.func8, Tryd.ntmps8
      go_wp2_with fail
      go_ret
      exact ⟨rfl, rfl⟩
set_option maxRecDepth 100000 in
set_option maxHeartbeats 4000000 in
theorem rword_any (n : Int) (g : Nat) (L : List ByteArray) (w : World) (h : StrsAt w g L) : Calls Tryd.prog 11 #[.slice (some ⟨g, 0, none⟩) L.length L.length, .int .i64 n] w fun x w' => x = .returned (.string (wd n L)) ∧ w = w' := by
  by_cases h0 : n < 0
  · have t1 : decide (n < 0) = true := decide_eq_true h0
    have e : wd n L = ⟨#[63]⟩ := if_pos (.inl h0)
    rw [e]
    clear e h0
    go_enter Tryd.func11, Tryd.ntmps11
    go_wp2_with fail
    go_ret
    exact ⟨rfl, rfl⟩
  · have t1 : decide (n < 0) = false := decide_eq_false h0
    by_cases h1 : (L.length : Int) ≤ n
    · have t2 : decide ((L.length : Int) ≤ n) = true := decide_eq_true h1
      have e : wd n L = ⟨#[63]⟩ := if_pos (.inr h1)
      rw [e]
      clear e
      go_enter Tryd.func11, Tryd.ntmps11
      go_wp2_with fail
      go_ret
      exact ⟨rfl, rfl⟩
    · obtain ⟨k, rfl⟩ : ∃ k : Nat, n = (k : Int) := ⟨n.toNat, by omega⟩
      have hk : k < L.length := by omega
      have t2 : decide ((L.length : Int) ≤ (k : Int)) = false := decide_eq_false h1
      have t3 : decide (L.length ≤ k) = false := decide_eq_false (by omega)
      have e : wd (k : Int) L = L[k] := by
        unfold wd
        rw [if_neg (by omega), List.getD_eq_getElem?_getD, Int.toNat_natCast, List.getElem?_eq_getElem hk]; rfl
      rw [e]
      have hc := h k _ (List.getElem?_eq_getElem hk)
      obtain ⟨s, hs⟩ : ∃ s, s = L[k] := ⟨_, rfl⟩
      rw [← hs] at hc ⊢
      have i1 : (0 : Int) ≤ (k : Int) := by omega
      have i2 : (k : Int) < (L.length : Int) := by omega
      clear e hs h h0 h1
      go_enter Tryd.func11, Tryd.ntmps11
      go_wp2_with fail
      go_ret
      exact ⟨rfl, rfl⟩
set_option maxRecDepth 100000 in
set_option maxHeartbeats 4000000 in
theorem wrong_any (n : Int) (w : World) : Calls Tryd.prog 10 #[.int .i64 n] w fun x w' => x = .returned (.string (wd n errL)) ∧ Below w.heap.size w w' := by
  have H := Lib.hid (word_any n w.heap.size errL _ (strs_new w errL))
  go_enter Tryd.func10, Tryd.ntmps10
  go_wp2_with fail
  refine H.out.mono ?_
  rintro x w1 ⟨rfl, rfl⟩
  go_wp2_with fail
  go_ret
  exact ⟨rfl, below_al (Below.refl _ _) _⟩
set_option maxRecDepth 100000 in
set_option maxHeartbeats 4000000 in
theorem rwrong_any (n : Int) (w : World) : Calls Tryd.prog 13 #[.int .i64 n] w fun x w' => x = .returned (.string (wd n errL)) ∧ Below w.heap.size w w' := by
  have H := Lib.hid (rword_any n w.heap.size errL _ (strs_new w errL))
  go_enter Tryd.func13, Tryd.ntmps13
  go_wp2_with fail
  refine H.out.mono ?_
  rintro x w1 ⟨rfl, rfl⟩
  go_wp2_with fail
  go_ret
  exact ⟨rfl, below_al (Below.refl _ _) _⟩
/-- A number in decimal digits. -/
def dig (n : Int) : ByteArray := ⟨(Lib.itoa n).toArray⟩
theorem conv_one (W : World) (b : Nat) (hb : b < 256) : (convert 41 9 (.slice (some ⟨W.heap.size, 0, none⟩) 1 1)).run Tryd.prog (W.alloc (.cells #[.int .u8 (b : Int)] 5)) = .ok (.string (ofNats [b])) (W.alloc (.cells #[.int .u8 (b : Int)] 5)) :=
  conv_bytes (W := W.alloc (.cells #[.int .u8 (b : Int)] 5)) (A := some ⟨W.heap.size, 0, none⟩) (s := ofNats [b]) (RdB.of_block (new_block W _) (by rw [cells_ofNats _ (by simpa using hb)]; rfl)) (fun ad h => by cases h; rfl) 1
theorem conv_one_dr (W : World) (b : Nat) (hb : b < 256) : (convert 41 9 (.slice (some ⟨W.heap.size, 0, none⟩) 1 1)).run Tryd.prog (W.alloc (.cells #[.int .u8 (b : Int)] 5)).drew = .ok (.string (ofNats [b])) (W.alloc (.cells #[.int .u8 (b : Int)] 5)).drew :=
  conv_bytes (W := (W.alloc (.cells #[.int .u8 (b : Int)] 5)).drew) (A := some ⟨W.heap.size, 0, none⟩) (s := ofNats [b]) (RdB.of_block (show (W.alloc (.cells #[.int .u8 (b : Int)] 5)).drew.heap[W.heap.size]? = _ from new_block W _) (by rw [cells_ofNats _ (by simpa using hb)]; rfl)) (fun ad h => by cases h; rfl) 1
theorem conv_one_of (W : World) (g b : Nat) (hb : b < 256) (h : W.heap[g]? = some (.cells #[.int .u8 (b : Int)] 5 (0, 0))) : (convert 41 9 (.slice (some ⟨g, 0, none⟩) 1 1)).run Tryd.prog W = .ok (.string (ofNats [b])) W :=
  conv_bytes (W := W) (A := some ⟨g, 0, none⟩) (s := ofNats [b]) (RdB.of_block h (by rw [cells_ofNats _ (by simpa using hb)]; rfl)) (fun ad h => by cases h; rfl) 1
theorem dig_small (u : Nat) (h : u < 10) : dig (u : Int) = ofNats [48 + u] := by
  unfold dig
  rw [Lib.itoa_nonneg, Lib.decDigits_one h]; rfl
theorem dec_snoc (u : Nat) (h : ¬ u < 10) : Lib.decDigits u = Lib.decDigits (u / 10) ++ [UInt8.ofNat (48 + u % 10)] := by
  rw [Lib.decDigits, dif_neg h]
theorem dig_big (u : Nat) (h : ¬ u < 10) : dig (u : Int) = dig ((u / 10 : Nat) : Int) ++ ofNats [48 + u % 10] := by
  apply ba_ext
  unfold dig
  rw [ByteArray.data_append, Array.toList_append, ofNats_data, List.toList_toArray, List.toList_toArray, Lib.itoa_nonneg, Lib.itoa_nonneg, dec_snoc u h]; rfl
theorem dig_neg (u : Nat) (h : 1 ≤ u) : dig (-(u : Int)) = ⟨#[45]⟩ ++ dig (u : Int) := by
  apply ba_ext
  unfold dig
  rw [ByteArray.data_append, Array.toList_append, List.toList_toArray, List.toList_toArray, Lib.itoa_neg u h, Lib.itoa_nonneg]; rfl
theorem dig_neg_big (u : Nat) (h : ¬ u < 10) : dig (-(u : Int)) = dig (-((u / 10 : Nat) : Int)) ++ ofNats [48 + u % 10] := by
  rw [dig_neg u (by omega), dig_neg (u / 10) (by omega), dig_big u h, ByteArray.append_assoc]
theorem dig_len (n : Int) (h0 : -9223372036854775808 ≤ n) (h1 : n ≤ 9223372036854775807) : (dig n).size ≤ 21 := Lib.itoa_length_le n h0 h1
set_option maxRecDepth 100000 in
set_option maxHeartbeats 4000000 in
theorem digits_pos : ∀ (m u : Nat) (w : World), u ≤ m → u ≤ 9223372036854775807 → Calls Tryd.prog 12 #[.int .i64 (u : Int)] w fun x w' => x = .returned (.string (dig (u : Int))) ∧ Below w.heap.size w w' := by
  intro m
  induction m with
  | zero =>
    intro u w hm hu
    obtain rfl : u = 0 := by omega
    have HE := Lib.hid (dig_small 0 (by decide))
    have hco := fun X : World => conv_one X 48 (by decide)
    have hco' : ∀ X : World, (convert 41 9 (.slice (some ⟨X.heap.size, 0, none⟩) 1 1)).run Tryd.prog (X.alloc (.cells #[.int .u8 48] 5)) = .ok (.string (ofNats [48])) (X.alloc (.cells #[.int .u8 48] 5)) := hco
    clear hco
    go_enter Tryd.func12, Tryd.ntmps12
    go_wp2_with fail
    go_ret
    exact ⟨by rw [HE.out]; rfl, below_al (Below.refl _ _) _⟩
  | succ m ih =>
    intro u w hm hu
    have t0 : decide ((u : Int) < 0) = false := decide_eq_false (by omega)
    by_cases hs : u < 10
    · have t1 : decide ((u : Int) < 10) = true := decide_eq_true (by omega)
      have t2 : decide (u < 10) = true := decide_eq_true hs
      have HE := Lib.hid (dig_small u hs)
      have hw : IntKind.u8.wrap (48 + (u : Int)) = ((48 + u : Nat) : Int) := by rw [IntKind.wrap_u8]; omega
      have hco := fun X : World => conv_one X (48 + u) (by omega)
      have ecast : ((48 + u : Nat) : Int) = 48 + (u : Int) := by omega
      simp only [ecast] at hco hw
      clear ecast
      go_enter Tryd.func12, Tryd.ntmps12
      go_wp2_with fail
      go_ret
      exact ⟨by rw [HE.out]; rfl, below_al (Below.refl _ _) _⟩
    · have t1 : decide ((u : Int) < 10) = false := decide_eq_false (by omega)
      have t2 : decide (u < 10) = false := decide_eq_false hs
      have HE := Lib.hid (dig_big u hs)
      have hih := fun X => ih (u / 10) X (by omega) (by omega)
      have ediv : ((u / 10 : Nat) : Int) = (u : Int) / 10 := by omega
      obtain ⟨p, hp⟩ : ∃ p, p = dig ((u / 10 : Nat) : Int) := ⟨_, rfl⟩
      have hps : p.size ≤ 21 := by rw [hp]; exact dig_len _ (by omega) (by omega)
      rw [← hp] at HE
      simp only [← hp] at hih
      rw [ediv] at hih
      obtain ⟨b, hbe⟩ : ∃ b, b = 48 + u % 10 := ⟨_, rfl⟩
      have hb : b < 256 := by omega
      rw [← hbe] at HE
      have f1 : IntKind.i64.wrap ((u : Int).tdiv 10) = (u : Int) / 10 := by rw [Int.tdiv_eq_ediv_of_nonneg (by omega)]; exact IntWalk.i64_in _ (by omega)
      have f1b : IntKind.i64.wrap ((u : Int) / 10) = (u : Int) / 10 := IntWalk.i64_in _ (by omega)
      have f2 : (u : Int).tmod 10 = (u : Int) % 10 := Int.tmod_eq_emod_of_nonneg (by omega)
      have f3 : IntKind.i64.wrap (48 + (u : Int) % 10) = (b : Int) := by rw [IntWalk.i64_in _ (by omega)]; omega
      have f4 : IntKind.u8.wrap (b : Int) = (b : Int) := by rw [IntKind.wrap_u8]; omega
      obtain ⟨r, hr⟩ : ∃ r, r = ofNats [b] := ⟨_, rfl⟩
      have hrs : r.size = 1 := by rw [hr, ofNats_size]; rfl
      have hco1 := fun X : World => conv_one X b hb
      have hco2 := fun X : World => conv_one_dr X b hb
      have hco3 := fun (X : World) (g : Nat) => conv_one_of X g b hb
      rw [← hr] at HE
      simp only [← hr] at hco1 hco2 hco3
      have HCO3 := Lib.hid hco3
      have hov : ¬ 9223372036854775807 < p.size + r.size := by omega
      have HIH := Lib.hid hih
      clear hih hp hbe hr hrs hps hs ih hco3 ediv
      go_enter Tryd.func12, Tryd.ntmps12
      go_wp2_with fail
      refine wp_region_held_drew (S := (fun X => Below w.heap.size w X)) (by kernel_rfl) (((by repeat (first | exact Below.refl _ _ | assumption | apply below_dr | apply below_dn | apply below_al)) : Below w.heap.size w _)) (fun hHeld => ?_)
      try simp only [Act.put, List.setIfInBounds_toArray, List.set_cons_zero, List.set_cons_succ]
      refine wpAnyH_take (i := 0) (v := ?_) (by simp only [List.getElem?_toArray, List.getElem?_cons_succ, List.getElem?_cons_zero]; rfl) (by kernel_rfl) (by kernel_rfl) (by kernel_rfl) (by exact fun _ _ _ h => h) (Or.inl ⟨by rfl, ?_⟩) (by assumption) ?_
      rotate_left
      · intro w hSw; (try dsimp only at hSw); go_simp; try with_reducible rfl
      try simp only [Act.put, List.setIfInBounds_toArray, List.set_cons_zero, List.set_cons_succ]
      refine wpAnyH_take (i := 1) (v := ?_) (by simp only [List.getElem?_toArray, List.getElem?_cons_succ, List.getElem?_cons_zero]; rfl) (by kernel_rfl) (by kernel_rfl) (by kernel_rfl) (by exact fun _ _ _ h => h) (Or.inl ⟨by rfl, ?_⟩) (by assumption) ?_
      rotate_left
      · intro w hSw; (try dsimp only at hSw); go_simp; try with_reducible rfl
      try simp only [Act.put, List.setIfInBounds_toArray, List.set_cons_zero, List.set_cons_succ]
      refine wpAnyH_take (i := 3) (v := ?_) (by simp only [List.getElem?_toArray, List.getElem?_cons_succ, List.getElem?_cons_zero]; rfl) (by kernel_rfl) (by kernel_rfl) (by kernel_rfl) (by exact fun _ _ _ h => h) (Or.inl ⟨by rfl, ?_⟩) (by assumption) ?_
      rotate_left
      · intro w hSw; (try dsimp only at hSw); go_simp; try with_reducible rfl
      try simp only [Act.put, List.setIfInBounds_toArray, List.set_cons_zero, List.set_cons_succ]
      refine wpAnyH_take (i := 4) (v := ?_) (by simp only [List.getElem?_toArray, List.getElem?_cons_succ, List.getElem?_cons_zero]; rfl) (by kernel_rfl) (by kernel_rfl) (by kernel_rfl) (by exact fun _ _ _ h => h) (Or.inl ⟨by rfl, ?_⟩) (by assumption) ?_
      rotate_left
      · intro w hSw; (try dsimp only at hSw); go_simp; try with_reducible rfl
      try simp only [Act.put, List.setIfInBounds_toArray, List.set_cons_zero, List.set_cons_succ]
      refine wpAnyH_take (i := 5) (v := ?_) (by simp only [List.getElem?_toArray, List.getElem?_cons_succ, List.getElem?_cons_zero]; rfl) (by kernel_rfl) (by kernel_rfl) (by kernel_rfl) (by exact fun _ _ _ h => h) (Or.inl ⟨by rfl, ?_⟩) (by assumption) ?_
      rotate_left
      · intro w hSw; (try dsimp only at hSw); go_simp; try with_reducible rfl
      try simp only [Act.put, List.setIfInBounds_toArray, List.set_cons_zero, List.set_cons_succ]
      refine wpAnyH_take (i := 6) (v := ?_) (by simp only [List.getElem?_toArray, List.getElem?_cons_succ, List.getElem?_cons_zero]; rfl) (by kernel_rfl) (by kernel_rfl) (by kernel_rfl) (by exact fun _ _ _ h => h) (Or.inl ⟨by rfl, ?_⟩) (by assumption) ?_
      rotate_left
      · intro w hSw; (try dsimp only at hSw); go_simp; try with_reducible rfl
      try simp only [Act.put, List.setIfInBounds_toArray, List.set_cons_zero, List.set_cons_succ]
      refine wpAnyH_ready (rs := [2, 7]) (by kernel_rfl) (by simp) ?_
      refine AllReadyH.cons (by simp only [List.getElem?_toArray, List.getElem?_cons_succ, List.getElem?_cons_zero]; rfl) (fun K hK => ?_) (AllReadyH.cons (by simp only [List.getElem?_toArray, List.getElem?_cons_succ, List.getElem?_cons_zero]; rfl) (fun K hK => ?_) AllReadyH.nil)
      · go_simp
        refine (HIH.out _).mono ?_; rintro x w5 ⟨rfl, hb5⟩; have hz5 : Below w.heap.size w w5 := bl (by repeat (first | exact Below.refl _ _ | assumption | apply below_dr | apply below_dn | apply below_al)) hb5; have hz5s := hz5.size
        try go_simp
        refine hK.out _ _ (((by repeat (first | exact Below.refl _ _ | assumption | apply below_dr | apply below_dn | apply below_al)) : Below w.heap.size w _)) (fun hHeld => ?_)
        clear hK K
        try simp only [Act.put, List.setIfInBounds_toArray, List.set_cons_zero, List.set_cons_succ]
        refine wpAnyH_ready (rs := [7]) (by kernel_rfl) (by simp) ?_
        refine AllReadyH.cons (by simp only [List.getElem?_toArray, List.getElem?_cons_succ, List.getElem?_cons_zero]; rfl) (fun K hK => ?_) AllReadyH.nil
        go_simp
        refine hK.out _ _ (((by repeat (first | exact Below.refl _ _ | assumption | apply below_dr | apply below_dn | apply below_al)) : Below w.heap.size w _)) (fun hHeld => ?_)
        clear hK K
        try simp only [Act.put, List.setIfInBounds_toArray, List.set_cons_zero, List.set_cons_succ]
        refine wpAnyH_ready (rs := [8]) (by kernel_rfl) (by simp) ?_
        refine AllReadyH.cons (by simp only [List.getElem?_toArray, List.getElem?_cons_succ, List.getElem?_cons_zero]; rfl) (fun K hK => ?_) AllReadyH.nil
        go_simp
        refine hK.out _ _ (((by repeat (first | exact Below.refl _ _ | assumption | apply below_dr | apply below_dn | apply below_al)) : Below w.heap.size w _)) (fun hHeld => ?_)
        clear hK K
        try simp only [Act.put, List.setIfInBounds_toArray, List.set_cons_zero, List.set_cons_succ]
        refine wpAnyH_take (i := 9) (v := ?_) (by simp only [List.getElem?_toArray, List.getElem?_cons_succ, List.getElem?_cons_zero]; rfl) (by kernel_rfl) (by kernel_rfl) (by kernel_rfl) (by exact fun _ _ _ h => h) (Or.inl ⟨by rfl, ?_⟩) (by assumption) ?_
        rotate_left
        · intro w hSw; (try dsimp only at hSw); go_simp; try with_reducible rfl
        try simp only [Act.put, List.setIfInBounds_toArray, List.set_cons_zero, List.set_cons_succ]
        refine wpAnyH_ready (rs := [10]) (by kernel_rfl) (by simp) ?_
        refine AllReadyH.cons (by simp only [List.getElem?_toArray, List.getElem?_cons_succ, List.getElem?_cons_zero]; rfl) (fun K hK => ?_) AllReadyH.nil
        go_simp
        refine hK.out _ _ (((by repeat (first | exact Below.refl _ _ | assumption | apply below_dr | apply below_dn | apply below_al)) : Below w.heap.size w _)) (fun hHeld => ?_)
        clear hK K
        try simp only [Act.put, List.setIfInBounds_toArray, List.set_cons_zero, List.set_cons_succ]
        refine wpAnyH_done (by kernel_rfl) ?_ _
        go_wp2_with fail
        go_ret
        exact ⟨by rw [HE.out]; rfl, (by repeat (first | exact Below.refl _ _ | assumption | apply below_dr | apply below_dn | apply below_al))⟩
      · go_simp
        refine hK.out _ _ (((by repeat (first | exact Below.refl _ _ | assumption | apply below_dr | apply below_dn | apply below_al)) : Below w.heap.size w _)) (fun hHeld => ?_)
        clear hK K
        try simp only [Act.put, List.setIfInBounds_toArray, List.set_cons_zero, List.set_cons_succ]
        refine wpAnyH_ready (rs := [2, 8]) (by kernel_rfl) (by simp) ?_
        refine AllReadyH.cons (by simp only [List.getElem?_toArray, List.getElem?_cons_succ, List.getElem?_cons_zero]; rfl) (fun K hK => ?_) (AllReadyH.cons (by simp only [List.getElem?_toArray, List.getElem?_cons_succ, List.getElem?_cons_zero]; rfl) (fun K hK => ?_) AllReadyH.nil)
        · go_simp
          refine (HIH.out _).mono ?_; rintro x w5 ⟨rfl, hb5⟩; have hz5 : Below w.heap.size w w5 := bl (by repeat (first | exact Below.refl _ _ | assumption | apply below_dr | apply below_dn | apply below_al)) hb5; have hz5s := hz5.size; have hcc := HCO3.out w5 w.heap.size ((hb5.block w.heap.size (by show _ < (w.heap.push _).size; rw [Array.size_push]; omega)).trans (new_block w _))
          try go_simp
          refine hK.out _ _ (((by repeat (first | exact Below.refl _ _ | assumption | apply below_dr | apply below_dn | apply below_al)) : Below w.heap.size w _)) (fun hHeld => ?_)
          clear hK K
          try simp only [Act.put, List.setIfInBounds_toArray, List.set_cons_zero, List.set_cons_succ]
          refine wpAnyH_ready (rs := [8]) (by kernel_rfl) (by simp) ?_
          refine AllReadyH.cons (by simp only [List.getElem?_toArray, List.getElem?_cons_succ, List.getElem?_cons_zero]; rfl) (fun K hK => ?_) AllReadyH.nil
          go_simp
          refine hK.out _ _ (((by repeat (first | exact Below.refl _ _ | assumption | apply below_dr | apply below_dn | apply below_al)) : Below w.heap.size w _)) (fun hHeld => ?_)
          clear hK K
          try simp only [Act.put, List.setIfInBounds_toArray, List.set_cons_zero, List.set_cons_succ]
          refine wpAnyH_take (i := 9) (v := ?_) (by simp only [List.getElem?_toArray, List.getElem?_cons_succ, List.getElem?_cons_zero]; rfl) (by kernel_rfl) (by kernel_rfl) (by kernel_rfl) (by exact fun _ _ _ h => h) (Or.inl ⟨by rfl, ?_⟩) (by assumption) ?_
          rotate_left
          · intro w hSw; (try dsimp only at hSw); go_simp; try with_reducible rfl
          try simp only [Act.put, List.setIfInBounds_toArray, List.set_cons_zero, List.set_cons_succ]
          refine wpAnyH_ready (rs := [10]) (by kernel_rfl) (by simp) ?_
          refine AllReadyH.cons (by simp only [List.getElem?_toArray, List.getElem?_cons_succ, List.getElem?_cons_zero]; rfl) (fun K hK => ?_) AllReadyH.nil
          go_simp
          refine hK.out _ _ (((by repeat (first | exact Below.refl _ _ | assumption | apply below_dr | apply below_dn | apply below_al)) : Below w.heap.size w _)) (fun hHeld => ?_)
          clear hK K
          try simp only [Act.put, List.setIfInBounds_toArray, List.set_cons_zero, List.set_cons_succ]
          refine wpAnyH_done (by kernel_rfl) ?_ _
          go_wp2_with fail
          go_ret
          exact ⟨by rw [HE.out]; rfl, (by repeat (first | exact Below.refl _ _ | assumption | apply below_dr | apply below_dn | apply below_al))⟩
        · go_simp
          refine hK.out _ _ (((by repeat (first | exact Below.refl _ _ | assumption | apply below_dr | apply below_dn | apply below_al)) : Below w.heap.size w _)) (fun hHeld => ?_)
          clear hK K
          try simp only [Act.put, List.setIfInBounds_toArray, List.set_cons_zero, List.set_cons_succ]
          refine wpAnyH_ready (rs := [2]) (by kernel_rfl) (by simp) ?_
          refine AllReadyH.cons (by simp only [List.getElem?_toArray, List.getElem?_cons_succ, List.getElem?_cons_zero]; rfl) (fun K hK => ?_) AllReadyH.nil
          go_simp
          refine (HIH.out _).mono ?_; rintro x w5 ⟨rfl, hb5⟩; have hz5 : Below w.heap.size w w5 := bl (by repeat (first | exact Below.refl _ _ | assumption | apply below_dr | apply below_dn | apply below_al)) hb5; have hz5s := hz5.size
          try go_simp
          refine hK.out _ _ (((by repeat (first | exact Below.refl _ _ | assumption | apply below_dr | apply below_dn | apply below_al)) : Below w.heap.size w _)) (fun hHeld => ?_)
          clear hK K
          try simp only [Act.put, List.setIfInBounds_toArray, List.set_cons_zero, List.set_cons_succ]
          refine wpAnyH_take (i := 9) (v := ?_) (by simp only [List.getElem?_toArray, List.getElem?_cons_succ, List.getElem?_cons_zero]; rfl) (by kernel_rfl) (by kernel_rfl) (by kernel_rfl) (by exact fun _ _ _ h => h) (Or.inl ⟨by rfl, ?_⟩) (by assumption) ?_
          rotate_left
          · intro w hSw; (try dsimp only at hSw); go_simp; try with_reducible rfl
          try simp only [Act.put, List.setIfInBounds_toArray, List.set_cons_zero, List.set_cons_succ]
          refine wpAnyH_ready (rs := [10]) (by kernel_rfl) (by simp) ?_
          refine AllReadyH.cons (by simp only [List.getElem?_toArray, List.getElem?_cons_succ, List.getElem?_cons_zero]; rfl) (fun K hK => ?_) AllReadyH.nil
          go_simp
          refine hK.out _ _ (((by repeat (first | exact Below.refl _ _ | assumption | apply below_dr | apply below_dn | apply below_al)) : Below w.heap.size w _)) (fun hHeld => ?_)
          clear hK K
          try simp only [Act.put, List.setIfInBounds_toArray, List.set_cons_zero, List.set_cons_succ]
          refine wpAnyH_done (by kernel_rfl) ?_ _
          go_wp2_with fail
          go_ret
          exact ⟨by rw [HE.out]; rfl, (by repeat (first | exact Below.refl _ _ | assumption | apply below_dr | apply below_dn | apply below_al))⟩
set_option maxRecDepth 100000 in
set_option maxHeartbeats 4000000 in
theorem digits_neg : ∀ (m u : Nat) (w : World), u ≤ m → 1 ≤ u → u ≤ 9223372036854775808 → Calls Tryd.prog 12 #[.int .i64 (-(u : Int))] w fun x w' => x = .returned (.string (dig (-(u : Int)))) ∧ Below w.heap.size w w' := by
  intro m
  induction m with
  | zero => intro u w hm h1; omega
  | succ m ih =>
    intro u w hm h1 hu
    by_cases hs : u < 10
    · obtain ⟨z, hz⟩ : ∃ z, z = -(u : Int) := ⟨_, rfl⟩
      have t0 : decide (z < 0) = true := decide_eq_true (by omega)
      have t1 : decide (-10 < z) = true := decide_eq_true (by omega)
      have HE := Lib.hid (dig_neg u h1)
      have HD := Lib.hid (fun X => digits_pos u u X (Nat.le_refl _) (by omega))
      have f1 : -z = (u : Int) := by omega
      have f2 : IntKind.i64.wrap (-z) = (u : Int) := by rw [f1]; exact IntWalk.i64_in _ (by omega)
      have f3 : IntKind.i64.wrap (u : Int) = (u : Int) := IntWalk.i64_in _ (by omega)
      have hps : (dig (u : Int)).size ≤ 21 := dig_len _ (by omega) (by omega)
      obtain ⟨p, hp⟩ : ∃ p, p = dig (u : Int) := ⟨_, rfl⟩
      rw [← hp] at HE hps
      simp only [← hp] at HD
      rw [← hz] at HE ⊢
      have hov : ¬ 9223372036854775807 < 1 + p.size := by omega
      clear hz hp hs hps ih hu hm h1
      go_enter Tryd.func12, Tryd.ntmps12
      go_wp2_with fail
      refine (HD.out _).mono ?_
      rintro x w1 ⟨rfl, hb1⟩
      have hov2 : ¬ 9223372036854775807 < (⟨#[45]⟩ : ByteArray).size + p.size := hov
      go_wp2_with fail
      go_ret
      exact ⟨by rw [HE.out]; rfl, hb1⟩
    · have HE := Lib.hid (dig_neg_big u hs)
      have hih := fun X => ih (u / 10) X (by omega) (by omega) (by omega)
      obtain ⟨z, hz⟩ : ∃ z, z = -(u : Int) := ⟨_, rfl⟩
      obtain ⟨z1, hz1⟩ : ∃ z1, z1 = -((u / 10 : Nat) : Int) := ⟨_, rfl⟩
      obtain ⟨y, hy⟩ : ∃ y, y = -((u % 10 : Nat) : Int) := ⟨_, rfl⟩
      have t0 : decide (z < 0) = true := decide_eq_true (by omega)
      have t1 : decide (-10 < z) = false := decide_eq_false (by omega)
      obtain ⟨p, hp⟩ : ∃ p, p = dig (-((u / 10 : Nat) : Int)) := ⟨_, rfl⟩
      have hps : p.size ≤ 21 := by rw [hp]; exact dig_len _ (by omega) (by omega)
      rw [← hp] at HE
      simp only [← hp] at hih
      simp only [← hz1] at hih
      rw [← hz] at HE ⊢
      obtain ⟨b, hbe⟩ : ∃ b, b = 48 + u % 10 := ⟨_, rfl⟩
      have hb : b < 256 := by omega
      rw [← hbe] at HE
      have e1 : z.tdiv 10 = z1 := by rw [hz, hz1, Int.neg_tdiv, Int.tdiv_eq_ediv_of_nonneg (by omega)]; omega
      have f1 : IntKind.i64.wrap (z.tdiv 10) = z1 := by rw [e1]; exact IntWalk.i64_in _ (by omega)
      have f1b : IntKind.i64.wrap z1 = z1 := IntWalk.i64_in _ (by omega)
      have f2 : z.tmod 10 = y := by rw [hz, hy, Int.neg_tmod, Int.tmod_eq_emod_of_nonneg (by omega)]; omega
      have f3 : IntKind.i64.wrap (48 - y) = (b : Int) := by rw [IntWalk.i64_in _ (by omega)]; omega
      have f3b : (48 - y) = (b : Int) := by omega
      have f3c : IntKind.i64.wrap (b : Int) = (b : Int) := IntWalk.i64_in _ (by omega)
      have f4 : IntKind.u8.wrap (b : Int) = (b : Int) := by rw [IntKind.wrap_u8]; omega
      obtain ⟨r, hr⟩ : ∃ r, r = ofNats [b] := ⟨_, rfl⟩
      have hrs : r.size = 1 := by rw [hr, ofNats_size]; rfl
      have hco1 := fun X : World => conv_one X b hb
      have hco2 := fun X : World => conv_one_dr X b hb
      have hco3 := fun (X : World) (g : Nat) => conv_one_of X g b hb
      rw [← hr] at HE
      simp only [← hr] at hco1 hco2 hco3
      have HCO3 := Lib.hid hco3
      have hov : ¬ 9223372036854775807 < p.size + r.size := by omega
      have HIH := Lib.hid hih
      clear hih hp hbe hr hrs hps hs ih hco3 hz hz1 hy e1 hu hm h1
      go_enter Tryd.func12, Tryd.ntmps12
      go_wp2_with fail
      refine wp_region_held_drew (S := (fun X => Below w.heap.size w X)) (by kernel_rfl) (((by repeat (first | exact Below.refl _ _ | assumption | apply below_dr | apply below_dn | apply below_al)) : Below w.heap.size w _)) (fun hHeld => ?_)
      try simp only [Act.put, List.setIfInBounds_toArray, List.set_cons_zero, List.set_cons_succ]
      refine wpAnyH_take (i := 0) (v := ?_) (by simp only [List.getElem?_toArray, List.getElem?_cons_succ, List.getElem?_cons_zero]; rfl) (by kernel_rfl) (by kernel_rfl) (by kernel_rfl) (by exact fun _ _ _ h => h) (Or.inl ⟨by rfl, ?_⟩) (by assumption) ?_
      rotate_left
      · intro w hSw; (try dsimp only at hSw); go_simp; try with_reducible rfl
      try simp only [Act.put, List.setIfInBounds_toArray, List.set_cons_zero, List.set_cons_succ]
      refine wpAnyH_take (i := 1) (v := ?_) (by simp only [List.getElem?_toArray, List.getElem?_cons_succ, List.getElem?_cons_zero]; rfl) (by kernel_rfl) (by kernel_rfl) (by kernel_rfl) (by exact fun _ _ _ h => h) (Or.inl ⟨by rfl, ?_⟩) (by assumption) ?_
      rotate_left
      · intro w hSw; (try dsimp only at hSw); go_simp; try with_reducible rfl
      try simp only [Act.put, List.setIfInBounds_toArray, List.set_cons_zero, List.set_cons_succ]
      refine wpAnyH_take (i := 3) (v := ?_) (by simp only [List.getElem?_toArray, List.getElem?_cons_succ, List.getElem?_cons_zero]; rfl) (by kernel_rfl) (by kernel_rfl) (by kernel_rfl) (by exact fun _ _ _ h => h) (Or.inl ⟨by rfl, ?_⟩) (by assumption) ?_
      rotate_left
      · intro w hSw; (try dsimp only at hSw); go_simp; try with_reducible rfl
      try simp only [Act.put, List.setIfInBounds_toArray, List.set_cons_zero, List.set_cons_succ]
      refine wpAnyH_take (i := 4) (v := ?_) (by simp only [List.getElem?_toArray, List.getElem?_cons_succ, List.getElem?_cons_zero]; rfl) (by kernel_rfl) (by kernel_rfl) (by kernel_rfl) (by exact fun _ _ _ h => h) (Or.inl ⟨by rfl, ?_⟩) (by assumption) ?_
      rotate_left
      · intro w hSw; (try dsimp only at hSw); go_simp; try with_reducible rfl
      try simp only [Act.put, List.setIfInBounds_toArray, List.set_cons_zero, List.set_cons_succ]
      refine wpAnyH_take (i := 5) (v := ?_) (by simp only [List.getElem?_toArray, List.getElem?_cons_succ, List.getElem?_cons_zero]; rfl) (by kernel_rfl) (by kernel_rfl) (by kernel_rfl) (by exact fun _ _ _ h => h) (Or.inl ⟨by rfl, ?_⟩) (by assumption) ?_
      rotate_left
      · intro w hSw; (try dsimp only at hSw); go_simp; try with_reducible rfl
      try simp only [Act.put, List.setIfInBounds_toArray, List.set_cons_zero, List.set_cons_succ]
      refine wpAnyH_take (i := 6) (v := ?_) (by simp only [List.getElem?_toArray, List.getElem?_cons_succ, List.getElem?_cons_zero]; rfl) (by kernel_rfl) (by kernel_rfl) (by kernel_rfl) (by exact fun _ _ _ h => h) (Or.inl ⟨by rfl, ?_⟩) (by assumption) ?_
      rotate_left
      · intro w hSw; (try dsimp only at hSw); go_simp; try with_reducible rfl
      try simp only [Act.put, List.setIfInBounds_toArray, List.set_cons_zero, List.set_cons_succ]
      refine wpAnyH_ready (rs := [2, 7]) (by kernel_rfl) (by simp) ?_
      refine AllReadyH.cons (by simp only [List.getElem?_toArray, List.getElem?_cons_succ, List.getElem?_cons_zero]; rfl) (fun K hK => ?_) (AllReadyH.cons (by simp only [List.getElem?_toArray, List.getElem?_cons_succ, List.getElem?_cons_zero]; rfl) (fun K hK => ?_) AllReadyH.nil)
      · go_simp
        refine (HIH.out _).mono ?_; rintro x w5 ⟨rfl, hb5⟩; have hz5 : Below w.heap.size w w5 := bl (by repeat (first | exact Below.refl _ _ | assumption | apply below_dr | apply below_dn | apply below_al)) hb5; have hz5s := hz5.size
        try go_simp
        refine hK.out _ _ (((by repeat (first | exact Below.refl _ _ | assumption | apply below_dr | apply below_dn | apply below_al)) : Below w.heap.size w _)) (fun hHeld => ?_)
        clear hK K
        try simp only [Act.put, List.setIfInBounds_toArray, List.set_cons_zero, List.set_cons_succ]
        refine wpAnyH_ready (rs := [7]) (by kernel_rfl) (by simp) ?_
        refine AllReadyH.cons (by simp only [List.getElem?_toArray, List.getElem?_cons_succ, List.getElem?_cons_zero]; rfl) (fun K hK => ?_) AllReadyH.nil
        go_simp
        refine hK.out _ _ (((by repeat (first | exact Below.refl _ _ | assumption | apply below_dr | apply below_dn | apply below_al)) : Below w.heap.size w _)) (fun hHeld => ?_)
        clear hK K
        try simp only [Act.put, List.setIfInBounds_toArray, List.set_cons_zero, List.set_cons_succ]
        refine wpAnyH_ready (rs := [8]) (by kernel_rfl) (by simp) ?_
        refine AllReadyH.cons (by simp only [List.getElem?_toArray, List.getElem?_cons_succ, List.getElem?_cons_zero]; rfl) (fun K hK => ?_) AllReadyH.nil
        go_simp
        refine hK.out _ _ (((by repeat (first | exact Below.refl _ _ | assumption | apply below_dr | apply below_dn | apply below_al)) : Below w.heap.size w _)) (fun hHeld => ?_)
        clear hK K
        try simp only [Act.put, List.setIfInBounds_toArray, List.set_cons_zero, List.set_cons_succ]
        refine wpAnyH_take (i := 9) (v := ?_) (by simp only [List.getElem?_toArray, List.getElem?_cons_succ, List.getElem?_cons_zero]; rfl) (by kernel_rfl) (by kernel_rfl) (by kernel_rfl) (by exact fun _ _ _ h => h) (Or.inl ⟨by rfl, ?_⟩) (by assumption) ?_
        rotate_left
        · intro w hSw; (try dsimp only at hSw); go_simp; try with_reducible rfl
        try simp only [Act.put, List.setIfInBounds_toArray, List.set_cons_zero, List.set_cons_succ]
        refine wpAnyH_ready (rs := [10]) (by kernel_rfl) (by simp) ?_
        refine AllReadyH.cons (by simp only [List.getElem?_toArray, List.getElem?_cons_succ, List.getElem?_cons_zero]; rfl) (fun K hK => ?_) AllReadyH.nil
        go_simp
        refine hK.out _ _ (((by repeat (first | exact Below.refl _ _ | assumption | apply below_dr | apply below_dn | apply below_al)) : Below w.heap.size w _)) (fun hHeld => ?_)
        clear hK K
        try simp only [Act.put, List.setIfInBounds_toArray, List.set_cons_zero, List.set_cons_succ]
        refine wpAnyH_done (by kernel_rfl) ?_ _
        go_wp2_with fail
        go_ret
        exact ⟨by rw [HE.out]; rfl, (by repeat (first | exact Below.refl _ _ | assumption | apply below_dr | apply below_dn | apply below_al))⟩
      · go_simp
        refine hK.out _ _ (((by repeat (first | exact Below.refl _ _ | assumption | apply below_dr | apply below_dn | apply below_al)) : Below w.heap.size w _)) (fun hHeld => ?_)
        clear hK K
        try simp only [Act.put, List.setIfInBounds_toArray, List.set_cons_zero, List.set_cons_succ]
        refine wpAnyH_ready (rs := [2, 8]) (by kernel_rfl) (by simp) ?_
        refine AllReadyH.cons (by simp only [List.getElem?_toArray, List.getElem?_cons_succ, List.getElem?_cons_zero]; rfl) (fun K hK => ?_) (AllReadyH.cons (by simp only [List.getElem?_toArray, List.getElem?_cons_succ, List.getElem?_cons_zero]; rfl) (fun K hK => ?_) AllReadyH.nil)
        · go_simp
          refine (HIH.out _).mono ?_; rintro x w5 ⟨rfl, hb5⟩; have hz5 : Below w.heap.size w w5 := bl (by repeat (first | exact Below.refl _ _ | assumption | apply below_dr | apply below_dn | apply below_al)) hb5; have hz5s := hz5.size; have hcc := HCO3.out w5 w.heap.size ((hb5.block w.heap.size (by show _ < (w.heap.push _).size; rw [Array.size_push]; omega)).trans (new_block w _))
          try go_simp
          refine hK.out _ _ (((by repeat (first | exact Below.refl _ _ | assumption | apply below_dr | apply below_dn | apply below_al)) : Below w.heap.size w _)) (fun hHeld => ?_)
          clear hK K
          try simp only [Act.put, List.setIfInBounds_toArray, List.set_cons_zero, List.set_cons_succ]
          refine wpAnyH_ready (rs := [8]) (by kernel_rfl) (by simp) ?_
          refine AllReadyH.cons (by simp only [List.getElem?_toArray, List.getElem?_cons_succ, List.getElem?_cons_zero]; rfl) (fun K hK => ?_) AllReadyH.nil
          go_simp
          refine hK.out _ _ (((by repeat (first | exact Below.refl _ _ | assumption | apply below_dr | apply below_dn | apply below_al)) : Below w.heap.size w _)) (fun hHeld => ?_)
          clear hK K
          try simp only [Act.put, List.setIfInBounds_toArray, List.set_cons_zero, List.set_cons_succ]
          refine wpAnyH_take (i := 9) (v := ?_) (by simp only [List.getElem?_toArray, List.getElem?_cons_succ, List.getElem?_cons_zero]; rfl) (by kernel_rfl) (by kernel_rfl) (by kernel_rfl) (by exact fun _ _ _ h => h) (Or.inl ⟨by rfl, ?_⟩) (by assumption) ?_
          rotate_left
          · intro w hSw; (try dsimp only at hSw); go_simp; try with_reducible rfl
          try simp only [Act.put, List.setIfInBounds_toArray, List.set_cons_zero, List.set_cons_succ]
          refine wpAnyH_ready (rs := [10]) (by kernel_rfl) (by simp) ?_
          refine AllReadyH.cons (by simp only [List.getElem?_toArray, List.getElem?_cons_succ, List.getElem?_cons_zero]; rfl) (fun K hK => ?_) AllReadyH.nil
          go_simp
          refine hK.out _ _ (((by repeat (first | exact Below.refl _ _ | assumption | apply below_dr | apply below_dn | apply below_al)) : Below w.heap.size w _)) (fun hHeld => ?_)
          clear hK K
          try simp only [Act.put, List.setIfInBounds_toArray, List.set_cons_zero, List.set_cons_succ]
          refine wpAnyH_done (by kernel_rfl) ?_ _
          go_wp2_with fail
          go_ret
          exact ⟨by rw [HE.out]; rfl, (by repeat (first | exact Below.refl _ _ | assumption | apply below_dr | apply below_dn | apply below_al))⟩
        · go_simp
          refine hK.out _ _ (((by repeat (first | exact Below.refl _ _ | assumption | apply below_dr | apply below_dn | apply below_al)) : Below w.heap.size w _)) (fun hHeld => ?_)
          clear hK K
          try simp only [Act.put, List.setIfInBounds_toArray, List.set_cons_zero, List.set_cons_succ]
          refine wpAnyH_ready (rs := [2]) (by kernel_rfl) (by simp) ?_
          refine AllReadyH.cons (by simp only [List.getElem?_toArray, List.getElem?_cons_succ, List.getElem?_cons_zero]; rfl) (fun K hK => ?_) AllReadyH.nil
          go_simp
          refine (HIH.out _).mono ?_; rintro x w5 ⟨rfl, hb5⟩; have hz5 : Below w.heap.size w w5 := bl (by repeat (first | exact Below.refl _ _ | assumption | apply below_dr | apply below_dn | apply below_al)) hb5; have hz5s := hz5.size
          try go_simp
          refine hK.out _ _ (((by repeat (first | exact Below.refl _ _ | assumption | apply below_dr | apply below_dn | apply below_al)) : Below w.heap.size w _)) (fun hHeld => ?_)
          clear hK K
          try simp only [Act.put, List.setIfInBounds_toArray, List.set_cons_zero, List.set_cons_succ]
          refine wpAnyH_take (i := 9) (v := ?_) (by simp only [List.getElem?_toArray, List.getElem?_cons_succ, List.getElem?_cons_zero]; rfl) (by kernel_rfl) (by kernel_rfl) (by kernel_rfl) (by exact fun _ _ _ h => h) (Or.inl ⟨by rfl, ?_⟩) (by assumption) ?_
          rotate_left
          · intro w hSw; (try dsimp only at hSw); go_simp; try with_reducible rfl
          try simp only [Act.put, List.setIfInBounds_toArray, List.set_cons_zero, List.set_cons_succ]
          refine wpAnyH_ready (rs := [10]) (by kernel_rfl) (by simp) ?_
          refine AllReadyH.cons (by simp only [List.getElem?_toArray, List.getElem?_cons_succ, List.getElem?_cons_zero]; rfl) (fun K hK => ?_) AllReadyH.nil
          go_simp
          refine hK.out _ _ (((by repeat (first | exact Below.refl _ _ | assumption | apply below_dr | apply below_dn | apply below_al)) : Below w.heap.size w _)) (fun hHeld => ?_)
          clear hK K
          try simp only [Act.put, List.setIfInBounds_toArray, List.set_cons_zero, List.set_cons_succ]
          refine wpAnyH_done (by kernel_rfl) ?_ _
          go_wp2_with fail
          go_ret
          exact ⟨by rw [HE.out]; rfl, (by repeat (first | exact Below.refl _ _ | assumption | apply below_dr | apply below_dn | apply below_al))⟩
theorem digits_any (n : Int) (w : World) (h0 : -9223372036854775808 ≤ n) (h1 : n ≤ 9223372036854775807) : Calls Tryd.prog 12 #[.int .i64 n] w fun x w' => x = .returned (.string (dig n)) ∧ Below w.heap.size w w' := by
  by_cases h : n < 0
  · obtain ⟨u, rfl⟩ : ∃ u : Nat, n = -(u : Int) := ⟨n.natAbs, by omega⟩
    exact digits_neg u u w (Nat.le_refl _) (by omega) (by omega)
  · obtain ⟨u, rfl⟩ : ∃ u : Nat, n = (u : Int) := ⟨n.toNat, by omega⟩
    exact digits_pos u u w (Nat.le_refl _) (by omega)
end Go.Proofs.YtpjgmcoimniheaaDoor.Sl
