/- The document's sealed bytes, and a meta page's bytes, by walks. -/
import Derived.Test.YtpjgmcoimniheaaMrA
import Derived.Deep.RegionHeld3
namespace Go.Proofs.Ytpjgmcoimniheaa.Mt
open Go.RowKit Go.Proofs.Ytpjgmcoimniheaa.By
set_option linter.unusedSimpArgs false
set_option linter.unusedVariables false

theorem conv_four (W : World) (n : Nat) (hn : n < 4294967296) : (convert 25 9 (.slice (some ⟨W.heap.size, 0, none⟩) 4 4)).run Try.prog (W.alloc (.cells #[.int .u8 ((n : Int) / 16777216), .int .u8 ((n : Int) / 65536 % 256), .int .u8 ((n : Int) / 256 % 256), .int .u8 ((n : Int) % 256)] 5)) = .ok (.string (ofNats (be4 n))) (W.alloc (.cells #[.int .u8 ((n : Int) / 16777216), .int .u8 ((n : Int) / 65536 % 256), .int .u8 ((n : Int) / 256 % 256), .int .u8 ((n : Int) % 256)] 5)) := by
  have e : [Value.int .u8 ((n : Int) / 16777216), .int .u8 ((n : Int) / 65536 % 256), .int .u8 ((n : Int) / 256 % 256), .int .u8 ((n : Int) % 256)] = Lib.strCells (ofNats (be4 n)) := by
    rw [cells_ofNats _ (be4_lt n)]
    have : n / 16777216 % 256 = n / 16777216 := by omega
    simp only [be4, List.map_cons, List.map_nil, this]
    rfl
  exact conv_bytes (A := some ⟨W.heap.size, 0, none⟩) (s := ofNats (be4 n)) (RdB.of_block (new_block W _) (by rw [← e]; rfl)) (fun ad h => by cases h; rfl) 4
def strSize : Value → Nat
  | .string s => s.size
  | _ => 0
set_option maxRecDepth 100000 in
set_option maxHeartbeats 1000000 in
theorem rseal_any (s : ByteArray) (w : World) (hs : s.size ≤ 1000000) :
    Calls Try.prog 53 #[.string s] w fun x w' => x = .returned (.string (sealed s)) ∧ Below w.heap.size w w' := by
  have HO := Lib.hid (rof_any s w hs)
  have hsl := sumOf_lt (nats s)
  obtain ⟨n, hn⟩ : ∃ n, n = sumOf (nats s) := ⟨_, rfl⟩
  rw [← hn] at HO hsl
  have hcv := conv_four w n hsl
  have hfin : sealed s = s ++ ofNats (be4 n) := by rw [hn]; rfl
  have hbl : (ofNats (be4 n)).size ≤ 4 := by rw [ofNats_size]; exact Nat.le_refl 4
  obtain ⟨Z, hZ⟩ : ∃ Z, Z = ofNats (be4 n) := ⟨_, rfl⟩
  rw [← hZ] at hcv hfin hbl
  have HF := Lib.hid hfin
  clear hfin hn hZ
  go_enter Try.func53, Try.ntmps53
  go_wp2_with fail
  refine HO.out.mono ?_
  rintro x w1 ⟨rfl, rfl⟩
  go_wp2_with fail
  go_ret
  exact ⟨by rw [HF.out]; rfl, below_al (Below.refl _ _) _⟩
set_option maxRecDepth 100000 in
set_option maxHeartbeats 2000000 in
theorem rbytes_any (e r : Nat) (w : World) (he : e < 4294967296) (hr : r < 65536) :
    Calls Try.prog 34 #[.agg #[.int .i64 (e : Int), .int .i64 (r : Int)]] w fun x w' => x = .returned (.string (enc e r)) ∧ Below w.heap.size w w' := by
  have HN4 : Hid (∀ X, Calls Try.prog 52 #[.int .i64 (e : Int), .int .i64 4] X fun x w' => x = .returned (.string (ofNats (be4 e))) ∧ Below X.heap.size X w') := Lib.hid (fun X => by have := rnumber_any e 4 X he (by decide); rwa [suf_four] at this)
  have HN2 : Hid (∀ X, Calls Try.prog 52 #[.int .i64 (r : Int), .int .i64 2] X fun x w' => x = .returned (.string (ofNats (be2 r))) ∧ Below X.heap.size X w') := Lib.hid (fun X => by have := rnumber_any r 2 X (by omega) (by decide); rwa [suf_two] at this)
  obtain ⟨wb, hwb⟩ : ∃ wb, wb = w.alloc (.cells #[.int .i64 (e : Int), .int .i64 (r : Int)] 23) := ⟨_, rfl⟩
  have hb0 := below_al (Below.refl w.heap.size w) (.cells #[.int .i64 (e : Int), .int .i64 (r : Int)] 23)
  have hcA : ∀ X, Below (w.alloc (.cells #[.int .i64 (e : Int), .int .i64 (r : Int)] 23)).heap.size (w.alloc (.cells #[.int .i64 (e : Int), .int .i64 (r : Int)] 23)) X → X.cell? ⟨w.heap.size, 0, none⟩ = some (.int .i64 (e : Int)) ∧ X.cell? ⟨w.heap.size, 1, none⟩ = some (.int .i64 (r : Int)) := fun X hX => box_cell hX
  rw [← hwb] at hb0 hcA
  have hcB := fun X hX => (hcA X hX).1
  have hcC := fun X hX => (hcA X hX).2
  have hl4 : (ofNats (be4 e)).size ≤ 4 := by rw [ofNats_size]; exact Nat.le_refl 4
  have hl2 : (ofNats (be2 r)).size ≤ 2 := by rw [ofNats_size]; exact Nat.le_refl 2
  have hq1 : ¬ 9223372036854775807 < (ofNats (be4 e)).size + 7 := by omega
  have hq2 : ¬ 9223372036854775807 < (ofNats (be4 e)).size + 7 + (ofNats (be2 r)).size := by omega
  have HB := Lib.hid hb0
  clear hb0 hcA
  go_enter Try.func34, Try.ntmps34
  go_wp2_with fail
  rw [← hwb]
  clear hwb
  refine wp_region_held_drew (S := (fun X => Below wb.heap.size wb X)) (by kernel_rfl) (((by repeat (first | exact Below.refl _ _ | assumption | apply below_dr | apply below_dn | apply below_al)) : Below wb.heap.size wb _)) (fun hHeld => ?_)
  try simp only [Act.put, List.setIfInBounds_toArray, List.set_cons_zero, List.set_cons_succ]
  refine wpAnyH_take (i := 0) (v := ?_) (by simp only [List.getElem?_toArray, List.getElem?_cons_succ, List.getElem?_cons_zero]; rfl) (by kernel_rfl) (by kernel_rfl) (by kernel_rfl) (by exact fun _ _ _ h => h) (Or.inl ⟨by rfl, ?_⟩) (by assumption) ?_
  rotate_left
  · intro w hSw; (try dsimp only at hSw); go_simp; try with_reducible rfl
  try simp only [Act.put, List.setIfInBounds_toArray, List.set_cons_zero, List.set_cons_succ]
  refine wpAnyH_take (i := 1) (v := ?_) (by simp only [List.getElem?_toArray, List.getElem?_cons_succ, List.getElem?_cons_zero]; rfl) (by kernel_rfl) (by kernel_rfl) (by kernel_rfl) (by exact fun _ _ _ h => h) (Or.inl ⟨by rfl, ?_⟩) (by assumption) ?_
  rotate_left
  · intro w hSw; (try dsimp only at hSw); go_simp; try with_reducible rfl
  try simp only [Act.put, List.setIfInBounds_toArray, List.set_cons_zero, List.set_cons_succ]
  refine wpAnyH_take (i := 4) (v := ?_) (by simp only [List.getElem?_toArray, List.getElem?_cons_succ, List.getElem?_cons_zero]; rfl) (by kernel_rfl) (by kernel_rfl) (by kernel_rfl) (by exact fun _ _ _ h => h) (Or.inl ⟨by rfl, ?_⟩) (by assumption) ?_
  rotate_left
  · intro w hSw; (try dsimp only at hSw); go_simp; try with_reducible rfl
  try simp only [Act.put, List.setIfInBounds_toArray, List.set_cons_zero, List.set_cons_succ]
  refine wpAnyH_take (i := 5) (v := ?_) (by simp only [List.getElem?_toArray, List.getElem?_cons_succ, List.getElem?_cons_zero]; rfl) (by kernel_rfl) (by kernel_rfl) (by kernel_rfl) (by exact fun _ _ _ h => h) (Or.inl ⟨by rfl, ?_⟩) (by assumption) ?_
  rotate_left
  · intro w hSw; (try dsimp only at hSw); go_simp; try with_reducible rfl
  try simp only [Act.put, List.setIfInBounds_toArray, List.set_cons_zero, List.set_cons_succ]
  refine wpAnyH_ready (rs := [2]) (by kernel_rfl) (by simp) ?_
  refine AllReadyH.cons (by simp only [List.getElem?_toArray, List.getElem?_cons_succ, List.getElem?_cons_zero]; rfl) (fun K hK => ?_) AllReadyH.nil
  go_simp
  refine (HN4.out _).mono ?_; rintro x w2 ⟨rfl, hb2⟩; have hb02 : Below wb.heap.size wb w2 := bl (by repeat (first | exact Below.refl _ _ | assumption | apply below_dr | apply below_dn | apply below_al)) hb2
  try go_simp
  refine hK.out _ _ (((by repeat (first | exact Below.refl _ _ | assumption | apply below_dr | apply below_dn | apply below_al)) : Below wb.heap.size wb _)) (fun hHeld => ?_)
  clear hK K
  try simp only [Act.put, List.setIfInBounds_toArray, List.set_cons_zero, List.set_cons_succ]
  refine wpAnyH_take (i := 3) (v := ?_) (by simp only [List.getElem?_toArray, List.getElem?_cons_succ, List.getElem?_cons_zero]; rfl) (by kernel_rfl) (by kernel_rfl) (by kernel_rfl) (by exact fun _ _ _ h => h) (Or.inl ⟨by rfl, ?_⟩) (by assumption) ?_
  rotate_left
  · intro w hSw; (try dsimp only at hSw); go_simp; try with_reducible rfl
  try simp only [Act.put, List.setIfInBounds_toArray, List.set_cons_zero, List.set_cons_succ]
  refine wpAnyH_ready (rs := [6]) (by kernel_rfl) (by simp) ?_
  refine AllReadyH.cons (by simp only [List.getElem?_toArray, List.getElem?_cons_succ, List.getElem?_cons_zero]; rfl) (fun K hK => ?_) AllReadyH.nil
  go_simp
  refine (HN2.out _).mono ?_; rintro x w3 ⟨rfl, hb3⟩; have hb03 : Below wb.heap.size wb w3 := bl (by repeat (first | exact Below.refl _ _ | assumption | apply below_dr | apply below_dn | apply below_al)) hb3
  try go_simp
  refine hK.out _ _ (((by repeat (first | exact Below.refl _ _ | assumption | apply below_dr | apply below_dn | apply below_al)) : Below wb.heap.size wb _)) (fun hHeld => ?_)
  clear hK K
  try simp only [Act.put, List.setIfInBounds_toArray, List.set_cons_zero, List.set_cons_succ]
  refine wpAnyH_take (i := 7) (v := ?_) (by simp only [List.getElem?_toArray, List.getElem?_cons_succ, List.getElem?_cons_zero]; rfl) (by kernel_rfl) (by kernel_rfl) (by kernel_rfl) (by exact fun _ _ _ h => h) (Or.inl ⟨by rfl, ?_⟩) (by assumption) ?_
  rotate_left
  · intro w hSw; (try dsimp only at hSw); go_simp; try with_reducible rfl
  try simp only [Act.put, List.setIfInBounds_toArray, List.set_cons_zero, List.set_cons_succ]
  refine wpAnyH_take (i := 8) (v := ?_) (by simp only [List.getElem?_toArray, List.getElem?_cons_succ, List.getElem?_cons_zero]; rfl) (by kernel_rfl) (by kernel_rfl) (by kernel_rfl) (by exact fun _ _ _ h => h) (Or.inl ⟨by rfl, ?_⟩) (by assumption) ?_
  rotate_left
  · intro w hSw; (try dsimp only at hSw); go_simp; try with_reducible rfl
  try simp only [Act.put, List.setIfInBounds_toArray, List.set_cons_zero, List.set_cons_succ]
  refine wpAnyH_done (by kernel_rfl) ?_ _
  have HB3 := Lib.hid (bl HB.out hb03)
  have hc3 := fun X (hX : Below w3.heap.size w3 X) => hcB X (bl hb03 hX)
  have HC3 := Lib.hid hc3
  clear hb2 hb3 hcB hcC hq1 hq2 hc3
  go_wp2_with fail
  go_loop [3] (fun s => ∃ k : Nat, k ≤ 235 ∧ s = .string (ofNats (be4 e ++ markN ++ be2 r ++ List.replicate k 0))) (fun s => 248 - strSize s)
  case atStart => exact ⟨0, Nat.zero_le _, by first | rfl | (congr 1; simp [ofNats_append, markS_eq])⟩
  case round =>
    obtain ⟨k, hk, rfl⟩ := hrel
    have hsz : (ofNats (be4 e ++ markN ++ be2 r ++ List.replicate k 0)).size = 13 + k := by rw [ofNats_size, List.length_append, List.length_replicate]; rfl
    have hnx : ofNats (be4 e ++ markN ++ be2 r ++ List.replicate (k + 1) 0) = ofNats (be4 e ++ markN ++ be2 r ++ List.replicate k 0) ++ ⟨#[0]⟩ := by rw [List.replicate_succ', ← List.append_assoc, ofNats_append]; rfl
    have hfull : k = 235 → be4 e ++ markN ++ be2 r ++ List.replicate k 0 = bodyN e r := by rintro rfl; rfl
    obtain ⟨T, hT⟩ : ∃ T, T = ofNats (be4 e ++ markN ++ be2 r ++ List.replicate k 0) := ⟨_, rfl⟩
    rw [← hT] at hsz hnx ⊢
    by_cases hlt : k < 235
    · have v1 : decide ((T.size : Int) < 248) = true := decide_eq_true (by omega)
      have v2 : decide (T.size < 248) = true := decide_eq_true (by omega)
      have hTs : T.size ≤ 248 := by omega
      have HSZ := Lib.hid hsz
      have HNX := Lib.hid hnx
      clear hT hsz hnx hfull
      go_wp2_with fail
      go_round
      case rel => exact ⟨k + 1, by omega, by rw [HNX.out]⟩
      case measure =>
        show 248 - (T ++ ⟨#[0]⟩).size < 248 - T.size
        rw [ByteArray.size_append]
        have := HSZ.out
        show 248 - (T.size + 1) < 248 - T.size
        omega
    · have v1 : decide ((T.size : Int) < 248) = false := decide_eq_false (by omega)
      have v2 : decide (T.size < 248) = false := decide_eq_false (by omega)
      have hTb : T = ofNats (bodyN e r) := by rw [hT, hfull (by omega)]
      have hTs : T.size ≤ 248 := by omega
      have HSE : Hid (∀ X, Calls Try.prog 53 #[.string T] X fun x w' => x = .returned (.string (sealed (ofNats (bodyN e r)))) ∧ Below X.heap.size X w') := Lib.hid (fun X => by rw [hTb]; exact rseal_any _ X (by rw [ofNats_size, bodyN_length]; decide))
      have hsl : (sealed (ofNats (bodyN e r))).size ≤ 252 := by rw [sealed_size, ofNats_size, bodyN_length]; exact Nat.le_refl _
      have hb4l : (ofNats (be4 e)).size ≤ 4 := by rw [ofNats_size]; exact Nat.le_refl 4
      obtain ⟨U, hU⟩ : ∃ U, U = sealed (ofNats (bodyN e r)) := ⟨_, rfl⟩
      obtain ⟨Z, hZ⟩ : ∃ Z, Z = ofNats (be4 e) := ⟨_, rfl⟩
      have henc : enc e r = U ++ Z := by rw [hU, hZ]; rfl
      rw [← hU] at HSE hsl
      rw [← hZ] at HN4 hb4l
      have HENC := Lib.hid henc
      have hc3 := HC3.out
      have hq3 : ¬ 9223372036854775807 < U.size + Z.size := by omega
      clear hT hsz hnx hfull hTb hU hZ henc
      go_wp2_with fail
      refine wp_region_held_drew (S := (fun X => Below w3.heap.size w3 X)) (by kernel_rfl) (((by repeat (first | exact Below.refl _ _ | assumption | apply below_dr | apply below_dn | apply below_al)) : Below w3.heap.size w3 _)) (fun hHeld => ?_)
      try simp only [Act.put, List.setIfInBounds_toArray, List.set_cons_zero, List.set_cons_succ]
      refine wpAnyH_take (i := 0) (v := ?_) (by simp only [List.getElem?_toArray, List.getElem?_cons_succ, List.getElem?_cons_zero]; rfl) (by kernel_rfl) (by kernel_rfl) (by kernel_rfl) (by exact fun _ _ _ h => h) (Or.inl ⟨by rfl, ?_⟩) (by assumption) ?_
      rotate_left
      · intro w hSw; (try dsimp only at hSw); go_simp; try with_reducible rfl
      try simp only [Act.put, List.setIfInBounds_toArray, List.set_cons_zero, List.set_cons_succ]
      refine wpAnyH_take (i := 2) (v := ?_) (by simp only [List.getElem?_toArray, List.getElem?_cons_succ, List.getElem?_cons_zero]; rfl) (by kernel_rfl) (by kernel_rfl) (by kernel_rfl) (by exact fun _ _ _ h => h) (Or.inl ⟨by rfl, ?_⟩) (by assumption) ?_
      rotate_left
      · intro w hSw; (try dsimp only at hSw); go_simp; try with_reducible rfl
      try simp only [Act.put, List.setIfInBounds_toArray, List.set_cons_zero, List.set_cons_succ]
      refine wpAnyH_take (i := 3) (v := ?_) (by simp only [List.getElem?_toArray, List.getElem?_cons_succ, List.getElem?_cons_zero]; rfl) (by kernel_rfl) (by kernel_rfl) (by kernel_rfl) (by exact fun _ _ _ h => h) (Or.inl ⟨by rfl, ?_⟩) (by assumption) ?_
      rotate_left
      · intro w hSw; (try dsimp only at hSw); go_simp; try with_reducible rfl
      try simp only [Act.put, List.setIfInBounds_toArray, List.set_cons_zero, List.set_cons_succ]
      refine wpAnyH_ready (rs := [1]) (by kernel_rfl) (by simp) ?_
      refine AllReadyH.cons (by simp only [List.getElem?_toArray, List.getElem?_cons_succ, List.getElem?_cons_zero]; rfl) (fun K hK => ?_) AllReadyH.nil
      go_simp
      refine (HSE.out _).mono ?_; rintro x w5 ⟨rfl, hb5⟩; have hb35 : Below w3.heap.size w3 w5 := bl (by repeat (first | exact Below.refl _ _ | assumption | apply below_dr | apply below_dn | apply below_al)) hb5
      try go_simp
      refine hK.out _ _ (((by repeat (first | exact Below.refl _ _ | assumption | apply below_dr | apply below_dn | apply below_al)) : Below w3.heap.size w3 _)) (fun hHeld => ?_)
      clear hK K
      try simp only [Act.put, List.setIfInBounds_toArray, List.set_cons_zero, List.set_cons_succ]
      refine wpAnyH_ready (rs := [4]) (by kernel_rfl) (by simp) ?_
      refine AllReadyH.cons (by simp only [List.getElem?_toArray, List.getElem?_cons_succ, List.getElem?_cons_zero]; rfl) (fun K hK => ?_) AllReadyH.nil
      go_simp
      refine (HN4.out _).mono ?_; rintro x w6 ⟨rfl, hb6⟩; have hb36 : Below w3.heap.size w3 w6 := bl (by repeat (first | exact Below.refl _ _ | assumption | apply below_dr | apply below_dn | apply below_al)) hb6
      try go_simp
      refine hK.out _ _ (((by repeat (first | exact Below.refl _ _ | assumption | apply below_dr | apply below_dn | apply below_al)) : Below w3.heap.size w3 _)) (fun hHeld => ?_)
      clear hK K
      try simp only [Act.put, List.setIfInBounds_toArray, List.set_cons_zero, List.set_cons_succ]
      refine wpAnyH_take (i := 5) (v := ?_) (by simp only [List.getElem?_toArray, List.getElem?_cons_succ, List.getElem?_cons_zero]; rfl) (by kernel_rfl) (by kernel_rfl) (by kernel_rfl) (by exact fun _ _ _ h => h) (Or.inl ⟨by rfl, ?_⟩) (by assumption) ?_
      rotate_left
      · intro w hSw; (try dsimp only at hSw); go_simp; try with_reducible rfl
      try simp only [Act.put, List.setIfInBounds_toArray, List.set_cons_zero, List.set_cons_succ]
      refine wpAnyH_take (i := 6) (v := ?_) (by simp only [List.getElem?_toArray, List.getElem?_cons_succ, List.getElem?_cons_zero]; rfl) (by kernel_rfl) (by kernel_rfl) (by kernel_rfl) (by exact fun _ _ _ h => h) (Or.inl ⟨by rfl, ?_⟩) (by assumption) ?_
      rotate_left
      · intro w hSw; (try dsimp only at hSw); go_simp; try with_reducible rfl
      try simp only [Act.put, List.setIfInBounds_toArray, List.set_cons_zero, List.set_cons_succ]
      refine wpAnyH_done (by kernel_rfl) ?_ _
      go_wp2_with fail
      go_ret
      exact ⟨by rw [HENC.out]; rfl, bl HB3.out (by repeat (first | exact Below.refl _ _ | assumption | apply below_dr | apply below_dn | apply below_al))⟩
theorem rencode_ok (e r : Nat) (w : World) (h : rightB e r = true) :
    Calls Try.prog 15 #[.agg #[.int .i64 (e : Int), .int .i64 (r : Int)]] w fun x w' => x = .returned (.tuple #[.string (enc e r), .int .i64 0]) ∧ Below w.heap.size w w' := by
  have HR := Lib.hid (fun X => rright_any e r X)
  rw [h] at HR
  have hlt := right_lt h
  have HB := Lib.hid (fun X => rbytes_any e r X (by omega) (by omega))
  clear h hlt
  go_enter Try.func15, Try.ntmps15
  go_wp2_with fail
  refine (HR.out _).mono ?_
  rintro x w1 ⟨rfl, hb1⟩
  obtain ⟨c0, c1⟩ := box_cell hb1
  have HB1 := Lib.hid (box_below hb1)
  clear hb1
  go_wp2_with fail
  refine (HB.out _).mono ?_
  rintro x w2 ⟨rfl, hb2⟩
  go_wp2_with fail
  go_ret2
  exact ⟨rfl, bl HB1.out hb2⟩
theorem rencode_bad (e r : Int) (w : World) (h : rightB e r = false) :
    Calls Try.prog 15 #[.agg #[.int .i64 e, .int .i64 r]] w fun x w' => x = .returned (.tuple #[.string ByteArray.empty, .int .i64 1]) ∧ Below w.heap.size w w' := by
  have HR := Lib.hid (fun X => rright_any e r X)
  rw [h] at HR
  clear h
  go_enter Try.func15, Try.ntmps15
  go_wp2_with fail
  refine (HR.out _).mono ?_
  rintro x w1 ⟨rfl, hb1⟩
  have HB1 := Lib.hid (box_below hb1)
  clear hb1
  go_wp2_with fail
  go_ret2
  exact ⟨rfl, HB1.out⟩
end Go.Proofs.Ytpjgmcoimniheaa.Mt
