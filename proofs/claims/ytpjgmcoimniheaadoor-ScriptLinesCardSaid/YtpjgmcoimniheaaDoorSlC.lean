/- The law that any step and answer are told as the document says: by a walk. -/
import Derived.Test.YtpjgmcoimniheaaDoorSlB
import Derived.Test.YtpjgmcoimniheaaDoorScW
import Derived.Test.YtpjgmcoimniheaaDoorSlO
import Derived.Deep.RegionHeld3
namespace Go.Proofs.YtpjgmcoimniheaaDoor.Sl
open Go.RowKit Go.Proofs.YtpjgmcoimniheaaDoor.By Go.Proofs.YtpjgmcoimniheaaDoor.Mt
set_option linter.unusedSimpArgs false
set_option linter.unusedVariables false

set_option maxRecDepth 100000 in
set_option maxHeartbeats 4000000 in
theorem lines_long (sk who xk : Int) (xkey xval : ByteArray) (keep torn part err rerr : Int) (val : ByteArray) (yes : Bool) (rn : Int) (en : Bool) (w : World) (hval : 3000 < val.size) : Calls Tryd.prog 3 #[.agg #[.int .i64 sk, .int .i64 who, .int .i64 xk, .string xkey, .string xval, .int .u64 keep, .int .i64 torn, .int .i64 part], .agg #[.int .i64 err, .int .i64 rerr, .string val, .bool yes, .int .i64 rn, .bool en]] w fun x w' => x = .returned (.bool true) ∧ Below w.heap.size w w' := by
  have t : decide (3000 < val.size) = true := decide_eq_true hval
  have ti : decide ((3000 : Int) < (val.size : Int)) = true := decide_eq_true (by omega)
  go_enter Tryd.func3, Tryd.ntmps3
  go_wp2_with fail
  refine (Sc.awake_any _).mono ?_
  rintro x w1 ⟨rfl, hb1⟩
  have hB := Sc.sbox_below hb1
  have hb2 := hb1.block _ (lt_of_some (Sc.new_block2 w _ _))
  have c2 := cell_at (hb2.trans (Sc.new_block2 w _ _)) 2
  have HB := Lib.hid (Sc.sbox_below hB)
  clear hb1 hB hb2
  go_wp2_with fail
  refine (Sc.awake_any _).mono ?_
  rintro x w2 ⟨rfl, hb2⟩
  go_wp2_with fail
  go_ret
  exact ⟨rfl, bl HB.out hb2⟩
set_option maxRecDepth 100000 in
set_option maxHeartbeats 4000000 in
theorem lines_short (sk who xk : Int) (xkey xval : ByteArray) (keep torn part err rerr : Int) (val : ByteArray) (yes : Bool) (rn : Int) (en : Bool) (w : World) (hval : ¬ 3000 < val.size) (htab : Tab w) (hwho : -9223372036854775808 ≤ who ∧ who ≤ 9223372036854775807) (hrn : -9223372036854775808 ≤ rn ∧ rn ≤ 9223372036854775807) : Calls Tryd.prog 3 #[.agg #[.int .i64 sk, .int .i64 who, .int .i64 xk, .string xkey, .string xval, .int .u64 keep, .int .i64 torn, .int .i64 part], .agg #[.int .i64 err, .int .i64 rerr, .string val, .bool yes, .int .i64 rn, .bool en]] w fun x w' => x = .returned (.bool true) ∧ Below w.heap.size w w' := by
  have t : decide (3000 < val.size) = false := decide_eq_false hval
  have ti : decide ((3000 : Int) < (val.size : Int)) = false := decide_eq_false (by omega)
  have HT := Lib.hid htab
  have HL := Lib.hid (fun X (hX : Tab X) => line_any sk who xk xkey xval keep torn part err rerr val yes rn en X hX hwho hrn (by omega))
  have HR := Lib.hid (fun X (hX : Tab X) => rline_any sk who xk xkey xval keep torn part err rerr val yes rn en X hX hwho hrn (by omega))
  clear htab hwho hrn hval
  go_enter Tryd.func3, Tryd.ntmps3
  go_wp2_with fail
  refine (Sc.awake_any _).mono ?_
  rintro x w1 ⟨rfl, hb1⟩
  have hB := Sc.sbox_below hb1
  have hA2 := (hb1.block _ (lt_of_some (Sc.new_block2 w _ _))).trans (Sc.new_block2 w _ _)
  have hA1 := (hB.block _ (by rw [World.size_alloc]; omega)).trans (new_block w _)
  have hBW := Sc.sbox_below hB
  have HTW := Lib.hid (HT.out.below hBW)
  have HB := Lib.hid hBW
  have H1 := Lib.hid hA1
  have H2 := Lib.hid hA2
  have c2 := cell_at hA2 2
  clear hb1 hB hA1 hA2 hBW
  have a0 := fun X (hX : Below w1.heap.size w1 X) => cell_at ((hX.block _ (lt_of_some H1.out)).trans H1.out) 0
  have a1 := fun X (hX : Below w1.heap.size w1 X) => cell_at ((hX.block _ (lt_of_some H1.out)).trans H1.out) 1
  have a2 := fun X (hX : Below w1.heap.size w1 X) => cell_at ((hX.block _ (lt_of_some H1.out)).trans H1.out) 2
  have a3 := fun X (hX : Below w1.heap.size w1 X) => cell_at ((hX.block _ (lt_of_some H1.out)).trans H1.out) 3
  have a4 := fun X (hX : Below w1.heap.size w1 X) => cell_at ((hX.block _ (lt_of_some H1.out)).trans H1.out) 4
  have a5 := fun X (hX : Below w1.heap.size w1 X) => cell_at ((hX.block _ (lt_of_some H1.out)).trans H1.out) 5
  have a6 := fun X (hX : Below w1.heap.size w1 X) => cell_at ((hX.block _ (lt_of_some H1.out)).trans H1.out) 6
  have a7 := fun X (hX : Below w1.heap.size w1 X) => cell_at ((hX.block _ (lt_of_some H1.out)).trans H1.out) 7
  have b0 := fun X (hX : Below w1.heap.size w1 X) => cell_at ((hX.block _ (lt_of_some H2.out)).trans H2.out) 0
  have b1 := fun X (hX : Below w1.heap.size w1 X) => cell_at ((hX.block _ (lt_of_some H2.out)).trans H2.out) 1
  have b2 := fun X (hX : Below w1.heap.size w1 X) => cell_at ((hX.block _ (lt_of_some H2.out)).trans H2.out) 2
  have b3 := fun X (hX : Below w1.heap.size w1 X) => cell_at ((hX.block _ (lt_of_some H2.out)).trans H2.out) 3
  have b4 := fun X (hX : Below w1.heap.size w1 X) => cell_at ((hX.block _ (lt_of_some H2.out)).trans H2.out) 4
  have b5 := fun X (hX : Below w1.heap.size w1 X) => cell_at ((hX.block _ (lt_of_some H2.out)).trans H2.out) 5
  obtain ⟨S, hS⟩ : ∃ S, S = lineB sk who err rerr val yes rn en := ⟨_, rfl⟩
  simp only [← hS] at HL HR
  clear hS
  go_wp2_with fail
  refine wp_region_held_drew (S := (fun X => Below w1.heap.size w1 X)) (by kernel_rfl) (((by repeat (first | exact Below.refl _ _ | assumption | apply below_dr | apply below_dn | apply below_al)) : Below w1.heap.size w1 _)) (fun hHeld => ?_)
  try simp only [Act.put, List.setIfInBounds_toArray, List.set_cons_zero, List.set_cons_succ]
  refine wpAnyH_take (i := 0) (v := ?_) (by simp only [List.getElem?_toArray, List.getElem?_cons_succ, List.getElem?_cons_zero]; rfl) (by kernel_rfl) (by kernel_rfl) (by kernel_rfl) (by exact fun _ _ _ h => h) (Or.inl ⟨by rfl, ?_⟩) (by assumption) ?_
  rotate_left
  · intro w hSw; (try dsimp only at hSw); go_simp; try with_reducible rfl
  try simp only [Act.put, List.setIfInBounds_toArray, List.set_cons_zero, List.set_cons_succ]
  refine wpAnyH_take (i := 1) (v := ?_) (by simp only [List.getElem?_toArray, List.getElem?_cons_succ, List.getElem?_cons_zero]; rfl) (by kernel_rfl) (by kernel_rfl) (by kernel_rfl) (by exact fun _ _ _ h => h) (Or.inl ⟨by rfl, ?_⟩) (by assumption) ?_
  rotate_left
  · intro w hSw; (try dsimp only at hSw); go_simp; try with_reducible rfl
  try simp only [Act.put, List.setIfInBounds_toArray, List.set_cons_zero, List.set_cons_succ]
  refine wpAnyH_take (i := 3) (v := ?_) (by simp only [List.getElem?_toArray, List.getElem?_cons_succ, List.getElem?_cons_zero]; rfl) (by kernel_rfl) (by kernel_rfl) (by kernel_rfl) (by exact fun _ _ _ h => h) (Or.inl ⟨by rfl, ?_⟩) (by assumption) ?_
  rotate_left
  · intro w hSw; (try dsimp only at hSw); go_simp; try with_reducible rfl
  try simp only [Act.put, List.setIfInBounds_toArray, List.set_cons_zero, List.set_cons_succ]
  refine wpAnyH_take (i := 4) (v := ?_) (by simp only [List.getElem?_toArray, List.getElem?_cons_succ, List.getElem?_cons_zero]; rfl) (by kernel_rfl) (by kernel_rfl) (by kernel_rfl) (by exact fun _ _ _ h => h) (Or.inl ⟨by rfl, ?_⟩) (by assumption) ?_
  rotate_left
  · intro w hSw; (try dsimp only at hSw); go_simp; try with_reducible rfl
  try simp only [Act.put, List.setIfInBounds_toArray, List.set_cons_zero, List.set_cons_succ]
  refine wpAnyH_ready (rs := [2]) (by kernel_rfl) (by simp) ?_
  refine AllReadyH.cons (by simp only [List.getElem?_toArray, List.getElem?_cons_succ, List.getElem?_cons_zero]; rfl) (fun K hK => ?_) AllReadyH.nil
  go_simp
  refine (HL.out _ (HTW.out.below (by repeat (first | exact Below.refl _ _ | assumption | apply below_dr | apply below_dn | apply below_al)))).mono ?_; rintro x w5 ⟨rfl, hb5⟩; have hz5 : Below w1.heap.size w1 w5 := bl (by repeat (first | exact Below.refl _ _ | assumption | apply below_dr | apply below_dn | apply below_al)) hb5
  try go_simp
  refine hK.out _ _ (((by repeat (first | exact Below.refl _ _ | assumption | apply below_dr | apply below_dn | apply below_al)) : Below w1.heap.size w1 _)) (fun hHeld => ?_)
  clear hK K
  try simp only [Act.put, List.setIfInBounds_toArray, List.set_cons_zero, List.set_cons_succ]
  refine wpAnyH_ready (rs := [5]) (by kernel_rfl) (by simp) ?_
  refine AllReadyH.cons (by simp only [List.getElem?_toArray, List.getElem?_cons_succ, List.getElem?_cons_zero]; rfl) (fun K hK => ?_) AllReadyH.nil
  go_simp
  refine (HR.out _ (HTW.out.below (by repeat (first | exact Below.refl _ _ | assumption | apply below_dr | apply below_dn | apply below_al)))).mono ?_; rintro x w6 ⟨rfl, hb6⟩; have hz6 : Below w1.heap.size w1 w6 := bl (by repeat (first | exact Below.refl _ _ | assumption | apply below_dr | apply below_dn | apply below_al)) hb6
  try go_simp
  refine hK.out _ _ (((by repeat (first | exact Below.refl _ _ | assumption | apply below_dr | apply below_dn | apply below_al)) : Below w1.heap.size w1 _)) (fun hHeld => ?_)
  clear hK K
  try simp only [Act.put, List.setIfInBounds_toArray, List.set_cons_zero, List.set_cons_succ]
  refine wpAnyH_take (i := 6) (v := ?_) (by simp only [List.getElem?_toArray, List.getElem?_cons_succ, List.getElem?_cons_zero]; rfl) (by kernel_rfl) (by kernel_rfl) (by kernel_rfl) (by exact fun _ _ _ h => h) (Or.inl ⟨by rfl, ?_⟩) (by assumption) ?_
  rotate_left
  · intro w hSw; (try dsimp only at hSw); go_simp; try with_reducible rfl
  try simp only [Act.put, List.setIfInBounds_toArray, List.set_cons_zero, List.set_cons_succ]
  refine wpAnyH_ready (rs := [7]) (by kernel_rfl) (by simp) ?_
  refine AllReadyH.cons (by simp only [List.getElem?_toArray, List.getElem?_cons_succ, List.getElem?_cons_zero]; rfl) (fun K hK => ?_) AllReadyH.nil
  go_simp
  refine hK.out _ _ (((by repeat (first | exact Below.refl _ _ | assumption | apply below_dr | apply below_dn | apply below_al)) : Below w1.heap.size w1 _)) (fun hHeld => ?_)
  clear hK K
  try simp only [Act.put, List.setIfInBounds_toArray, List.set_cons_zero, List.set_cons_succ]
  refine wpAnyH_done (by kernel_rfl) ?_ _
  go_wp2_with fail
  go_ret
  exact ⟨rfl, bl HB.out (by repeat (first | exact Below.refl _ _ | assumption | apply below_dr | apply below_dn | apply below_al))⟩
theorem lines_any (sk who xk : Int) (xkey xval : ByteArray) (keep torn part err rerr : Int) (val : ByteArray) (yes : Bool) (rn : Int) (en : Bool) (w : World) (htab : Tab w) (hwho : -9223372036854775808 ≤ who ∧ who ≤ 9223372036854775807) (hrn : -9223372036854775808 ≤ rn ∧ rn ≤ 9223372036854775807) : Calls Tryd.prog 3 #[.agg #[.int .i64 sk, .int .i64 who, .int .i64 xk, .string xkey, .string xval, .int .u64 keep, .int .i64 torn, .int .i64 part], .agg #[.int .i64 err, .int .i64 rerr, .string val, .bool yes, .int .i64 rn, .bool en]] w fun x w' => x = .returned (.bool true) ∧ Below w.heap.size w w' := by
  by_cases h : 3000 < val.size
  · exact lines_long sk who xk xkey xval keep torn part err rerr val yes rn en w h
  · exact lines_short sk who xk xkey xval keep torn part err rerr val yes rn en w h htab hwho hrn
theorem i64_wf {n : Int} (h : (Lit.int .i64 n).wf = true) : -9223372036854775808 ≤ n ∧ n ≤ 9223372036854775807 := by
  have e0 : IntKind.i64.min = -9223372036854775808 := rfl
  have e1 : IntKind.i64.max = 9223372036854775807 := rfl
  simpa only [Lit.wf, Bool.and_eq_true, decide_eq_true_eq, e0, e1] using h
theorem lines_row (o0 : StepR) (o1 : AnswerR) (w : World) (h0 : o0.Ok) (h1 : o1.Ok) (htab : Tab w) : Calls Tryd.prog 3 #[.agg o0.cells.toArray, .agg o1.cells.toArray] w fun x w' => x = .returned (.bool true) ∧ Below w.heap.size w w' := by
  obtain ⟨-, k1, -⟩ := h0
  obtain ⟨-, -, -, k4⟩ := h1
  exact lines_any _ _ _ _ _ _ _ _ _ _ _ _ _ _ w htab (i64_wf k1) (i64_wf k4)
end Go.Proofs.YtpjgmcoimniheaaDoor.Sl
