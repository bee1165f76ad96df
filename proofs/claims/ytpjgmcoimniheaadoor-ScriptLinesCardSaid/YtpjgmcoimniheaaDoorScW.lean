/- law21's awake, by a walk. -/
import Derived.Test.YtpjgmcoimniheaaDoorScG
namespace Go.Proofs.YtpjgmcoimniheaaDoor.Sc
open Go.RowKit Go.Proofs.YtpjgmcoimniheaaDoor.By Go.Proofs.YtpjgmcoimniheaaDoor.Mt
set_option linter.unusedSimpArgs false
set_option linter.unusedVariables false

set_option maxRecDepth 100000 in
set_option maxHeartbeats 2000000 in
theorem awake_any (w : World) : Calls Tryd.prog 4 #[] w fun x w' => x = .returned (.bool true) ∧ Below w.heap.size w w' := by
  have hbl := new_block w (.cells #[.int .u8 4, .int .u8 2, .int .u8 9, .int .u8 5, .int .u8 3] 5 (0, 0))
  have H1 := decode_small w.heap.size 0 5 [4, 2, 9, 5, 3] (w.alloc (.cells #[.int .u8 4, .int .u8 2, .int .u8 9, .int .u8 5, .int .u8 3] 5 (0, 0))) (by decide) (by decide) (by unfold maxLen; decide) (by
    intro j x hj
    rw [Nat.zero_add, cell_at hbl]
    match j, hj with
    | 0, hj => obtain rfl : 4 = x := by simpa using hj
               rfl
    | 1, hj => obtain rfl : 2 = x := by simpa using hj
               rfl
    | 2, hj => obtain rfl : 9 = x := by simpa using hj
               rfl
    | 3, hj => obtain rfl : 5 = x := by simpa using hj
               rfl
    | 4, hj => obtain rfl : 3 = x := by simpa using hj
               rfl
    | n + 5, hj => simp at hj) (by decide) (by rw [World.size_alloc]; omega)
  have hdec : decA ([4, 2, 9, 5, 3] : List Nat).tail = [⟨2, 1, 0, [], [], 0, 0, 0⟩, ⟨5, 3, 0, [], [], 0, 0, 0⟩] := rfl
  have H1 := Lib.hid H1
  have HD := Lib.hid hdec
  clear hdec hbl
  go_enter Tryd.func4, Tryd.ntmps4
  go_wp2_with fail
  refine H1.out.mono ?_
  rintro x w1 ⟨A, c, rfl, hst, hb⟩
  rw [HD.out] at hst ⊢
  obtain ⟨g, rfl, hc⟩ := hst 0 _ rfl
  obtain ⟨g', hgg, hc'⟩ := hst 1 _ rfl
  injection hgg with hgg
  injection hgg with hgg _ _
  subst hgg
  have e0 : w1.cell? ⟨g, 0, none⟩ = some (.int .i64 2) := hc 0 _ rfl
  have e1 : w1.cell? ⟨g, 1, none⟩ = some (.int .i64 1) := hc 1 _ rfl
  have e9 : w1.cell? ⟨g, 9, none⟩ = some (.int .i64 3) := hc' 1 _ rfl
  have HB := Lib.hid (sbox_below hb)
  clear hst hc hc' hb
  go_wp2_with fail
  go_ret
  exact ⟨rfl, HB.out⟩
end Go.Proofs.YtpjgmcoimniheaaDoor.Sc
