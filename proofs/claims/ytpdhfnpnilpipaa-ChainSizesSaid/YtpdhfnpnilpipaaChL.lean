/- The laws ChainCuts, ChainBack, ChainPieces by walks: whatever the input they return true and leave all old memory as it was. -/
import Derived.Test.YtpdhfnpnilpipaaChW
namespace Go.Proofs.Ytpdhfnpnilpipaa.Ch
open Go.RowKit Go.Proofs.Ytpdhfnpnilpipaa.PChainCuts Go.Proofs.YtpdhfnpnilpipaaW.PrintWords Go.Proofs.YtpdhfnpnilpipaaW.PrintLast

theorem ret_bool {a b : Bool} (h : a = b) : Ending.returned (.bool a) = Ending.returned (.bool b) := by rw [h]
def TrueBelow (w : World) (e : Ending) (w' : World) : Prop := e = .returned (.bool true) ∧ Below w.heap.size w w'
section
variable (v : ByteArray) (A : Option Addr) (c : Nat) (xs : List ByteArray) (size : Int) (w : World) (hr : Kd.C Kd.string w A xs.length xs) (hc : xs.length ≤ c)
set_option maxHeartbeats 400000 in
theorem cuts_big (h : 5000 < v.size) : Calls Try.prog 4 #[.string v, .slice A xs.length c, .int .i64 size] w (TrueBelow w) := by
  have h1 : decide (5000 < v.size) = true := decide_eq_true h
  go_enter Try.func4, Try.ntmps4
  go_wp2_with fail
  refine (awake_any _).mono ?_
  rintro e w1 ⟨rfl, hb1⟩
  go_wp2_with fail
  refine (awake_any _).mono ?_
  rintro e w2 ⟨rfl, hb2⟩
  have hbb := bl hb1 hb2
  go_wp2
  go_ret
  exact ⟨rfl, hbb⟩
include hr hc
set_option maxHeartbeats 400000 in
theorem cuts_many (h : v.size ≤ 5000) (hf : fewB xs = false) : Calls Try.prog 4 #[.string v, .slice A xs.length c, .int .i64 size] w (TrueBelow w) := by
  have h1 : decide (5000 < v.size) = false := decide_eq_false (by omega)
  have HF := Lib.hid hf
  clear hf
  go_enter Try.func4, Try.ntmps4
  go_wp2_with fail
  refine (awake_any _).mono ?_
  rintro e w1 ⟨rfl, hb1⟩
  go_wp2_with fail
  refine (few_any A c xs _ (Kd.C_below hr hb1) hc).mono ?_
  rintro e w2 ⟨rfl, hb2⟩
  rw [HF.out]
  go_wp2_with fail
  refine (awake_any _).mono ?_
  rintro e w3 ⟨rfl, hb3⟩
  have hbb := bl (bl hb1 hb2) hb3
  go_wp2
  go_ret
  exact ⟨rfl, hbb⟩
set_option maxHeartbeats 400000 in
theorem cuts_few (h : v.size ≤ 5000) (hf : fewB xs = true) : Calls Try.prog 4 #[.string v, .slice A xs.length c, .int .i64 size] w (TrueBelow w) := by
  have h1 : decide (5000 < v.size) = false := decide_eq_false (by omega)
  have hj := (few_join hf).1
  have HF := Lib.hid hf
  clear hf
  go_enter Try.func4, Try.ntmps4
  go_wp2_with fail
  refine (awake_any _).mono ?_
  rintro e w1 ⟨rfl, hb1⟩
  have hr1 := Kd.C_below hr hb1
  go_wp2_with fail
  refine (few_any A c xs _ hr1 hc).mono ?_
  rintro e w2 ⟨rfl, hb2⟩
  have hr2 := Kd.C_below hr1 hb2
  rw [HF.out]
  go_wp2_with fail
  refine (join_any A c xs size _ hr2 hc (by omega)).mono ?_
  rintro e w3 ⟨rfl, hb3⟩
  have hr3 := Kd.C_below hr2 hb3
  go_wp2_with fail
  refine (refjoin_any A c xs _ hr3 hc size (by omega)).mono ?_
  rintro e w4 ⟨rfl, hb4⟩
  go_wp2_with fail
  refine (cut_any v _).mono ?_
  rintro e w5 ⟨A5, c5, rfl, hc5, hC5, hb5⟩
  go_wp2_with fail
  refine (refcut_any v _).mono ?_
  rintro e w6 ⟨A6, c6, rfl, hc6, hC6, hb6⟩
  go_wp2_with fail
  refine (same_any A5 c5 _ _ (Kd.C_below hC5 hb6) hc5 A6 c6 _ hC6 hc6).mono ?_
  rintro e w7 ⟨rfl, hb7⟩
  rw [decide_eq_true (rfl : cutOf v = cutOf v)]
  go_wp2_with fail
  refine (pages_any v _).mono ?_
  rintro e w8 ⟨rfl, hb8⟩
  go_wp2_with fail
  refine (refcut_any v _).mono ?_
  rintro e w9 ⟨A9, c9, rfl, hc9, hC9, hb9⟩
  have hbb := bl (bl (bl (bl hb1 hb2) (bl hb3 hb4)) (bl (bl hb5 hb6) (bl hb7 hb8))) hb9
  go_wp2
  go_ret
  exact ⟨rfl, hbb⟩
theorem cuts_any : Calls Try.prog 4 #[.string v, .slice A xs.length c, .int .i64 size] w (TrueBelow w) := by
  by_cases h : 5000 < v.size
  · exact cuts_big v A c xs size w h
  · cases hf : fewB xs with
    | false => exact cuts_many v A c xs size w hr hc (by omega) hf
    | true => exact cuts_few v A c xs size w hr hc (by omega) hf
end
section
variable (v : ByteArray) (size : Int) (w : World)
set_option maxHeartbeats 400000 in
theorem back_big (h : 5000 < v.size) : Calls Try.prog 5 #[.string v, .int .i64 size] w (TrueBelow w) := by
  have h1 : decide (5000 < v.size) = true := decide_eq_true h
  go_enter Try.func5, Try.ntmps5
  go_wp2_with fail
  refine (awake_any _).mono ?_
  rintro e w1 ⟨rfl, hb1⟩
  go_wp2_with fail
  refine (awake_any _).mono ?_
  rintro e w2 ⟨rfl, hb2⟩
  have hbb := bl hb1 hb2
  go_wp2
  go_ret
  exact ⟨rfl, hbb⟩
set_option maxHeartbeats 400000 in
theorem back_none (h : v.size ≤ 5000) (h0 : (cutOf v).length = 0) : Calls Try.prog 5 #[.string v, .int .i64 size] w (TrueBelow w) := by
  have h1 : decide (5000 < v.size) = false := decide_eq_false (by omega)
  have h2 := cut_none h0
  have HN := Lib.hid h0
  clear h0
  rcases h2 with h2 | h2
  all_goals
    go_enter Try.func5, Try.ntmps5
    go_wp2_with fail
    refine (awake_any _).mono ?_
    rintro e w1 ⟨rfl, hb1⟩
    go_wp2_with fail
    refine (cut_any v _).mono ?_
    rintro e w2 ⟨A2, c2, rfl, hc2, hC2, hb2⟩
    rw [HN.out]
    go_wp2_with fail
    refine (pages_any v _).mono ?_
    rintro e w3 ⟨rfl, hb3⟩
    rw [HN.out]
    have hbb := bl (bl hb1 hb2) hb3
    go_wp2
    go_ret
    refine ⟨ret_bool ?_, hbb⟩
    simp
    try omega
set_option maxHeartbeats 800000 in
theorem back_some (h : v.size ≤ 5000) (h0 : (cutOf v).length ≠ 0) : Calls Try.prog 5 #[.string v, .int .i64 size] w (TrueBelow w) := by
  have h1 : decide (5000 < v.size) = false := decide_eq_false (by omega)
  have h2 := cut_two v
  have hb := Lib.hid (back_same h0)
  have hf := Lib.hid (back_fewer h0)
  have ho := Lib.hid (back_other h0 size)
  have hj := cut_join h0
  have hlen : (joinAll (cutOf v)).size ≤ 140737488355328 := by rw [hj]; omega
  have hlen2 : (joinAll ((cutOf v).take ((cutOf v).length - 1))).size ≤ 140737488355328 := by
    rw [join_size] at hlen ⊢
    have : ((cutOf v).map ByteArray.size).sum = (((cutOf v).take ((cutOf v).length - 1)).map ByteArray.size).sum + (((cutOf v).drop ((cutOf v).length - 1)).map ByteArray.size).sum := by
      rw [← List.sum_append_nat, ← List.map_append, List.take_append_drop]
    omega
  clear hj
  have htl : ((cutOf v).take ((cutOf v).length - 1)).length = (cutOf v).length - 1 := by rw [List.length_take]; omega
  have HT := Lib.hid htl
  clear htl
  have hp : 0 < (cutOf v).length := by omega
  obtain ⟨m, hm⟩ : ∃ m, (cutOf v).length = m + 1 := ⟨(cutOf v).length - 1, by omega⟩
  have HM := Lib.hid hm
  have hm1 : m ≤ 1 := by omega
  clear h0 h2 hp hm
  go_enter Try.func5, Try.ntmps5
  go_wp2_with fail
  refine (awake_any _).mono ?_
  rintro e w1 ⟨rfl, hb1⟩
  go_wp2_with fail
  refine (cut_any v _).mono ?_
  rintro e w2 ⟨A2, c2, rfl, hc2, hC2, hb2⟩
  rw [HM.out]
  go_wp2_with fail
  refine (pages_any v _).mono ?_
  rintro e w3 ⟨rfl, hb3⟩
  rw [HM.out]
  have hC3 := Kd.C_below hC2 hb3
  go_wp2_with fail
  rw [← HM.out]
  refine (join_any A2 c2 (cutOf v) _ _ hC3 hc2 hlen).mono ?_
  rintro e w4 ⟨rfl, hb4⟩
  rw [hb.out, HM.out]
  have hC4 := Kd.C_below hC3 hb4
  rw [HM.out] at hc2
  go_wp2_with fail
  have hC4' := Kd.C_take (m := m) hC4 (by rw [HM.out]; omega)
  have e1 : (cutOf v).length - 1 = m := by rw [HM.out]; omega
  have e2 : ((cutOf v).take m).length = m := by rw [← e1, HT.out]
  rw [e1] at hlen2 hf
  have J := join_any A2 c2 ((cutOf v).take m) v.size w4 hC4' (by rw [e2]; omega) hlen2
  rw [e2] at J
  refine J.mono ?_
  rintro e w5 ⟨rfl, hb5⟩
  rw [hf.out]
  have hC5 := Kd.C_below hC4 hb5
  go_wp2_with fail
  rw [← HM.out]
  refine (join_any A2 c2 (cutOf v) _ _ hC5 (by rw [HM.out]; omega) hlen).mono ?_
  rintro e w6 ⟨rfl, hb6⟩
  have ho2 := ho.out
  generalize joinOf (cutOf v) size = q at *
  have HO := Lib.hid ho2
  clear ho2 ho
  have hbb := bl (bl (bl hb1 hb2) (bl hb3 hb4)) (bl hb5 hb6)
  go_wp2
  go_ret
  refine ⟨ret_bool ?_, hbb⟩
  have := HO.out
  simp [this]
theorem back_any : Calls Try.prog 5 #[.string v, .int .i64 size] w (TrueBelow w) := by
  by_cases h : 5000 < v.size
  · exact back_big v size w h
  · by_cases h0 : (cutOf v).length = 0
    · exact back_none v size w (by omega) h0
    · exact back_some v size w (by omega) h0
end
end Go.Proofs.Ytpdhfnpnilpipaa.Ch
