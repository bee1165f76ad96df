/- The laws ChainPieces and ChainSizes by walks: whatever the input they return true and leave all old memory as it was. -/
import Derived.Test.YtpdhfnpnilpipaaChL
namespace Go.Proofs.Ytpdhfnpnilpipaa.Ch
open Go.RowKit Go.Proofs.Ytpdhfnpnilpipaa.PChainCuts Go.Proofs.YtpdhfnpnilpipaaW.PrintWords Go.Proofs.YtpdhfnpnilpipaaW.PrintLast

section
variable (v : ByteArray) (A : Option Addr) (c : Nat) (xs : List ByteArray) (size : Int) (w : World) (hr : Kd.C Kd.string w A xs.length xs) (hc : xs.length ≤ c)
set_option maxHeartbeats 400000 in
theorem pieces_big (h : 5000 < v.size) : Calls Try.prog 6 #[.string v, .slice A xs.length c, .int .i64 size] w (TrueBelow w) := by
  have h1 : decide (5000 < v.size) = true := decide_eq_true h
  go_enter Try.func6, Try.ntmps6
  go_wp2_with fail
  refine (awake_any _).mono ?_
  rintro e w1 ⟨rfl, hb1⟩
  go_wp2_with fail
  refine (awake_any _).mono ?_
  rintro e w2 ⟨rfl, hb2⟩
  have hbb := bl hb1 hb2
  go_wp2
  go_ret
  exact ⟨rfl, hbb⟩
include hr hc
set_option maxHeartbeats 400000 in
theorem pieces_many (h : v.size ≤ 5000) (hf : fewB xs = false) : Calls Try.prog 6 #[.string v, .slice A xs.length c, .int .i64 size] w (TrueBelow w) := by
  have h1 : decide (5000 < v.size) = false := decide_eq_false (by omega)
  have HF := Lib.hid hf
  clear hf
  go_enter Try.func6, Try.ntmps6
  go_wp2_with fail
  refine (awake_any _).mono ?_
  rintro e w1 ⟨rfl, hb1⟩
  go_wp2_with fail
  refine (few_any A c xs _ (Kd.C_below hr hb1) hc).mono ?_
  rintro e w2 ⟨rfl, hb2⟩
  rw [HF.out]
  go_wp2_with fail
  refine (awake_any _).mono ?_
  rintro e w3 ⟨rfl, hb3⟩
  have hbb := bl (bl hb1 hb2) hb3
  go_wp2
  go_ret
  exact ⟨rfl, hbb⟩
set_option maxHeartbeats 800000 in
theorem pieces_few (h : v.size ≤ 5000) (hf : fewB xs = true) : Calls Try.prog 6 #[.string v, .slice A xs.length c, .int .i64 size] w (TrueBelow w) := by
  have h1 : decide (5000 < v.size) = false := decide_eq_false (by omega)
  have hj := (few_join hf).1
  have HF := Lib.hid hf
  have h2 := cut_two v
  clear hf
  go_enter Try.func6, Try.ntmps6
  go_wp2_with fail
  refine (awake_any _).mono ?_
  rintro e w1 ⟨rfl, hb1⟩
  have hr1 := Kd.C_below hr hb1
  go_wp2_with fail
  refine (few_any A c xs _ hr1 hc).mono ?_
  rintro e w2 ⟨rfl, hb2⟩
  have hr2 := Kd.C_below hr1 hb2
  rw [HF.out]
  go_wp2_with fail
  refine (cut_any v _).mono ?_
  rintro e w3 ⟨A3, c3, rfl, hc3, hC3, hb3⟩
  have hr3 := Kd.C_below hr2 hb3
  go_wp2_with fail
  go_loop [28] (fun i => ∃ k : Nat, k ≤ (cutOf v).length ∧ i = .int .i64 k) (fun i => (cutOf v).length - (intOf i).toNat)
  case atStart => exact ⟨0, Nat.zero_le _, rfl⟩
  case round =>
    obtain ⟨k, hk, rfl⟩ := hrel
    by_cases hlt : k < (cutOf v).length
    · obtain ⟨x, hx, hx1, hx2, hx3⟩ := piece_facts v k hlt
      obtain ⟨b, o, rfl, hcell, hb⟩ := strs_at hC3 (by omega)
      have hce := hcell k x hx
      have HX := Lib.hid hx
      clear hx hcell
      by_cases hl2 : k + 1 < (cutOf v).length
      · have hx4 := hx3 hl2
        have t1 : decide ((k : Int) < ((cutOf v).length : Int) - 1) = true := decide_eq_true (by omega)
        have t2 : ((x.size : Int) != 240) = false := by rw [bne_eq_false_iff_eq]; omega
        clear hx3
        have HX4 := Lib.hid hx4
        clear hx4
        go_wp2
        go_round
        case rel => exact ⟨k + 1, by omega, by go_num⟩
        case measure => simp [intOf]; omega
      · have t1 : decide ((k : Int) < ((cutOf v).length : Int) - 1) = false := decide_eq_false (by omega)
        clear hx3
        go_wp2
        go_round
        case rel => exact ⟨k + 1, by omega, by go_num⟩
        case measure => simp [intOf]; omega
    · go_wp2_with fail
      refine (join_any A c xs size _ hr3 hc (by omega)).mono ?_
      rintro e w4 ⟨rfl, hb4⟩
      have hr4 := Kd.C_below hr3 hb4
      rcases joinOf_cases xs size with ⟨hq, hs, hcut⟩ | hq | hq
      · rw [hq]
        have HQ := Lib.hid hq
        have HS := Lib.hid hs
        have HC := Lib.hid hcut
        clear hq hcut
        have t3 : (((joinAll xs).size : Int) == size) = true := by rw [hs]; simp
        clear hs
        go_wp2_with fail
        refine (cut_any (joinAll xs) _).mono ?_
        rintro e w5 ⟨A5, c5, rfl, hc5, hC5, hb5⟩
        go_wp2_with fail
        refine (same_any A5 c5 _ _ hC5 hc5 A c xs (Kd.C_below hr4 hb5) hc).mono ?_
        rintro e w6 ⟨rfl, hb6⟩
        rw [decide_eq_true HC.out]
        have hbb := bl (bl (bl hb1 hb2) (bl hb3 hb4)) (bl hb5 hb6)
        go_wp2
        go_ret
        exact ⟨rfl, hbb⟩
      all_goals
        rw [hq]
        have HQ := Lib.hid hq
        clear hq
        have hbb := bl (bl hb1 hb2) (bl hb3 hb4)
        go_wp2
        go_ret
        exact ⟨rfl, hbb⟩
theorem pieces_any : Calls Try.prog 6 #[.string v, .slice A xs.length c, .int .i64 size] w (TrueBelow w) := by
  by_cases h : 5000 < v.size
  · exact pieces_big v A c xs size w h
  · cases hf : fewB xs with
    | false => exact pieces_many v A c xs size w hr hc (by omega) hf
    | true => exact pieces_few v A c xs size w hr hc (by omega) hf
end
end Go.Proofs.Ytpdhfnpnilpipaa.Ch
