/- The law ChainSizes by a walk: whatever the input it returns true and leaves all old memory as it was. -/
import Derived.Test.YtpdhfnpnilpipaaChL
import Derived.Deep.QuietTactic
import Derived.BigQuiet
namespace Go.Proofs.Ytpdhfnpnilpipaa.Ch
open Go.RowKit Go.Proofs.Ytpdhfnpnilpipaa.PChainCuts Go.Proofs.YtpdhfnpnilpipaaW.PrintWords Go.Proofs.YtpdhfnpnilpipaaW.PrintLast

section
variable (a b : ByteArray) (w : World)
set_option maxHeartbeats 400000 in
theorem sizes_big (h : 5000 < a.size ∨ 5000 < b.size) : Calls Try.prog 3 #[.string a, .string b] w (TrueBelow w) := by
  by_cases h0 : 5000 < a.size
  · have h1 : decide (5000 < a.size) = true := decide_eq_true h0
    clear h
    go_enter Try.func3, Try.ntmps3
    go_wp2_with fail
    refine (awake_any _).mono ?_
    rintro e w1 ⟨rfl, hb1⟩
    go_wp2_with fail
    refine (awake_any _).mono ?_
    rintro e w2 ⟨rfl, hb2⟩
    have hbb := bl hb1 hb2
    go_wp2
    go_ret
    exact ⟨rfl, hbb⟩
  · have h1 : decide (5000 < a.size) = false := decide_eq_false (by omega)
    have h2 : decide (5000 < b.size) = true := decide_eq_true (by omega)
    have h1i : decide ((5000 : Int) < (a.size : Int)) = false := decide_eq_false (by omega)
    have h2i : decide ((5000 : Int) < (b.size : Int)) = true := decide_eq_true (by omega)
    clear h
    go_enter Try.func3, Try.ntmps3
    go_wp2_with fail
    refine (awake_any _).mono ?_
    rintro e w1 ⟨rfl, hb1⟩
    go_wp2_with fail
    refine (awake_any _).mono ?_
    rintro e w2 ⟨rfl, hb2⟩
    have hbb := bl hb1 hb2
    go_wp2
    go_ret
    exact ⟨rfl, hbb⟩
set_option maxHeartbeats 800000 in
theorem sizes_small (n : Nat) (h1 : a.size ≤ 5000) (h2 : b.size ≤ 5000) (hn : n ≤ a.size) (hn2 : n ≤ b.size) (hmin : min (a.size : Int) (b.size : Int) = n) : Calls Try.prog 3 #[.string a, .string b] w (TrueBelow w) := by
  have h3 : decide (5000 < a.size) = false := decide_eq_false (by omega)
  have h4 : decide (5000 < b.size) = false := decide_eq_false (by omega)
  have h3i : decide ((5000 : Int) < (a.size : Int)) = false := decide_eq_false (by omega)
  have h4i : decide ((5000 : Int) < (b.size : Int)) = false := decide_eq_false (by omega)
  go_enter Try.func3, Try.ntmps3
  go_wp2_with fail
  refine (awake_any _).mono ?_
  rintro e w1 ⟨rfl, hb1⟩
  go_wp2_with fail
  have tok : True := trivial
  go_region_held3 (fun _ => True) (trivial) (first
    | (go_at_call 14; clear tok; refine (cut_any _ _).mono ?_; rintro e w2 ⟨A2, c2, rfl, hc2, hC2, hb2⟩)
    | (go_at_call 14; refine (cut_any _ _).mono ?_; rintro e w3 ⟨A3, c3, rfl, hc3, hC3, hb3⟩))
  have hs1 : (a.extract 0 n).size = n := by rw [ext_size]; omega
  have hs2 : (b.extract 0 n).size = n := by rw [ext_size]; omega
  obtain ⟨hlen, hat⟩ := cut_alike (s := a.extract 0 n) (t := b.extract 0 n) (by omega)
  have hsum := sumTo_le (a.extract 0 n)
  have hall := @sum_all (a.extract 0 n)
  have h2c := cut_two (a.extract 0 n)
  generalize a.extract 0 n = x at *
  generalize b.extract 0 n = y at *
  have t1 : (((cutOf x).length : Int) != ((cutOf y).length : Int)) = false := by rw [hlen]; simp
  rw [hs1] at hall
  clear hs2 h1 h2 h3 h4 h3i h4i hmin hn hn2
  have HL := Lib.hid hlen
  have HA := Lib.hid hat
  have HS := Lib.hid hall
  clear hlen hat hall hs1
  have hC2' := Kd.C_below hC2 hb3
  have hbb : Below w.heap.size w w3 := bl (bl hb1 (below_drew (Below.refl w1.heap.size w1))) (bl hb2 hb3)
  have HB := Lib.hid hbb
  clear hbb
  go_wp2_with fail
  go_loopw [8, 43] (fun s i wr => ∃ k : Nat, k ≤ (cutOf x).length ∧ i = .int .i64 k ∧ s = .int .i64 (sumTo (cutOf x) k) ∧ ∃ q, wr = w3.drewN q) (fun _ i _ => (cutOf x).length - (intOf i).toNat)
  case atStart => exact ⟨0, Nat.zero_le _, rfl, rfl, 0, rfl⟩
  case round =>
    obtain ⟨k, hk, rfl, rfl, q, rfl⟩ := hrel
    by_cases hlt : k < (cutOf x).length
    · obtain ⟨p, p', hp, hp', hpp⟩ := HA.out k hlt
      obtain ⟨b1, o1, rfl, hcell1, _⟩ := strs_at hC2' (by omega)
      obtain ⟨b2, o2, rfl, hcell2, _⟩ := strs_at hC3 (by have := HL.out; omega)
      have hc1 := hcell1 k p hp
      have hc2 := hcell2 k p' hp'
      have hl2 : k < (cutOf y).length := by have := HL.out; omega
      have hnext := sumTo_next (cutOf x) k p hp
      have hle := hsum (k + 1)
      have hle0 := hsum k
      have HN := Lib.hid hnext
      have hpq : sumTo (cutOf x) k + p.size ≤ 400 := by omega
      have t2 : ((p.size : Int) != (p'.size : Int)) = false := by rw [hpp]; simp
      have hi1 : (k : Int) < ((cutOf x).length : Int) := by omega
      have hi2 : (k : Int) < ((cutOf y).length : Int) := by omega
      clear hcell1 hcell2 hp hp' hnext hle hpp hsum
      go_wp2_with fail
      go_quiet (fail)
      go_wp2
      go_roundw
      case rel => exact ⟨k + 1, by omega, by go_num, by rw [HN.out]; go_num, _, rfl⟩
      case measure => simp [intOf]; omega
    · by_cases h0 : (cutOf x).length = 0
      · have t3 : (((cutOf x).length : Int) == 0) = true := by rw [h0]; rfl
        clear h0
        go_wp2
        go_ret
        exact ⟨rfl, pw_below_drewN HB.out q⟩
      · have t3 : (((cutOf x).length : Int) == 0) = false := by rw [beq_eq_false_iff_ne]; omega
        have hkl : k = (cutOf x).length := by omega
        have hs := HS.out h0
        rw [← hkl] at hs
        clear h0 hkl
        rw [hs]
        clear hs hsum
        go_wp2
        go_ret
        exact ⟨rfl, pw_below_drewN HB.out q⟩
theorem sizes_any : Calls Try.prog 3 #[.string a, .string b] w (TrueBelow w) := by
  by_cases h : 5000 < a.size ∨ 5000 < b.size
  · exact sizes_big a b w h
  · exact sizes_small a b w (min a.size b.size) (by omega) (by omega) (by omega) (by omega) (by omega)
end
end Go.Proofs.Ytpdhfnpnilpipaa.Ch
