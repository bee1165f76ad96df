/- commit.Format, by a walk. -/
import Derived.Test.YtpgpphmpnebafaaGreatMsC
import Derived.Test.YtpgpphmpnebafaaGreatDvS
import Derived.Test.YtpgpphmpnebafaaGreatDvN
namespace Go.Proofs.YtpgpphmpnebafaaGreat.Fm
open Go.RowKit Go.Proofs.YtpgpphmpnebafaaGreat.By Go.Proofs.YtpgpphmpnebafaaGreat.Mt
set_option linter.unusedSimpArgs false
set_option linter.unusedVariables false
set_option maxRecDepth 100000

/-- The pages of a device that was just formatted. -/
def fmtP (n : Nat) : List ByteArray := Dv.dSync (List.replicate n Dv.zeroPage) [(1, enc 1 0)]
theorem fmtP_length (n : Nat) : (fmtP n).length = n := by unfold fmtP; rw [Dv.dSync_length, List.length_replicate]
theorem rd_dv {w : World} {A : Option Addr} {s : ByteArray} (h : RdB w A s) : Dv.RdB w A s := h
theorem dv_own {w : World} {base : Nat} {v : Value} {s : ByteArray} (h : Dv.OwnB w base v s) : OwnB w base v s := h
set_option maxHeartbeats 2000000 in
theorem format_ok (n : Nat) (w : World) (h2 : 2 ≤ n) (h512 : n ≤ 512) : Calls Tryz.prog 17 #[.int .i64 (n : Int)] w fun x w' => ∃ b, x = .returned (.tuple #[.pointer (some ⟨b, 0, none⟩), .int .i64 0]) ∧ Dv.Dev w' (fun k => w.heap.size ≤ k) b (fmtP n) [] ∧ Below w.heap.size w w' := by
  have t1 : decide ((n : Int) < 2) = false := decide_eq_false (by omega)
  have t2 : decide (n < 2) = false := decide_eq_false (by omega)
  have t3 : decide ((512 : Int) < (n : Int)) = false := decide_eq_false (by omega)
  have t4 : decide (512 < n) = false := decide_eq_false (by omega)
  have hcl : Dv.clamp (n : Int) = n := by unfold Dv.clamp; omega
  have HN := Lib.hid (fun X => Dv.new_any (n : Int) X)
  rw [hcl] at HN
  have HE : Hid (∀ X : World, Calls Tryz.prog 55 #[.agg #[.int .i64 1, .int .i64 0]] X fun x w' => ∃ v, x = .returned (.tuple #[v, .int .i64 0]) ∧ OwnB w' X.heap.size v (enc 1 0) ∧ Below X.heap.size X w') := Lib.hid (fun X => encode_ok 1 0 X rfl)
  have HS : Hid (∀ X : World, Calls Tryz.prog 46 #[.int .i64 1] X fun x w' => x = .returned (.int .i64 1) ∧ X = w') := Lib.hid (fun X => slot_any 1 X)
  have HL := Lib.hid (And.intro h2 h512)
  clear hcl h2 h512
  go_enter Tryz.func17, Tryz.ntmps17
  go_wp2_with fail
  refine (HN.out _).mono ?_
  rintro x w1 ⟨b, rfl, hd1, hb1⟩
  go_wp2_with fail
  refine (HE.out _).mono ?_
  rintro x w2 ⟨v, rfl, hv, hb2⟩
  obtain ⟨g, c, rfl⟩ := hv.shape (enc_size 1 0)
  have hd2 := hd1.below hb2
  have hW2 := bl hb1 hb2
  have hwr := Dv.write_ok hd2 1 (by rw [List.length_replicate]; exact HL.out.1) ⟨g, 0, none⟩ c (enc 1 0) (enc_size 1 0) (rd_dv hv.rds) (by simp)
  rw [enc_size] at hwr
  have HWR := Lib.hid hwr
  have HW2 := Lib.hid hW2
  clear hd1 hb1 hb2 hv hd2 hwr hW2
  go_wp2_with fail
  refine (HS.out _).mono ?_
  rintro x w9 ⟨rfl, rfl⟩
  go_wp2_with fail
  refine HWR.out.mono ?_
  rintro x w3 ⟨rfl, hd3, hc3⟩
  have hd3' : Dv.Dev w3 (fun k => w.heap.size ≤ k) b (List.replicate n Dv.zeroPage) [(1, enc 1 0)] := hd3.mono (fun k hk => by rcases hk with hk | hk; exact hk; have := HW2.out.size; omega)
  have HW3 := Lib.hid (hc3.below HW2.out (fun k hk => hk) HW2.out.size)
  have HSY := Lib.hid (Dv.sync_any hd3' (by simp))
  clear hd3 hc3 hd3' HWR
  go_wp2_with fail
  refine HSY.out.mono ?_
  rintro x w4 ⟨rfl, hd4, hc4⟩
  have HD4 := Lib.hid hd4
  have HW4 := Lib.hid (hc4.below HW3.out (fun k hk => hk) HW3.out.size)
  clear hd4 hc4
  go_wp2_with fail
  go_ret2
  exact ⟨b, rfl, HD4.out, HW4.out⟩
theorem format_bad (n : Int) (w : World) (h : n < 2 ∨ 512 < n) : Calls Tryz.prog 17 #[.int .i64 n] w fun x w' => x = .returned (.tuple #[.pointer none, .int .i64 1]) ∧ w = w' := by
  by_cases h2 : n < 2
  · have t1 : decide (n < 2) = true := decide_eq_true h2
    go_enter Tryz.func17, Tryz.ntmps17
    go_wp2_with fail
    go_ret2
    exact ⟨rfl, rfl⟩
  · have t1 : decide (n < 2) = false := decide_eq_false h2
    have t2 : decide (512 < n) = true := decide_eq_true (by omega)
    go_enter Tryz.func17, Tryz.ntmps17
    go_wp2_with fail
    go_ret2
    exact ⟨rfl, rfl⟩
end Go.Proofs.YtpgpphmpnebafaaGreat.Fm
