/- slices.SortFunc over at most two meta pages; meta.Newest, by walks. -/
import Derived.Test.YtpgpphmpnebafaaGreatMsA
namespace Go.Proofs.YtpgpphmpnebafaaGreat.Mt
open Go.RowKit Go.Proofs.YtpgpphmpnebafaaGreat.By
set_option linter.unusedSimpArgs false
set_option linter.unusedVariables false
set_option maxRecDepth 100000

set_option maxRecDepth 100000 in
set_option maxHeartbeats 1000000 in
theorem pdq_any (A : Option Addr) (n c : Nat) (l : Int) (f : Value) (R : World → Prop) (w : World) (hn : n ≤ 2)
    (HI : Calls Tryz.prog 138 #[.slice A n c, .int .i64 0, .int .i64 (n : Int), f] w fun x w' => x = .returned (.tuple #[]) ∧ R w') :
    Calls Tryz.prog 116 #[.slice A n c, .int .i64 0, .int .i64 (n : Int), .int .i64 l, f] w fun x w' => x = .returned (.tuple #[]) ∧ R w' := by
  have H := Lib.hid HI
  clear HI
  have t1 : decide ((n : Int) ≤ 12) = true := decide_eq_true (by omega)
  have t2 : decide (n ≤ 12) = true := decide_eq_true (by omega)
  have hw : IntKind.i64.wrap (n : Int) = (n : Int) := IntWalk.i64_in _ (by omega)
  go_enter Tryz.func116, Tryz.ntmps116
  go_wp2_with fail
  refine wp_loop_rounds 1 ?_
  rw [rounds_succ]
  go_wp2_with fail
  refine H.out.mono ?_
  rintro x w1 ⟨rfl, hr⟩
  have HR := Lib.hid hr
  clear hr
  go_wp2_with fail
  first
  | exact bodyPost_ret (v := .tuple #[]) (by simp [results, Tryz.f116, go_sem]) rfl ⟨rfl, HR⟩
  | (go_ret; exact ⟨rfl, HR⟩)
set_option maxRecDepth 100000 in
set_option maxHeartbeats 1000000 in
theorem sort_any (A : Option Addr) (n c : Nat) (f : Value) (R : World → Prop) (w : World) (hn : n ≤ 2)
    (HI : Calls Tryz.prog 138 #[.slice A n c, .int .i64 0, .int .i64 (n : Int), f] w fun x w' => x = .returned (.tuple #[]) ∧ R w') :
    Calls Tryz.prog 77 #[.slice A n c, f] w fun x w' => x = .returned (.tuple #[]) ∧ R w' := by
  have H := Lib.hid (fun l => pdq_any A n c l f R w hn HI)
  have HL := Lib.hid (Tryz.bits_Len (n : Int) w (by omega) (by omega))
  clear HI
  go_enter Tryz.func77, Tryz.ntmps77
  go_wp2_with fail
  refine HL.out.mono ?_
  rintro x w1 ⟨rfl, hw1⟩
  obtain rfl : w1 = w := hw1
  go_wp2_with fail
  refine (H.out _).mono ?_
  rintro x w2 ⟨rfl, hr⟩
  have HR := Lib.hid hr
  clear hr
  go_wp2_with fail
  go_end0
  exact ⟨rfl, HR⟩
end Go.Proofs.YtpgpphmpnebafaaGreat.Mt
