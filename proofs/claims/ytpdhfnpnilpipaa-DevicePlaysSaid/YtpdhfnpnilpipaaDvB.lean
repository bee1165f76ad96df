/- The page and the byte that a call of a script names: the last three bits of one number, the last eight of another. -/
import Derived.Test.YtpdhfnpnilpipaaDvT
import Derived.Laws.Bits64b
namespace Go.Proofs.Ytpdhfnpnilpipaa.Dv
open Go.RowKit

def j7 (x : Int) : Nat := (x % 8).toNat
def c8 (x : Int) : Nat := (x % 256).toNat
theorem j7_lt (x : Int) : j7 x < 8 := by unfold j7; omega
theorem c8_lt (x : Int) : c8 x < 256 := by unfold c8; omega
theorem and_seven (x : Int) : bits BinOp.and IntKind.i64 x 7 = (j7 x : Int) := by
  have h1 : (BitVec.ofInt 64 x).toNat = (x % 18446744073709551616).toNat := by
    rw [BitVec.toNat_ofInt]
    rfl
  have h2 : (BitVec.ofInt 64 (7 : Int)).toNat = 7 := by decide
  have h3 : (x % 18446744073709551616).toNat &&& 7 = (x % 18446744073709551616).toNat % 8 := Nat.and_two_pow_sub_one_eq_mod _ 3
  show IntKind.i64.wrap ((BitVec.ofInt 64 x &&& BitVec.ofInt 64 7).toNat : Int) = _
  rw [BitVec.toNat_and, h1, h2, h3, IntKind.wrap_i64]
  unfold j7
  omega
theorem wrap_byte (x : Int) : IntKind.u8.wrap x = (c8 x : Int) := by
  rw [IntKind.wrap_u8]
  unfold c8
  omega
theorem u64_nat {n : Int} (h : (Lit.int .u64 n).wf = true) : ∃ m : Nat, n = (m : Int) ∧ m < 18446744073709551616 := by
  have e0 : IntKind.u64.min = 0 := rfl
  have e1 : IntKind.u64.max = 18446744073709551615 := rfl
  simp only [Lit.wf, Bool.and_eq_true, decide_eq_true_eq, e0, e1] at h
  exact ⟨n.toNat, by omega, by omega⟩
end Go.Proofs.Ytpdhfnpnilpipaa.Dv
