/- A check of thirty-two bits: bit by bit, half a byte at a time, and what it cannot miss. No program in sight. -/
import Derived.WalkKit
import Derived.Lib.Strings
namespace Go.Proofs.YtpgpphmpnebafaaGreat.Mt
open Go.RowKit

abbrev B32 := BitVec 32
def poly : B32 := 0x04c11db7#32
/-- One bit. -/
def b1 (v : B32) : B32 := (v <<< 1) ^^^ (if v.msb then poly else 0#32)
theorem b1_xor (a b : B32) : b1 (a ^^^ b) = b1 a ^^^ b1 b := by
  unfold b1
  rw [BitVec.msb_xor, BitVec.shiftLeft_xor_distrib]
  have e : ∀ x y : Bool, (if (x ^^ y) = true then poly else 0#32) = (if x = true then poly else 0#32) ^^^ (if y = true then poly else 0#32) := by decide
  rw [e]
  ac_rfl
def b4 (v : B32) : B32 := b1 (b1 (b1 (b1 v)))
theorem b4_xor (a b : B32) : b4 (a ^^^ b) = b4 a ^^^ b4 b := by unfold b4; simp only [b1_xor]
theorem b1_low (v : B32) (h : v.toNat < 2147483648) : (b1 v).toNat = v.toNat * 2 := by
  have hm : v.msb = false := by rw [BitVec.msb_eq_decide]; simp; omega
  unfold b1
  rw [hm]
  simp [BitVec.toNat_shiftLeft, Nat.shiftLeft_eq]
  omega
theorem b4_low (v : B32) (h : v.toNat < 268435456) : (b4 v).toNat = v.toNat * 16 := by
  have h1 := b1_low v (by omega)
  have h2 := b1_low (b1 v) (by omega)
  have h3 := b1_low (b1 (b1 v)) (by omega)
  have h4 := b1_low (b1 (b1 (b1 v))) (by omega)
  unfold b4
  omega
/-- What half a byte does. -/
def halfN (j : Nat) : Nat := [0x00000000, 0x04c11db7, 0x09823b6e, 0x0d4326d9, 0x130476dc, 0x17c56b6b, 0x1a864db2, 0x1e475005, 0x2608edb8, 0x22c9f00f, 0x2f8ad6d6, 0x2b4bcb61, 0x350c9b64, 0x31cd86d3, 0x3c8ea00a, 0x384fbdbd].getD j 0
theorem halfN_lt (j : Nat) : halfN j < 4294967296 := by
  by_cases h : j < 16
  · have : ∀ j : Fin 16, halfN j.val < 4294967296 := by decide
    exact this ⟨j, h⟩
  · unfold halfN
    rw [List.getD_eq_getElem?_getD, List.getElem?_eq_none (by simp; omega)]; decide
theorem b4_high (j : Fin 16) : (b4 (BitVec.ofNat 32 (j.val * 268435456))).toNat = halfN j.val := by revert j; decide
theorem split_nib (v : B32) : v = BitVec.ofNat 32 (v.toNat / 268435456 * 268435456) ^^^ BitVec.ofNat 32 (v.toNat % 268435456) := by
  have hv := v.isLt
  have hd : v.toNat / 268435456 * 268435456 < 4294967296 := by omega
  apply BitVec.eq_of_toNat_eq
  rw [BitVec.toNat_xor, BitVec.toNat_ofNat, BitVec.toNat_ofNat, Nat.mod_eq_of_lt (show v.toNat / 268435456 * 268435456 < 2 ^ 32 by omega), Nat.mod_eq_of_lt (show v.toNat % 268435456 < 2 ^ 32 by omega)]
  have h := Nat.two_pow_add_eq_or_of_lt (i := 28) (b := v.toNat % 268435456) (by omega) (v.toNat / 268435456)
  have h2 : 2 ^ 28 * (v.toNat / 268435456) ^^^ v.toNat % 268435456 = 2 ^ 28 * (v.toNat / 268435456) ||| v.toNat % 268435456 := by
    apply Nat.eq_of_testBit_eq
    intro i
    rw [Nat.testBit_xor, Nat.testBit_or, Nat.testBit_two_pow_mul]
    by_cases hi : 28 ≤ i
    · rw [Nat.testBit_lt_two_pow (x := v.toNat % 268435456) (i := i) (Nat.lt_of_lt_of_le (show v.toNat % 268435456 < 2 ^ 28 by omega) (Nat.pow_le_pow_right (by decide) hi))]
      simp
    · simp [hi]
  rw [show v.toNat / 268435456 * 268435456 = 2 ^ 28 * (v.toNat / 268435456) from by omega, h2, ← h]
  omega
theorem b4_nib (v : B32) : (b4 v).toNat = (v.toNat * 16 % 4294967296) ^^^ halfN (v.toNat / 268435456) := by
  have hv := v.isLt
  have hs := split_nib v
  have h1 := b4_high ⟨v.toNat / 268435456, by omega⟩
  have h2 := b4_low (BitVec.ofNat 32 (v.toNat % 268435456)) (by rw [BitVec.toNat_ofNat]; omega)
  rw [BitVec.toNat_ofNat, Nat.mod_eq_of_lt (show v.toNat % 268435456 < 2 ^ 32 by omega)] at h2
  have h3 : b4 v = b4 (BitVec.ofNat 32 (v.toNat / 268435456 * 268435456)) ^^^ b4 (BitVec.ofNat 32 (v.toNat % 268435456)) := by rw [← b4_xor, ← hs]
  rw [h3, BitVec.toNat_xor, h1, h2, Nat.xor_comm]
  congr 1
  omega
/-- One byte. -/
def byteStep (v : B32) (c : Nat) : B32 := b4 (b4 (v ^^^ BitVec.ofNat 32 (c * 16777216)))
def crc (v : B32) (l : List Nat) : B32 := l.foldl byteStep v
theorem crc_snoc (v : B32) (l : List Nat) (c : Nat) : crc v (l ++ [c]) = byteStep (crc v l) c := by unfold crc; rw [List.foldl_append]; rfl
theorem crc_append (v : B32) (l m : List Nat) : crc v (l ++ m) = crc (crc v l) m := by unfold crc; rw [List.foldl_append]
/-- The two steps of half a byte. -/
def nib1 (n c : Nat) : Nat := (n * 16 % 4294967296) ^^^ halfN ((n / 268435456) ^^^ (c / 16))
def nib2 (n c : Nat) : Nat := (n * 16 % 4294967296) ^^^ halfN ((n / 268435456) ^^^ (c % 16))
theorem xor_high (n j : Nat) (hn : n < 4294967296) (hj : j < 16) : (n ^^^ j * 268435456) / 268435456 = (n / 268435456) ^^^ j ∧ (n ^^^ j * 268435456) * 16 % 4294967296 = n * 16 % 4294967296 := by
  have hlt : n ^^^ j * 268435456 < 4294967296 := Nat.xor_lt_two_pow (n := 32) (by omega) (by omega)
  constructor
  · have h := Nat.xor_div_two_pow (a := n) (b := j * 268435456) (n := 28)
    rw [show (2 : Nat) ^ 28 = 268435456 from rfl] at h
    rw [h, Nat.mul_div_cancel j (by decide)]
  · have h := Nat.xor_mod_two_pow (a := n) (b := j * 268435456) (n := 28)
    rw [show (2 : Nat) ^ 28 = 268435456 from rfl, Nat.mul_mod_left, Nat.xor_zero] at h
    omega
theorem nib_xor (v : B32) (j : Nat) (hj : j < 16) : (b4 (v ^^^ BitVec.ofNat 32 (j * 268435456))).toNat = (v.toNat * 16 % 4294967296) ^^^ halfN ((v.toNat / 268435456) ^^^ j) := by
  obtain ⟨h1, h2⟩ := xor_high v.toNat j v.isLt hj
  rw [b4_nib, BitVec.toNat_xor, BitVec.toNat_ofNat, Nat.mod_eq_of_lt (show j * 268435456 < 2 ^ 32 by omega), h1, h2]
theorem nib_step (v : B32) (c : Nat) (hc : c < 256) : nib2 (nib1 v.toNat c) c = (byteStep v c).toNat := by
  have e : BitVec.ofNat 32 (c * 16777216) = BitVec.ofNat 32 (c / 16 * 268435456) ^^^ BitVec.ofNat 32 (c % 16 * 16777216) := by
    have := split_nib (BitVec.ofNat 32 (c * 16777216))
    rw [BitVec.toNat_ofNat, Nat.mod_eq_of_lt (show c * 16777216 < 2 ^ 32 by omega)] at this
    rw [this, show c * 16777216 / 268435456 = c / 16 from by omega, show c * 16777216 % 268435456 = c % 16 * 16777216 from by omega]
  have h1 := nib_xor v (c / 16) (by omega)
  unfold byteStep
  rw [e, ← BitVec.xor_assoc, b4_xor]
  have hlow : b4 (BitVec.ofNat 32 (c % 16 * 16777216)) = BitVec.ofNat 32 (c % 16 * 268435456) := by
    apply BitVec.eq_of_toNat_eq
    rw [b4_low _ (by rw [BitVec.toNat_ofNat]; omega), BitVec.toNat_ofNat, BitVec.toNat_ofNat]
    omega
  rw [hlow, nib_xor _ (c % 16) (by omega), h1]
  rfl
theorem nib1_lt (n c : Nat) : nib1 n c < 4294967296 := Nat.xor_lt_two_pow (n := 32) (by omega) (halfN_lt _)
theorem nib2_lt (n c : Nat) : nib2 n c < 4294967296 := Nat.xor_lt_two_pow (n := 32) (by omega) (halfN_lt _)
theorem nib_lt (n c : Nat) (hn : n < 4294967296) (hc : c < 256) : (n / 268435456) ^^^ (c / 16) < 16 ∧ (n / 268435456) ^^^ (c % 16) < 16 := ⟨Nat.xor_lt_two_pow (n := 4) (by omega) (by omega), Nat.xor_lt_two_pow (n := 4) (by omega) (by omega)⟩
/-- One bit, as a number. -/
theorem b1_nat (v : B32) : (b1 v).toNat = if 4294967295 < v.toNat * 2 then (v.toNat * 2 - 4294967296) ^^^ 79764919 else v.toNat * 2 := by
  have hv := v.isLt
  by_cases h : 4294967295 < v.toNat * 2
  · have hm : v.msb = true := by rw [BitVec.msb_eq_decide]; simp; omega
    unfold b1
    rw [hm, if_pos h]
    simp only [if_true, BitVec.toNat_xor, BitVec.toNat_shiftLeft, Nat.shiftLeft_eq]
    rw [show v.toNat * 2 ^ 1 % 2 ^ 32 = v.toNat * 2 - 4294967296 from by omega]; rfl
  · rw [if_neg h, b1_low v (by omega)]
theorem b1_inj {a b : B32} (h : b1 a = b1 b) : a = b := by
  have ha := a.isLt
  have hb := b.isLt
  have hx : b1 (a ^^^ b) = 0#32 := by rw [b1_xor, h, BitVec.xor_self]
  have hz : ∀ d : B32, b1 d = 0#32 → d = 0#32 := by
    intro d hd
    have hd2 := d.isLt
    have hn := b1_nat d
    rw [hd] at hn
    apply BitVec.eq_of_toNat_eq
    rw [show (0#32 : B32).toNat = 0 from rfl] at hn ⊢
    by_cases h : 4294967295 < d.toNat * 2
    · rw [if_pos h] at hn
      have h1 := congrArg (· % 2) hn
      have h2 := Nat.xor_mod_two_pow (a := d.toNat * 2 - 4294967296) (b := 79764919) (n := 1)
      have h3 : (d.toNat * 2 - 4294967296) % 2 ^ 1 = 0 := by omega
      rw [h3] at h2
      have h4 : (0 ^^^ 79764919 % 2 ^ 1 : Nat) = 1 := by decide
      rw [h4] at h2
      have h5 : 0 % 2 = ((d.toNat * 2 - 4294967296) ^^^ 79764919) % 2 := h1
      omega
    · rw [if_neg h] at hn
      omega
  have := hz _ hx
  exact BitVec.xor_eq_zero_iff.1 this
theorem b4_inj {a b : B32} (h : b4 a = b4 b) : a = b := b1_inj (b1_inj (b1_inj (b1_inj h)))
theorem step_inj {a b : B32} {c : Nat} (h : byteStep a c = byteStep b c) : a = b := by
  have h1 := b4_inj (b4_inj h)
  exact (BitVec.xor_left_inj _).1 h1
theorem crc_inj (l : List Nat) : ∀ {a b : B32}, crc a l = crc b l → a = b := by
  induction l with
  | nil => intro a b h; exact h
  | cons c l ih => intro a b h; exact step_inj (ih h)
theorem nat_xor_zero {a b : Nat} (h : a ^^^ b = 0) : a = b := by
  apply Nat.eq_of_testBit_eq
  intro i
  have h1 : (a ^^^ b).testBit i = false := by rw [h]; exact Nat.zero_testBit i
  rw [Nat.testBit_xor] at h1
  revert h1
  cases a.testBit i <;> cases b.testBit i <;> simp
theorem byte_alone (d : Fin 256) (h : (b4 (b4 (BitVec.ofNat 32 (d.val * 16777216)))).toNat % 16777216 = 0) : d.val = 0 := by
  revert d; decide +kernel
/-- Of one state on, two bytes are told by the check. -/
theorem two_told (v : B32) (a1 a2 c1 c2 : Nat) (l : List Nat) (ha1 : a1 < 256) (ha2 : a2 < 256) (hc1 : c1 < 256) (hc2 : c2 < 256) (h : crc v (a1 :: a2 :: l) = crc v (c1 :: c2 :: l)) : a1 = c1 ∧ a2 = c2 := by
  have h1 : byteStep (byteStep v a1) a2 = byteStep (byteStep v c1) c2 := crc_inj l h
  have h2 := b4_inj (b4_inj h1)
  have hxn : ∀ x y : Nat, x < 256 → y < 256 → BitVec.ofNat 32 (x * 16777216) ^^^ BitVec.ofNat 32 (y * 16777216) = BitVec.ofNat 32 ((x ^^^ y) * 16777216) := by
    intro x y hx hy
    have hxy : x ^^^ y < 256 := Nat.xor_lt_two_pow (n := 8) hx hy
    apply BitVec.eq_of_toNat_eq
    rw [BitVec.toNat_xor, BitVec.toNat_ofNat, BitVec.toNat_ofNat, BitVec.toNat_ofNat, Nat.mod_eq_of_lt (by omega), Nat.mod_eq_of_lt (by omega), Nat.mod_eq_of_lt (by omega)]
    have := Nat.shiftLeft_xor_distrib (a := x) (b := y) (i := 24)
    simp only [Nat.shiftLeft_eq] at this
    exact this.symm
  have h3 : byteStep v a1 ^^^ byteStep v c1 = BitVec.ofNat 32 ((a2 ^^^ c2) * 16777216) := by
    rw [← hxn a2 c2 ha2 hc2]
    calc byteStep v a1 ^^^ byteStep v c1 = (byteStep v a1 ^^^ BitVec.ofNat 32 (a2 * 16777216)) ^^^ (byteStep v c1 ^^^ BitVec.ofNat 32 (a2 * 16777216)) := by
          rw [BitVec.xor_assoc, BitVec.xor_comm (byteStep v c1), ← BitVec.xor_assoc (BitVec.ofNat 32 (a2 * 16777216)), BitVec.xor_self, BitVec.zero_xor]
      _ = (byteStep v c1 ^^^ BitVec.ofNat 32 (c2 * 16777216)) ^^^ (byteStep v c1 ^^^ BitVec.ofNat 32 (a2 * 16777216)) := by rw [h2]
      _ = BitVec.ofNat 32 (a2 * 16777216) ^^^ BitVec.ofNat 32 (c2 * 16777216) := by
          rw [BitVec.xor_comm (byteStep v c1) (BitVec.ofNat 32 (c2 * 16777216)), BitVec.xor_assoc, ← BitVec.xor_assoc (byteStep v c1), BitVec.xor_self, BitVec.zero_xor, BitVec.xor_comm]
  have h4 : byteStep v a1 ^^^ byteStep v c1 = b4 (b4 (BitVec.ofNat 32 ((a1 ^^^ c1) * 16777216))) := by
    unfold byteStep
    rw [← b4_xor, ← b4_xor, ← hxn a1 c1 ha1 hc1]
    congr 2
    rw [BitVec.xor_assoc, BitVec.xor_comm v (BitVec.ofNat 32 (c1 * 16777216)), ← BitVec.xor_assoc (BitVec.ofNat 32 (a1 * 16777216)), BitVec.xor_comm (_ ^^^ _) v, ← BitVec.xor_assoc, BitVec.xor_self, BitVec.zero_xor]
  have hd1 : a1 ^^^ c1 < 256 := Nat.xor_lt_two_pow (n := 8) ha1 hc1
  have hd2 : a2 ^^^ c2 < 256 := Nat.xor_lt_two_pow (n := 8) ha2 hc2
  have h5 : (b4 (b4 (BitVec.ofNat 32 ((a1 ^^^ c1) * 16777216)))).toNat % 16777216 = (BitVec.ofNat 32 ((a2 ^^^ c2) * 16777216)).toNat % 16777216 := by rw [h4.symm.trans h3]
  rw [BitVec.toNat_ofNat, Nat.mod_eq_of_lt (show (a2 ^^^ c2) * 16777216 < 2 ^ 32 by omega), Nat.mul_mod_left] at h5
  have h6 := byte_alone ⟨a1 ^^^ c1, hd1⟩ h5
  have e1 : a1 = c1 := nat_xor_zero h6
  subst e1
  refine ⟨rfl, ?_⟩
  have h7 := congrArg BitVec.toNat ((BitVec.xor_right_inj _).1 h2)
  rw [BitVec.toNat_ofNat, BitVec.toNat_ofNat, Nat.mod_eq_of_lt (show a2 * 16777216 < 2 ^ 32 by omega), Nat.mod_eq_of_lt (show c2 * 16777216 < 2 ^ 32 by omega)] at h7
  omega
/-- The check of bytes. -/
def sumOf (l : List Nat) : Nat := 4294967295 - (crc (BitVec.ofNat 32 4294967295) l).toNat
theorem sumOf_lt (l : List Nat) : sumOf l < 4294967296 := by unfold sumOf; omega
theorem sumOf_inj {l m : List Nat} (h : sumOf l = sumOf m) : crc (BitVec.ofNat 32 4294967295) l = crc (BitVec.ofNat 32 4294967295) m := by
  apply BitVec.eq_of_toNat_eq
  have h1 := (crc (BitVec.ofNat 32 4294967295) l).isLt
  have h2 := (crc (BitVec.ofNat 32 4294967295) m).isLt
  unfold sumOf at h
  omega
end Go.Proofs.YtpgpphmpnebafaaGreat.Mt
