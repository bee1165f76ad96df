/- Bits of a page turned: plain facts; and a byte of one's own changed. -/
import Derived.Test.YtpjgmcoimniheaaMtX
namespace Go.Proofs.Ytpjgmcoimniheaa.Mt
open Go.RowKit Go.Proofs.Ytpjgmcoimniheaa.By
set_option linter.unusedSimpArgs false
set_option linter.unusedVariables false

def bitOf (l : List Nat) (q : Nat) : Bool := (l.getD (q / 8) 0).testBit (7 - q % 8)
/-- One bit turned. -/
def flip1 (l : List Nat) (p : Nat) : List Nat := l.set (p / 8) (l.getD (p / 8) 0 ^^^ (128 / 2 ^ (p % 8)))
theorem flip1_length (l : List Nat) (p : Nat) : (flip1 l p).length = l.length := by unfold flip1; rw [List.length_set]
theorem mask_lt (p : Nat) : 128 / 2 ^ (p % 8) < 256 := Nat.lt_of_le_of_lt (Nat.div_le_self _ _) (by decide)
theorem mask_bit (p i : Nat) (hi : i < 8) : (128 / 2 ^ (p % 8)).testBit (7 - i) = decide (p % 8 = i) := by
  have hp : p % 8 < 8 := Nat.mod_lt _ (by decide)
  have h : ∀ a b : Fin 8, (128 / 2 ^ a.val).testBit (7 - b.val) = decide (a.val = b.val) := by decide
  exact h ⟨p % 8, hp⟩ ⟨i, hi⟩
theorem flip1_lt {l : List Nat} (h : ∀ c ∈ l, c < 256) (p : Nat) : ∀ c ∈ flip1 l p, c < 256 := by
  intro c hc
  unfold flip1 at hc
  rcases List.mem_or_eq_of_mem_set hc with h1 | h1
  · exact h c h1
  · rw [h1]
    refine Nat.xor_lt_two_pow (n := 8) ?_ (mask_lt p)
    by_cases hp : p / 8 < l.length
    · rw [List.getD_eq_getElem?_getD, List.getElem?_eq_getElem hp]; exact h _ (List.getElem_mem hp)
    · rw [List.getD_eq_getElem?_getD, List.getElem?_eq_none (by omega)]; decide
theorem flip1_bit (l : List Nat) (p q : Nat) (hp : p / 8 < l.length) : bitOf (flip1 l p) q = (bitOf l q ^^ decide (p = q)) := by
  unfold bitOf flip1
  by_cases h : p / 8 = q / 8
  · rw [← h, List.getD_eq_getElem?_getD, List.getElem?_set_self hp]
    show (l.getD (p / 8) 0 ^^^ 128 / 2 ^ (p % 8)).testBit (7 - q % 8) = _
    rw [Nat.testBit_xor, mask_bit p (q % 8) (Nat.mod_lt _ (by decide))]
    congr 1
    have : (p % 8 = q % 8) ↔ p = q := by omega
    exact decide_eq_decide.2 this
  · rw [List.getD_eq_getElem?_getD, List.getElem?_set_ne h, ← List.getD_eq_getElem?_getD]
    rw [decide_eq_false (by intro e; exact h (by rw [e]))]
    simp
/-- The first j of thirty-two bits from k on are turned, those that t tells. -/
def flipTo (l : List Nat) (k t : Nat) : Nat → List Nat
  | 0 => l
  | j + 1 => if t.testBit (31 - j) then flip1 (flipTo l k t j) (k + j) else flipTo l k t j
theorem flipTo_length (l : List Nat) (k t j : Nat) : (flipTo l k t j).length = l.length := by
  induction j with
  | zero => rfl
  | succ j ih =>
    unfold flipTo
    split
    · rw [flip1_length, ih]
    · exact ih
theorem flipTo_lt {l : List Nat} (h : ∀ c ∈ l, c < 256) (k t j : Nat) : ∀ c ∈ flipTo l k t j, c < 256 := by
  induction j with
  | zero => exact h
  | succ j ih =>
    unfold flipTo
    split
    · exact flip1_lt ih _
    · exact ih
theorem flipTo_out (l : List Nat) (k t j i : Nat) (hj : j ≤ 32) (hi : i < k / 8 ∨ k / 8 + 4 < i) : (flipTo l k t j)[i]? = l[i]? := by
  induction j with
  | zero => rfl
  | succ j ih =>
    unfold flipTo
    split
    · unfold flip1
      rw [List.getElem?_set_ne (by omega)]
      exact ih (by omega)
    · exact ih (by omega)
theorem flipTo_bit (l : List Nat) (k t j q : Nat) (hl : l.length = 256) (hk : k ≤ 2016) (hj : j ≤ 32) : bitOf (flipTo l k t j) q = (bitOf l q ^^ (decide (k ≤ q ∧ q < k + j) && t.testBit (31 - (q - k)))) := by
  induction j with
  | zero =>
    rw [decide_eq_false (by omega)]
    simp [flipTo]
  | succ j ih =>
    have ih := ih (by omega)
    have hlen : (k + j) / 8 < (flipTo l k t j).length := by rw [flipTo_length, hl]; omega
    unfold flipTo
    by_cases hq : q = k + j
    · subst hq
      have h1 : decide (k ≤ k + j ∧ k + j < k + j) = false := decide_eq_false (by omega)
      have h2 : decide (k ≤ k + j ∧ k + j < k + (j + 1)) = true := decide_eq_true (by omega)
      rw [h1] at ih
      rw [h2, show k + j - k = j from by omega]
      cases ht : t.testBit (31 - j) with
      | true => rw [if_pos rfl, flip1_bit _ _ _ hlen, ih]; simp
      | false => rw [if_neg (by decide), ih]; simp
    · have h1 : decide (k ≤ q ∧ q < k + (j + 1)) = decide (k ≤ q ∧ q < k + j) := decide_eq_decide.2 (by omega)
      rw [h1]
      cases ht : t.testBit (31 - j) with
      | true =>
        rw [if_pos rfl, flip1_bit _ _ _ hlen, ih, decide_eq_false (show ¬ k + j = q by omega)]; simp
      | false => rw [if_neg (by decide), ih]
theorem flipTo_ne (l : List Nat) (k t : Nat) (hl : l.length = 256) (hk : k ≤ 2016) (ht : t < 4294967296) (h0 : t ≠ 0) : flipTo l k t 32 ≠ l := by
  obtain ⟨b, hb⟩ := Nat.exists_testBit_of_ne_zero h0
  have hb32 : b < 32 := by
    rcases Nat.lt_or_ge b 32 with h | h
    · exact h
    · rw [Nat.testBit_lt_two_pow (Nat.lt_of_lt_of_le ht (Nat.pow_le_pow_right (n := 2) (by decide) h))] at hb; cases hb
  intro he
  have h1 := flipTo_bit l k t 32 (k + (31 - b)) hl hk (Nat.le_refl _)
  rw [he, decide_eq_true (show k ≤ k + (31 - b) ∧ k + (31 - b) < k + 32 by omega), show 31 - (k + (31 - b) - k) = b from by omega, hb] at h1
  revert h1
  cases bitOf l (k + (31 - b)) <;> simp
/-- A byte changed in bytes of one's own. -/
theorem own_set {w : World} {base g n c : Nat} {L : List Nat} (h : OwnB w base (.slice (some ⟨g, 0, none⟩) n c) (ofNats L)) (hL : ∀ c ∈ L, c < 256) (i b : Nat) (hi : i < L.length) (hb : b < 256) : OwnB (w.setCell ⟨g, i, none⟩ (.int .u8 (b : Int))) base (.slice (some ⟨g, 0, none⟩) n c) (ofNats (L.set i b)) := by
  obtain ⟨g', c', cur, e, h1, h2, h3, h4, h5, h6⟩ := h
  injection e with e1 e2 e3
  injection e1 with e1
  injection e1 with e1
  subst e1 e3
  have hs : (ofNats (L.set i b)).size = (ofNats L).size := by rw [ofNats_size, ofNats_size, List.length_set]
  have hL2 : ∀ c ∈ L.set i b, c < 256 := by
    intro d hd
    rcases List.mem_or_eq_of_mem_set hd with h | h
    · exact hL d h
    · rw [h]; exact hb
  refine ⟨g, c, _, by rw [hs, ← e2], h1, by rw [hs]; exact h2, h3, heap_setCell_self w g i _ _ _ h4, by rw [Array.size_setIfInBounds]; exact h5, ?_⟩
  rw [hs, Array.toList_setIfInBounds, cells_ofNats _ hL2, List.map_set, ← cells_ofNats _ hL, ← h6, List.take_set]
theorem own_byte {w : World} {base g n c : Nat} {L : List Nat} (h : OwnB w base (.slice (some ⟨g, 0, none⟩) n c) (ofNats L)) (hL : ∀ c ∈ L, c < 256) (i : Nat) (hi : i < L.length) : w.cell? ⟨g, i, none⟩ = some (.int .u8 ((L.getD i 0 : Nat) : Int)) ∧ w.frozen? ⟨g, i, none⟩ = false := by
  obtain ⟨g', c', cur, e, h1, h2, h3, h4, h5, h6⟩ := h
  injection e with e1 e2 e3
  injection e1 with e1
  injection e1 with e1
  subst e1 e3
  refine ⟨?_, frozen_at h4 i⟩
  rw [cell_at h4, ← Array.getElem?_toList]
  have hj : (Lib.strCells (ofNats L))[i]? = some (.int .u8 ((L.getD i 0 : Nat) : Int)) := by
    rw [cells_ofNats _ hL, List.getElem?_map, List.getD_eq_getElem?_getD, List.getElem?_eq_getElem hi]; rfl
  rw [← h6, List.getElem?_take, if_pos (by rw [ofNats_size]; exact hi)] at hj
  exact hj
theorem xor_u8 (a b : Nat) (ha : a < 256) (hb : b < 256) : bits BinOp.xor IntKind.u8 (a : Int) (b : Int) = ((a ^^^ b : Nat) : Int) := by
  have h1 : (BitVec.ofInt 8 (a : Int)).toNat = a := by rw [BitVec.toNat_ofInt]; omega
  have h2 : (BitVec.ofInt 8 (b : Int)).toNat = b := by rw [BitVec.toNat_ofInt]; omega
  have h3 : a ^^^ b < 256 := Nat.xor_lt_two_pow (n := 8) ha hb
  show IntKind.u8.wrap ((BitVec.ofInt 8 (a : Int) ^^^ BitVec.ofInt 8 (b : Int)).toNat : Int) = _
  rw [BitVec.toNat_xor, h1, h2, IntKind.wrap_u8]
  omega
theorem and_one_u32 (a : Nat) (ha : a < 4294967296) : bits BinOp.and IntKind.u32 (a : Int) 1 = ((a % 2 : Nat) : Int) := by
  have h1 : (BitVec.ofInt 32 (a : Int)).toNat = a := by rw [BitVec.toNat_ofInt]; omega
  have h2 : (BitVec.ofInt 32 (1 : Int)).toNat = 1 := by decide
  have h3 : a &&& 1 = a % 2 := Nat.and_two_pow_sub_one_eq_mod _ 1
  show IntKind.u32.wrap ((BitVec.ofInt 32 (a : Int) &&& BitVec.ofInt 32 1).toNat : Int) = _
  rw [BitVec.toNat_and, h1, h2, h3, IntKind.wrap_u32]
  omega
theorem u64_nat' {n : Int} (h : (Lit.int .u64 n).wf = true) : ∃ m : Nat, n = (m : Int) ∧ m < 18446744073709551616 := u64_nat h
theorem u32_nat {n : Int} (h : (Lit.int .u32 n).wf = true) : ∃ m : Nat, n = (m : Int) ∧ m < 4294967296 := by
  have e0 : IntKind.u32.min = 0 := rfl
  have e1 : IntKind.u32.max = 4294967295 := rfl
  simp only [Lit.wf, Bool.and_eq_true, decide_eq_true_eq, e0, e1] at h
  exact ⟨n.toNat, by omega, by omega⟩
end Go.Proofs.Ytpjgmcoimniheaa.Mt
