/- A crash that keeps all is as a sync, one that keeps none as if nothing had been written; an image of whole pages is told by its pages. No program in sight. -/
import Derived.Test.YtpdhfnpnilpipaaDvQ
namespace Go.Proofs.Ytpdhfnpnilpipaa.Dv
open Go.RowKit

theorem kept_all (k : Nat) : kept 18446744073709551615 k = true := by
  have h : ∀ j : Fin 64, (18446744073709551615 / 2 ^ j.val % 2 == 1) = true := by decide +kernel
  exact h ⟨k % 64, Nat.mod_lt _ (by decide)⟩
theorem kept_none (k : Nat) : kept 0 k = false := by
  unfold kept
  rw [Nat.zero_div]; rfl
theorem patch_full {b old : ByteArray} (hb : b.size = 256) (ho : old.size = 256) : patch b 256 old = b := by
  unfold patch
  rw [ext_all (by omega)]
  apply ba_ext
  rw [ByteArray.data_append, Array.toList_append, Lib.extract_data, List.drop_of_length_le (by rw [← size_data]; omega)]; simp
theorem dCrash_all (part : Int) (Q : List (Nat × ByteArray)) : ∀ (k : Nat) (P : List ByteArray), (∀ s ∈ P, s.size = 256) → (∀ q ∈ Q, q.1 < P.length ∧ q.2.size = 256) → dCrash 18446744073709551615 (-1) part k P Q = dSync P Q := by
  induction Q with
  | nil => intro k P _ _; rfl
  | cons q Q ih =>
    intro k P hP hQ
    obtain ⟨hq1, hq2⟩ := hQ q (by simp)
    have hold : (P.getD q.1 ByteArray.empty).size = 256 := by
      rw [List.getD_eq_getElem?_getD, List.getElem?_eq_getElem hq1]
      exact hP _ (List.getElem_mem hq1)
    have hup : upto (-1) part k = 256 := by unfold upto; rw [if_neg (by omega)]
    have hlay : dLay 18446744073709551615 (-1) part k P q = P.set q.1 q.2 := by
      unfold dLay
      rw [kept_all, if_pos rfl, hup, patch_full hq2 hold]
    rw [dCrash, hlay, dSync]
    refine ih (k + 1) (P.set q.1 q.2) (fun s hs => ?_) (fun r hr => ?_)
    · rcases List.mem_or_eq_of_mem_set hs with h | h
      · exact hP s h
      · rw [h]; exact hq2
    · rw [List.length_set]; exact hQ r (by simp [hr])
theorem dCrash_no (torn part : Int) (Q : List (Nat × ByteArray)) : ∀ (k : Nat) (P : List ByteArray), dCrash 0 torn part k P Q = P := by
  induction Q with
  | nil => intro k P; rfl
  | cons q Q ih =>
    intro k P
    have hlay : dLay 0 torn part k P q = P := by unfold dLay; rw [kept_none]; rfl
    rw [dCrash, hlay, ih]
theorem img_take (s : ByteArray) (n : Nat) (h : n * 256 ≤ s.size) : joinP ((List.range n).map (imgPage s)) = s.extract 0 (n * 256) := by
  induction n with
  | zero => apply ba_ext; rw [Lib.extract_data, Nat.zero_mul, Nat.sub_zero, List.take_zero]; rfl
  | succ n ih =>
    rw [List.range_succ, List.map_append, List.map_cons, List.map_nil, joinP_snoc, ih (Nat.le_trans (Nat.mul_le_mul_right 256 (Nat.le_succ n)) h)]
    have hn : n * 256 + 256 ≤ s.size := by rw [Nat.succ_mul] at h; exact h
    clear h
    have e1 : imgPage s n = s.extract (n * 256) (n * 256 + 256) := by
      unfold imgPage
      rw [ext_size, Nat.min_eq_left (by omega), show n * 256 + 256 - n * 256 = 256 from by omega]
      apply ba_ext
      rw [ByteArray.data_append, Array.toList_append, Lib.extract_data zeroPage]; simp
    rw [e1]
    apply ba_ext
    rw [ByteArray.data_append, Array.toList_append, Lib.extract_data, Lib.extract_data, Lib.extract_data]
    simp only [List.drop_zero, Nat.sub_zero]
    rw [show n * 256 + 256 - n * 256 = 256 from by omega, show (n + 1) * 256 = n * 256 + 256 from by omega, List.take_add]
theorem img_whole (s : ByteArray) (n : Nat) (h : s.size = n * 256) : joinP (imgPages s) = s := by
  unfold imgPages
  have e : imgLen s = n := by unfold imgLen; omega
  rw [e, img_take s n (by omega), ← h, ext_all (Nat.le_refl _)]
end Go.Proofs.Ytpdhfnpnilpipaa.Dv
