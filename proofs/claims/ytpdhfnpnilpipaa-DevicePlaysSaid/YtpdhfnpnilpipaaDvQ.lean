/- The writes that a script's calls make, and what a crash leaves of the pages that they do not name. No program in sight. -/
import Derived.Test.YtpdhfnpnilpipaaDvB
namespace Go.Proofs.Ytpdhfnpnilpipaa.Dv
open Go.RowKit

/-- What a call writes: on page f and the last three bits of its number, full of its byte; nothing if it is no write. -/
def opW (f : Nat) (o : OpR) : List (Nat × ByteArray) := if o.kind = 1 then [(f + j7 o.i, fullPage (c8 o.n))] else []
def opsW (f : Nat) (l : List OpR) : List (Nat × ByteArray) := l.flatMap (opW f)
theorem opsW_snoc (f : Nat) (l : List OpR) (o : OpR) : opsW f (l ++ [o]) = opsW f l ++ opW f o := by unfold opsW; rw [List.flatMap_append]; simp
theorem opsW_length (f : Nat) (l : List OpR) : (opsW f l).length ≤ l.length := by
  induction l with
  | nil => exact Nat.le_refl _
  | cons o l ih =>
    show (opW f o ++ opsW f l).length ≤ l.length + 1
    rw [List.length_append]
    have : (opW f o).length ≤ 1 := by unfold opW; split <;> simp
    omega
theorem opsW_high (f : Nat) (l : List OpR) : ∀ q ∈ opsW f l, f ≤ q.1 := by
  intro q hq
  obtain ⟨o, _, h⟩ := List.mem_flatMap.1 hq
  unfold opW at h
  split at h
  · rw [List.mem_singleton.1 h]; exact Nat.le_add_right _ _
  · simp at h
theorem dCrash_take (keep : Nat) (torn part : Int) (n : Nat) (Q : List (Nat × ByteArray)) : ∀ (k : Nat) (P : List ByteArray), (∀ q ∈ Q, n ≤ q.1) → (dCrash keep torn part k P Q).take n = P.take n := by
  induction Q with
  | nil => intro k P _; rfl
  | cons q Q ih =>
    intro k P h
    rw [dCrash, ih _ _ (fun r hr => h r (by simp [hr]))]
    unfold dLay
    split
    · rw [List.take_set_of_le (h q (by simp))]
    · rfl
theorem joinP_append (l m : List ByteArray) : joinP (l ++ m) = joinP l ++ joinP m := by
  apply ba_ext
  rw [joinP_data, ByteArray.data_append, Array.toList_append, joinP_data, joinP_data]; simp
/-- The first n pages' bytes. -/
theorem joinP_first (l : List ByteArray) (n : Nat) (hl : n ≤ l.length) (h : ∀ s ∈ l, s.size = 256) : (joinP l).extract 0 (n * 256) = joinP (l.take n) := by
  have e : joinP l = joinP (l.take n) ++ joinP (l.drop n) := by rw [← joinP_append, List.take_append_drop]
  have hs : (joinP (l.take n)).size = n * 256 := by
    rw [joinP_size (n := 256) (fun s hs => h s (List.mem_of_mem_take hs)), List.length_take, Nat.min_eq_left hl]
  apply ba_ext
  rw [Lib.extract_data, List.drop_zero, e, ByteArray.data_append, Array.toList_append, Nat.sub_zero, List.take_append_of_le_length (by rw [← size_data, hs]; exact Nat.le_refl _), List.take_of_length_le (by rw [← size_data, hs]; exact Nat.le_refl _)]
end Go.Proofs.Ytpdhfnpnilpipaa.Dv
