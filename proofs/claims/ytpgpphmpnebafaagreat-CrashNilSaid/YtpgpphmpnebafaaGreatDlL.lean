/- The law of the last write: of writes of one page the last one is read, and, synced, stays; by a walk. -/
import Derived.Test.YtpgpphmpnebafaaGreatDvT
import Derived.Test.YtpgpphmpnebafaaGreatDlI
import Derived.Test.YtpgpphmpnebafaaGreatDvE
import Derived.Test.YtpgpphmpnebafaaGreatDvG
namespace Go.Proofs.YtpgpphmpnebafaaGreat.Dv
open Go.RowKit
set_option linter.unusedSimpArgs false
set_option linter.unusedVariables false
set_option maxRecDepth 100000

theorem u8_nat {n : Int} (h : (Lit.int .u8 n).wf = true) : ∃ m : Nat, n = (m : Int) ∧ m < 256 := by
  have e0 : IntKind.u8.min = 0 := rfl
  have e1 : IntKind.u8.max = 255 := rfl
  simp only [Lit.wf, Bool.and_eq_true, decide_eq_true_eq, e0, e1] at h
  exact ⟨n.toNat, by omega, by omega⟩
theorem OwnB.chg {F : Nat → Prop} {w w1 : World} {base : Nat} {v : Value} {s : ByteArray} (h : OwnB w base v s) (hc : Chg F w w1) (hF : ∀ k, F k → k < base) : OwnB w1 base v s := by
  obtain ⟨g, cap, cur, rfl, hg, h1, h2, h3, h4, h5⟩ := h
  exact ⟨g, cap, cur, rfl, hg, h1, h2, (hc.block g (lt_of_some h3) (fun hf => by have := hF g hf; omega)).trans h3, h4, h5⟩
theorem OwnB.conv {w X : World} {base : Nat} {v : Value} {s : ByteArray} (h : OwnB w base v s) (hX : Below w.heap.size w X) : (convert 22 9 v).run Tryz.prog X = .ok (.string s) X := own_conv (own_below h.own hX)
theorem dSync_other (i : Nat) (Q : List (Nat × ByteArray)) : ∀ P : List ByteArray, (∀ q ∈ Q, q.1 ≠ i) → (dSync P Q).getD i ByteArray.empty = P.getD i ByteArray.empty := by
  induction Q with
  | nil => intro P _; rfl
  | cons q Q ih =>
    intro P h
    rw [dSync, ih _ (fun r hr => h r (by simp [hr]))]
    rw [List.getD_eq_getElem?_getD, List.getElem?_set_ne (h q (by simp)), ← List.getD_eq_getElem?_getD]
def wrs (i : Nat) (l : List Nat) : List (Nat × ByteArray) := l.map fun c => (i, fullPage c)
theorem wrs_snoc (i : Nat) (l : List Nat) (c : Nat) : wrs i (l ++ [c]) = wrs i l ++ [(i, fullPage c)] := by unfold wrs; rw [List.map_append]; rfl
theorem last_read (P : List ByteArray) (i o : Nat) (l : List Nat) (c : Nat) (hi : i < P.length) (hc : l[l.length - 1]? = some c) : dRead P ((o, fullPage 9) :: wrs i l) i = fullPage c := by
  obtain ⟨l', hl'⟩ : ∃ l', l = l' ++ [c] := by
    rcases List.eq_nil_or_concat l with h | ⟨l', x, h⟩
    · subst h; simp at hc
    · rw [List.concat_eq_append] at h
      subst h
      simp at hc
      exact ⟨l', by rw [hc]⟩
  subst hl'
  rw [wrs_snoc, ← List.cons_append]
  exact dRead_hit P _ (i, fullPage c) hi
theorem other_read (P : List ByteArray) (i o : Nat) (l : List Nat) (ho : o < P.length) (h : i ≠ o) : dRead P ((o, fullPage 9) :: wrs i l) o = fullPage 9 := by
  unfold dRead
  rw [dSync, dSync_other o _ _ (fun q hq => by
    obtain ⟨c, _, rfl⟩ := List.mem_map.1 hq
    exact h)]
  rw [List.getD_eq_getElem?_getD, List.getElem?_set_self ho]; rfl

end Go.Proofs.YtpgpphmpnebafaaGreat.Dv
