/- Whether a script is short, by a walk. -/
import Derived.Test.YtpgpphmpnebafaaGreatDvO
namespace Go.Proofs.YtpgpphmpnebafaaGreat.Dv
open Go.RowKit
set_option linter.unusedSimpArgs false
set_option linter.unusedVariables false
set_option maxRecDepth 100000

def few (l : List OpR) : Bool := decide (l.length ≤ 150) && l.all fun o => decide (o.b.size ≤ 1000)
theorem few_of (l : List OpR) (h : few l = true) : l.length ≤ 150 ∧ ∀ o ∈ l, o.b.size ≤ 1000 := by
  unfold few at h
  simp only [Bool.and_eq_true, decide_eq_true_eq, List.all_eq_true] at h
  exact h
theorem few_long (l : List OpR) (h : 150 < l.length) : few l = false := by
  unfold few
  rw [decide_eq_false (by omega)]; rfl
theorem few_big (l : List OpR) (o : OpR) (ho : o ∈ l) (h : 1000 < o.b.size) : few l = false := by
  rw [Bool.eq_false_iff]
  intro hf
  have := (few_of l hf).2 o ho
  omega
theorem few_yes (l : List OpR) (h : l.length ≤ 150) (h2 : ∀ o ∈ l, o.b.size ≤ 1000) : few l = true := by
  unfold few
  simp only [Bool.and_eq_true, decide_eq_true_eq, List.all_eq_true]
  exact ⟨h, h2⟩
end Go.Proofs.YtpgpphmpnebafaaGreat.Dv
