/- How the document's device lies in memory, and what the operations on it leave. -/
import Derived.Test.YtpgpphmpnebafaaGreatDvA
namespace Go.Proofs.YtpgpphmpnebafaaGreat.Dv
open Go.RowKit

def rCells : List (Nat × ByteArray) → List Value
  | q :: Q => .int .i64 (q.1 : Int) :: .string q.2 :: rCells Q
  | [] => []
theorem rCells_snoc (q : Nat × ByteArray) : ∀ Q : List (Nat × ByteArray), rCells (Q ++ [q]) = rCells Q ++ [.int .i64 (q.1 : Int), .string q.2]
  | [] => rfl
  | r :: Q => by rw [List.cons_append, rCells, rCells_snoc q Q]; rfl
theorem rCells_at (k : Nat) : ∀ (Q : List (Nat × ByteArray)) q, Q[k]? = some q → (rCells Q)[k * 2]? = some (.int .i64 (q.1 : Int)) ∧ (rCells Q)[k * 2 + 1]? = some (.string q.2) := by
  induction k with
  | zero =>
    intro Q q hq
    cases Q with
    | nil => simp at hq
    | cons r Q =>
      have : r = q := by simpa using hq
      subst this
      exact ⟨rfl, rfl⟩
  | succ k ih =>
    intro Q q hq
    cases Q with
    | nil => simp at hq
    | cons r Q =>
      have := ih Q q (by simpa using hq)
      rw [show (k + 1) * 2 = k * 2 + 2 from by omega]
      simpa [rCells] using this
def rfoot (b : Nat) (vp vw : Value) (k : Nat) : Prop := k = b ∨ vp.ownBlock = some k ∨ vw.ownBlock = some k
section
variable {w w1 W w2 : World} {b : Nat} {vp vw v' : Value} {P : List ByteArray} {Q : List (Nat × ByteArray)} {F G : Nat → Prop}
theorem own_stored {base e n i : Nat} {v : Value} {xs : List Value} (h : w.ownsRow base e 1 v n xs) (hi : i < n) (u : Value) : ∃ g cap, v = .slice (some ⟨g, 0, none⟩) n cap ∧ (w.setCell ⟨g, i, none⟩ u).ownsRow base e 1 v n (xs.set i u) := by
  rcases h.2 with ⟨_, h0⟩ | ⟨g, cap, cur, rfl, hg, hh, h2, h3, h4, h5⟩
  · omega
  · refine ⟨g, cap, rfl, by rw [List.length_set]; exact h.1, .inr ⟨g, cap, _, rfl, hg, heap_setCell_self w g i _ _ u hh, h2, h3, by rw [Array.size_setIfInBounds]; exact h4, ?_⟩⟩
    rw [Array.toList_setIfInBounds, Nat.mul_one] at *
    rw [← h5, List.take_set]
end
end Go.Proofs.YtpgpphmpnebafaaGreat.Dv
