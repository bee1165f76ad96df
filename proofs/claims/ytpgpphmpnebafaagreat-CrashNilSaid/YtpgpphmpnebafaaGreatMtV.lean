/- The laws of torn meta pages, by walks. -/
import Derived.Test.YtpgpphmpnebafaaGreatMtU
namespace Go.Proofs.YtpgpphmpnebafaaGreat.Mt
open Go.RowKit Go.Proofs.YtpgpphmpnebafaaGreat.By
set_option linter.unusedSimpArgs false
set_option linter.unusedVariables false
set_option maxRecDepth 100000

theorem box2_cells {w W : World} {a b c d : Value} {t u : TypeId} (hb : Below ((w.alloc (.cells #[a, b] t)).alloc (.cells #[c, d] u)).heap.size ((w.alloc (.cells #[a, b] t)).alloc (.cells #[c, d] u)) W) : W.cell? ⟨w.heap.size, 0, none⟩ = some a ∧ W.cell? ⟨w.heap.size, 1, none⟩ = some b ∧ W.cell? ⟨w.heap.size + 1, 0, none⟩ = some c ∧ W.cell? ⟨w.heap.size + 1, 1, none⟩ = some d := by
  have h1 := new_later (box_below hb)
  have h2 := new_later hb
  rw [World.size_alloc] at h2
  exact ⟨cell_at h1 0, cell_at h1 1, cell_at h2 0, cell_at h2 1⟩
theorem cells4_below {w W : World} {a b c d : Addr} {v1 v2 v3 v4 : Value} (h : w.cell? a = some v1 ∧ w.cell? b = some v2 ∧ w.cell? c = some v3 ∧ w.cell? d = some v4) (hb : Below w.heap.size w W) : W.cell? a = some v1 ∧ W.cell? b = some v2 ∧ W.cell? c = some v3 ∧ W.cell? d = some v4 :=
  ⟨(hb.cell (World.block_lt_of_cell? w _ h.1)).trans h.1, (hb.cell (World.block_lt_of_cell? w _ h.2.1)).trans h.2.1, (hb.cell (World.block_lt_of_cell? w _ h.2.2.1)).trans h.2.2.1, (hb.cell (World.block_lt_of_cell? w _ h.2.2.2)).trans h.2.2.2⟩
theorem RdB.prefix {w : World} {g : Nat} {s : ByteArray} (h : RdB w (some ⟨g, 0, none⟩) s) (p : Nat) : 0 < ((Lib.strCells s).take p).length → ∃ ad, some (⟨g, 0, none⟩ : Addr) = some ad ∧ ∀ (j : Nat) (v : Value), ((Lib.strCells s).take p)[j]? = some v → w.cell? (ad.add j) = some v := by
  intro hp
  obtain ⟨ad, he, hc⟩ := h (by rw [List.length_take, Lib.strCells_length] at hp; omega)
  refine ⟨ad, he, fun j v hj => hc j v ?_⟩
  rw [List.getElem?_take] at hj
  split at hj
  · exact hj
  · cases hj
end Go.Proofs.YtpgpphmpnebafaaGreat.Mt
