/- The law of the next epoch, by a walk. -/
import Derived.Test.YtpgpphmpnebafaaGreatMnA
namespace Go.Proofs.YtpgpphmpnebafaaGreat.Mt
open Go.RowKit Go.Proofs.YtpgpphmpnebafaaGreat.By
set_option linter.unusedSimpArgs false
set_option linter.unusedVariables false
set_option maxRecDepth 100000

theorem infoMeta : (Tryz.prog.info? 117).map (fun i => (i.zero, i.size, i.bytes)) = some (some (.agg #[.int .i64 0, .int .i64 0]), 2, 16) := by kernel_rfl
def metaCells (l : List (Int × Int)) : List Value := l.flatMap fun o => [.int .i64 o.1, .int .i64 o.2]
theorem metaCells_snoc (l : List (Int × Int)) (o : Int × Int) : metaCells (l ++ [o]) = metaCells l ++ [.int .i64 o.1, .int .i64 o.2] := by unfold metaCells; rw [List.flatMap_append]; rfl
theorem metaCells_at : ∀ (l : List (Int × Int)) (k : Nat) (o : Int × Int), l[k]? = some o → (metaCells l)[k * 2]? = some (.int .i64 o.1) ∧ (metaCells l)[k * 2 + 1]? = some (.int .i64 o.2)
  | [], k, o, h => by simp at h
  | p :: l, 0, o, h => by
    have : p = o := by simpa using h
    subst this
    exact ⟨rfl, rfl⟩
  | p :: l, k + 1, o, h => by
    have := metaCells_at l k o (by simpa using h)
    rw [show (k + 1) * 2 = k * 2 + 2 from by omega]
    exact this
theorem metas_of_row {w : World} {base n : Nat} {A : Option Addr} {c : Nat} {l : List (Int × Int)} (h : w.ownsRow base 117 2 (.slice A n c) n (metaCells l)) : MetasAt w A l := by
  intro k o hk
  obtain ⟨h1, h2⟩ := metaCells_at l k o hk
  have hlt := (List.getElem?_eq_some_iff.1 h1).1
  rcases h.2 with ⟨hv, h0⟩ | ⟨g, cap, cur, hv, hg, hh, h3, h4, h5, h6⟩
  · have := h.1
    rw [h0] at this
    rw [this] at hlt
    omega
  · injection hv with hv
    subst hv
    have hc : ∀ (j : Nat) (u : Value), (metaCells l)[j]? = some u → w.cell? ⟨g, 0 + j, none⟩ = some u := by
      intro j u hj
      rw [Nat.zero_add, cell_at hh, ← Array.getElem?_toList]
      rw [← h6, List.getElem?_take] at hj
      split at hj
      · exact hj
      · cases hj
    exact ⟨g, 0, rfl, hc _ _ h1, by have := hc _ _ h2; rwa [show 0 + (k * 2 + 1) = 0 + k * 2 + 1 from by omega] at this⟩
def NextRel (w wb : World) (l : List (Int × Int)) (j : Nat) (v : Value) (wr : World) : Prop := wr.ownsRow wb.heap.size 117 2 v j (metaCells (l.take j)) ∧ Below wb.heap.size wb wr ∧ ∀ o ∈ l.take j, 0 ≤ o.1 ∧ o.1 ≤ 1073741824
theorem pair_news {w : World} {g : Nat} {x y : Value} {t : TypeId} (h : w.heap[g]? = some (.cells #[x, y] t (0, 0))) : ∀ (j : Nat) (u : Value), [x, y][j]? = some u → w.cell? ((⟨g, 0, none⟩ : Addr).add j) = some u := fun j u hj => by
  rw [add_plain, cell_at h, ← Array.getElem?_toList]; exact hj
theorem next_rel {w wb wr w1 : World} {l : List (Int × Int)} {j : Nat} {v v1 : Value} {e r : Int} {o : Obj} (h : NextRel w wb l j v wr) (ho : l[j]? = some (e, r)) (he : 0 ≤ e ∧ e ≤ 1073741824) (hown : w1.ownsRow wb.heap.size 117 2 v1 (j + 1) (metaCells (l.take j) ++ [.int .i64 e, .int .i64 r])) (hgr : (wr.alloc o).grownBy w1 v.ownBlock) : NextRel w wb l (j + 1) v1 w1 := by
  obtain ⟨h1, h2, h3⟩ := h
  have hfrom : ∀ k, v.ownBlock = some k → wb.heap.size ≤ k := by
    intro k hk
    rcases h1.2 with ⟨hv, _⟩ | ⟨g, _, _, hv, hg', _⟩
    · rw [hv] at hk; simp [Value.ownBlock] at hk
    · rw [hv] at hk; have : g = k := by simpa [Value.ownBlock] using hk
      omega
  refine ⟨?_, (below_al h2 o).grown hgr (by rw [World.size_alloc]; have := h2.size; omega) hfrom, ?_⟩
  · rw [take_snoc _ _ _ ho, metaCells_snoc]; exact hown
  · intro p hp
    rw [take_snoc _ _ _ ho] at hp
    rcases List.mem_append.1 hp with h | h
    · exact h3 p h
    · rw [List.mem_singleton.1 h]; exact he
end Go.Proofs.YtpgpphmpnebafaaGreat.Mt
