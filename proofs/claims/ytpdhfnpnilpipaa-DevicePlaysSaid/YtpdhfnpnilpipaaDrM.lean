/- How the document's device lies in memory, and what the operations on it leave. -/
import Derived.Test.YtpdhfnpnilpipaaDvA
namespace Go.Proofs.Ytpdhfnpnilpipaa.Dv
open Go.RowKit

def rCells : List (Nat × ByteArray) → List Value
  | q :: Q => .int .i64 (q.1 : Int) :: .string q.2 :: rCells Q
  | [] => []
theorem rCells_snoc (q : Nat × ByteArray) : ∀ Q : List (Nat × ByteArray), rCells (Q ++ [q]) = rCells Q ++ [.int .i64 (q.1 : Int), .string q.2]
  | [] => rfl
  | r :: Q => by rw [List.cons_append, rCells, rCells_snoc q Q]; rfl
theorem rCells_at (k : Nat) : ∀ (Q : List (Nat × ByteArray)) q, Q[k]? = some q → (rCells Q)[k * 2]? = some (.int .i64 (q.1 : Int)) ∧ (rCells Q)[k * 2 + 1]? = some (.string q.2) := by
  induction k with
  | zero =>
    intro Q q hq
    cases Q with
    | nil => simp at hq
    | cons r Q =>
      have : r = q := by simpa using hq
      subst this
      exact ⟨rfl, rfl⟩
  | succ k ih =>
    intro Q q hq
    cases Q with
    | nil => simp at hq
    | cons r Q =>
      have := ih Q q (by simpa using hq)
      rw [show (k + 1) * 2 = k * 2 + 2 from by omega]
      simpa [rCells] using this
structure RDevAt (w : World) (b : Nat) (vp vw : Value) (P : List ByteArray) (Q : List (Nat × ByteArray)) : Prop where
  blk : w.heap[b]? = some (.cells #[vp, vw] 47 (0, 0))
  rowP : w.ownsRow 0 9 1 vp P.length (P.map Value.string)
  rowQ : w.ownsRow 0 81 2 vw Q.length (rCells Q)
  sizeP : ∀ s ∈ P, s.size = 256
  sizeQ : ∀ q ∈ Q, q.1 < P.length ∧ q.2.size = 256
  small : P.length ≤ 512
def rfoot (b : Nat) (vp vw : Value) (k : Nat) : Prop := k = b ∨ vp.ownBlock = some k ∨ vw.ownBlock = some k
def RDev (w : World) (F : Nat → Prop) (b : Nat) (P : List ByteArray) (Q : List (Nat × ByteArray)) : Prop := ∃ vp vw, RDevAt w b vp vw P Q ∧ ∀ k, rfoot b vp vw k → F k
section
variable {w w1 W w2 : World} {b : Nat} {vp vw v' : Value} {P : List ByteArray} {Q : List (Nat × ByteArray)} {F G : Nat → Prop}
theorem RDevAt.foot_lt (h : RDevAt w b vp vw P Q) (k : Nat) (hk : rfoot b vp vw k) : k < w.heap.size := by
  rcases hk with rfl | hk | hk
  · exact lt_of_some h.blk
  · exact own_lt h.rowP k hk
  · exact own_lt h.rowQ k hk
theorem RDevAt.move (h : RDevAt w b vp vw P Q) (hm : ∀ k, rfoot b vp vw k → w1.heap[k]? = w.heap[k]?) : RDevAt w1 b vp vw P Q where
  blk := (hm b (.inl rfl)).trans h.blk
  rowP := own_move h.rowP fun k hk => hm k (.inr (.inl hk))
  rowQ := own_move h.rowQ fun k hk => hm k (.inr (.inr hk))
  sizeP := h.sizeP
  sizeQ := h.sizeQ
  small := h.small
theorem RDevAt.below (h : RDevAt w b vp vw P Q) (hb : Below w.heap.size w w1) : RDevAt w1 b vp vw P Q := h.move fun k hk => hb.block k (h.foot_lt k hk)
theorem RDev.move (h : RDev w F b P Q) (hm : ∀ k, F k → k < w.heap.size → w1.heap[k]? = w.heap[k]?) : RDev w1 F b P Q := by
  obtain ⟨vp, vw, hd, hF⟩ := h
  exact ⟨vp, vw, hd.move fun k hk => hm k (hF k hk) (hd.foot_lt k hk), hF⟩
theorem RDev.mono (h : RDev w F b P Q) (hG : ∀ k, F k → G k) : RDev w G b P Q := by
  obtain ⟨vp, vw, hd, hF⟩ := h
  exact ⟨vp, vw, hd, fun k hk => hG k (hF k hk)⟩
theorem RDev.below (h : RDev w F b P Q) (hb : Below w.heap.size w w1) : RDev w1 F b P Q := h.move fun k _ hk => hb.block k hk
theorem RDev.tight (h : RDev w F b P Q) : RDev w (fun k => F k ∧ k < w.heap.size) b P Q := by
  obtain ⟨vp, vw, hd, hF⟩ := h
  exact ⟨vp, vw, hd, fun k hk => ⟨hF k hk, hd.foot_lt k hk⟩⟩
theorem RDev.other (h : RDev w F b P Q) (hc : Chg G w w1) (hd : ∀ k, F k → ¬ G k) : RDev w1 F b P Q := h.move fun k hF hk => hc.block k hk (hd k hF)
theorem RDevAt.ne (h : RDevAt w b vp vw P Q) : (∀ k, vp.ownBlock = some k → k ≠ b) ∧ (∀ k, vw.ownBlock = some k → k ≠ b) ∧ (∀ k, vw.ownBlock = some k → vp.ownBlock ≠ some k) := by
  refine ⟨fun k hk e => ?_, fun k hk e => ?_, fun k hk e => ?_⟩
  · subst e; obtain ⟨c, hc⟩ := own_typed h.rowP k hk; exact type_ne h.blk hc (by decide)
  · subst e; obtain ⟨c, hc⟩ := own_typed h.rowQ k hk; exact type_ne h.blk hc (by decide)
  · obtain ⟨c, hc⟩ := own_typed h.rowQ k hk; obtain ⟨c', hc'⟩ := own_typed h.rowP k e; exact type_ne hc hc' (by decide)
theorem RDevAt.blk_grownP (h : RDevAt w b vp vw P Q) (hg : W.grownBy w2 vp.ownBlock) (hb : Below w.heap.size w W) : w2.heap[b]? = some (.cells #[vp, vw] 47 (0, 0)) :=
  (hg.block b (Nat.lt_of_lt_of_le (lt_of_some h.blk) hb.size) (fun e => h.ne.1 b e.symm rfl)).trans ((hb.block b (lt_of_some h.blk)).trans h.blk)
theorem RDevAt.blk_grownW (h : RDevAt w b vp vw P Q) (hg : W.grownBy w2 vw.ownBlock) (hb : Below w.heap.size w W) : w2.heap[b]? = some (.cells #[vp, vw] 47 (0, 0)) :=
  (hg.block b (Nat.lt_of_lt_of_le (lt_of_some h.blk) hb.size) (fun e => h.ne.2.1 b e.symm rfl)).trans ((hb.block b (lt_of_some h.blk)).trans h.blk)
theorem rdevAt_new (w : World) (b : Nat) (h : w.heap[b]? = some (.cells #[.slice none 0 0, .slice none 0 0] 47 (0, 0))) : RDevAt w b (.slice none 0 0) (.slice none 0 0) [] [] where
  blk := h
  rowP := World.ownsRow_nil _ _ _ _
  rowQ := World.ownsRow_nil _ _ _ _
  sizeP := fun s hs => by simp at hs
  sizeQ := fun q hq => by simp at hq
  small := by simp
theorem RDevAt.pushPage (h : RDevAt w b vp vw P Q) (hb : Below w.heap.size w W) {s : ByteArray} (hs0 : s.size = 256)
    {g cap : Nat} (hv : v' = .slice (some ⟨g, 0, none⟩) (P.length + 1) cap) (hown : w2.ownsRow 0 9 1 v' (P.length + 1) (P.map Value.string ++ [.string s])) (hgr : W.grownBy w2 vp.ownBlock) (hsm : P.length < 512) :
    RDevAt (w2.setCell ⟨b, 0, none⟩ v') b v' vw (P ++ [s]) Q := by
  have hne := h.ne
  have hbw := h.blk_grownP hgr hb
  have hgb : g ≠ b := by
    intro e; subst e
    obtain ⟨c, hc⟩ := own_typed hown g (by rw [hv]; rfl)
    exact type_ne hbw hc (by decide)
  exact {
    blk := by rw [heap_setCell_self w2 b 0 _ _ v' hbw]; rfl
    rowP := by
      have := own_setCell hown b 0 v' (fun k hk => by rw [hv] at hk; simp [Value.ownBlock] at hk; omega)
      simpa using this
    rowQ := own_move h.rowQ fun k hk => (heap_setCell_ne w2 b 0 k v' (hne.2.1 k hk)).trans ((hgr.block k (Nat.lt_of_lt_of_le (own_lt h.rowQ k hk) hb.size) (fun e => hne.2.2 k hk e.symm)).trans (hb.block k (own_lt h.rowQ k hk)))
    sizeP := fun t ht => by
      rcases List.mem_append.1 ht with ht | ht
      · exact h.sizeP t ht
      · have : t = s := by simpa using ht
        rw [this]; exact hs0
    sizeQ := fun q hq => ⟨by have := (h.sizeQ q hq).1; rw [List.length_append]; omega, (h.sizeQ q hq).2⟩
    small := by rw [List.length_append]; simp; omega }
theorem RDevAt.pushWrite (h : RDevAt w b vp vw P Q) (hb : Below w.heap.size w W) {i : Nat} {s : ByteArray} (hi : i < P.length) (hs0 : s.size = 256)
    {g cap : Nat} (hv : v' = .slice (some ⟨g, 0, none⟩) (Q.length + 1) cap) (hown : w2.ownsRow 0 81 2 v' (Q.length + 1) (rCells Q ++ [.int .i64 (i : Int), .string s])) (hgr : W.grownBy w2 vw.ownBlock) :
    RDevAt (w2.setCell ⟨b, 1, none⟩ v') b vp v' P (Q ++ [(i, s)]) := by
  have hne := h.ne
  have hbw := h.blk_grownW hgr hb
  have hgb : g ≠ b := by
    intro e; subst e
    obtain ⟨c, hc⟩ := own_typed hown g (by rw [hv]; rfl)
    exact type_ne hbw hc (by decide)
  exact {
    blk := by rw [heap_setCell_self w2 b 1 _ _ v' hbw]; rfl
    rowP := own_move h.rowP fun k hk => (heap_setCell_ne w2 b 1 k v' (hne.1 k hk)).trans ((hgr.block k (Nat.lt_of_lt_of_le (own_lt h.rowP k hk) hb.size) (fun e => hne.2.2 k e.symm hk)).trans (hb.block k (own_lt h.rowP k hk)))
    rowQ := by
      have := own_setCell hown b 1 v' (fun k hk => by rw [hv] at hk; simp [Value.ownBlock] at hk; omega)
      rw [rCells_snoc, List.length_append]
      simpa using this
    sizeP := h.sizeP
    sizeQ := fun q hq => by
      rcases List.mem_append.1 hq with hq | hq
      · exact h.sizeQ q hq
      · have : q = (i, s) := by simpa using hq
        rw [this]; exact ⟨hi, hs0⟩
    small := h.small }
theorem own_stored {base e n i : Nat} {v : Value} {xs : List Value} (h : w.ownsRow base e 1 v n xs) (hi : i < n) (u : Value) : ∃ g cap, v = .slice (some ⟨g, 0, none⟩) n cap ∧ (w.setCell ⟨g, i, none⟩ u).ownsRow base e 1 v n (xs.set i u) := by
  rcases h.2 with ⟨_, h0⟩ | ⟨g, cap, cur, rfl, hg, hh, h2, h3, h4, h5⟩
  · omega
  · refine ⟨g, cap, rfl, by rw [List.length_set]; exact h.1, .inr ⟨g, cap, _, rfl, hg, heap_setCell_self w g i _ _ u hh, h2, h3, by rw [Array.size_setIfInBounds]; exact h4, ?_⟩⟩
    rw [Array.toList_setIfInBounds, Nat.mul_one] at *
    rw [← h5, List.take_set]
theorem RDevAt.setPage (h : RDevAt w b vp vw P Q) {i : Nat} (hi : i < P.length) {s : ByteArray} (hs0 : s.size = 256) : ∃ g cap, vp = .slice (some ⟨g, 0, none⟩) P.length cap ∧ RDevAt (w.setCell ⟨g, i, none⟩ (.string s)) b vp vw (P.set i s) Q := by
  have hne := h.ne
  obtain ⟨g, cap, hv, hrow⟩ := own_stored h.rowP hi (.string s)
  refine ⟨g, cap, hv, ?_⟩
  have hown : vp.ownBlock = some g := by rw [hv]; rfl
  exact {
    blk := (heap_setCell_ne w g i b _ (fun e => hne.1 g hown e.symm)).trans h.blk
    rowP := by rw [List.length_set, List.map_set]; exact hrow
    rowQ := own_move h.rowQ fun k hk => heap_setCell_ne w g i k _ (fun e => by subst e; exact hne.2.2 k hk hown)
    sizeP := fun t ht => by
      rcases List.mem_or_eq_of_mem_set ht with ht | ht
      · exact h.sizeP t ht
      · rw [ht]; exact hs0
    sizeQ := fun q hq => by rw [List.length_set]; exact h.sizeQ q hq
    small := by rw [List.length_set]; exact h.small }
theorem RDevAt.clear (h : RDevAt w b vp vw P Q) : RDevAt (w.setCell ⟨b, 1, none⟩ (.slice none 0 0)) b vp (.slice none 0 0) P [] where
  blk := by rw [heap_setCell_self w b 1 _ _ _ h.blk]; rfl
  rowP := own_setCell h.rowP b 1 _ h.ne.1
  rowQ := World.ownsRow_nil _ _ _ _
  sizeP := h.sizeP
  sizeQ := fun q hq => by simp at hq
  small := h.small
/-- What its cells hold. -/
theorem RDevAt.pageAt (h : RDevAt w b vp vw P Q) {i : Nat} (hi : i < P.length) : ∃ g cap, vp = .slice (some ⟨g, 0, none⟩) P.length cap ∧ w.cell? ⟨g, i, none⟩ = some (.string (P.getD i ByteArray.empty)) ∧ w.frozen? ⟨g, i, none⟩ = false := by
  rcases h.rowP.2 with ⟨_, h0⟩ | ⟨g, cap, cur, hv, hg, hh, h2, h3, h4, h5⟩
  · omega
  · refine ⟨g, cap, hv, ?_, by simp [World.frozen?, hh]⟩
    have : w.cell? ⟨g, i, none⟩ = cur[i]? := by simp [World.cell?, hh]
    rw [this]
    have e : (P.map Value.string)[i]? = some (.string (P.getD i ByteArray.empty)) := by rw [List.getElem?_map, List.getD_eq_getElem?_getD, List.getElem?_eq_getElem hi]; rfl
    rw [← h5, List.getElem?_take] at e
    split at e
    · simpa using e
    · simp at e
theorem RDevAt.writeAt (h : RDevAt w b vp vw P Q) {k : Nat} {q : Nat × ByteArray} (hq : Q[k]? = some q) : ∃ g cap, vw = .slice (some ⟨g, 0, none⟩) Q.length cap ∧ w.cell? ⟨g, k * 2, none⟩ = some (.int .i64 (q.1 : Int)) ∧ w.cell? ⟨g, k * 2 + 1, none⟩ = some (.string q.2) := by
  have hk := (List.getElem?_eq_some_iff.1 hq).1
  rcases h.rowQ.2 with ⟨_, h0⟩ | ⟨g, cap, cur, hv, hg, hh, h2, h3, h4, h5⟩
  · omega
  · obtain ⟨c1, c2⟩ := rCells_at k Q q hq
    have cellw : ∀ j u, (rCells Q)[j]? = some u → w.cell? ⟨g, j, none⟩ = some u := by
      intro j u hj
      have : w.cell? ⟨g, j, none⟩ = cur[j]? := by simp [World.cell?, hh]
      rw [this]
      rw [← h5, List.getElem?_take] at hj
      split at hj
      · simpa using hj
      · simp at hj
    exact ⟨g, cap, hv, cellw _ _ c1, cellw _ _ c2⟩
end
end Go.Proofs.Ytpdhfnpnilpipaa.Dv
