/- What the operations on a device leave in memory: a new one, a page more, a write more, a page laid, no write any more. -/
import Derived.Test.YtpgpphmpnebafaaGreatDvM
import Derived.Laws.CopyOwn
namespace Go.Proofs.YtpgpphmpnebafaaGreat.Dv
open Go.RowKit

theorem heap_setCell_self (w : World) (g i : Nat) (cs : Array Value) (t : TypeId) (u : Value) (h : w.heap[g]? = some (.cells cs t (0, 0))) : (w.setCell ⟨g, i, none⟩ u).heap[g]? = some (.cells (cs.setIfInBounds i u) t (0, 0)) := by
  simp only [World.setCell, Array.getElem?_modify, if_pos, h]
  simp
theorem heap_setCell_ne (w : World) (g i k : Nat) (u : Value) (h : k ≠ g) : (w.setCell ⟨g, i, none⟩ u).heap[k]? = w.heap[k]? := Below.heap_setCell w ⟨g, i, none⟩ u k h
theorem cell_alloc {w : World} {p : Addr} {v : Value} (h : w.cell? p = some v) (X : Obj) : (w.alloc X).cell? p = some v := by
  have := World.block_lt_of_cell? w p h
  exact (World.cell?_of_block (w := w) (Below.heap_alloc w X p.block this)).trans h
theorem own_setCell {w : World} {base : Nat} {e : TypeId} {size n : Nat} {v : Value} {xs : List Value} (h : w.ownsRow base e size v n xs) (g i : Nat) (u : Value) (hne : ∀ k, v.ownBlock = some k → k ≠ g) : (w.setCell ⟨g, i, none⟩ u).ownsRow base e size v n xs :=
  own_move h fun k hk => heap_setCell_ne w g i k u (hne k hk)
section
variable {w W w2 w3 : World} {b : Nat} {vp vw v' : Value} {P : List ByteArray} {Q : List (Nat × ByteArray)} {gs : List Nat} {hs : List (Nat × Nat)} {F : Nat → Prop}
theorem DevAt.ne_b (h : DevAt w b vp vw P Q gs hs) : (∀ k, vp.ownBlock = some k → k ≠ b) ∧ (∀ k, vw.ownBlock = some k → k ≠ b) ∧ (∀ k, k ∈ gs → k ≠ b) ∧ ∀ x, x ∈ hs → x.1 ≠ b := by
  refine ⟨fun k hk e => ?_, fun k hk e => ?_, fun k hk e => ?_, fun x hx e => ?_⟩
  · subst e; obtain ⟨c, hc⟩ := own_typed h.rowP k hk; exact type_ne h.blk hc (by decide)
  · subst e; obtain ⟨c, hc⟩ := own_typed h.rowQ k hk; exact type_ne h.blk hc (by decide)
  · subst e; obtain ⟨i, hi⟩ := List.getElem?_of_mem hk; obtain ⟨s, _, _, hc⟩ := h.page i k hi; exact type_ne h.blk hc (by decide)
  · subst e; obtain ⟨i, hi⟩ := List.getElem?_of_mem hx; obtain ⟨q, _, _, _, _, _, cur, hc, _⟩ := h.wr i x hi; exact type_ne h.blk hc (by decide)
theorem DevAt.ne_p (h : DevAt w b vp vw P Q gs hs) : (∀ k, vw.ownBlock = some k → vp.ownBlock ≠ some k) ∧ (∀ k, k ∈ gs → vp.ownBlock ≠ some k) ∧ ∀ x, x ∈ hs → vp.ownBlock ≠ some x.1 := by
  refine ⟨fun k hk e => ?_, fun k hk e => ?_, fun x hx e => ?_⟩
  · obtain ⟨c, hc⟩ := own_typed h.rowQ k hk; obtain ⟨c', hc'⟩ := own_typed h.rowP k e; exact type_ne hc hc' (by decide)
  · obtain ⟨i, hi⟩ := List.getElem?_of_mem hk; obtain ⟨s, _, _, hc⟩ := h.page i k hi; obtain ⟨c', hc'⟩ := own_typed h.rowP k e; exact type_ne hc hc' (by decide)
  · obtain ⟨i, hi⟩ := List.getElem?_of_mem hx; obtain ⟨q, _, _, _, _, _, cur, hc, _⟩ := h.wr i x hi; obtain ⟨c', hc'⟩ := own_typed h.rowP _ e; exact type_ne hc hc' (by decide)
theorem DevAt.ne_w (h : DevAt w b vp vw P Q gs hs) : (∀ k, vp.ownBlock = some k → vw.ownBlock ≠ some k) ∧ (∀ k, k ∈ gs → vw.ownBlock ≠ some k) ∧ ∀ x, x ∈ hs → vw.ownBlock ≠ some x.1 := by
  refine ⟨fun k hk e => ?_, fun k hk e => ?_, fun x hx e => ?_⟩
  · obtain ⟨c, hc⟩ := own_typed h.rowP k hk; obtain ⟨c', hc'⟩ := own_typed h.rowQ k e; exact type_ne hc hc' (by decide)
  · obtain ⟨i, hi⟩ := List.getElem?_of_mem hk; obtain ⟨s, _, _, hc⟩ := h.page i k hi; obtain ⟨c', hc'⟩ := own_typed h.rowQ k e; exact type_ne hc hc' (by decide)
  · obtain ⟨i, hi⟩ := List.getElem?_of_mem hx; obtain ⟨q, _, _, _, _, _, cur, hc, _⟩ := h.wr i x hi; obtain ⟨c', hc'⟩ := own_typed h.rowQ _ e; exact type_ne hc hc' (by decide)
theorem DevAt.glen (h : DevAt w b vp vw P Q gs hs) : gs.length = P.length := by have := h.rowP.1; simpa using this
/-- Its block, behind an append to one of its rows. -/
theorem DevAt.blk_grownP (h : DevAt w b vp vw P Q gs hs) (hg : W.grownBy w2 vp.ownBlock) (hb : Below w.heap.size w W) : w2.heap[b]? = some (.cells #[vp, vw] 108 (0, 0)) :=
  (hg.block b (Nat.lt_of_lt_of_le (lt_of_some h.blk) hb.size) (fun e => h.ne_b.1 b e.symm rfl)).trans ((hb.block b (lt_of_some h.blk)).trans h.blk)
theorem DevAt.blk_grownW (h : DevAt w b vp vw P Q gs hs) (hg : W.grownBy w2 vw.ownBlock) (hb : Below w.heap.size w W) : w2.heap[b]? = some (.cells #[vp, vw] 108 (0, 0)) :=
  (hg.block b (Nat.lt_of_lt_of_le (lt_of_some h.blk) hb.size) (fun e => h.ne_b.2.1 b e.symm rfl)).trans ((hb.block b (lt_of_some h.blk)).trans h.blk)
/-- A new one. -/
theorem devAt_new (w : World) (b : Nat) (h : w.heap[b]? = some (.cells #[.slice none 0 0, .slice none 0 0] 108 (0, 0))) : DevAt w b (.slice none 0 0) (.slice none 0 0) [] [] [] [] where
  blk := h
  rowP := World.ownsRow_nil _ _ _ _
  nodup := List.nodup_nil
  page := fun i g hg => by simp at hg
  rowQ := World.ownsRow_nil _ _ _ _
  hlen := rfl
  wr := fun k x hx => by simp at hx
  small := by simp
/-- A page more, in block g0, behind an append to the row of pages and the store of the row. -/
theorem DevAt.pushPage (h : DevAt w b vp vw P Q gs hs) (hb : Below w.heap.size w W) {g0 : Nat} (hg0 : w.heap.size ≤ g0) {s : ByteArray} (hs0 : s.size = 256)
    (hc : W.heap[g0]? = some (.cells (Lib.strCells s).toArray 5 (0, 0)))
    {g cap : Nat} (hv : v' = .slice (some ⟨g, 0, none⟩) (P.length + 1) cap) (hown : w2.ownsRow 0 22 1 v' (P.length + 1) (gs.map pageV ++ [pageV g0])) (hgr : W.grownBy w2 vp.ownBlock) (hsm : P.length < 512) :
    DevAt (w2.setCell ⟨b, 0, none⟩ v') b v' vw (P ++ [s]) Q (gs ++ [g0]) hs := by
  have hnb := h.ne_b
  have hnp := h.ne_p
  have keep : ∀ k, k < w.heap.size → vp.ownBlock ≠ some k → w2.heap[k]? = w.heap[k]? := fun k hk hn => (hgr.block k (Nat.lt_of_lt_of_le hk hb.size) (fun e => hn e.symm)).trans (hb.block k hk)
  have hbw : w2.heap[b]? = some (.cells #[vp, vw] 108 (0, 0)) := (keep b (lt_of_some h.blk) (fun e => hnb.1 b e rfl)).trans h.blk
  have hgb : g ≠ b := by
    intro e; subst e
    obtain ⟨c, hc⟩ := own_typed hown g (by rw [hv]; rfl)
    exact type_ne hbw hc (by decide)
  have keep' : ∀ k, k < w.heap.size → vp.ownBlock ≠ some k → k ≠ b → (w2.setCell ⟨b, 0, none⟩ v').heap[k]? = w.heap[k]? := fun k hk hn hkb => (heap_setCell_ne w2 b 0 k v' hkb).trans (keep k hk hn)
  have hg2 : w2.heap[g0]? = some (.cells (Lib.strCells s).toArray 5 (0, 0)) := (hgr.block g0 (lt_of_some hc) (fun e => by have := own_lt h.rowP g0 e.symm; omega)).trans hc
  have hgl := h.glen
  exact {
    blk := by rw [heap_setCell_self w2 b 0 _ _ v' hbw]; rfl
    rowP := by
      have := own_setCell hown b 0 v' (fun k hk => by rw [hv] at hk; simp [Value.ownBlock] at hk; omega)
      simpa using this
    nodup := by
      rw [List.nodup_append]
      refine ⟨h.nodup, by simp, fun a ha c hc' => ?_⟩
      have : c = g0 := by simpa using hc'
      subst this
      have := h.foot_lt a (.inr (.inr (.inr (.inl ha))))
      omega
    page := fun i a ha => by
      by_cases hi : i < gs.length
      · rw [List.getElem?_append_left hi] at ha
        obtain ⟨s', h1, h2, h3⟩ := h.page i a ha
        have hm := List.mem_of_getElem? ha
        exact ⟨s', by rw [List.getElem?_append_left (by omega)]; exact h1, h2, (keep' a (lt_of_some h3) (hnp.2.1 a hm) (hnb.2.2.1 a hm)).trans h3⟩
      · rw [List.getElem?_append_right (by omega)] at ha
        have hi0 : i - gs.length = 0 := by have := (List.getElem?_eq_some_iff.1 ha).1; simpa using this
        rw [hi0] at ha
        have ha : g0 = a := by simpa using ha
        subst ha
        refine ⟨s, by rw [List.getElem?_append_right (by omega), ← hgl, hi0]; rfl, hs0, ?_⟩
        exact (heap_setCell_ne w2 b 0 g0 v' (fun e => by have := lt_of_some h.blk; omega)).trans hg2
    rowQ := own_move h.rowQ fun k hk => keep' k (own_lt h.rowQ k hk) (hnp.1 k hk) (hnb.2.1 k hk)
    hlen := h.hlen
    wr := fun k x hx => by
      obtain ⟨q, h1, h2, h3, h4, h5, cur, h6, h7⟩ := h.wr k x hx
      have hm := List.mem_of_getElem? hx
      refine ⟨q, h1, by rw [List.length_append]; omega, h3, ?_, h5, cur, (keep' x.1 (lt_of_some h6) (hnp.2.2 x hm) (hnb.2.2.2 x hm)).trans h6, h7⟩
      rw [List.mem_append]
      rintro (hh | hh)
      · exact h4 hh
      · have : x.1 = g0 := by simpa using hh
        have := lt_of_some h6
        omega
    small := by rw [List.length_append]; simp; omega }
/-- A write more, its bytes in block h0. -/
theorem DevAt.pushWrite (h : DevAt w b vp vw P Q gs hs) (hb : Below w.heap.size w W) {h0 c : Nat} (hh0 : w.heap.size ≤ h0) {i : Nat} {s : ByteArray} (hi : i < P.length) (hs0 : s.size = 256) (hc0 : 256 ≤ c)
    {cur : Array Value} (hc : W.heap[h0]? = some (.cells cur 5 (0, 0))) (hcur : cur.toList.take 256 = Lib.strCells s)
    {g cap : Nat} (hv : v' = .slice (some ⟨g, 0, none⟩) (Q.length + 1) cap) (hown : w2.ownsRow 0 111 2 v' (Q.length + 1) (qCells Q hs ++ wrV (i, s) (h0, c))) (hgr : W.grownBy w2 vw.ownBlock) :
    DevAt (w2.setCell ⟨b, 1, none⟩ v') b vp v' P (Q ++ [(i, s)]) gs (hs ++ [(h0, c)]) := by
  have hnb := h.ne_b
  have hnp := h.ne_w
  have keep : ∀ k, k < w.heap.size → vw.ownBlock ≠ some k → w2.heap[k]? = w.heap[k]? := fun k hk hn => (hgr.block k (Nat.lt_of_lt_of_le hk hb.size) (fun e => hn e.symm)).trans (hb.block k hk)
  have hbw : w2.heap[b]? = some (.cells #[vp, vw] 108 (0, 0)) := (keep b (lt_of_some h.blk) (fun e => hnb.2.1 b e rfl)).trans h.blk
  have hgb : g ≠ b := by
    intro e; subst e
    obtain ⟨c, hc⟩ := own_typed hown g (by rw [hv]; rfl)
    exact type_ne hbw hc (by decide)
  have keep' : ∀ k, k < w.heap.size → vw.ownBlock ≠ some k → k ≠ b → (w2.setCell ⟨b, 1, none⟩ v').heap[k]? = w.heap[k]? := fun k hk hn hkb => (heap_setCell_ne w2 b 1 k v' hkb).trans (keep k hk hn)
  have hg2 : w2.heap[h0]? = some (.cells cur 5 (0, 0)) := (hgr.block h0 (lt_of_some hc) (fun e => by have := own_lt h.rowQ h0 e.symm; omega)).trans hc
  exact {
    blk := by rw [heap_setCell_self w2 b 1 _ _ v' hbw]; rfl
    rowP := own_move h.rowP fun k hk => keep' k (own_lt h.rowP k hk) (hnp.1 k hk) (hnb.1 k hk)
    nodup := h.nodup
    page := fun j a ha => by
      obtain ⟨s', h1, h2, h3⟩ := h.page j a ha
      have hm := List.mem_of_getElem? ha
      exact ⟨s', h1, h2, (keep' a (lt_of_some h3) (hnp.2.1 a hm) (hnb.2.2.1 a hm)).trans h3⟩
    rowQ := by
      have := own_setCell hown b 1 v' (fun k hk => by rw [hv] at hk; simp [Value.ownBlock] at hk; omega)
      rw [qCells_snoc _ _ _ _ h.hlen.symm, List.length_append]
      simpa using this
    hlen := by rw [List.length_append, List.length_append, h.hlen]; rfl
    wr := fun k x hx => by
      have hl := h.hlen
      by_cases hk : k < hs.length
      · rw [List.getElem?_append_left hk] at hx
        obtain ⟨q, h1, h2, h3, h4, h5, cur', h6, h7⟩ := h.wr k x hx
        have hm := List.mem_of_getElem? hx
        exact ⟨q, by rw [List.getElem?_append_left (by omega)]; exact h1, h2, h3, h4, h5, cur', (keep' x.1 (lt_of_some h6) (hnp.2.2 x hm) (hnb.2.2.2 x hm)).trans h6, h7⟩
      · rw [List.getElem?_append_right (by omega)] at hx
        have hi0 : k - hs.length = 0 := by have := (List.getElem?_eq_some_iff.1 hx).1; simpa using this
        rw [hi0] at hx
        have hx : (h0, c) = x := by simpa using hx
        subst hx
        refine ⟨(i, s), by rw [List.getElem?_append_right (by omega), ← hl, hi0]; rfl, hi, hs0, ?_, hc0, cur, ?_, hcur⟩
        · intro hm
          have := h.foot_lt h0 (.inr (.inr (.inr (.inl hm))))
          omega
        · exact (heap_setCell_ne w2 b 1 h0 v' (fun e => by have := lt_of_some h.blk; omega)).trans hg2
    small := h.small }
/-- Page i is laid. -/
theorem DevAt.setPage (h : DevAt w b vp vw P Q gs hs) {i g : Nat} (hg : gs[i]? = some g) {s : ByteArray} (hs0 : s.size = 256)
    (hw : ∀ k, k ≠ g → w2.heap[k]? = w.heap[k]?) (hc : w2.heap[g]? = some (.cells (Lib.strCells s).toArray 5 (0, 0))) : DevAt w2 b vp vw (P.set i s) Q gs hs := by
  have hnb := h.ne_b
  have hnp := h.ne_p
  have hnw := h.ne_w
  have hm := List.mem_of_getElem? hg
  have hi := (List.getElem?_eq_some_iff.1 hg).1
  have hgl := h.glen
  exact {
    blk := (hw b (fun e => hnb.2.2.1 g hm e.symm)).trans h.blk
    rowP := by
      rw [List.length_set]
      exact own_move h.rowP fun k hk => hw k (fun e => by subst e; exact hnp.2.1 k hm hk)
    nodup := h.nodup
    page := fun j a ha => by
      obtain ⟨s', h1, h2, h3⟩ := h.page j a ha
      by_cases hj : j = i
      · subst hj
        rw [hg] at ha; injection ha with ha; subst ha
        exact ⟨s, by rw [List.getElem?_set_self (by omega)], hs0, hc⟩
      · refine ⟨s', by rw [List.getElem?_set_ne (fun e => hj e.symm)]; exact h1, h2, (hw a (fun e => ?_)).trans h3⟩
        subst e
        obtain ⟨hj1, hj2⟩ := List.getElem?_eq_some_iff.1 ha
        obtain ⟨hi1, hi2⟩ := List.getElem?_eq_some_iff.1 hg
        have hp := List.pairwise_iff_getElem.1 h.nodup
        rcases Nat.lt_or_gt_of_ne hj with hlt | hlt
        · exact hp j i hj1 hi1 hlt (hj2.trans hi2.symm)
        · exact hp i j hi1 hj1 hlt (hi2.trans hj2.symm)
    rowQ := own_move h.rowQ fun k hk => hw k (fun e => by subst e; exact hnw.2.1 k hm hk)
    hlen := h.hlen
    wr := fun k x hx => by
      obtain ⟨q, h1, h2, h3, h4, h5, cur, h6, h7⟩ := h.wr k x hx
      exact ⟨q, h1, by rw [List.length_set]; exact h2, h3, h4, h5, cur, (hw x.1 (fun e => h4 (e ▸ hm))).trans h6, h7⟩
    small := by rw [List.length_set]; exact h.small }
/-- No write waits any more. -/
theorem DevAt.clear (h : DevAt w b vp vw P Q gs hs) : DevAt (w.setCell ⟨b, 1, none⟩ (.slice none 0 0)) b vp (.slice none 0 0) P [] gs [] := by
  have hnb := h.ne_b
  exact {
    blk := by rw [heap_setCell_self w b 1 _ _ _ h.blk]; rfl
    rowP := own_setCell h.rowP b 1 _ hnb.1
    nodup := h.nodup
    page := fun j a ha => by
      obtain ⟨s', h1, h2, h3⟩ := h.page j a ha
      exact ⟨s', h1, h2, (heap_setCell_ne w b 1 a _ (hnb.2.2.1 a (List.mem_of_getElem? ha))).trans h3⟩
    rowQ := World.ownsRow_nil _ _ _ _
    hlen := rfl
    wr := fun k x hx => by simp at hx
    small := h.small }
end
/-- A copy over the beginning of a row, as one step of a region that draws its order, the world told whole. -/
theorem step_copy_row {P : Program} {ops : Array Oper} {o : Oper} {a : Act} {w : World} {K : Act → World → Prop} {Q : Exit → Act → World → Prop} {E : Prop} (hgd : o.guard = none) (d s : Operand) (dT sT : TypeId)
    (ho : o.op = .call { callee := .builtin .copy, args := #[d, s], argTypes := #[dT, sT] }) (elem : TypeId) (hu : P.underlying dT = some (.slice elem)) (hsz : (P.info? elem).map (·.size) = some 1)
    (g dLen dCap sLen sCap : Nat) (sp : Option Addr) (hd : a.eval d = .slice (some ⟨g, 0, none⟩) dLen dCap) (hs : a.eval s = .slice sp sLen sCap)
    (cur : List Value) (t : TypeId) (hg : w.heap[g]? = some (.cells cur.toArray t (0, 0))) (cs : List Value) (hn : cs.length = Nat.min sLen dLen)
    (hsrc : 0 < cs.length → ∃ ad, sp = some ad ∧ ∀ j v, cs[j]? = some v → w.cell? (ad.add j) = some v) (hfit : cs.length ≤ cur.length) (h1 : ∀ v ∈ cs, v.oneCell' = true)
    (h : ∀ w', Chg (· = g) w w' → w'.heap.size = w.heap.size → w'.heap[g]? = some (.cells (cs ++ cur.drop cs.length).toArray t (0, 0)) → K (a.put o.dst (goInt cs.length)) w') :
    if Region.wanted o (yielded ops a.tmps) = true then Oper.wp P o a w K Q else E := by
  have hw : Region.wanted o (yielded ops a.tmps) = true := by simp [Region.wanted, hgd]
  rw [if_pos hw]
  by_cases h0 : cs.length = 0
  · obtain rfl : cs = [] := List.eq_nil_of_length_eq_zero h0
    have hrun := run_copy_none (P := P) w dT sT o.type elem (some ⟨g, 0, none⟩) sp dLen dCap sLen sCap hu hsz (by simpa using hn.symm)
    unfold Oper.wp
    simp [execOp, ho, resolve, invoke, builtin, hd, hs, hrun, Result.andThen]
    exact h w (Chg.refl _ _) rfl (by simpa using hg)
  · obtain ⟨ad, rfl, hsr⟩ := hsrc (by omega)
    have hrun := run_copy_row (P := P) w dT sT o.type elem g 0 dLen dCap ad sLen sCap cur.toArray t cs hu hsz hg hn hsr (by simpa using hfit) h1
    unfold Oper.wp
    simp [execOp, ho, resolve, invoke, builtin, hd, hs, hrun, Result.andThen]
    exact h _ ⟨rfl, rfl, rfl, by simp [World.setRow], fun k _ hk => setRow_other w g k _ hk⟩ (by simp [World.setRow]) (by simpa using setRow_heap w g _ _ t _ hg)
end Go.Proofs.YtpgpphmpnebafaaGreat.Dv
