/- Reading a page of a device, by a walk. -/
import Derived.Test.YtpgpphmpnebafaaGreatDvI
namespace Go.Proofs.YtpgpphmpnebafaaGreat.Dv
open Go.RowKit Go.Shelf
set_option linter.unusedSimpArgs false
set_option linter.unusedVariables false
set_option maxRecDepth 100000
attribute [local go_sem] Oper.semAt_some

section
variable {F : Nat → Prop} {b : Nat} {P : List ByteArray} {Q : List (Nat × ByteArray)} {w : World} {vp vw : Value} {gs : List Nat} {hs : List (Nat × Nat)}
theorem pages_quiet (hd : Dev w F b P Q) (wx : World) (hx : Below w.heap.size w wx) (n : Nat) : Calls Tryz.prog 41 #[.pointer (some ⟨b, 0, none⟩)] (wx.drewN n) fun e w' => e = .returned (.int .i64 (P.length : Int)) ∧ w' = wx.drewN n :=
  (pages_any (hd.below (below_dn hx n))).mono fun e w' ⟨h1, h2⟩ => ⟨h1, h2.symm⟩
theorem DevAt.backCells (h : DevAt w b vp vw P Q gs hs) : Q.length = 0 ∧ (∃ A c, vw = .slice A 0 c) ∨ ∃ gw cap, vw = .slice (some ⟨gw, 0, none⟩) Q.length cap ∧ gw < w.heap.size ∧
    ∀ j, j < Q.length → w.cell? ⟨gw, j * 2, none⟩ = some (.int .i64 ((Q.getD j (0, ByteArray.empty)).1 : Int)) ∧ w.cell? ⟨gw, j * 2 + 1, none⟩ = some (.slice (some ⟨(hs.getD j (0, 0)).1, 0, none⟩) 256 (hs.getD j (0, 0)).2) := by
  have hw := h.rowQ
  have hl := h.hlen
  rcases hw.2 with ⟨hv, h0⟩ | ⟨gw, cw, curw, hvw, _, hhw, _, _, hsz, htk⟩
  · exact .inl ⟨h0, _, _, hv⟩
  · refine .inr ⟨gw, cw, hvw, lt_of_some hhw, fun j hj => ?_⟩
    have cellw : ∀ j u, (qCells Q hs)[j]? = some u → w.cell? ⟨gw, j, none⟩ = some u := by
      intro j u hj
      rw [cell_at hhw]
      rw [← htk, List.getElem?_take] at hj
      split at hj
      · simpa using hj
      · simp at hj
    have e1 : Q[j]? = some (Q.getD j (0, ByteArray.empty)) := by rw [List.getD_eq_getElem?_getD, List.getElem?_eq_getElem hj]; rfl
    have e2 : hs[j]? = some (hs.getD j (0, 0)) := by rw [List.getD_eq_getElem?_getD, List.getElem?_eq_getElem (by omega)]; rfl
    obtain ⟨c1, c2⟩ := qCells_at j Q hs _ _ e1 e2
    exact ⟨cellw _ _ c1, cellw _ _ c2⟩
theorem DevAt.bytes (h : DevAt w b vp vw P Q gs hs) (j : Nat) (hj : j < Q.length) : (Q.getD j (0, ByteArray.empty)).2.size = 256 ∧ (Q.getD j (0, ByteArray.empty)).1 < P.length ∧ RdB w (some ⟨(hs.getD j (0, 0)).1, 0, none⟩) (Q.getD j (0, ByteArray.empty)).2 := by
  have hl := h.hlen
  have e1 : Q[j]? = some (Q.getD j (0, ByteArray.empty)) := by rw [List.getD_eq_getElem?_getD, List.getElem?_eq_getElem hj]; rfl
  have e2 : hs[j]? = some (hs.getD j (0, 0)) := by rw [List.getD_eq_getElem?_getD, List.getElem?_eq_getElem (by omega)]; rfl
  obtain ⟨q, h1, h2, h3, _, _, cur, h6, h7⟩ := h.wr j _ e2
  rw [e1] at h1; injection h1 with h1; rw [← h1] at h2 h3 h7
  exact ⟨h3, h2, RdB.of_block h6 (by rw [h3]; exact h7)⟩
theorem DevAt.pageCell (h : DevAt w b vp vw P Q gs hs) (i : Nat) (hi : i < P.length) : ∃ gp cp g, vp = .slice (some ⟨gp, 0, none⟩) P.length cp ∧ w.cell? ⟨gp, i, none⟩ = some (pageV g) ∧ w.heap[g]? = some (.cells (Lib.strCells (P.getD i ByteArray.empty)).toArray 5 (0, 0)) ∧ (P.getD i ByteArray.empty).size = 256 ∧ gs[i]? = some g := by
  have hgl := h.glen
  obtain ⟨g, hg⟩ : ∃ g, gs[i]? = some g := ⟨_, List.getElem?_eq_getElem (by omega)⟩
  obtain ⟨s, hs1, hs2, hs3⟩ := h.page i g hg
  have hp := h.rowP
  rcases hp.2 with ⟨_, h0⟩ | ⟨gp, cp, curp, hvp, _, hhp, _, _, hszp, htkp⟩
  · omega
  have e : P.getD i ByteArray.empty = s := by rw [List.getD_eq_getElem?_getD, hs1]; rfl
  rw [e]
  refine ⟨gp, cp, g, hvp, ?_, hs3, hs2, hg⟩
  rw [cell_at hhp]
  have hj : (gs.map pageV)[i]? = some (pageV g) := by rw [List.getElem?_map, hg]; rfl
  rw [← htkp, List.getElem?_take] at hj
  split at hj
  · simpa using hj
  · simp at hj
theorem cells_own {β : Type} (B : Nat) (o : Obj) (ho : o.isCells = true) : Own (fun (_ : β) W => W.heap[B]? = some o) := fun s X Y row hs hg hrow =>
  (hg.block B (lt_of_some hs) (fun e => by obtain ⟨o', ho', hc⟩ := hrow B e.symm; rw [hs] at ho'; cases ho'; rw [ho] at hc; cases hc)).trans hs
theorem OwnB.kept {W W' : World} {base : Nat} {v : Value} {s : ByteArray} {row : Option Nat} (h : OwnB W base v s) (hg : W.grownBy W' row) (hrow : ∀ r, row = some r → ∃ o : Obj, W.heap[r]? = some o ∧ o.isCells = false) : OwnB W' base v s := by
  obtain ⟨g, cap, cur, h0, h1, h2, h5, h3, h6, h4⟩ := h
  exact ⟨g, cap, cur, h0, h1, h2, h5, cells_own (β := Unit) g _ rfl () W W' row h3 hg hrow, h6, h4⟩
/-- The last write of a page is the one that is read. -/
theorem dRead_last (i m : Nat) (hm : m < Q.length) (hq : (Q.getD m (0, ByteArray.empty)).1 = i) (hi : i < P.length) (hlast : ∀ j, m < j → j < Q.length → (Q.getD j (0, ByteArray.empty)).1 ≠ i) : dRead P Q i = (Q.getD m (0, ByteArray.empty)).2 := by
  have key : ∀ d n, n + d = Q.length → m < n → dRead P (Q.take n) i = (Q.getD m (0, ByteArray.empty)).2 → dRead P Q i = (Q.getD m (0, ByteArray.empty)).2 := by
    intro d
    induction d with
    | zero => intro n hn _ h; rw [List.take_of_length_le (by omega)] at h; exact h
    | succ d ih =>
      intro n hn hmn h
      refine ih (n + 1) (by omega) (by omega) ?_
      have e1 : Q[n]? = some (Q.getD n (0, ByteArray.empty)) := by rw [List.getD_eq_getElem?_getD, List.getElem?_eq_getElem (by omega)]; rfl
      rw [take_snoc _ _ _ e1, dRead_miss _ _ _ _ (hlast n hmn (by omega))]
      exact h
  refine key (Q.length - (m + 1)) (m + 1) (by omega) (by omega) ?_
  have e1 : Q[m]? = some (Q.getD m (0, ByteArray.empty)) := by rw [List.getD_eq_getElem?_getD, List.getElem?_eq_getElem hm]; rfl
  rw [take_snoc _ _ _ e1]
  have := dRead_hit P (Q.take m) (Q.getD m (0, ByteArray.empty)) (by rw [hq]; exact hi)
  rw [hq] at this
  exact this
theorem dRead_none (i : Nat) (hno : ∀ j, j < Q.length → (Q.getD j (0, ByteArray.empty)).1 ≠ i) : dRead P Q i = P.getD i ByteArray.empty := by
  have key : ∀ n, n ≤ Q.length → dRead P (Q.take n) i = P.getD i ByteArray.empty := by
    intro n
    induction n with
    | zero => intro _; rfl
    | succ n ih =>
      intro hn
      have e1 : Q[n]? = some (Q.getD n (0, ByteArray.empty)) := by rw [List.getD_eq_getElem?_getD, List.getElem?_eq_getElem (by omega)]; rfl
      rw [take_snoc _ _ _ e1, dRead_miss _ _ _ _ (hno n (by omega)), ih (by omega)]
  have := key Q.length (Nat.le_refl _)
  rwa [List.take_length] at this
set_option maxRecDepth 100000 in
set_option maxHeartbeats 1000000 in
theorem read_ok (hd : Dev w F b P Q) (i : Nat) (hi : i < P.length) (hQ : Q.length ≤ 1000000) :
    Calls Tryz.prog 43 #[.pointer (some ⟨b, 0, none⟩), .int .i64 (i : Int)] w fun e w' => ∃ v, e = .returned (.tuple #[v, .int .i64 0]) ∧ OwnB w' w.heap.size v (dRead P Q i) ∧ Below w.heap.size w w' := by
  have hpq := pages_quiet hd
  have HD0 := Lib.hid hd
  obtain ⟨vp, vw, gs, hs, hd, hf⟩ := hd
  have hc1 := cell_at hd.blk 1
  have hbw := lt_of_some hd.blk
  have HD := Lib.hid hd
  have hsm := hd.small
  obtain ⟨Aw, cw, rfl, hcw⟩ := own_slice hd.rowQ
  have t1 : decide (P.length ≤ i) = false := decide_eq_false (by omega)
  have t2 : decide ((P.length : Int) ≤ (i : Int)) = false := decide_eq_false (by omega)
  have t0 : decide ((i : Int) < 0) = false := decide_eq_false (by omega)
  have hca := fun X => cell_alloc hc1 X
  have hcb := fun X Y => cell_alloc (hca X) Y
  have hcc := fun X Y Z => cell_alloc (hcb X Y) Z
  have HPQ := Lib.hid hpq
  clear hd hf hpq
  refine (callsIn_wide (n := 6)).1 (callsIn_of_wp_marks Tryz.func43 rfl trivial ?_ rfl)
  simp only [Tryz.ntmps43, List.size_toArray, List.length_cons, List.length_nil, Nat.reduceAdd, Nat.reduceSub, Array.replicate_succ, Array.replicate_zero, List.push_toArray, List.append_toArray, List.nil_append, List.cons_append]
  refine wpIn_wide.2 ?_
  go_wp2_with fail
  go_quiet ((go_at_call 41; exact Calls.quiet_of_same (HPQ.out _ (below_al (below_al (below_al (Below.refl _ _) _) _) _) _)))
  go_wp2_with fail
  refine ((callsIn_wide (n := 1)).1 (backward_in Fence.wide 1 trivial rfl Aw Q.length cw _)).mono ?_
  rintro e w' ⟨rfl, rfl⟩
  go_wp2_with fail
  have hB0 : Below w.heap.size w (((((w.alloc (Obj.cells #[Value.int IntKind.i64 ↑i] 3)).alloc (Obj.cells #[Value.slice none 0 0] 22)).alloc (Obj.cells #[Value.int IntKind.i64 0] 28)).drewN nq).alloc (Obj.cells #[Value.slice Aw Q.length cw] 106)) := below_al (below_dn (below_al (below_al (below_al (Below.refl _ _) _) _) _) _) _
  have b3 : Boxed (((((w.alloc (Obj.cells #[Value.int IntKind.i64 ↑i] 3)).alloc (Obj.cells #[Value.slice none 0 0] 22)).alloc (Obj.cells #[Value.int IntKind.i64 0] 28)).drewN nq).alloc (Obj.cells #[Value.slice Aw Q.length cw] 106)) w.heap.size 3 (.int .i64 (i : Int)) := Boxed.alloc (W := (((w.alloc (Obj.cells #[Value.int IntKind.i64 ↑i] 3)).alloc (Obj.cells #[Value.slice none 0 0] 22)).alloc (Obj.cells #[Value.int IntKind.i64 0] 28)).drewN nq) (show Boxed (((w.alloc (Obj.cells #[Value.int IntKind.i64 ↑i] 3)).alloc (Obj.cells #[Value.slice none 0 0] 22)).alloc (Obj.cells #[Value.int IntKind.i64 0] 28)) _ _ _ from ((Boxed.new w _ _).alloc _).alloc _) _
  have b4 : Boxed (((((w.alloc (Obj.cells #[Value.int IntKind.i64 ↑i] 3)).alloc (Obj.cells #[Value.slice none 0 0] 22)).alloc (Obj.cells #[Value.int IntKind.i64 0] 28)).drewN nq).alloc (Obj.cells #[Value.slice Aw Q.length cw] 106)) (w.heap.size + 1) 22 (.slice none 0 0) := Boxed.alloc (W := (((w.alloc (Obj.cells #[Value.int IntKind.i64 ↑i] 3)).alloc (Obj.cells #[Value.slice none 0 0] 22)).alloc (Obj.cells #[Value.int IntKind.i64 0] 28)).drewN nq) (show Boxed (((w.alloc (Obj.cells #[Value.int IntKind.i64 ↑i] 3)).alloc (Obj.cells #[Value.slice none 0 0] 22)).alloc (Obj.cells #[Value.int IntKind.i64 0] 28)) _ _ _ from by have := (Boxed.new (w.alloc (Obj.cells #[Value.int IntKind.i64 ↑i] 3)) 22 (.slice none 0 0)).alloc (Obj.cells #[Value.int IntKind.i64 0] 28); rwa [World.size_alloc] at this) _
  have b5 : Boxed (((((w.alloc (Obj.cells #[Value.int IntKind.i64 ↑i] 3)).alloc (Obj.cells #[Value.slice none 0 0] 22)).alloc (Obj.cells #[Value.int IntKind.i64 0] 28)).drewN nq).alloc (Obj.cells #[Value.slice Aw Q.length cw] 106)) (w.heap.size + 1 + 1) 28 (.int .i64 0) := Boxed.alloc (W := (((w.alloc (Obj.cells #[Value.int IntKind.i64 ↑i] 3)).alloc (Obj.cells #[Value.slice none 0 0] 22)).alloc (Obj.cells #[Value.int IntKind.i64 0] 28)).drewN nq) (show Boxed (((w.alloc (Obj.cells #[Value.int IntKind.i64 ↑i] 3)).alloc (Obj.cells #[Value.slice none 0 0] 22)).alloc (Obj.cells #[Value.int IntKind.i64 0] 28)) _ _ _ from by have := Boxed.new ((w.alloc (Obj.cells #[Value.int IntKind.i64 ↑i] 3)).alloc (Obj.cells #[Value.slice none 0 0] 22)) 28 (.int .i64 0); rwa [World.size_alloc, World.size_alloc] at this) _
  have bs : Boxed (((((w.alloc (Obj.cells #[Value.int IntKind.i64 ↑i] 3)).alloc (Obj.cells #[Value.slice none 0 0] 22)).alloc (Obj.cells #[Value.int IntKind.i64 0] 28)).drewN nq).alloc (Obj.cells #[Value.slice Aw Q.length cw] 106)) (w.heap.size + 1 + 1 + 1) 106 (.slice Aw Q.length cw) := by
    have h := Boxed.new ((((w.alloc (Obj.cells #[Value.int IntKind.i64 ↑i] 3)).alloc (Obj.cells #[Value.slice none 0 0] 22)).alloc (Obj.cells #[Value.int IntKind.i64 0] 28)).drewN nq) 106 (.slice Aw Q.length cw)
    have e : ((((w.alloc (Obj.cells #[Value.int IntKind.i64 ↑i] 3)).alloc (Obj.cells #[Value.slice none 0 0] 22)).alloc (Obj.cells #[Value.int IntKind.i64 0] 28)).drewN nq).heap.size = w.heap.size + 1 + 1 + 1 := by
      show (((w.alloc _).alloc _).alloc _).heap.size = _
      rw [World.size_alloc, World.size_alloc, World.size_alloc]
    rwa [e] at h
  have hsz : (((((w.alloc (Obj.cells #[Value.int IntKind.i64 ↑i] 3)).alloc (Obj.cells #[Value.slice none 0 0] 22)).alloc (Obj.cells #[Value.int IntKind.i64 0] 28)).drewN nq).alloc (Obj.cells #[Value.slice Aw Q.length cw] 106)).heap.size = w.heap.size + 4 := by
    rw [World.size_alloc]
    show (((w.alloc _).alloc _).alloc _).heap.size + 1 = _
    rw [World.size_alloc, World.size_alloc, World.size_alloc]
  obtain ⟨W0, hW0⟩ : ∃ W0, (((((w.alloc (Obj.cells #[Value.int IntKind.i64 ↑i] 3)).alloc (Obj.cells #[Value.slice none 0 0] 22)).alloc (Obj.cells #[Value.int IntKind.i64 0] 28)).drewN nq).alloc (Obj.cells #[Value.slice Aw Q.length cw] 106)) = W0 := ⟨_, rfl⟩
  rw [hW0] at hB0 b3 b4 b5 bs hsz ⊢
  clear hW0 hca hcb hcc
  have hd0 := HD.out.move (w1 := W0) fun k hk => hB0.block k (HD.out.foot_lt k hk)
  have hbc := hd0.backCells
  have HD1 := Lib.hid hd0
  have HBC := Lib.hid hbc
  clear hd0 hbc
  refine (wpIn_wide (n := 6)).1 ?_
  refine wpIn_rangeFunc_ownH (α := { j : Nat // j < Q.length }) (F := Fence.wide) (n := 6) (w := W0) rfl (by decide) (gf := 108) (lb := #[.pointer (some ⟨w.heap.size + 1 + 1 + 1, 0, none⟩)]) rfl trivial (enters_of Tryz.func108 (by kernel_rfl) rfl)
    (encs := fun x => back Q hs x.1) (Kp := Below W0.heap.size) (S := fun ys => ∀ j, j ∈ ys) (Sp := fun pre => ∀ (p0 : List { j : Nat // j < Q.length }) (x : { j : Nat // j < Q.length }), pre = p0 ++ [x] → ∀ j : { j : Nat // j < Q.length }, x.1 < j.1 → j ∈ p0) (N := Q.length) (w0 := W0)
    (fun l J Jx W hW _ _ hY h0 => back_in Fence.wide 5 trivial rfl (by decide) l (w.heap.size + 1 + 1 + 1) W0.heap.size Q hs (.slice Aw Q.length cw) hQ J Jx hY W ((hW.cell (p := ⟨_, 0, none⟩) bs.lt).trans bs.cell) bs.lt
      (by
        rcases HBC.out with h | ⟨gw, cap, h1, h2, h3⟩
        · exact .inl h
        · exact .inr ⟨gw, cap, h1, h2, fun j hj => ⟨(hW.cell (p := ⟨gw, j * 2, none⟩) h2).trans (h3 j hj).1, (hW.cell (p := ⟨gw, j * 2 + 1, none⟩) h2).trans (h3 j hj).2⟩⟩) h0)
    belowK_t (belowK_b (Nat.le_refl _)) (Below.refl _ _) (fun _ => rfl)
    (fun pre W => (∀ x ∈ pre, (Q.getD x.1 (0, ByteArray.empty)).1 ≠ i) ∧ Below W0.heap.size W0 W)
    (fun c pre W => (c = .ret ∧ ∃ p0 x, pre = p0 ++ [x] ∧ (∀ y ∈ p0, (Q.getD y.1 (0, ByteArray.empty)).1 ≠ i) ∧ (Q.getD x.1 (0, ByteArray.empty)).1 = i ∧ ∃ v, Boxed W (w.heap.size + 1) 22 v ∧ OwnB W w.heap.size v (Q.getD x.1 (0, ByteArray.empty)).2) ∧ Boxed W (w.heap.size + 1 + 1) 28 (.int .i64 0) ∧ Below w.heap.size w W)
    (OwnFrom.and (ownFrom_pure _ _) (ownFrom_below (Nat.le_refl _) (Nat.le_refl _)))
    (fun c => OwnFrom.and (Own.from (fun s X Y row hs hg hr => by
      obtain ⟨h1, p0, x, h2, h3, h4, v, h5, h6⟩ := hs
      exact ⟨h1, p0, x, h2, h3, h4, v, boxed_own _ _ (fun (_ : Unit) => v) () X Y row h5 hg hr, h6.kept hg hr⟩) _) (OwnFrom.and (Own.from (boxed_own _ _ _) _) (ownFrom_below (Nat.le_refl _) hB0.size)))
    ⟨fun x hx => by simp at hx, Below.refl _ _⟩
    (fun x a' W => ∃ Bx, W0.heap.size ≤ Bx ∧ W.heap[Bx]? = some (.cells #[.int .i64 ((Q.getD x.1 (0, ByteArray.empty)).1 : Int), .slice (some ⟨(hs.getD x.1 (0, 0)).1, 0, none⟩) 256 (hs.getD x.1 (0, 0)).2] 111 (0, 0)) ∧
      a' = { tmps := #[.pointer (some ⟨b, 0, none⟩), .int .i64 (i : Int), undef, .pointer (some ⟨w.heap.size, 0, none⟩), .pointer (some ⟨w.heap.size + 1, 0, none⟩), .pointer (some ⟨w.heap.size + 1 + 1, 0, none⟩), undef, .pointer (some ⟨Bx, 0, none⟩), .int .i64 (i : Int), .bool false, .bool false, .int .i64 (i : Int), .pointer (some ⟨b, 0, none⟩), .int .i64 (P.length : Int), .bool false, .bool false, .pointer (some ⟨b, 0, none⟩), .pointer (some ⟨b, 0, none⟩), .pointer (some ⟨b, 1, none⟩), .slice Aw Q.length cw, .func (.func 108) #[] #[.pointer (some ⟨w.heap.size + 1 + 1 + 1, 0, none⟩)], .int .i64 (x.1 : Int), .agg #[.int .i64 ((Q.getD x.1 (0, ByteArray.empty)).1 : Int), .slice (some ⟨(hs.getD x.1 (0, 0)).1, 0, none⟩) 256 (hs.getD x.1 (0, 0)).2], undef, undef, undef, undef, undef, undef, undef, undef, undef, undef, undef, undef, undef, undef, undef], defers := [] })
    (fun x a' _ X Y row hs hg hr => by obtain ⟨Bx, e1, e2, e3⟩ := hs; exact ⟨Bx, e1, cells_own (β := Unit) Bx _ rfl () X Y row e2 hg (fun r e => (hr r e).2), e3⟩)
    ?assign ?body ?done ?stop
  case assign =>
    rintro l pre x W K ⟨hp, hB1⟩ hK
    simp only [back]
    generalize hqq : Q.getD x.1 (0, ByteArray.empty) = q at *
    generalize hhh : hs.getD x.1 (0, 0) = h at *
    clear hqq hhh
    gi_wp2
    exact hK _ _ ((KeepsOthers.alloc _ _).from _) ((Below.refl _ W).alloc hB1.size _) ⟨hp, hB1.alloc hB1.size _⟩ ⟨W.heap.size, hB1.size, new_block _ _, rfl⟩
  case body =>
    rintro l pre x a' W hl ⟨r, hr⟩ ⟨hp, hB1⟩ ⟨Bx, hBx, bX, rfl⟩ hlt
    obtain ⟨hsz1, hq1, hrd⟩ := HD1.out.bytes x.1 x.2
    have c3 := (hB1.cell (p := ⟨w.heap.size, 0, none⟩) b3.lt).trans b3.cell
    have k4 : Boxed W (w.heap.size + 1) 22 (.slice none 0 0) := (hB1.block _ b4.lt).trans b4
    have k5 : Boxed W (w.heap.size + 1 + 1) 28 (.int .i64 0) := (hB1.block _ b5.lt).trans b5
    have cx0 := cell_at bX 0
    have cx1 := cell_at bX 1
    have hrdW := hrd.below hB1
    have HX := Lib.hid hp
    clear hp
    obtain ⟨q, hqq⟩ : ∃ q, Q.getD x.1 (0, ByteArray.empty) = q := ⟨_, rfl⟩
    obtain ⟨h, hhh⟩ : ∃ h, hs.getD x.1 (0, 0) = h := ⟨_, rfl⟩
    rw [hqq] at hsz1 hq1 hrd hrdW bX cx0 cx1 ⊢
    rw [hhh] at hrd hrdW bX cx0 cx1 ⊢
    have HQQ := Lib.hid hqq
    have HSZ := Lib.hid hsz1
    have HRW := Lib.hid hrdW
    clear hqq hhh hrd hrdW hsz1
    have f4 := k4.frozen
    have f5 := k5.frozen
    have c4 := k4.cell
    have c5 := k5.cell
    by_cases hqi : q.1 = i
    · have tq : ((q.1 : Int) == (i : Int)) = true := by rw [hqi]; simp
      have HQI := Lib.hid hqi
      clear hqi
      have h1n : 1 ≤ 6 - 1 - 1 := by decide
      gi_wp2_with fail
      refine ⟨trivial, ?_⟩
      have hcl := clone_any ⟨h.1, 0, none⟩ h.2 q.2 W HRW.out (by rw [HSZ.out]; decide)
      rw [HSZ.out] at hcl
      refine (CallsIn.inRound l ((callsIn_wide (n := 3)).2 hcl)).mono ?_
      clear hcl
      rintro e w1 ⟨v1, rfl, hov1, hb1⟩
      have k4' : Boxed w1 (w.heap.size + 1) 22 (.slice none 0 0) := (hb1.block _ k4.lt).trans k4
      have k5' : Boxed w1 (w.heap.size + 1 + 1) 28 (.int .i64 0) := (hb1.block _ k5.lt).trans k5
      have c4' := k4'.cell
      have f4' := k4'.frozen
      have c5' := k5'.cell
      have f5' := k5'.frozen
      have HO1 := Lib.hid hov1
      obtain ⟨gv, capv, curv, rfl, hgv, hcv1, hcv2, hcv3, hcv4, hcv5⟩ := hov1
      have hsW := hB1.size
      gi_wp2
      have hb2 : Below w.heap.size w w1 := (hB0.trans (hB1.mono hB0.size)).trans (hb1.mono (by omega))
      have k4s : Boxed ((w1.setCell ⟨w.heap.size + 1, 0, none⟩ (.slice (some ⟨gv, 0, none⟩) q.2.size capv)).setCell ⟨w.heap.size + 1 + 1, 0, none⟩ (.int .i64 0)) (w.heap.size + 1) 22 (.slice (some ⟨gv, 0, none⟩) q.2.size capv) := (k4'.set _).other (by omega) _
      have k5s : Boxed ((w1.setCell ⟨w.heap.size + 1, 0, none⟩ (.slice (some ⟨gv, 0, none⟩) q.2.size capv)).setCell ⟨w.heap.size + 1 + 1, 0, none⟩ (.int .i64 0)) (w.heap.size + 1 + 1) 28 (.int .i64 0) := (k5'.other (by omega) _).set _
      refine ⟨KeepsFrom.trans (⟨hb1.size, fun k o hB hk _ => (hb1.block k (lt_of_some hk)).trans hk⟩) (((KeepsOthers.setCell _ _ _).trans (KeepsOthers.setCell _ _ _)).from _), ⟨rfl, pre, x, rfl, HX.out, by rw [HQQ.out]; exact HQI.out, _, k4s, ?_⟩, k5s, (hb2.setCell (p := ⟨w.heap.size + 1, 0, none⟩) (by simp) _).setCell (p := ⟨w.heap.size + 1 + 1, 0, none⟩) (by simp; omega) _⟩
      rw [HQQ.out]
      have ho := HO1.out
      refine ⟨gv, capv, curv, rfl, by omega, hcv1, hcv2, ?_, hcv4, hcv5⟩
      rw [heap_setCell_ne _ _ _ _ _ (by omega), heap_setCell_ne _ _ _ _ _ (by omega)]
      exact hcv3
    · have tq : ((q.1 : Int) == (i : Int)) = false := by rw [beq_eq_false_iff_ne]; omega
      have HQI := Lib.hid hqi
      clear hqi
      gi_wp2
      refine ⟨KeepsFrom.refl _ _, Below.refl _ _, ⟨fun y hy => ?_, hB1⟩⟩
      rcases List.mem_append.1 hy with hy | hy
      · exact HX.out y hy
      · have : y = x := by simpa using hy
        subst this
        rw [HQQ.out]; exact HQI.out
  case done =>
    rintro D ys W hD hall ⟨hp, hB1⟩ hK
    have hdr : dRead P Q i = P.getD i ByteArray.empty := dRead_none i fun j hj => hp ⟨j, hj⟩ (hall ⟨j, hj⟩)
    have HDR := Lib.hid hdr
    have hdW := HD1.out.move (w1 := W) fun k hk => hB1.block k (HD1.out.foot_lt k hk)
    obtain ⟨gp, cp, g, hvp, hcp, hgp, hszp, _⟩ := hdW.pageCell i hi
    have cb := cell_at hdW.blk 0
    rw [hvp] at cb
    have c3 := (hB1.cell (p := ⟨w.heap.size, 0, none⟩) b3.lt).trans b3.cell
    have k4 : Boxed W (w.heap.size + 1) 22 (.slice none 0 0) := (hB1.block _ b4.lt).trans b4
    have k5 : Boxed W (w.heap.size + 1 + 1) 28 (.int .i64 0) := (hB1.block _ b5.lt).trans b5
    have hiI : (i : Int) < (P.length : Int) := by omega
    generalize hpg : P.getD i ByteArray.empty = pg at hgp hszp HDR
    have HPG := Lib.hid hszp
    have HGP := Lib.hid hgp
    have HVP := Lib.hid hvp
    have hcl := fun wx (hx : Below W.heap.size W wx) => clone_any ⟨g, 0, none⟩ 256 pg wx ((RdB.of_block (w := W) hgp (by rw [List.take_of_length_le (by simp [Lib.strCells_length])])).below hx) (by rw [hszp]; decide)
    rw [hszp] at hcl
    have HCL := Lib.hid hcl
    clear hcl hp hall hdW hpg hszp hgp hvp hdr
    go_wp2_with fail
    refine wp_region_noPanic ?_
    go_region_with (go_at_call 42; refine (HCL.out _ (by repeat (first | exact Below.refl _ _ | apply below_dr | apply below_al))).mono ?_; rintro e w1 ⟨v1, rfl, hov1, hb1⟩; have k4' : Boxed w1 (w.heap.size + 1) 22 (.slice none 0 0) := (hb1.block _ k4.lt).trans k4; have k5' : Boxed w1 (w.heap.size + 1 + 1) 28 (.int .i64 0) := (hb1.block _ k5.lt).trans k5; have c4' := k4'.cell; have f4' := k4'.frozen; have c5' := k5'.cell; have f5' := k5'.frozen; have HO1 := Lib.hid hov1; obtain ⟨gv, capv, curv, rfl, hgv, hcv1, hcv2, hcv3, hcv4, hcv5⟩ := hov1)
    all_goals
      refine NoPanic.normal ?_
      go_wp2
      have hbW : Below W.heap.size W w1 := bl (by repeat (first | exact Below.refl _ _ | apply below_dr | apply below_al)) hb1
      have hKw : w1.heap[D]? = some (.deferred (some [])) := (hbW.block D (lt_of_some hK)).trans hK
      have hK' : ((w1.setCell ⟨w.heap.size + 1, 0, none⟩ (.slice (some ⟨gv, 0, none⟩) pg.size capv)).setCell ⟨w.heap.size + 1 + 1, 0, none⟩ (.int .i64 0)).heap[D]? = some (.deferred (some [])) := by
        rw [heap_setCell_ne _ _ _ _ _ (by omega), heap_setCell_ne _ _ _ _ _ (by omega)]; exact hKw
      have hb2 : Below w.heap.size w w1 := (hB0.trans (hB1.mono hB0.size)).trans (hbW.mono (by have := hB1.size; omega))
      have k4s : Boxed ((w1.setCell ⟨w.heap.size + 1, 0, none⟩ (.slice (some ⟨gv, 0, none⟩) pg.size capv)).setCell ⟨w.heap.size + 1 + 1, 0, none⟩ (.int .i64 0)) (w.heap.size + 1) 22 (.slice (some ⟨gv, 0, none⟩) pg.size capv) := (k4'.set _).other (by omega) _
      have k5s : Boxed ((w1.setCell ⟨w.heap.size + 1, 0, none⟩ (.slice (some ⟨gv, 0, none⟩) pg.size capv)).setCell ⟨w.heap.size + 1 + 1, 0, none⟩ (.int .i64 0)) (w.heap.size + 1 + 1) 28 (.int .i64 0) := (k5'.other (by omega) _).set _
      refine ⟨by simp, .inl ⟨_, _, rfl, run_takeDeferred hK', ?_⟩⟩
      have hnc : ∀ r, some D = some r → ∃ o : Obj, ((w1.setCell ⟨w.heap.size + 1, 0, none⟩ (.slice (some ⟨gv, 0, none⟩) pg.size capv)).setCell ⟨w.heap.size + 1 + 1, 0, none⟩ (.int .i64 0)).heap[r]? = some o ∧ o.isCells = false := fun r e => by cases e; exact ⟨_, hK', rfl⟩
      have r4 := cell_kept k4s.cell (grownBy_putObj' _ D (.deferred none)) hnc
      have r5 := cell_kept k5s.cell (grownBy_putObj' _ D (.deferred none)) hnc
      refine ⟨.tuple #[.slice (some ⟨gv, 0, none⟩) pg.size capv, .int .i64 0], ?_, _, rfl, ?_, ((hb2.setCell (p := ⟨w.heap.size + 1, 0, none⟩) (by simp) _).setCell (p := ⟨w.heap.size + 1 + 1, 0, none⟩) (by simp; omega) _).trans (belowK_b (w := w) (Nat.le_refl _) _ D _ _ (by omega) hK' rfl rfl)⟩
      · simp [results, Tryz.f43, go_sem, r4, r5]
      · rw [HDR.out]
        have hs1 := hB1.size
        refine OwnB.kept ⟨gv, capv, curv, rfl, ?_, hcv1, hcv2, ?_, hcv4, hcv5⟩ (grownBy_putObj' _ D (.deferred none)) hnc
        · have := hB1.size
          first | omega | (simp at hgv; omega)
        · rw [heap_setCell_ne _ _ _ _ _ (by first | omega | (simp at hgv; omega)), heap_setCell_ne _ _ _ _ _ (by first | omega | (simp at hgv; omega))]
          exact hcv3
  case stop =>
    rintro D c pre W hD hSp ⟨⟨rfl, p0, x, rfl, hp0, hx, v, hv, hov⟩, h5, hB1⟩ hK
    have hdr : dRead P Q i = (Q.getD x.1 (0, ByteArray.empty)).2 := dRead_last i x.1 x.2 hx hi fun j hj1 hj2 => hp0 ⟨j, hj2⟩ (hSp p0 x rfl ⟨j, hj2⟩ hj1)
    have HDR := Lib.hid hdr
    clear hdr hSp hp0 hx
    gi_wp2
    refine ⟨by simp, .inl ⟨_, _, rfl, run_takeDeferred hK, ?_⟩⟩
    have hnc : ∀ r, some D = some r → ∃ o : Obj, W.heap[r]? = some o ∧ o.isCells = false := fun r e => by cases e; exact ⟨_, hK, rfl⟩
    have r4 := cell_kept hv.cell (grownBy_putObj' _ D (.deferred none)) hnc
    have r5 := cell_kept h5.cell (grownBy_putObj' _ D (.deferred none)) hnc
    refine ⟨.tuple #[v, .int .i64 0], ?_, v, rfl, ?_, hB1.trans (belowK_b (w := w) (Nat.le_refl _) _ D _ _ (by omega) hK rfl rfl)⟩
    · simp [results, Tryz.f43, go_sem, r4, r5]
    · rw [HDR.out]
      exact hov.kept (grownBy_putObj' _ D (.deferred none)) hnc
end
end Go.Proofs.YtpgpphmpnebafaaGreat.Dv
