/- The program's entry of a script, by walks. -/
import Derived.Test.YtpjgmcoimniheaaDoorScB
namespace Go.Proofs.YtpjgmcoimniheaaDoor.Sc
open Go.RowKit Go.Proofs.YtpjgmcoimniheaaDoor.By Go.Proofs.YtpjgmcoimniheaaDoor.Mt
set_option linter.unusedSimpArgs false
set_option linter.unusedVariables false

theorem new_block2 (w : World) (M S : Obj) : ((w.alloc M).alloc S).heap[w.heap.size + 1]? = some S := by
  have := new_block (w.alloc M) S
  rwa [World.size_alloc] at this
set_option maxRecDepth 100000 in
set_option maxHeartbeats 2000000 in
theorem eight_set {w : World} {b : Nat} {y0 y1 y2 y3 y4 y5 y6 y7 : Value} {T : TypeId} (h : w.heap[b]? = some (.cells #[y0, y1, y2, y3, y4, y5, y6, y7] T (0, 0))) (u0 : Value) (u1 : Value) (u2 : Value) (u3 : Value) (u4 : Value) (u5 : Value) (u6 : Value) (u7 : Value) : ((((((((w.setCell ⟨b, 0, none⟩ u0).setCell ⟨b, 1, none⟩ u1).setCell ⟨b, 2, none⟩ u2).setCell ⟨b, 3, none⟩ u3).setCell ⟨b, 4, none⟩ u4).setCell ⟨b, 5, none⟩ u5).setCell ⟨b, 6, none⟩ u6).setCell ⟨b, 7, none⟩ u7).cell? ⟨b, 0, none⟩ = some u0 ∧ ((((((((w.setCell ⟨b, 0, none⟩ u0).setCell ⟨b, 1, none⟩ u1).setCell ⟨b, 2, none⟩ u2).setCell ⟨b, 3, none⟩ u3).setCell ⟨b, 4, none⟩ u4).setCell ⟨b, 5, none⟩ u5).setCell ⟨b, 6, none⟩ u6).setCell ⟨b, 7, none⟩ u7).cell? ⟨b, 1, none⟩ = some u1 ∧ ((((((((w.setCell ⟨b, 0, none⟩ u0).setCell ⟨b, 1, none⟩ u1).setCell ⟨b, 2, none⟩ u2).setCell ⟨b, 3, none⟩ u3).setCell ⟨b, 4, none⟩ u4).setCell ⟨b, 5, none⟩ u5).setCell ⟨b, 6, none⟩ u6).setCell ⟨b, 7, none⟩ u7).cell? ⟨b, 2, none⟩ = some u2 ∧ ((((((((w.setCell ⟨b, 0, none⟩ u0).setCell ⟨b, 1, none⟩ u1).setCell ⟨b, 2, none⟩ u2).setCell ⟨b, 3, none⟩ u3).setCell ⟨b, 4, none⟩ u4).setCell ⟨b, 5, none⟩ u5).setCell ⟨b, 6, none⟩ u6).setCell ⟨b, 7, none⟩ u7).cell? ⟨b, 3, none⟩ = some u3 ∧ ((((((((w.setCell ⟨b, 0, none⟩ u0).setCell ⟨b, 1, none⟩ u1).setCell ⟨b, 2, none⟩ u2).setCell ⟨b, 3, none⟩ u3).setCell ⟨b, 4, none⟩ u4).setCell ⟨b, 5, none⟩ u5).setCell ⟨b, 6, none⟩ u6).setCell ⟨b, 7, none⟩ u7).cell? ⟨b, 4, none⟩ = some u4 ∧ ((((((((w.setCell ⟨b, 0, none⟩ u0).setCell ⟨b, 1, none⟩ u1).setCell ⟨b, 2, none⟩ u2).setCell ⟨b, 3, none⟩ u3).setCell ⟨b, 4, none⟩ u4).setCell ⟨b, 5, none⟩ u5).setCell ⟨b, 6, none⟩ u6).setCell ⟨b, 7, none⟩ u7).cell? ⟨b, 5, none⟩ = some u5 ∧ ((((((((w.setCell ⟨b, 0, none⟩ u0).setCell ⟨b, 1, none⟩ u1).setCell ⟨b, 2, none⟩ u2).setCell ⟨b, 3, none⟩ u3).setCell ⟨b, 4, none⟩ u4).setCell ⟨b, 5, none⟩ u5).setCell ⟨b, 6, none⟩ u6).setCell ⟨b, 7, none⟩ u7).cell? ⟨b, 6, none⟩ = some u6 ∧ ((((((((w.setCell ⟨b, 0, none⟩ u0).setCell ⟨b, 1, none⟩ u1).setCell ⟨b, 2, none⟩ u2).setCell ⟨b, 3, none⟩ u3).setCell ⟨b, 4, none⟩ u4).setCell ⟨b, 5, none⟩ u5).setCell ⟨b, 6, none⟩ u6).setCell ⟨b, 7, none⟩ u7).cell? ⟨b, 7, none⟩ = some u7 := by
  have h0 : (w.setCell ⟨b, 0, none⟩ u0).heap[b]? = some (.cells #[u0, y1, y2, y3, y4, y5, y6, y7] T (0, 0)) := heap_setCell_self _ b 0 _ _ u0 h
  have h1 : ((w.setCell ⟨b, 0, none⟩ u0).setCell ⟨b, 1, none⟩ u1).heap[b]? = some (.cells #[u0, u1, y2, y3, y4, y5, y6, y7] T (0, 0)) := heap_setCell_self _ b 1 _ _ u1 h0
  have h2 : (((w.setCell ⟨b, 0, none⟩ u0).setCell ⟨b, 1, none⟩ u1).setCell ⟨b, 2, none⟩ u2).heap[b]? = some (.cells #[u0, u1, u2, y3, y4, y5, y6, y7] T (0, 0)) := heap_setCell_self _ b 2 _ _ u2 h1
  have h3 : ((((w.setCell ⟨b, 0, none⟩ u0).setCell ⟨b, 1, none⟩ u1).setCell ⟨b, 2, none⟩ u2).setCell ⟨b, 3, none⟩ u3).heap[b]? = some (.cells #[u0, u1, u2, u3, y4, y5, y6, y7] T (0, 0)) := heap_setCell_self _ b 3 _ _ u3 h2
  have h4 : (((((w.setCell ⟨b, 0, none⟩ u0).setCell ⟨b, 1, none⟩ u1).setCell ⟨b, 2, none⟩ u2).setCell ⟨b, 3, none⟩ u3).setCell ⟨b, 4, none⟩ u4).heap[b]? = some (.cells #[u0, u1, u2, u3, u4, y5, y6, y7] T (0, 0)) := heap_setCell_self _ b 4 _ _ u4 h3
  have h5 : ((((((w.setCell ⟨b, 0, none⟩ u0).setCell ⟨b, 1, none⟩ u1).setCell ⟨b, 2, none⟩ u2).setCell ⟨b, 3, none⟩ u3).setCell ⟨b, 4, none⟩ u4).setCell ⟨b, 5, none⟩ u5).heap[b]? = some (.cells #[u0, u1, u2, u3, u4, u5, y6, y7] T (0, 0)) := heap_setCell_self _ b 5 _ _ u5 h4
  have h6 : (((((((w.setCell ⟨b, 0, none⟩ u0).setCell ⟨b, 1, none⟩ u1).setCell ⟨b, 2, none⟩ u2).setCell ⟨b, 3, none⟩ u3).setCell ⟨b, 4, none⟩ u4).setCell ⟨b, 5, none⟩ u5).setCell ⟨b, 6, none⟩ u6).heap[b]? = some (.cells #[u0, u1, u2, u3, u4, u5, u6, y7] T (0, 0)) := heap_setCell_self _ b 6 _ _ u6 h5
  have h7 : ((((((((w.setCell ⟨b, 0, none⟩ u0).setCell ⟨b, 1, none⟩ u1).setCell ⟨b, 2, none⟩ u2).setCell ⟨b, 3, none⟩ u3).setCell ⟨b, 4, none⟩ u4).setCell ⟨b, 5, none⟩ u5).setCell ⟨b, 6, none⟩ u6).setCell ⟨b, 7, none⟩ u7).heap[b]? = some (.cells #[u0, u1, u2, u3, u4, u5, u6, u7] T (0, 0)) := heap_setCell_self _ b 7 _ _ u7 h6
  exact ⟨cell_at h7 0, cell_at h7 1, cell_at h7 2, cell_at h7 3, cell_at h7 4, cell_at h7 5, cell_at h7 6, cell_at h7 7⟩
def entryR (k : Nat) (l : List Nat) (o : Bool) : Rd Stp :=
  let o1 := o || l.isEmpty
  if k = 1 then let c := callR l.tail o1; ⟨⟨1, hd l % 8, c.v.1, c.v.2.1, c.v.2.2, 0, 0, 0⟩, c.l, c.o⟩
  else if k = 2 then ⟨⟨2, hd l % 8, 0, [], [], 0, 0, 0⟩, l.tail, o1⟩
  else if k = 3 then ⟨⟨3, 0, 0, [], [], hd l, hd l.tail, hd l.tail.tail⟩, l.tail.tail.tail, (o1 || l.tail.isEmpty) || l.tail.tail.isEmpty⟩
  else if k = 4 then ⟨⟨4, hd l, 0, txV l.tail, [], 0, 0, 0⟩, txL l.tail, o1 || txO l.tail⟩
  else ⟨⟨5, hd l, 0, [], [], 0, 0, 0⟩, l.tail, o1⟩
def stpV (s : Stp) : Value := (.agg #[.int .i64 (s.kind : Int), .int .i64 (s.who : Int), .int .i64 (s.xk : Int), .string (ofNats s.key), .string (ofNats s.val), .int .u64 (s.keep : Int), .int .i64 (s.torn : Int), .int .i64 (s.part : Int)])
section
variable {w w1 : World} {B R : Nat} {l : List Nat} {o : Bool}
theorem u64_in (n : Nat) (h : n < 18446744073709551616) : IntKind.u64.wrap (n : Int) = (n : Int) := by rw [IntKind.wrap_u64]; omega
theorem call_agg (h : ScR w B R l o) (hB : B ≤ w.heap.size) : Calls Tryd.prog 17 #[.pointer (some ⟨R, 0, none⟩)] w fun x w' => x = .returned (.agg #[.int .i64 ((callR l o).v.1 : Int), .string (ofNats (callR l o).v.2.1), .string (ofNats (callR l o).v.2.2)]) ∧ ScR w' B R (callR l o).l (callR l o).o ∧ Chg (· = R) w w' := call_any h hB
theorem ScR.bytes (h : ScR w B R l o) : ∀ x ∈ l, x < 256 := by obtain ⟨g, f, c, h1, h2, h3, h4, hgB, hRB, h5, h6⟩ := h; exact h6
set_option maxRecDepth 100000 in
set_option maxHeartbeats 1000000 in
theorem entry_1 (h : ScR w B R l o) (HB : Hid (B ≤ w.heap.size)) : Calls Tryd.prog 15 #[.pointer (some ⟨R, 0, none⟩), .int .i64 1] w fun x w' => x = .returned (.agg #[.int .i64 1, .int .i64 ((hd l : Int) % 8), .int .i64 ((callR l.tail (o || l.isEmpty)).v.1 : Int), .string (ofNats (callR l.tail (o || l.isEmpty)).v.2.1), .string (ofNats (callR l.tail (o || l.isEmpty)).v.2.2), .int .u64 0, .int .i64 0, .int .i64 0]) ∧ ScR w' B R ((callR l.tail (o || l.isEmpty)).l) ((callR l.tail (o || l.isEmpty)).o) ∧ Chg (· = R) w w' := by
  have hRW := h.lt
  have h256 := h.bytes
  have hBW := HB.out
  go_enter Tryd.func15, Tryd.ntmps15
  have hZ0 := box1 (new_block w (.cells #[.int .i64 0, .int .i64 0, .int .i64 0, .string ⟨#[]⟩, .string ⟨#[]⟩, .int .u64 0, .int .i64 0, .int .i64 0] 34 (0, 0))) (below_al (Below.refl _ _) (.cells #[.int .i64 1, .int .i64 0, .int .i64 0, .string ⟨#[]⟩, .string ⟨#[]⟩, .int .u64 0, .int .i64 0, .int .i64 0] 34 (0, 0)))
  have hX0 := new_block2 w (.cells #[.int .i64 0, .int .i64 0, .int .i64 0, .string ⟨#[]⟩, .string ⟨#[]⟩, .int .u64 0, .int .i64 0, .int .i64 0] 34 (0, 0)) (.cells #[.int .i64 1, .int .i64 0, .int .i64 0, .string ⟨#[]⟩, .string ⟨#[]⟩, .int .u64 0, .int .i64 0, .int .i64 0] 34 (0, 0))
  have HC0 := Lib.hid (chg_alloc (chg_alloc (Chg.refl (· = R) w) (.cells #[.int .i64 0, .int .i64 0, .int .i64 0, .string ⟨#[]⟩, .string ⟨#[]⟩, .int .u64 0, .int .i64 0, .int .i64 0] 34 (0, 0))) (.cells #[.int .i64 1, .int .i64 0, .int .i64 0, .string ⟨#[]⟩, .string ⟨#[]⟩, .int .u64 0, .int .i64 0, .int .i64 0] 34 (0, 0)))
  have hs0 := (h.al (.cells #[.int .i64 0, .int .i64 0, .int .i64 0, .string ⟨#[]⟩, .string ⟨#[]⟩, .int .u64 0, .int .i64 0, .int .i64 0] 34 (0, 0))).al (.cells #[.int .i64 1, .int .i64 0, .int .i64 0, .string ⟨#[]⟩, .string ⟨#[]⟩, .int .u64 0, .int .i64 0, .int .i64 0] 34 (0, 0))
  have HZ0 := Lib.hid hZ0
  have HX0 := Lib.hid hX0
  clear h hZ0 hX0
  have HT0 := Lib.hid (one_any hs0)
  clear hs0
  go_wp2_with fail
  refine HT0.out.mono ?_
  rintro x w1 ⟨rfl, hs1, hch⟩
  have hX1 : w1.heap[w.heap.size + 1]? = some (.cells #[.int .i64 1, .int .i64 0, .int .i64 0, .string ⟨#[]⟩, .string ⟨#[]⟩, .int .u64 0, .int .i64 0, .int .i64 0] 34 (0, 0)) := keep hch HX0.out (by omega)
  have hZ1 : w1.heap[w.heap.size]? = some (.cells #[.int .i64 0, .int .i64 0, .int .i64 0, .string ⟨#[]⟩, .string ⟨#[]⟩, .int .u64 0, .int .i64 0, .int .i64 0] 34 (0, 0)) := keep hch HZ0.out (by omega)
  have HC1 := Lib.hid (HC0.out.trans hch (fun _ h => .inl h))
  have x0 := cell_at hX1 0
  have x1 := cell_at hX1 1
  have x2 := cell_at hX1 2
  have x3 := cell_at hX1 3
  have x4 := cell_at hX1 4
  have x5 := cell_at hX1 5
  have x6 := cell_at hX1 6
  have x7 := cell_at hX1 7
  have xf0 := frozen_at hX1 0
  have xf1 := frozen_at hX1 1
  have xf2 := frozen_at hX1 2
  have xf3 := frozen_at hX1 3
  have xf4 := frozen_at hX1 4
  have xf5 := frozen_at hX1 5
  have xf6 := frozen_at hX1 6
  have xf7 := frozen_at hX1 7
  have HX1 := Lib.hid hX1
  have HZ1 := Lib.hid hZ1
  have hlt1 := lt_of_some hX1
  clear hch hX1 hZ1
  have HT1 := Lib.hid (call_agg (hs1.setB (b := w.heap.size + 1) (i := 1) (by have := HB.out; omega) (.int .i64 ((hd l : Int) % 8))) (by simp only [World.size_setCell, World.size_alloc]; have := HB.out; have := HC1.out.size; omega))
  clear hs1
  go_wp2_with fail
  refine HT1.out.mono ?_
  rintro x w2 ⟨rfl, hs2, hch⟩
  clear x0 xf0 x1 xf1 x2 xf2 x3 xf3 x4 xf4 x5 xf5 x6 xf6 x7 xf7
  have hX2 : w2.heap[w.heap.size + 1]? = some (.cells #[.int .i64 1, .int .i64 ((hd l : Int) % 8), .int .i64 0, .string ⟨#[]⟩, .string ⟨#[]⟩, .int .u64 0, .int .i64 0, .int .i64 0] 34 (0, 0)) := keep hch (heap_setCell_self w1 (w.heap.size + 1) 1 _ _ (.int .i64 ((hd l : Int) % 8)) HX1.out) (by omega)
  have hZ2 : w2.heap[w.heap.size]? = some (.cells #[.int .i64 0, .int .i64 0, .int .i64 0, .string ⟨#[]⟩, .string ⟨#[]⟩, .int .u64 0, .int .i64 0, .int .i64 0] 34 (0, 0)) := keep hch ((heap_setCell_ne w1 (w.heap.size + 1) 1 w.heap.size (.int .i64 ((hd l : Int) % 8)) (by omega)).trans HZ1.out) (by omega)
  have HC2 := Lib.hid ((chg_set (b := w.heap.size + 1) (i := 1) HC1.out (by omega) (.int .i64 ((hd l : Int) % 8))).trans hch (fun _ h => .inl h))
  have x0 := cell_at hX2 0
  have x1 := cell_at hX2 1
  have x2 := cell_at hX2 2
  have x3 := cell_at hX2 3
  have x4 := cell_at hX2 4
  have x5 := cell_at hX2 5
  have x6 := cell_at hX2 6
  have x7 := cell_at hX2 7
  have xf0 := frozen_at hX2 0
  have xf1 := frozen_at hX2 1
  have xf2 := frozen_at hX2 2
  have xf3 := frozen_at hX2 3
  have xf4 := frozen_at hX2 4
  have xf5 := frozen_at hX2 5
  have xf6 := frozen_at hX2 6
  have xf7 := frozen_at hX2 7
  have HX2 := Lib.hid hX2
  have HZ2 := Lib.hid hZ2
  have hlt2 := lt_of_some hX2
  clear hch hX2 hZ2
  have hZf := HZ2.out
  have z0 := cell_at hZf 0
  have z1 := cell_at hZf 1
  have z2 := cell_at hZf 2
  have z3 := cell_at hZf 3
  have z4 := cell_at hZf 4
  have z5 := cell_at hZf 5
  have z6 := cell_at hZf 6
  have z7 := cell_at hZf 7
  have zf0 := frozen_at hZf 0
  have zf1 := frozen_at hZf 1
  have zf2 := frozen_at hZf 2
  have zf3 := frozen_at hZf 3
  have zf4 := frozen_at hZf 4
  have zf5 := frozen_at hZf 5
  have zf6 := frozen_at hZf 6
  have zf7 := frozen_at hZf 7
  have HS := Lib.hid hs2
  clear hZf hs2
  go_wp2_with fail
  obtain ⟨q0, q1, q2, q3, q4, q5, q6, q7⟩ := eight_set ((heap_setCell_ne ((w2.setCell ⟨w.heap.size + 1, 2, none⟩ (.int .i64 ((callR l.tail (o || l.isEmpty)).v.1 : Int))).setCell ⟨w.heap.size + 1, 3, none⟩ (.string (ofNats (callR l.tail (o || l.isEmpty)).v.2.1))) (w.heap.size + 1) 4 w.heap.size (.string (ofNats (callR l.tail (o || l.isEmpty)).v.2.2)) (by omega)).trans ((heap_setCell_ne (w2.setCell ⟨w.heap.size + 1, 2, none⟩ (.int .i64 ((callR l.tail (o || l.isEmpty)).v.1 : Int))) (w.heap.size + 1) 3 w.heap.size (.string (ofNats (callR l.tail (o || l.isEmpty)).v.2.1)) (by omega)).trans ((heap_setCell_ne w2 (w.heap.size + 1) 2 w.heap.size (.int .i64 ((callR l.tail (o || l.isEmpty)).v.1 : Int)) (by omega)).trans HZ2.out))) (.int .i64 1) (.int .i64 ((hd l : Int) % 8)) (.int .i64 ((callR l.tail (o || l.isEmpty)).v.1 : Int)) (.string (ofNats (callR l.tail (o || l.isEmpty)).v.2.1)) (.string (ofNats (callR l.tail (o || l.isEmpty)).v.2.2)) (.int .u64 0) (.int .i64 0) (.int .i64 0)
  refine bodyPost_ret (v := .agg #[.int .i64 1, .int .i64 ((hd l : Int) % 8), .int .i64 ((callR l.tail (o || l.isEmpty)).v.1 : Int), .string (ofNats (callR l.tail (o || l.isEmpty)).v.2.1), .string (ofNats (callR l.tail (o || l.isEmpty)).v.2.2), .int .u64 0, .int .i64 0, .int .i64 0]) (by simp [results, Tryd.results15, go_sem, q0, q1, q2, q3, q4, q5, q6, q7]) rfl ⟨rfl, ?_, ?_⟩
  · repeat (first | (with_reducible exact HS.out) | (with_reducible refine ScR.al ?_ _) | (with_reducible refine ScR.setB ?_ (by have := HB.out; omega) _))
  · repeat (first | (with_reducible exact HC2.out) | (with_reducible refine chg_alloc ?_ _) | (with_reducible refine chg_set ?_ (by omega) _))
set_option maxRecDepth 100000 in
set_option maxHeartbeats 1000000 in
theorem entry_2 (h : ScR w B R l o) (HB : Hid (B ≤ w.heap.size)) : Calls Tryd.prog 15 #[.pointer (some ⟨R, 0, none⟩), .int .i64 2] w fun x w' => x = .returned (.agg #[.int .i64 2, .int .i64 ((hd l : Int) % 8), .int .i64 0, .string ⟨#[]⟩, .string ⟨#[]⟩, .int .u64 0, .int .i64 0, .int .i64 0]) ∧ ScR w' B R (l.tail) (o || l.isEmpty) ∧ Chg (· = R) w w' := by
  have hRW := h.lt
  have h256 := h.bytes
  have hBW := HB.out
  go_enter Tryd.func15, Tryd.ntmps15
  have hZ0 := box1 (new_block w (.cells #[.int .i64 0, .int .i64 0, .int .i64 0, .string ⟨#[]⟩, .string ⟨#[]⟩, .int .u64 0, .int .i64 0, .int .i64 0] 34 (0, 0))) (below_al (Below.refl _ _) (.cells #[.int .i64 2, .int .i64 0, .int .i64 0, .string ⟨#[]⟩, .string ⟨#[]⟩, .int .u64 0, .int .i64 0, .int .i64 0] 34 (0, 0)))
  have hX0 := new_block2 w (.cells #[.int .i64 0, .int .i64 0, .int .i64 0, .string ⟨#[]⟩, .string ⟨#[]⟩, .int .u64 0, .int .i64 0, .int .i64 0] 34 (0, 0)) (.cells #[.int .i64 2, .int .i64 0, .int .i64 0, .string ⟨#[]⟩, .string ⟨#[]⟩, .int .u64 0, .int .i64 0, .int .i64 0] 34 (0, 0))
  have HC0 := Lib.hid (chg_alloc (chg_alloc (Chg.refl (· = R) w) (.cells #[.int .i64 0, .int .i64 0, .int .i64 0, .string ⟨#[]⟩, .string ⟨#[]⟩, .int .u64 0, .int .i64 0, .int .i64 0] 34 (0, 0))) (.cells #[.int .i64 2, .int .i64 0, .int .i64 0, .string ⟨#[]⟩, .string ⟨#[]⟩, .int .u64 0, .int .i64 0, .int .i64 0] 34 (0, 0)))
  have hs0 := (h.al (.cells #[.int .i64 0, .int .i64 0, .int .i64 0, .string ⟨#[]⟩, .string ⟨#[]⟩, .int .u64 0, .int .i64 0, .int .i64 0] 34 (0, 0))).al (.cells #[.int .i64 2, .int .i64 0, .int .i64 0, .string ⟨#[]⟩, .string ⟨#[]⟩, .int .u64 0, .int .i64 0, .int .i64 0] 34 (0, 0))
  have HZ0 := Lib.hid hZ0
  have HX0 := Lib.hid hX0
  clear h hZ0 hX0
  have HT0 := Lib.hid (one_any hs0)
  clear hs0
  go_wp2_with fail
  refine HT0.out.mono ?_
  rintro x w1 ⟨rfl, hs1, hch⟩
  have hX1 : w1.heap[w.heap.size + 1]? = some (.cells #[.int .i64 2, .int .i64 0, .int .i64 0, .string ⟨#[]⟩, .string ⟨#[]⟩, .int .u64 0, .int .i64 0, .int .i64 0] 34 (0, 0)) := keep hch HX0.out (by omega)
  have hZ1 : w1.heap[w.heap.size]? = some (.cells #[.int .i64 0, .int .i64 0, .int .i64 0, .string ⟨#[]⟩, .string ⟨#[]⟩, .int .u64 0, .int .i64 0, .int .i64 0] 34 (0, 0)) := keep hch HZ0.out (by omega)
  have HC1 := Lib.hid (HC0.out.trans hch (fun _ h => .inl h))
  have x0 := cell_at hX1 0
  have x1 := cell_at hX1 1
  have x2 := cell_at hX1 2
  have x3 := cell_at hX1 3
  have x4 := cell_at hX1 4
  have x5 := cell_at hX1 5
  have x6 := cell_at hX1 6
  have x7 := cell_at hX1 7
  have xf0 := frozen_at hX1 0
  have xf1 := frozen_at hX1 1
  have xf2 := frozen_at hX1 2
  have xf3 := frozen_at hX1 3
  have xf4 := frozen_at hX1 4
  have xf5 := frozen_at hX1 5
  have xf6 := frozen_at hX1 6
  have xf7 := frozen_at hX1 7
  have HX1 := Lib.hid hX1
  have HZ1 := Lib.hid hZ1
  have hlt1 := lt_of_some hX1
  clear hch hX1 hZ1
  have hZf := HZ1.out
  have z0 := cell_at hZf 0
  have z1 := cell_at hZf 1
  have z2 := cell_at hZf 2
  have z3 := cell_at hZf 3
  have z4 := cell_at hZf 4
  have z5 := cell_at hZf 5
  have z6 := cell_at hZf 6
  have z7 := cell_at hZf 7
  have zf0 := frozen_at hZf 0
  have zf1 := frozen_at hZf 1
  have zf2 := frozen_at hZf 2
  have zf3 := frozen_at hZf 3
  have zf4 := frozen_at hZf 4
  have zf5 := frozen_at hZf 5
  have zf6 := frozen_at hZf 6
  have zf7 := frozen_at hZf 7
  have HS := Lib.hid hs1
  clear hZf hs1
  go_wp2_with fail
  obtain ⟨q0, q1, q2, q3, q4, q5, q6, q7⟩ := eight_set ((heap_setCell_ne w1 (w.heap.size + 1) 1 w.heap.size (.int .i64 ((hd l : Int) % 8)) (by omega)).trans HZ1.out) (.int .i64 2) (.int .i64 ((hd l : Int) % 8)) (.int .i64 0) (.string ⟨#[]⟩) (.string ⟨#[]⟩) (.int .u64 0) (.int .i64 0) (.int .i64 0)
  refine bodyPost_ret (v := .agg #[.int .i64 2, .int .i64 ((hd l : Int) % 8), .int .i64 0, .string ⟨#[]⟩, .string ⟨#[]⟩, .int .u64 0, .int .i64 0, .int .i64 0]) (by simp [results, Tryd.results15, go_sem, q0, q1, q2, q3, q4, q5, q6, q7]) rfl ⟨rfl, ?_, ?_⟩
  · repeat (first | (with_reducible exact HS.out) | (with_reducible refine ScR.al ?_ _) | (with_reducible refine ScR.setB ?_ (by have := HB.out; omega) _))
  · repeat (first | (with_reducible exact HC1.out) | (with_reducible refine chg_alloc ?_ _) | (with_reducible refine chg_set ?_ (by omega) _))
set_option maxRecDepth 100000 in
set_option maxHeartbeats 1000000 in
theorem entry_3 (h : ScR w B R l o) (HB : Hid (B ≤ w.heap.size)) : Calls Tryd.prog 15 #[.pointer (some ⟨R, 0, none⟩), .int .i64 3] w fun x w' => x = .returned (.agg #[.int .i64 3, .int .i64 0, .int .i64 0, .string ⟨#[]⟩, .string ⟨#[]⟩, .int .u64 (hd l : Int), .int .i64 (hd l.tail : Int), .int .i64 (hd l.tail.tail : Int)]) ∧ ScR w' B R (l.tail.tail.tail) (((o || l.isEmpty) || l.tail.isEmpty) || l.tail.tail.isEmpty) ∧ Chg (· = R) w w' := by
  have hRW := h.lt
  have h256 := h.bytes
  have hBW := HB.out
  have hwr := u64_in (hd l) (Nat.lt_of_lt_of_le (hd_lt h256) (by decide))
  go_enter Tryd.func15, Tryd.ntmps15
  have hZ0 := box1 (new_block w (.cells #[.int .i64 0, .int .i64 0, .int .i64 0, .string ⟨#[]⟩, .string ⟨#[]⟩, .int .u64 0, .int .i64 0, .int .i64 0] 34 (0, 0))) (below_al (Below.refl _ _) (.cells #[.int .i64 3, .int .i64 0, .int .i64 0, .string ⟨#[]⟩, .string ⟨#[]⟩, .int .u64 0, .int .i64 0, .int .i64 0] 34 (0, 0)))
  have hX0 := new_block2 w (.cells #[.int .i64 0, .int .i64 0, .int .i64 0, .string ⟨#[]⟩, .string ⟨#[]⟩, .int .u64 0, .int .i64 0, .int .i64 0] 34 (0, 0)) (.cells #[.int .i64 3, .int .i64 0, .int .i64 0, .string ⟨#[]⟩, .string ⟨#[]⟩, .int .u64 0, .int .i64 0, .int .i64 0] 34 (0, 0))
  have HC0 := Lib.hid (chg_alloc (chg_alloc (Chg.refl (· = R) w) (.cells #[.int .i64 0, .int .i64 0, .int .i64 0, .string ⟨#[]⟩, .string ⟨#[]⟩, .int .u64 0, .int .i64 0, .int .i64 0] 34 (0, 0))) (.cells #[.int .i64 3, .int .i64 0, .int .i64 0, .string ⟨#[]⟩, .string ⟨#[]⟩, .int .u64 0, .int .i64 0, .int .i64 0] 34 (0, 0)))
  have hs0 := (h.al (.cells #[.int .i64 0, .int .i64 0, .int .i64 0, .string ⟨#[]⟩, .string ⟨#[]⟩, .int .u64 0, .int .i64 0, .int .i64 0] 34 (0, 0))).al (.cells #[.int .i64 3, .int .i64 0, .int .i64 0, .string ⟨#[]⟩, .string ⟨#[]⟩, .int .u64 0, .int .i64 0, .int .i64 0] 34 (0, 0))
  have HZ0 := Lib.hid hZ0
  have HX0 := Lib.hid hX0
  clear h hZ0 hX0
  have HT0 := Lib.hid (one_any hs0)
  clear hs0
  go_wp2_with fail
  refine HT0.out.mono ?_
  rintro x w1 ⟨rfl, hs1, hch⟩
  have hX1 : w1.heap[w.heap.size + 1]? = some (.cells #[.int .i64 3, .int .i64 0, .int .i64 0, .string ⟨#[]⟩, .string ⟨#[]⟩, .int .u64 0, .int .i64 0, .int .i64 0] 34 (0, 0)) := keep hch HX0.out (by omega)
  have hZ1 : w1.heap[w.heap.size]? = some (.cells #[.int .i64 0, .int .i64 0, .int .i64 0, .string ⟨#[]⟩, .string ⟨#[]⟩, .int .u64 0, .int .i64 0, .int .i64 0] 34 (0, 0)) := keep hch HZ0.out (by omega)
  have HC1 := Lib.hid (HC0.out.trans hch (fun _ h => .inl h))
  have x0 := cell_at hX1 0
  have x1 := cell_at hX1 1
  have x2 := cell_at hX1 2
  have x3 := cell_at hX1 3
  have x4 := cell_at hX1 4
  have x5 := cell_at hX1 5
  have x6 := cell_at hX1 6
  have x7 := cell_at hX1 7
  have xf0 := frozen_at hX1 0
  have xf1 := frozen_at hX1 1
  have xf2 := frozen_at hX1 2
  have xf3 := frozen_at hX1 3
  have xf4 := frozen_at hX1 4
  have xf5 := frozen_at hX1 5
  have xf6 := frozen_at hX1 6
  have xf7 := frozen_at hX1 7
  have HX1 := Lib.hid hX1
  have HZ1 := Lib.hid hZ1
  have hlt1 := lt_of_some hX1
  clear hch hX1 hZ1
  have HT1 := Lib.hid (one_any (hs1.setB (b := w.heap.size + 1) (i := 5) (by have := HB.out; omega) (.int .u64 (hd l : Int))))
  clear hs1
  go_wp2_with fail
  refine HT1.out.mono ?_
  rintro x w2 ⟨rfl, hs2, hch⟩
  clear x0 xf0 x1 xf1 x2 xf2 x3 xf3 x4 xf4 x5 xf5 x6 xf6 x7 xf7
  have hX2 : w2.heap[w.heap.size + 1]? = some (.cells #[.int .i64 3, .int .i64 0, .int .i64 0, .string ⟨#[]⟩, .string ⟨#[]⟩, .int .u64 (hd l : Int), .int .i64 0, .int .i64 0] 34 (0, 0)) := keep hch (heap_setCell_self w1 (w.heap.size + 1) 5 _ _ (.int .u64 (hd l : Int)) HX1.out) (by omega)
  have hZ2 : w2.heap[w.heap.size]? = some (.cells #[.int .i64 0, .int .i64 0, .int .i64 0, .string ⟨#[]⟩, .string ⟨#[]⟩, .int .u64 0, .int .i64 0, .int .i64 0] 34 (0, 0)) := keep hch ((heap_setCell_ne w1 (w.heap.size + 1) 5 w.heap.size (.int .u64 (hd l : Int)) (by omega)).trans HZ1.out) (by omega)
  have HC2 := Lib.hid ((chg_set (b := w.heap.size + 1) (i := 5) HC1.out (by omega) (.int .u64 (hd l : Int))).trans hch (fun _ h => .inl h))
  have x0 := cell_at hX2 0
  have x1 := cell_at hX2 1
  have x2 := cell_at hX2 2
  have x3 := cell_at hX2 3
  have x4 := cell_at hX2 4
  have x5 := cell_at hX2 5
  have x6 := cell_at hX2 6
  have x7 := cell_at hX2 7
  have xf0 := frozen_at hX2 0
  have xf1 := frozen_at hX2 1
  have xf2 := frozen_at hX2 2
  have xf3 := frozen_at hX2 3
  have xf4 := frozen_at hX2 4
  have xf5 := frozen_at hX2 5
  have xf6 := frozen_at hX2 6
  have xf7 := frozen_at hX2 7
  have HX2 := Lib.hid hX2
  have HZ2 := Lib.hid hZ2
  have hlt2 := lt_of_some hX2
  clear hch hX2 hZ2
  have HT2 := Lib.hid (one_any (hs2.setB (b := w.heap.size + 1) (i := 6) (by have := HB.out; omega) (.int .i64 (hd l.tail : Int))))
  clear hs2
  go_wp2_with fail
  refine HT2.out.mono ?_
  rintro x w3 ⟨rfl, hs3, hch⟩
  clear x0 xf0 x1 xf1 x2 xf2 x3 xf3 x4 xf4 x5 xf5 x6 xf6 x7 xf7
  have hX3 : w3.heap[w.heap.size + 1]? = some (.cells #[.int .i64 3, .int .i64 0, .int .i64 0, .string ⟨#[]⟩, .string ⟨#[]⟩, .int .u64 (hd l : Int), .int .i64 (hd l.tail : Int), .int .i64 0] 34 (0, 0)) := keep hch (heap_setCell_self w2 (w.heap.size + 1) 6 _ _ (.int .i64 (hd l.tail : Int)) HX2.out) (by omega)
  have hZ3 : w3.heap[w.heap.size]? = some (.cells #[.int .i64 0, .int .i64 0, .int .i64 0, .string ⟨#[]⟩, .string ⟨#[]⟩, .int .u64 0, .int .i64 0, .int .i64 0] 34 (0, 0)) := keep hch ((heap_setCell_ne w2 (w.heap.size + 1) 6 w.heap.size (.int .i64 (hd l.tail : Int)) (by omega)).trans HZ2.out) (by omega)
  have HC3 := Lib.hid ((chg_set (b := w.heap.size + 1) (i := 6) HC2.out (by omega) (.int .i64 (hd l.tail : Int))).trans hch (fun _ h => .inl h))
  have x0 := cell_at hX3 0
  have x1 := cell_at hX3 1
  have x2 := cell_at hX3 2
  have x3 := cell_at hX3 3
  have x4 := cell_at hX3 4
  have x5 := cell_at hX3 5
  have x6 := cell_at hX3 6
  have x7 := cell_at hX3 7
  have xf0 := frozen_at hX3 0
  have xf1 := frozen_at hX3 1
  have xf2 := frozen_at hX3 2
  have xf3 := frozen_at hX3 3
  have xf4 := frozen_at hX3 4
  have xf5 := frozen_at hX3 5
  have xf6 := frozen_at hX3 6
  have xf7 := frozen_at hX3 7
  have HX3 := Lib.hid hX3
  have HZ3 := Lib.hid hZ3
  have hlt3 := lt_of_some hX3
  clear hch hX3 hZ3
  have hZf := HZ3.out
  have z0 := cell_at hZf 0
  have z1 := cell_at hZf 1
  have z2 := cell_at hZf 2
  have z3 := cell_at hZf 3
  have z4 := cell_at hZf 4
  have z5 := cell_at hZf 5
  have z6 := cell_at hZf 6
  have z7 := cell_at hZf 7
  have zf0 := frozen_at hZf 0
  have zf1 := frozen_at hZf 1
  have zf2 := frozen_at hZf 2
  have zf3 := frozen_at hZf 3
  have zf4 := frozen_at hZf 4
  have zf5 := frozen_at hZf 5
  have zf6 := frozen_at hZf 6
  have zf7 := frozen_at hZf 7
  have HS := Lib.hid hs3
  clear hZf hs3
  go_wp2_with fail
  obtain ⟨q0, q1, q2, q3, q4, q5, q6, q7⟩ := eight_set ((heap_setCell_ne w3 (w.heap.size + 1) 7 w.heap.size (.int .i64 (hd l.tail.tail : Int)) (by omega)).trans HZ3.out) (.int .i64 3) (.int .i64 0) (.int .i64 0) (.string ⟨#[]⟩) (.string ⟨#[]⟩) (.int .u64 (hd l : Int)) (.int .i64 (hd l.tail : Int)) (.int .i64 (hd l.tail.tail : Int))
  refine bodyPost_ret (v := .agg #[.int .i64 3, .int .i64 0, .int .i64 0, .string ⟨#[]⟩, .string ⟨#[]⟩, .int .u64 (hd l : Int), .int .i64 (hd l.tail : Int), .int .i64 (hd l.tail.tail : Int)]) (by simp [results, Tryd.results15, go_sem, q0, q1, q2, q3, q4, q5, q6, q7]) rfl ⟨rfl, ?_, ?_⟩
  · repeat (first | (with_reducible exact HS.out) | (with_reducible refine ScR.al ?_ _) | (with_reducible refine ScR.setB ?_ (by have := HB.out; omega) _))
  · repeat (first | (with_reducible exact HC3.out) | (with_reducible refine chg_alloc ?_ _) | (with_reducible refine chg_set ?_ (by omega) _))
set_option maxRecDepth 100000 in
set_option maxHeartbeats 1000000 in
theorem entry_4 (h : ScR w B R l o) (HB : Hid (B ≤ w.heap.size)) : Calls Tryd.prog 15 #[.pointer (some ⟨R, 0, none⟩), .int .i64 4] w fun x w' => x = .returned (.agg #[.int .i64 4, .int .i64 (hd l : Int), .int .i64 0, .string (ofNats (txV l.tail)), .string ⟨#[]⟩, .int .u64 0, .int .i64 0, .int .i64 0]) ∧ ScR w' B R (txL l.tail) ((o || l.isEmpty) || txO l.tail) ∧ Chg (· = R) w w' := by
  have hRW := h.lt
  have h256 := h.bytes
  have hBW := HB.out
  go_enter Tryd.func15, Tryd.ntmps15
  have hZ0 := box1 (new_block w (.cells #[.int .i64 0, .int .i64 0, .int .i64 0, .string ⟨#[]⟩, .string ⟨#[]⟩, .int .u64 0, .int .i64 0, .int .i64 0] 34 (0, 0))) (below_al (Below.refl _ _) (.cells #[.int .i64 4, .int .i64 0, .int .i64 0, .string ⟨#[]⟩, .string ⟨#[]⟩, .int .u64 0, .int .i64 0, .int .i64 0] 34 (0, 0)))
  have hX0 := new_block2 w (.cells #[.int .i64 0, .int .i64 0, .int .i64 0, .string ⟨#[]⟩, .string ⟨#[]⟩, .int .u64 0, .int .i64 0, .int .i64 0] 34 (0, 0)) (.cells #[.int .i64 4, .int .i64 0, .int .i64 0, .string ⟨#[]⟩, .string ⟨#[]⟩, .int .u64 0, .int .i64 0, .int .i64 0] 34 (0, 0))
  have HC0 := Lib.hid (chg_alloc (chg_alloc (Chg.refl (· = R) w) (.cells #[.int .i64 0, .int .i64 0, .int .i64 0, .string ⟨#[]⟩, .string ⟨#[]⟩, .int .u64 0, .int .i64 0, .int .i64 0] 34 (0, 0))) (.cells #[.int .i64 4, .int .i64 0, .int .i64 0, .string ⟨#[]⟩, .string ⟨#[]⟩, .int .u64 0, .int .i64 0, .int .i64 0] 34 (0, 0)))
  have hs0 := (h.al (.cells #[.int .i64 0, .int .i64 0, .int .i64 0, .string ⟨#[]⟩, .string ⟨#[]⟩, .int .u64 0, .int .i64 0, .int .i64 0] 34 (0, 0))).al (.cells #[.int .i64 4, .int .i64 0, .int .i64 0, .string ⟨#[]⟩, .string ⟨#[]⟩, .int .u64 0, .int .i64 0, .int .i64 0] 34 (0, 0))
  have HZ0 := Lib.hid hZ0
  have HX0 := Lib.hid hX0
  clear h hZ0 hX0
  have HT0 := Lib.hid (one_any hs0)
  clear hs0
  go_wp2_with fail
  refine HT0.out.mono ?_
  rintro x w1 ⟨rfl, hs1, hch⟩
  have hX1 : w1.heap[w.heap.size + 1]? = some (.cells #[.int .i64 4, .int .i64 0, .int .i64 0, .string ⟨#[]⟩, .string ⟨#[]⟩, .int .u64 0, .int .i64 0, .int .i64 0] 34 (0, 0)) := keep hch HX0.out (by omega)
  have hZ1 : w1.heap[w.heap.size]? = some (.cells #[.int .i64 0, .int .i64 0, .int .i64 0, .string ⟨#[]⟩, .string ⟨#[]⟩, .int .u64 0, .int .i64 0, .int .i64 0] 34 (0, 0)) := keep hch HZ0.out (by omega)
  have HC1 := Lib.hid (HC0.out.trans hch (fun _ h => .inl h))
  have x0 := cell_at hX1 0
  have x1 := cell_at hX1 1
  have x2 := cell_at hX1 2
  have x3 := cell_at hX1 3
  have x4 := cell_at hX1 4
  have x5 := cell_at hX1 5
  have x6 := cell_at hX1 6
  have x7 := cell_at hX1 7
  have xf0 := frozen_at hX1 0
  have xf1 := frozen_at hX1 1
  have xf2 := frozen_at hX1 2
  have xf3 := frozen_at hX1 3
  have xf4 := frozen_at hX1 4
  have xf5 := frozen_at hX1 5
  have xf6 := frozen_at hX1 6
  have xf7 := frozen_at hX1 7
  have HX1 := Lib.hid hX1
  have HZ1 := Lib.hid hZ1
  have hlt1 := lt_of_some hX1
  clear hch hX1 hZ1
  have HT1 := Lib.hid (text_any (hs1.setB (b := w.heap.size + 1) (i := 1) (by have := HB.out; omega) (.int .i64 (hd l : Int))))
  clear hs1
  go_wp2_with fail
  refine HT1.out.mono ?_
  rintro x w2 ⟨rfl, hs2, hch⟩
  clear x0 xf0 x1 xf1 x2 xf2 x3 xf3 x4 xf4 x5 xf5 x6 xf6 x7 xf7
  have hX2 : w2.heap[w.heap.size + 1]? = some (.cells #[.int .i64 4, .int .i64 (hd l : Int), .int .i64 0, .string ⟨#[]⟩, .string ⟨#[]⟩, .int .u64 0, .int .i64 0, .int .i64 0] 34 (0, 0)) := keep hch (heap_setCell_self w1 (w.heap.size + 1) 1 _ _ (.int .i64 (hd l : Int)) HX1.out) (by omega)
  have hZ2 : w2.heap[w.heap.size]? = some (.cells #[.int .i64 0, .int .i64 0, .int .i64 0, .string ⟨#[]⟩, .string ⟨#[]⟩, .int .u64 0, .int .i64 0, .int .i64 0] 34 (0, 0)) := keep hch ((heap_setCell_ne w1 (w.heap.size + 1) 1 w.heap.size (.int .i64 (hd l : Int)) (by omega)).trans HZ1.out) (by omega)
  have HC2 := Lib.hid ((chg_set (b := w.heap.size + 1) (i := 1) HC1.out (by omega) (.int .i64 (hd l : Int))).trans hch (fun _ h => .inl h))
  have x0 := cell_at hX2 0
  have x1 := cell_at hX2 1
  have x2 := cell_at hX2 2
  have x3 := cell_at hX2 3
  have x4 := cell_at hX2 4
  have x5 := cell_at hX2 5
  have x6 := cell_at hX2 6
  have x7 := cell_at hX2 7
  have xf0 := frozen_at hX2 0
  have xf1 := frozen_at hX2 1
  have xf2 := frozen_at hX2 2
  have xf3 := frozen_at hX2 3
  have xf4 := frozen_at hX2 4
  have xf5 := frozen_at hX2 5
  have xf6 := frozen_at hX2 6
  have xf7 := frozen_at hX2 7
  have HX2 := Lib.hid hX2
  have HZ2 := Lib.hid hZ2
  have hlt2 := lt_of_some hX2
  clear hch hX2 hZ2
  have hZf := HZ2.out
  have z0 := cell_at hZf 0
  have z1 := cell_at hZf 1
  have z2 := cell_at hZf 2
  have z3 := cell_at hZf 3
  have z4 := cell_at hZf 4
  have z5 := cell_at hZf 5
  have z6 := cell_at hZf 6
  have z7 := cell_at hZf 7
  have zf0 := frozen_at hZf 0
  have zf1 := frozen_at hZf 1
  have zf2 := frozen_at hZf 2
  have zf3 := frozen_at hZf 3
  have zf4 := frozen_at hZf 4
  have zf5 := frozen_at hZf 5
  have zf6 := frozen_at hZf 6
  have zf7 := frozen_at hZf 7
  have HS := Lib.hid hs2
  clear hZf hs2
  go_wp2_with fail
  obtain ⟨q0, q1, q2, q3, q4, q5, q6, q7⟩ := eight_set ((heap_setCell_ne w2 (w.heap.size + 1) 3 w.heap.size (.string (ofNats (txV l.tail))) (by omega)).trans HZ2.out) (.int .i64 4) (.int .i64 (hd l : Int)) (.int .i64 0) (.string (ofNats (txV l.tail))) (.string ⟨#[]⟩) (.int .u64 0) (.int .i64 0) (.int .i64 0)
  refine bodyPost_ret (v := .agg #[.int .i64 4, .int .i64 (hd l : Int), .int .i64 0, .string (ofNats (txV l.tail)), .string ⟨#[]⟩, .int .u64 0, .int .i64 0, .int .i64 0]) (by simp [results, Tryd.results15, go_sem, q0, q1, q2, q3, q4, q5, q6, q7]) rfl ⟨rfl, ?_, ?_⟩
  · repeat (first | (with_reducible exact HS.out) | (with_reducible refine ScR.al ?_ _) | (with_reducible refine ScR.setB ?_ (by have := HB.out; omega) _))
  · repeat (first | (with_reducible exact HC2.out) | (with_reducible refine chg_alloc ?_ _) | (with_reducible refine chg_set ?_ (by omega) _))
set_option maxRecDepth 100000 in
set_option maxHeartbeats 1000000 in
theorem entry_5 (h : ScR w B R l o) (HB : Hid (B ≤ w.heap.size)) : Calls Tryd.prog 15 #[.pointer (some ⟨R, 0, none⟩), .int .i64 5] w fun x w' => x = .returned (.agg #[.int .i64 5, .int .i64 (hd l : Int), .int .i64 0, .string ⟨#[]⟩, .string ⟨#[]⟩, .int .u64 0, .int .i64 0, .int .i64 0]) ∧ ScR w' B R (l.tail) (o || l.isEmpty) ∧ Chg (· = R) w w' := by
  have hRW := h.lt
  have h256 := h.bytes
  have hBW := HB.out
  go_enter Tryd.func15, Tryd.ntmps15
  have hZ0 := box1 (new_block w (.cells #[.int .i64 0, .int .i64 0, .int .i64 0, .string ⟨#[]⟩, .string ⟨#[]⟩, .int .u64 0, .int .i64 0, .int .i64 0] 34 (0, 0))) (below_al (Below.refl _ _) (.cells #[.int .i64 5, .int .i64 0, .int .i64 0, .string ⟨#[]⟩, .string ⟨#[]⟩, .int .u64 0, .int .i64 0, .int .i64 0] 34 (0, 0)))
  have hX0 := new_block2 w (.cells #[.int .i64 0, .int .i64 0, .int .i64 0, .string ⟨#[]⟩, .string ⟨#[]⟩, .int .u64 0, .int .i64 0, .int .i64 0] 34 (0, 0)) (.cells #[.int .i64 5, .int .i64 0, .int .i64 0, .string ⟨#[]⟩, .string ⟨#[]⟩, .int .u64 0, .int .i64 0, .int .i64 0] 34 (0, 0))
  have HC0 := Lib.hid (chg_alloc (chg_alloc (Chg.refl (· = R) w) (.cells #[.int .i64 0, .int .i64 0, .int .i64 0, .string ⟨#[]⟩, .string ⟨#[]⟩, .int .u64 0, .int .i64 0, .int .i64 0] 34 (0, 0))) (.cells #[.int .i64 5, .int .i64 0, .int .i64 0, .string ⟨#[]⟩, .string ⟨#[]⟩, .int .u64 0, .int .i64 0, .int .i64 0] 34 (0, 0)))
  have hs0 := (h.al (.cells #[.int .i64 0, .int .i64 0, .int .i64 0, .string ⟨#[]⟩, .string ⟨#[]⟩, .int .u64 0, .int .i64 0, .int .i64 0] 34 (0, 0))).al (.cells #[.int .i64 5, .int .i64 0, .int .i64 0, .string ⟨#[]⟩, .string ⟨#[]⟩, .int .u64 0, .int .i64 0, .int .i64 0] 34 (0, 0))
  have HZ0 := Lib.hid hZ0
  have HX0 := Lib.hid hX0
  clear h hZ0 hX0
  have HT0 := Lib.hid (one_any hs0)
  clear hs0
  go_wp2_with fail
  refine HT0.out.mono ?_
  rintro x w1 ⟨rfl, hs1, hch⟩
  have hX1 : w1.heap[w.heap.size + 1]? = some (.cells #[.int .i64 5, .int .i64 0, .int .i64 0, .string ⟨#[]⟩, .string ⟨#[]⟩, .int .u64 0, .int .i64 0, .int .i64 0] 34 (0, 0)) := keep hch HX0.out (by omega)
  have hZ1 : w1.heap[w.heap.size]? = some (.cells #[.int .i64 0, .int .i64 0, .int .i64 0, .string ⟨#[]⟩, .string ⟨#[]⟩, .int .u64 0, .int .i64 0, .int .i64 0] 34 (0, 0)) := keep hch HZ0.out (by omega)
  have HC1 := Lib.hid (HC0.out.trans hch (fun _ h => .inl h))
  have x0 := cell_at hX1 0
  have x1 := cell_at hX1 1
  have x2 := cell_at hX1 2
  have x3 := cell_at hX1 3
  have x4 := cell_at hX1 4
  have x5 := cell_at hX1 5
  have x6 := cell_at hX1 6
  have x7 := cell_at hX1 7
  have xf0 := frozen_at hX1 0
  have xf1 := frozen_at hX1 1
  have xf2 := frozen_at hX1 2
  have xf3 := frozen_at hX1 3
  have xf4 := frozen_at hX1 4
  have xf5 := frozen_at hX1 5
  have xf6 := frozen_at hX1 6
  have xf7 := frozen_at hX1 7
  have HX1 := Lib.hid hX1
  have HZ1 := Lib.hid hZ1
  have hlt1 := lt_of_some hX1
  clear hch hX1 hZ1
  have hZf := HZ1.out
  have z0 := cell_at hZf 0
  have z1 := cell_at hZf 1
  have z2 := cell_at hZf 2
  have z3 := cell_at hZf 3
  have z4 := cell_at hZf 4
  have z5 := cell_at hZf 5
  have z6 := cell_at hZf 6
  have z7 := cell_at hZf 7
  have zf0 := frozen_at hZf 0
  have zf1 := frozen_at hZf 1
  have zf2 := frozen_at hZf 2
  have zf3 := frozen_at hZf 3
  have zf4 := frozen_at hZf 4
  have zf5 := frozen_at hZf 5
  have zf6 := frozen_at hZf 6
  have zf7 := frozen_at hZf 7
  have HS := Lib.hid hs1
  clear hZf hs1
  go_wp2_with fail
  obtain ⟨q0, q1, q2, q3, q4, q5, q6, q7⟩ := eight_set ((heap_setCell_ne w1 (w.heap.size + 1) 1 w.heap.size (.int .i64 (hd l : Int)) (by omega)).trans HZ1.out) (.int .i64 5) (.int .i64 (hd l : Int)) (.int .i64 0) (.string ⟨#[]⟩) (.string ⟨#[]⟩) (.int .u64 0) (.int .i64 0) (.int .i64 0)
  refine bodyPost_ret (v := .agg #[.int .i64 5, .int .i64 (hd l : Int), .int .i64 0, .string ⟨#[]⟩, .string ⟨#[]⟩, .int .u64 0, .int .i64 0, .int .i64 0]) (by simp [results, Tryd.results15, go_sem, q0, q1, q2, q3, q4, q5, q6, q7]) rfl ⟨rfl, ?_, ?_⟩
  · repeat (first | (with_reducible exact HS.out) | (with_reducible refine ScR.al ?_ _) | (with_reducible refine ScR.setB ?_ (by have := HB.out; omega) _))
  · repeat (first | (with_reducible exact HC1.out) | (with_reducible refine chg_alloc ?_ _) | (with_reducible refine chg_set ?_ (by omega) _))
theorem entry_any (h : ScR w B R l o) (hB : B ≤ w.heap.size) (k : Nat) (h1 : 1 ≤ k) (h5 : k ≤ 5) : Calls Tryd.prog 15 #[.pointer (some ⟨R, 0, none⟩), .int .i64 (k : Int)] w fun x w' => x = .returned (stpV (entryR k l o).v) ∧ ScR w' B R (entryR k l o).l (entryR k l o).o ∧ Chg (· = R) w w' := by
  rcases (by omega : k = 1 ∨ k = 2 ∨ k = 3 ∨ k = 4 ∨ k = 5) with rfl | rfl | rfl | rfl | rfl
  · exact entry_1 h (Lib.hid hB)
  · exact entry_2 h (Lib.hid hB)
  · exact entry_3 h (Lib.hid hB)
  · exact entry_4 h (Lib.hid hB)
  · exact entry_5 h (Lib.hid hB)
end
end Go.Proofs.YtpjgmcoimniheaaDoor.Sc
