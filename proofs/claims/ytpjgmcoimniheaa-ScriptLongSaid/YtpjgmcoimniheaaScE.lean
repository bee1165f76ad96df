/- The document's entry of a script, by walks. -/
import Derived.Test.YtpjgmcoimniheaaScD
namespace Go.Proofs.Ytpjgmcoimniheaa.Sc
open Go.RowKit Go.Proofs.Ytpjgmcoimniheaa.By Go.Proofs.Ytpjgmcoimniheaa.Mt
set_option linter.unusedSimpArgs false
set_option linter.unusedVariables false

section
variable {w w1 : World} {R : Nat} {s : ByteArray} {l : List Nat} {o : Bool}
set_option maxRecDepth 100000 in
set_option maxHeartbeats 1000000 in
theorem rentry_1_0 (h : RfR w R s l o) (hs : s.size ≤ 1000000) (hk : hd l.tail = 0) : Calls Try.prog 49 #[.pointer (some ⟨R, 0, none⟩), .int .i64 1] w fun x w' => x = .returned (.agg #[.int .i64 1, .int .i64 ((hd l : Int) % 8), .int .i64 (hd l.tail : Int), .string ⟨#[]⟩, .string ⟨#[]⟩, .int .u64 0, .int .i64 0, .int .i64 0]) ∧ RfR w' R s (l.tail.tail) (((o || l.isEmpty) || l.tail.isEmpty)) ∧ Chg (· = R) w w' := by
  have hkk : hd l.tail = 0 := hk
  clear hk
  have t1 : decide ((1 : Int) ≤ (hd l.tail : Int)) = false := decide_eq_false (by omega)
  have t2 : decide ((hd l.tail : Int) ≤ 5) = true := decide_eq_true (by omega)
  have t3 : decide ((0 : Int) < (hd l.tail : Int)) = false := decide_eq_false (by omega)
  have t4 : decide (0 < hd l.tail) = false := decide_eq_false (by omega)
  have t5 : decide (1 ≤ hd l.tail) = false := decide_eq_false (by omega)
  have t6 : decide (hd l.tail ≤ 5) = true := decide_eq_true (by omega)
  have e2 : ((hd l.tail : Int) == 2) = false := beq_eq_false_iff_ne.2 (by omega)
  have e4 : ((hd l.tail : Int) == 4) = false := beq_eq_false_iff_ne.2 (by omega)
  have e5 : ((hd l.tail : Int) == 5) = false := beq_eq_false_iff_ne.2 (by omega)
  have HKK := Lib.hid hkk
  clear hkk
  have hRW := h.lt
  have h256 := h.bytes
  go_enter Try.func49, Try.ntmps49
  have hZ0 := box1 (new_block w (.cells #[.int .i64 0, .int .i64 0, .int .i64 0, .string ⟨#[]⟩, .string ⟨#[]⟩, .int .u64 0, .int .i64 0, .int .i64 0] 67 (0, 0))) (below_al (Below.refl _ _) (.cells #[.int .i64 1, .int .i64 0, .int .i64 0, .string ⟨#[]⟩, .string ⟨#[]⟩, .int .u64 0, .int .i64 0, .int .i64 0] 67 (0, 0)))
  have hX0 := new_block2 w (.cells #[.int .i64 0, .int .i64 0, .int .i64 0, .string ⟨#[]⟩, .string ⟨#[]⟩, .int .u64 0, .int .i64 0, .int .i64 0] 67 (0, 0)) (.cells #[.int .i64 1, .int .i64 0, .int .i64 0, .string ⟨#[]⟩, .string ⟨#[]⟩, .int .u64 0, .int .i64 0, .int .i64 0] 67 (0, 0))
  have HC0 := Lib.hid (chg_alloc (chg_alloc (Chg.refl (· = R) w) (.cells #[.int .i64 0, .int .i64 0, .int .i64 0, .string ⟨#[]⟩, .string ⟨#[]⟩, .int .u64 0, .int .i64 0, .int .i64 0] 67 (0, 0))) (.cells #[.int .i64 1, .int .i64 0, .int .i64 0, .string ⟨#[]⟩, .string ⟨#[]⟩, .int .u64 0, .int .i64 0, .int .i64 0] 67 (0, 0)))
  have hs0 := (h.al (.cells #[.int .i64 0, .int .i64 0, .int .i64 0, .string ⟨#[]⟩, .string ⟨#[]⟩, .int .u64 0, .int .i64 0, .int .i64 0] 67 (0, 0))).al (.cells #[.int .i64 1, .int .i64 0, .int .i64 0, .string ⟨#[]⟩, .string ⟨#[]⟩, .int .u64 0, .int .i64 0, .int .i64 0] 67 (0, 0))
  have HZ0 := Lib.hid hZ0
  have HX0 := Lib.hid hX0
  clear h hZ0 hX0
  have HT0 := Lib.hid (next_any hs0 hs)
  clear hs0
  go_wp2_with fail
  refine HT0.out.mono ?_
  rintro x w1 ⟨rfl, hs1, hch⟩
  have hX1 : w1.heap[w.heap.size + 1]? = some (.cells #[.int .i64 1, .int .i64 0, .int .i64 0, .string ⟨#[]⟩, .string ⟨#[]⟩, .int .u64 0, .int .i64 0, .int .i64 0] 67 (0, 0)) := keep hch HX0.out (by omega)
  have hZ1 : w1.heap[w.heap.size]? = some (.cells #[.int .i64 0, .int .i64 0, .int .i64 0, .string ⟨#[]⟩, .string ⟨#[]⟩, .int .u64 0, .int .i64 0, .int .i64 0] 67 (0, 0)) := keep hch HZ0.out (by omega)
  have HC1 := Lib.hid (HC0.out.trans hch (fun _ h => .inl h))
  have x0 := cell_at hX1 0
  have x1 := cell_at hX1 1
  have x2 := cell_at hX1 2
  have x3 := cell_at hX1 3
  have x4 := cell_at hX1 4
  have x5 := cell_at hX1 5
  have x6 := cell_at hX1 6
  have x7 := cell_at hX1 7
  have xf0 := frozen_at hX1 0
  have xf1 := frozen_at hX1 1
  have xf2 := frozen_at hX1 2
  have xf3 := frozen_at hX1 3
  have xf4 := frozen_at hX1 4
  have xf5 := frozen_at hX1 5
  have xf6 := frozen_at hX1 6
  have xf7 := frozen_at hX1 7
  have HX1 := Lib.hid hX1
  have HZ1 := Lib.hid hZ1
  have hlt1 := lt_of_some hX1
  clear hch hX1 hZ1
  have HT1 := Lib.hid (next_any (hs1.setB (b := w.heap.size + 1) (i := 1) (by omega) (.int .i64 ((hd l : Int) % 8))) hs)
  clear hs1
  go_wp2_with fail
  refine HT1.out.mono ?_
  rintro x w2 ⟨rfl, hs2, hch⟩
  clear x0 xf0 x1 xf1 x2 xf2 x3 xf3 x4 xf4 x5 xf5 x6 xf6 x7 xf7
  have hX2 : w2.heap[w.heap.size + 1]? = some (.cells #[.int .i64 1, .int .i64 ((hd l : Int) % 8), .int .i64 0, .string ⟨#[]⟩, .string ⟨#[]⟩, .int .u64 0, .int .i64 0, .int .i64 0] 67 (0, 0)) := keep hch (heap_setCell_self w1 (w.heap.size + 1) 1 _ _ (.int .i64 ((hd l : Int) % 8)) HX1.out) (by omega)
  have hZ2 : w2.heap[w.heap.size]? = some (.cells #[.int .i64 0, .int .i64 0, .int .i64 0, .string ⟨#[]⟩, .string ⟨#[]⟩, .int .u64 0, .int .i64 0, .int .i64 0] 67 (0, 0)) := keep hch ((heap_setCell_ne w1 (w.heap.size + 1) 1 w.heap.size (.int .i64 ((hd l : Int) % 8)) (by omega)).trans HZ1.out) (by omega)
  have HC2 := Lib.hid ((chg_set (b := w.heap.size + 1) (i := 1) HC1.out (by omega) (.int .i64 ((hd l : Int) % 8))).trans hch (fun _ h => .inl h))
  have x0 := cell_at hX2 0
  have x1 := cell_at hX2 1
  have x2 := cell_at hX2 2
  have x3 := cell_at hX2 3
  have x4 := cell_at hX2 4
  have x5 := cell_at hX2 5
  have x6 := cell_at hX2 6
  have x7 := cell_at hX2 7
  have xf0 := frozen_at hX2 0
  have xf1 := frozen_at hX2 1
  have xf2 := frozen_at hX2 2
  have xf3 := frozen_at hX2 3
  have xf4 := frozen_at hX2 4
  have xf5 := frozen_at hX2 5
  have xf6 := frozen_at hX2 6
  have xf7 := frozen_at hX2 7
  have HX2 := Lib.hid hX2
  have HZ2 := Lib.hid hZ2
  have hlt2 := lt_of_some hX2
  clear hch hX2 hZ2
  have hZf := HZ2.out
  have z0 := cell_at hZf 0
  have z1 := cell_at hZf 1
  have z2 := cell_at hZf 2
  have z3 := cell_at hZf 3
  have z4 := cell_at hZf 4
  have z5 := cell_at hZf 5
  have z6 := cell_at hZf 6
  have z7 := cell_at hZf 7
  have zf0 := frozen_at hZf 0
  have zf1 := frozen_at hZf 1
  have zf2 := frozen_at hZf 2
  have zf3 := frozen_at hZf 3
  have zf4 := frozen_at hZf 4
  have zf5 := frozen_at hZf 5
  have zf6 := frozen_at hZf 6
  have zf7 := frozen_at hZf 7
  have HS := Lib.hid hs2
  clear hZf hs2
  go_wp2_with fail
  obtain ⟨q0, q1, q2, q3, q4, q5, q6, q7⟩ := eight_set ((heap_setCell_ne w2 (w.heap.size + 1) 2 w.heap.size (.int .i64 (hd l.tail : Int)) (by omega)).trans HZ2.out) (.int .i64 1) (.int .i64 ((hd l : Int) % 8)) (.int .i64 (hd l.tail : Int)) (.string ⟨#[]⟩) (.string ⟨#[]⟩) (.int .u64 0) (.int .i64 0) (.int .i64 0)
  refine bodyPost_ret (v := .agg #[.int .i64 1, .int .i64 ((hd l : Int) % 8), .int .i64 (hd l.tail : Int), .string ⟨#[]⟩, .string ⟨#[]⟩, .int .u64 0, .int .i64 0, .int .i64 0]) (by simp [results, Try.results49, go_sem, q0, q1, q2, q3, q4, q5, q6, q7]) rfl ⟨rfl, ?_, ?_⟩
  · repeat (first | (with_reducible exact HS.out) | (with_reducible refine RfR.al ?_ _) | (with_reducible refine RfR.setB ?_ (by omega) _))
  · repeat (first | (with_reducible exact HC2.out) | (with_reducible refine chg_alloc ?_ _) | (with_reducible refine chg_set ?_ (by omega) _))
set_option maxRecDepth 100000 in
set_option maxHeartbeats 1000000 in
theorem rentry_1_6 (h : RfR w R s l o) (hs : s.size ≤ 1000000) (hk : 6 ≤ hd l.tail) : Calls Try.prog 49 #[.pointer (some ⟨R, 0, none⟩), .int .i64 1] w fun x w' => x = .returned (.agg #[.int .i64 1, .int .i64 ((hd l : Int) % 8), .int .i64 (hd l.tail : Int), .string ⟨#[]⟩, .string ⟨#[]⟩, .int .u64 0, .int .i64 0, .int .i64 0]) ∧ RfR w' R s (l.tail.tail) (((o || l.isEmpty) || l.tail.isEmpty)) ∧ Chg (· = R) w w' := by
  have hkk : 6 ≤ hd l.tail := hk
  clear hk
  have t1 : decide ((1 : Int) ≤ (hd l.tail : Int)) = true := decide_eq_true (by omega)
  have t2 : decide ((hd l.tail : Int) ≤ 5) = false := decide_eq_false (by omega)
  have t3 : decide ((0 : Int) < (hd l.tail : Int)) = true := decide_eq_true (by omega)
  have t4 : decide (0 < hd l.tail) = true := decide_eq_true (by omega)
  have t5 : decide (1 ≤ hd l.tail) = true := decide_eq_true (by omega)
  have t6 : decide (hd l.tail ≤ 5) = false := decide_eq_false (by omega)
  have e2 : ((hd l.tail : Int) == 2) = false := beq_eq_false_iff_ne.2 (by omega)
  have e4 : ((hd l.tail : Int) == 4) = false := beq_eq_false_iff_ne.2 (by omega)
  have e5 : ((hd l.tail : Int) == 5) = false := beq_eq_false_iff_ne.2 (by omega)
  have HKK := Lib.hid hkk
  clear hkk
  have hRW := h.lt
  have h256 := h.bytes
  go_enter Try.func49, Try.ntmps49
  have hZ0 := box1 (new_block w (.cells #[.int .i64 0, .int .i64 0, .int .i64 0, .string ⟨#[]⟩, .string ⟨#[]⟩, .int .u64 0, .int .i64 0, .int .i64 0] 67 (0, 0))) (below_al (Below.refl _ _) (.cells #[.int .i64 1, .int .i64 0, .int .i64 0, .string ⟨#[]⟩, .string ⟨#[]⟩, .int .u64 0, .int .i64 0, .int .i64 0] 67 (0, 0)))
  have hX0 := new_block2 w (.cells #[.int .i64 0, .int .i64 0, .int .i64 0, .string ⟨#[]⟩, .string ⟨#[]⟩, .int .u64 0, .int .i64 0, .int .i64 0] 67 (0, 0)) (.cells #[.int .i64 1, .int .i64 0, .int .i64 0, .string ⟨#[]⟩, .string ⟨#[]⟩, .int .u64 0, .int .i64 0, .int .i64 0] 67 (0, 0))
  have HC0 := Lib.hid (chg_alloc (chg_alloc (Chg.refl (· = R) w) (.cells #[.int .i64 0, .int .i64 0, .int .i64 0, .string ⟨#[]⟩, .string ⟨#[]⟩, .int .u64 0, .int .i64 0, .int .i64 0] 67 (0, 0))) (.cells #[.int .i64 1, .int .i64 0, .int .i64 0, .string ⟨#[]⟩, .string ⟨#[]⟩, .int .u64 0, .int .i64 0, .int .i64 0] 67 (0, 0)))
  have hs0 := (h.al (.cells #[.int .i64 0, .int .i64 0, .int .i64 0, .string ⟨#[]⟩, .string ⟨#[]⟩, .int .u64 0, .int .i64 0, .int .i64 0] 67 (0, 0))).al (.cells #[.int .i64 1, .int .i64 0, .int .i64 0, .string ⟨#[]⟩, .string ⟨#[]⟩, .int .u64 0, .int .i64 0, .int .i64 0] 67 (0, 0))
  have HZ0 := Lib.hid hZ0
  have HX0 := Lib.hid hX0
  clear h hZ0 hX0
  have HT0 := Lib.hid (next_any hs0 hs)
  clear hs0
  go_wp2_with fail
  refine HT0.out.mono ?_
  rintro x w1 ⟨rfl, hs1, hch⟩
  have hX1 : w1.heap[w.heap.size + 1]? = some (.cells #[.int .i64 1, .int .i64 0, .int .i64 0, .string ⟨#[]⟩, .string ⟨#[]⟩, .int .u64 0, .int .i64 0, .int .i64 0] 67 (0, 0)) := keep hch HX0.out (by omega)
  have hZ1 : w1.heap[w.heap.size]? = some (.cells #[.int .i64 0, .int .i64 0, .int .i64 0, .string ⟨#[]⟩, .string ⟨#[]⟩, .int .u64 0, .int .i64 0, .int .i64 0] 67 (0, 0)) := keep hch HZ0.out (by omega)
  have HC1 := Lib.hid (HC0.out.trans hch (fun _ h => .inl h))
  have x0 := cell_at hX1 0
  have x1 := cell_at hX1 1
  have x2 := cell_at hX1 2
  have x3 := cell_at hX1 3
  have x4 := cell_at hX1 4
  have x5 := cell_at hX1 5
  have x6 := cell_at hX1 6
  have x7 := cell_at hX1 7
  have xf0 := frozen_at hX1 0
  have xf1 := frozen_at hX1 1
  have xf2 := frozen_at hX1 2
  have xf3 := frozen_at hX1 3
  have xf4 := frozen_at hX1 4
  have xf5 := frozen_at hX1 5
  have xf6 := frozen_at hX1 6
  have xf7 := frozen_at hX1 7
  have HX1 := Lib.hid hX1
  have HZ1 := Lib.hid hZ1
  have hlt1 := lt_of_some hX1
  clear hch hX1 hZ1
  have HT1 := Lib.hid (next_any (hs1.setB (b := w.heap.size + 1) (i := 1) (by omega) (.int .i64 ((hd l : Int) % 8))) hs)
  clear hs1
  go_wp2_with fail
  refine HT1.out.mono ?_
  rintro x w2 ⟨rfl, hs2, hch⟩
  clear x0 xf0 x1 xf1 x2 xf2 x3 xf3 x4 xf4 x5 xf5 x6 xf6 x7 xf7
  have hX2 : w2.heap[w.heap.size + 1]? = some (.cells #[.int .i64 1, .int .i64 ((hd l : Int) % 8), .int .i64 0, .string ⟨#[]⟩, .string ⟨#[]⟩, .int .u64 0, .int .i64 0, .int .i64 0] 67 (0, 0)) := keep hch (heap_setCell_self w1 (w.heap.size + 1) 1 _ _ (.int .i64 ((hd l : Int) % 8)) HX1.out) (by omega)
  have hZ2 : w2.heap[w.heap.size]? = some (.cells #[.int .i64 0, .int .i64 0, .int .i64 0, .string ⟨#[]⟩, .string ⟨#[]⟩, .int .u64 0, .int .i64 0, .int .i64 0] 67 (0, 0)) := keep hch ((heap_setCell_ne w1 (w.heap.size + 1) 1 w.heap.size (.int .i64 ((hd l : Int) % 8)) (by omega)).trans HZ1.out) (by omega)
  have HC2 := Lib.hid ((chg_set (b := w.heap.size + 1) (i := 1) HC1.out (by omega) (.int .i64 ((hd l : Int) % 8))).trans hch (fun _ h => .inl h))
  have x0 := cell_at hX2 0
  have x1 := cell_at hX2 1
  have x2 := cell_at hX2 2
  have x3 := cell_at hX2 3
  have x4 := cell_at hX2 4
  have x5 := cell_at hX2 5
  have x6 := cell_at hX2 6
  have x7 := cell_at hX2 7
  have xf0 := frozen_at hX2 0
  have xf1 := frozen_at hX2 1
  have xf2 := frozen_at hX2 2
  have xf3 := frozen_at hX2 3
  have xf4 := frozen_at hX2 4
  have xf5 := frozen_at hX2 5
  have xf6 := frozen_at hX2 6
  have xf7 := frozen_at hX2 7
  have HX2 := Lib.hid hX2
  have HZ2 := Lib.hid hZ2
  have hlt2 := lt_of_some hX2
  clear hch hX2 hZ2
  have hZf := HZ2.out
  have z0 := cell_at hZf 0
  have z1 := cell_at hZf 1
  have z2 := cell_at hZf 2
  have z3 := cell_at hZf 3
  have z4 := cell_at hZf 4
  have z5 := cell_at hZf 5
  have z6 := cell_at hZf 6
  have z7 := cell_at hZf 7
  have zf0 := frozen_at hZf 0
  have zf1 := frozen_at hZf 1
  have zf2 := frozen_at hZf 2
  have zf3 := frozen_at hZf 3
  have zf4 := frozen_at hZf 4
  have zf5 := frozen_at hZf 5
  have zf6 := frozen_at hZf 6
  have zf7 := frozen_at hZf 7
  have HS := Lib.hid hs2
  clear hZf hs2
  go_wp2_with fail
  obtain ⟨q0, q1, q2, q3, q4, q5, q6, q7⟩ := eight_set ((heap_setCell_ne w2 (w.heap.size + 1) 2 w.heap.size (.int .i64 (hd l.tail : Int)) (by omega)).trans HZ2.out) (.int .i64 1) (.int .i64 ((hd l : Int) % 8)) (.int .i64 (hd l.tail : Int)) (.string ⟨#[]⟩) (.string ⟨#[]⟩) (.int .u64 0) (.int .i64 0) (.int .i64 0)
  refine bodyPost_ret (v := .agg #[.int .i64 1, .int .i64 ((hd l : Int) % 8), .int .i64 (hd l.tail : Int), .string ⟨#[]⟩, .string ⟨#[]⟩, .int .u64 0, .int .i64 0, .int .i64 0]) (by simp [results, Try.results49, go_sem, q0, q1, q2, q3, q4, q5, q6, q7]) rfl ⟨rfl, ?_, ?_⟩
  · repeat (first | (with_reducible exact HS.out) | (with_reducible refine RfR.al ?_ _) | (with_reducible refine RfR.setB ?_ (by omega) _))
  · repeat (first | (with_reducible exact HC2.out) | (with_reducible refine chg_alloc ?_ _) | (with_reducible refine chg_set ?_ (by omega) _))
set_option maxRecDepth 100000 in
set_option maxHeartbeats 1000000 in
theorem rentry_1_1 (h : RfR w R s l o) (hs : s.size ≤ 1000000) (hk : hd l.tail = 1) : Calls Try.prog 49 #[.pointer (some ⟨R, 0, none⟩), .int .i64 1] w fun x w' => x = .returned (.agg #[.int .i64 1, .int .i64 ((hd l : Int) % 8), .int .i64 (hd l.tail : Int), .string (ofNats (txV l.tail.tail)), .string ⟨#[]⟩, .int .u64 0, .int .i64 0, .int .i64 0]) ∧ RfR w' R s (txL l.tail.tail) (((o || l.isEmpty) || l.tail.isEmpty) || txO l.tail.tail) ∧ Chg (· = R) w w' := by
  have hkk : hd l.tail = 1 := hk
  clear hk
  have t1 : decide ((1 : Int) ≤ (hd l.tail : Int)) = true := decide_eq_true (by omega)
  have t2 : decide ((hd l.tail : Int) ≤ 5) = true := decide_eq_true (by omega)
  have t3 : decide ((0 : Int) < (hd l.tail : Int)) = true := decide_eq_true (by omega)
  have t4 : decide (0 < hd l.tail) = true := decide_eq_true (by omega)
  have t5 : decide (1 ≤ hd l.tail) = true := decide_eq_true (by omega)
  have t6 : decide (hd l.tail ≤ 5) = true := decide_eq_true (by omega)
  have e2 : ((hd l.tail : Int) == 2) = false := beq_eq_false_iff_ne.2 (by omega)
  have e4 : ((hd l.tail : Int) == 4) = false := beq_eq_false_iff_ne.2 (by omega)
  have e5 : ((hd l.tail : Int) == 5) = false := beq_eq_false_iff_ne.2 (by omega)
  have HKK := Lib.hid hkk
  clear hkk
  have hRW := h.lt
  have h256 := h.bytes
  go_enter Try.func49, Try.ntmps49
  have hZ0 := box1 (new_block w (.cells #[.int .i64 0, .int .i64 0, .int .i64 0, .string ⟨#[]⟩, .string ⟨#[]⟩, .int .u64 0, .int .i64 0, .int .i64 0] 67 (0, 0))) (below_al (Below.refl _ _) (.cells #[.int .i64 1, .int .i64 0, .int .i64 0, .string ⟨#[]⟩, .string ⟨#[]⟩, .int .u64 0, .int .i64 0, .int .i64 0] 67 (0, 0)))
  have hX0 := new_block2 w (.cells #[.int .i64 0, .int .i64 0, .int .i64 0, .string ⟨#[]⟩, .string ⟨#[]⟩, .int .u64 0, .int .i64 0, .int .i64 0] 67 (0, 0)) (.cells #[.int .i64 1, .int .i64 0, .int .i64 0, .string ⟨#[]⟩, .string ⟨#[]⟩, .int .u64 0, .int .i64 0, .int .i64 0] 67 (0, 0))
  have HC0 := Lib.hid (chg_alloc (chg_alloc (Chg.refl (· = R) w) (.cells #[.int .i64 0, .int .i64 0, .int .i64 0, .string ⟨#[]⟩, .string ⟨#[]⟩, .int .u64 0, .int .i64 0, .int .i64 0] 67 (0, 0))) (.cells #[.int .i64 1, .int .i64 0, .int .i64 0, .string ⟨#[]⟩, .string ⟨#[]⟩, .int .u64 0, .int .i64 0, .int .i64 0] 67 (0, 0)))
  have hs0 := (h.al (.cells #[.int .i64 0, .int .i64 0, .int .i64 0, .string ⟨#[]⟩, .string ⟨#[]⟩, .int .u64 0, .int .i64 0, .int .i64 0] 67 (0, 0))).al (.cells #[.int .i64 1, .int .i64 0, .int .i64 0, .string ⟨#[]⟩, .string ⟨#[]⟩, .int .u64 0, .int .i64 0, .int .i64 0] 67 (0, 0))
  have HZ0 := Lib.hid hZ0
  have HX0 := Lib.hid hX0
  clear h hZ0 hX0
  have HT0 := Lib.hid (next_any hs0 hs)
  clear hs0
  go_wp2_with fail
  refine HT0.out.mono ?_
  rintro x w1 ⟨rfl, hs1, hch⟩
  have hX1 : w1.heap[w.heap.size + 1]? = some (.cells #[.int .i64 1, .int .i64 0, .int .i64 0, .string ⟨#[]⟩, .string ⟨#[]⟩, .int .u64 0, .int .i64 0, .int .i64 0] 67 (0, 0)) := keep hch HX0.out (by omega)
  have hZ1 : w1.heap[w.heap.size]? = some (.cells #[.int .i64 0, .int .i64 0, .int .i64 0, .string ⟨#[]⟩, .string ⟨#[]⟩, .int .u64 0, .int .i64 0, .int .i64 0] 67 (0, 0)) := keep hch HZ0.out (by omega)
  have HC1 := Lib.hid (HC0.out.trans hch (fun _ h => .inl h))
  have x0 := cell_at hX1 0
  have x1 := cell_at hX1 1
  have x2 := cell_at hX1 2
  have x3 := cell_at hX1 3
  have x4 := cell_at hX1 4
  have x5 := cell_at hX1 5
  have x6 := cell_at hX1 6
  have x7 := cell_at hX1 7
  have xf0 := frozen_at hX1 0
  have xf1 := frozen_at hX1 1
  have xf2 := frozen_at hX1 2
  have xf3 := frozen_at hX1 3
  have xf4 := frozen_at hX1 4
  have xf5 := frozen_at hX1 5
  have xf6 := frozen_at hX1 6
  have xf7 := frozen_at hX1 7
  have HX1 := Lib.hid hX1
  have HZ1 := Lib.hid hZ1
  have hlt1 := lt_of_some hX1
  clear hch hX1 hZ1
  have HT1 := Lib.hid (next_any (hs1.setB (b := w.heap.size + 1) (i := 1) (by omega) (.int .i64 ((hd l : Int) % 8))) hs)
  clear hs1
  go_wp2_with fail
  refine HT1.out.mono ?_
  rintro x w2 ⟨rfl, hs2, hch⟩
  clear x0 xf0 x1 xf1 x2 xf2 x3 xf3 x4 xf4 x5 xf5 x6 xf6 x7 xf7
  have hX2 : w2.heap[w.heap.size + 1]? = some (.cells #[.int .i64 1, .int .i64 ((hd l : Int) % 8), .int .i64 0, .string ⟨#[]⟩, .string ⟨#[]⟩, .int .u64 0, .int .i64 0, .int .i64 0] 67 (0, 0)) := keep hch (heap_setCell_self w1 (w.heap.size + 1) 1 _ _ (.int .i64 ((hd l : Int) % 8)) HX1.out) (by omega)
  have hZ2 : w2.heap[w.heap.size]? = some (.cells #[.int .i64 0, .int .i64 0, .int .i64 0, .string ⟨#[]⟩, .string ⟨#[]⟩, .int .u64 0, .int .i64 0, .int .i64 0] 67 (0, 0)) := keep hch ((heap_setCell_ne w1 (w.heap.size + 1) 1 w.heap.size (.int .i64 ((hd l : Int) % 8)) (by omega)).trans HZ1.out) (by omega)
  have HC2 := Lib.hid ((chg_set (b := w.heap.size + 1) (i := 1) HC1.out (by omega) (.int .i64 ((hd l : Int) % 8))).trans hch (fun _ h => .inl h))
  have x0 := cell_at hX2 0
  have x1 := cell_at hX2 1
  have x2 := cell_at hX2 2
  have x3 := cell_at hX2 3
  have x4 := cell_at hX2 4
  have x5 := cell_at hX2 5
  have x6 := cell_at hX2 6
  have x7 := cell_at hX2 7
  have xf0 := frozen_at hX2 0
  have xf1 := frozen_at hX2 1
  have xf2 := frozen_at hX2 2
  have xf3 := frozen_at hX2 3
  have xf4 := frozen_at hX2 4
  have xf5 := frozen_at hX2 5
  have xf6 := frozen_at hX2 6
  have xf7 := frozen_at hX2 7
  have HX2 := Lib.hid hX2
  have HZ2 := Lib.hid hZ2
  have hlt2 := lt_of_some hX2
  clear hch hX2 hZ2
  have HT2 := Lib.hid (rtext_any (hs2.setB (b := w.heap.size + 1) (i := 2) (by omega) (.int .i64 (hd l.tail : Int))) hs)
  clear hs2
  go_wp2_with fail
  refine HT2.out.mono ?_
  rintro x w3 ⟨rfl, hs3, hch⟩
  clear x0 xf0 x1 xf1 x2 xf2 x3 xf3 x4 xf4 x5 xf5 x6 xf6 x7 xf7
  have hX3 : w3.heap[w.heap.size + 1]? = some (.cells #[.int .i64 1, .int .i64 ((hd l : Int) % 8), .int .i64 (hd l.tail : Int), .string ⟨#[]⟩, .string ⟨#[]⟩, .int .u64 0, .int .i64 0, .int .i64 0] 67 (0, 0)) := keep hch (heap_setCell_self w2 (w.heap.size + 1) 2 _ _ (.int .i64 (hd l.tail : Int)) HX2.out) (by omega)
  have hZ3 : w3.heap[w.heap.size]? = some (.cells #[.int .i64 0, .int .i64 0, .int .i64 0, .string ⟨#[]⟩, .string ⟨#[]⟩, .int .u64 0, .int .i64 0, .int .i64 0] 67 (0, 0)) := keep hch ((heap_setCell_ne w2 (w.heap.size + 1) 2 w.heap.size (.int .i64 (hd l.tail : Int)) (by omega)).trans HZ2.out) (by omega)
  have HC3 := Lib.hid ((chg_set (b := w.heap.size + 1) (i := 2) HC2.out (by omega) (.int .i64 (hd l.tail : Int))).trans hch (fun _ h => .inl h))
  have x0 := cell_at hX3 0
  have x1 := cell_at hX3 1
  have x2 := cell_at hX3 2
  have x3 := cell_at hX3 3
  have x4 := cell_at hX3 4
  have x5 := cell_at hX3 5
  have x6 := cell_at hX3 6
  have x7 := cell_at hX3 7
  have xf0 := frozen_at hX3 0
  have xf1 := frozen_at hX3 1
  have xf2 := frozen_at hX3 2
  have xf3 := frozen_at hX3 3
  have xf4 := frozen_at hX3 4
  have xf5 := frozen_at hX3 5
  have xf6 := frozen_at hX3 6
  have xf7 := frozen_at hX3 7
  have HX3 := Lib.hid hX3
  have HZ3 := Lib.hid hZ3
  have hlt3 := lt_of_some hX3
  clear hch hX3 hZ3
  have hZf := HZ3.out
  have z0 := cell_at hZf 0
  have z1 := cell_at hZf 1
  have z2 := cell_at hZf 2
  have z3 := cell_at hZf 3
  have z4 := cell_at hZf 4
  have z5 := cell_at hZf 5
  have z6 := cell_at hZf 6
  have z7 := cell_at hZf 7
  have zf0 := frozen_at hZf 0
  have zf1 := frozen_at hZf 1
  have zf2 := frozen_at hZf 2
  have zf3 := frozen_at hZf 3
  have zf4 := frozen_at hZf 4
  have zf5 := frozen_at hZf 5
  have zf6 := frozen_at hZf 6
  have zf7 := frozen_at hZf 7
  have HS := Lib.hid hs3
  clear hZf hs3
  go_wp2_with fail
  obtain ⟨q0, q1, q2, q3, q4, q5, q6, q7⟩ := eight_set ((heap_setCell_ne w3 (w.heap.size + 1) 3 w.heap.size (.string (ofNats (txV l.tail.tail))) (by omega)).trans HZ3.out) (.int .i64 1) (.int .i64 ((hd l : Int) % 8)) (.int .i64 (hd l.tail : Int)) (.string (ofNats (txV l.tail.tail))) (.string ⟨#[]⟩) (.int .u64 0) (.int .i64 0) (.int .i64 0)
  refine bodyPost_ret (v := .agg #[.int .i64 1, .int .i64 ((hd l : Int) % 8), .int .i64 (hd l.tail : Int), .string (ofNats (txV l.tail.tail)), .string ⟨#[]⟩, .int .u64 0, .int .i64 0, .int .i64 0]) (by simp [results, Try.results49, go_sem, q0, q1, q2, q3, q4, q5, q6, q7]) rfl ⟨rfl, ?_, ?_⟩
  · repeat (first | (with_reducible exact HS.out) | (with_reducible refine RfR.al ?_ _) | (with_reducible refine RfR.setB ?_ (by omega) _))
  · repeat (first | (with_reducible exact HC3.out) | (with_reducible refine chg_alloc ?_ _) | (with_reducible refine chg_set ?_ (by omega) _))
set_option maxRecDepth 100000 in
set_option maxHeartbeats 1000000 in
theorem rentry_1_2 (h : RfR w R s l o) (hs : s.size ≤ 1000000) (hk : hd l.tail = 2) : Calls Try.prog 49 #[.pointer (some ⟨R, 0, none⟩), .int .i64 1] w fun x w' => x = .returned (.agg #[.int .i64 1, .int .i64 ((hd l : Int) % 8), .int .i64 (hd l.tail : Int), .string (ofNats (txV l.tail.tail)), .string (ofNats (txV (txL l.tail.tail))), .int .u64 0, .int .i64 0, .int .i64 0]) ∧ RfR w' R s (txL (txL l.tail.tail)) ((((o || l.isEmpty) || l.tail.isEmpty) || txO l.tail.tail) || txO (txL l.tail.tail)) ∧ Chg (· = R) w w' := by
  have hkk : hd l.tail = 2 := hk
  clear hk
  have t1 : decide ((1 : Int) ≤ (hd l.tail : Int)) = true := decide_eq_true (by omega)
  have t2 : decide ((hd l.tail : Int) ≤ 5) = true := decide_eq_true (by omega)
  have t3 : decide ((0 : Int) < (hd l.tail : Int)) = true := decide_eq_true (by omega)
  have t4 : decide (0 < hd l.tail) = true := decide_eq_true (by omega)
  have t5 : decide (1 ≤ hd l.tail) = true := decide_eq_true (by omega)
  have t6 : decide (hd l.tail ≤ 5) = true := decide_eq_true (by omega)
  have e2 : ((hd l.tail : Int) == 2) = true := beq_iff_eq.2 (by omega)
  have e4 : ((hd l.tail : Int) == 4) = false := beq_eq_false_iff_ne.2 (by omega)
  have e5 : ((hd l.tail : Int) == 5) = false := beq_eq_false_iff_ne.2 (by omega)
  have HKK := Lib.hid hkk
  clear hkk
  have hRW := h.lt
  have h256 := h.bytes
  go_enter Try.func49, Try.ntmps49
  have hZ0 := box1 (new_block w (.cells #[.int .i64 0, .int .i64 0, .int .i64 0, .string ⟨#[]⟩, .string ⟨#[]⟩, .int .u64 0, .int .i64 0, .int .i64 0] 67 (0, 0))) (below_al (Below.refl _ _) (.cells #[.int .i64 1, .int .i64 0, .int .i64 0, .string ⟨#[]⟩, .string ⟨#[]⟩, .int .u64 0, .int .i64 0, .int .i64 0] 67 (0, 0)))
  have hX0 := new_block2 w (.cells #[.int .i64 0, .int .i64 0, .int .i64 0, .string ⟨#[]⟩, .string ⟨#[]⟩, .int .u64 0, .int .i64 0, .int .i64 0] 67 (0, 0)) (.cells #[.int .i64 1, .int .i64 0, .int .i64 0, .string ⟨#[]⟩, .string ⟨#[]⟩, .int .u64 0, .int .i64 0, .int .i64 0] 67 (0, 0))
  have HC0 := Lib.hid (chg_alloc (chg_alloc (Chg.refl (· = R) w) (.cells #[.int .i64 0, .int .i64 0, .int .i64 0, .string ⟨#[]⟩, .string ⟨#[]⟩, .int .u64 0, .int .i64 0, .int .i64 0] 67 (0, 0))) (.cells #[.int .i64 1, .int .i64 0, .int .i64 0, .string ⟨#[]⟩, .string ⟨#[]⟩, .int .u64 0, .int .i64 0, .int .i64 0] 67 (0, 0)))
  have hs0 := (h.al (.cells #[.int .i64 0, .int .i64 0, .int .i64 0, .string ⟨#[]⟩, .string ⟨#[]⟩, .int .u64 0, .int .i64 0, .int .i64 0] 67 (0, 0))).al (.cells #[.int .i64 1, .int .i64 0, .int .i64 0, .string ⟨#[]⟩, .string ⟨#[]⟩, .int .u64 0, .int .i64 0, .int .i64 0] 67 (0, 0))
  have HZ0 := Lib.hid hZ0
  have HX0 := Lib.hid hX0
  clear h hZ0 hX0
  have HT0 := Lib.hid (next_any hs0 hs)
  clear hs0
  go_wp2_with fail
  refine HT0.out.mono ?_
  rintro x w1 ⟨rfl, hs1, hch⟩
  have hX1 : w1.heap[w.heap.size + 1]? = some (.cells #[.int .i64 1, .int .i64 0, .int .i64 0, .string ⟨#[]⟩, .string ⟨#[]⟩, .int .u64 0, .int .i64 0, .int .i64 0] 67 (0, 0)) := keep hch HX0.out (by omega)
  have hZ1 : w1.heap[w.heap.size]? = some (.cells #[.int .i64 0, .int .i64 0, .int .i64 0, .string ⟨#[]⟩, .string ⟨#[]⟩, .int .u64 0, .int .i64 0, .int .i64 0] 67 (0, 0)) := keep hch HZ0.out (by omega)
  have HC1 := Lib.hid (HC0.out.trans hch (fun _ h => .inl h))
  have x0 := cell_at hX1 0
  have x1 := cell_at hX1 1
  have x2 := cell_at hX1 2
  have x3 := cell_at hX1 3
  have x4 := cell_at hX1 4
  have x5 := cell_at hX1 5
  have x6 := cell_at hX1 6
  have x7 := cell_at hX1 7
  have xf0 := frozen_at hX1 0
  have xf1 := frozen_at hX1 1
  have xf2 := frozen_at hX1 2
  have xf3 := frozen_at hX1 3
  have xf4 := frozen_at hX1 4
  have xf5 := frozen_at hX1 5
  have xf6 := frozen_at hX1 6
  have xf7 := frozen_at hX1 7
  have HX1 := Lib.hid hX1
  have HZ1 := Lib.hid hZ1
  have hlt1 := lt_of_some hX1
  clear hch hX1 hZ1
  have HT1 := Lib.hid (next_any (hs1.setB (b := w.heap.size + 1) (i := 1) (by omega) (.int .i64 ((hd l : Int) % 8))) hs)
  clear hs1
  go_wp2_with fail
  refine HT1.out.mono ?_
  rintro x w2 ⟨rfl, hs2, hch⟩
  clear x0 xf0 x1 xf1 x2 xf2 x3 xf3 x4 xf4 x5 xf5 x6 xf6 x7 xf7
  have hX2 : w2.heap[w.heap.size + 1]? = some (.cells #[.int .i64 1, .int .i64 ((hd l : Int) % 8), .int .i64 0, .string ⟨#[]⟩, .string ⟨#[]⟩, .int .u64 0, .int .i64 0, .int .i64 0] 67 (0, 0)) := keep hch (heap_setCell_self w1 (w.heap.size + 1) 1 _ _ (.int .i64 ((hd l : Int) % 8)) HX1.out) (by omega)
  have hZ2 : w2.heap[w.heap.size]? = some (.cells #[.int .i64 0, .int .i64 0, .int .i64 0, .string ⟨#[]⟩, .string ⟨#[]⟩, .int .u64 0, .int .i64 0, .int .i64 0] 67 (0, 0)) := keep hch ((heap_setCell_ne w1 (w.heap.size + 1) 1 w.heap.size (.int .i64 ((hd l : Int) % 8)) (by omega)).trans HZ1.out) (by omega)
  have HC2 := Lib.hid ((chg_set (b := w.heap.size + 1) (i := 1) HC1.out (by omega) (.int .i64 ((hd l : Int) % 8))).trans hch (fun _ h => .inl h))
  have x0 := cell_at hX2 0
  have x1 := cell_at hX2 1
  have x2 := cell_at hX2 2
  have x3 := cell_at hX2 3
  have x4 := cell_at hX2 4
  have x5 := cell_at hX2 5
  have x6 := cell_at hX2 6
  have x7 := cell_at hX2 7
  have xf0 := frozen_at hX2 0
  have xf1 := frozen_at hX2 1
  have xf2 := frozen_at hX2 2
  have xf3 := frozen_at hX2 3
  have xf4 := frozen_at hX2 4
  have xf5 := frozen_at hX2 5
  have xf6 := frozen_at hX2 6
  have xf7 := frozen_at hX2 7
  have HX2 := Lib.hid hX2
  have HZ2 := Lib.hid hZ2
  have hlt2 := lt_of_some hX2
  clear hch hX2 hZ2
  have HT2 := Lib.hid (rtext_any (hs2.setB (b := w.heap.size + 1) (i := 2) (by omega) (.int .i64 (hd l.tail : Int))) hs)
  clear hs2
  go_wp2_with fail
  refine HT2.out.mono ?_
  rintro x w3 ⟨rfl, hs3, hch⟩
  clear x0 xf0 x1 xf1 x2 xf2 x3 xf3 x4 xf4 x5 xf5 x6 xf6 x7 xf7
  have hX3 : w3.heap[w.heap.size + 1]? = some (.cells #[.int .i64 1, .int .i64 ((hd l : Int) % 8), .int .i64 (hd l.tail : Int), .string ⟨#[]⟩, .string ⟨#[]⟩, .int .u64 0, .int .i64 0, .int .i64 0] 67 (0, 0)) := keep hch (heap_setCell_self w2 (w.heap.size + 1) 2 _ _ (.int .i64 (hd l.tail : Int)) HX2.out) (by omega)
  have hZ3 : w3.heap[w.heap.size]? = some (.cells #[.int .i64 0, .int .i64 0, .int .i64 0, .string ⟨#[]⟩, .string ⟨#[]⟩, .int .u64 0, .int .i64 0, .int .i64 0] 67 (0, 0)) := keep hch ((heap_setCell_ne w2 (w.heap.size + 1) 2 w.heap.size (.int .i64 (hd l.tail : Int)) (by omega)).trans HZ2.out) (by omega)
  have HC3 := Lib.hid ((chg_set (b := w.heap.size + 1) (i := 2) HC2.out (by omega) (.int .i64 (hd l.tail : Int))).trans hch (fun _ h => .inl h))
  have x0 := cell_at hX3 0
  have x1 := cell_at hX3 1
  have x2 := cell_at hX3 2
  have x3 := cell_at hX3 3
  have x4 := cell_at hX3 4
  have x5 := cell_at hX3 5
  have x6 := cell_at hX3 6
  have x7 := cell_at hX3 7
  have xf0 := frozen_at hX3 0
  have xf1 := frozen_at hX3 1
  have xf2 := frozen_at hX3 2
  have xf3 := frozen_at hX3 3
  have xf4 := frozen_at hX3 4
  have xf5 := frozen_at hX3 5
  have xf6 := frozen_at hX3 6
  have xf7 := frozen_at hX3 7
  have HX3 := Lib.hid hX3
  have HZ3 := Lib.hid hZ3
  have hlt3 := lt_of_some hX3
  clear hch hX3 hZ3
  have HT3 := Lib.hid (rtext_any (hs3.setB (b := w.heap.size + 1) (i := 3) (by omega) (.string (ofNats (txV l.tail.tail)))) hs)
  clear hs3
  go_wp2_with fail
  refine HT3.out.mono ?_
  rintro x w4 ⟨rfl, hs4, hch⟩
  clear x0 xf0 x1 xf1 x2 xf2 x3 xf3 x4 xf4 x5 xf5 x6 xf6 x7 xf7
  have hX4 : w4.heap[w.heap.size + 1]? = some (.cells #[.int .i64 1, .int .i64 ((hd l : Int) % 8), .int .i64 (hd l.tail : Int), .string (ofNats (txV l.tail.tail)), .string ⟨#[]⟩, .int .u64 0, .int .i64 0, .int .i64 0] 67 (0, 0)) := keep hch (heap_setCell_self w3 (w.heap.size + 1) 3 _ _ (.string (ofNats (txV l.tail.tail))) HX3.out) (by omega)
  have hZ4 : w4.heap[w.heap.size]? = some (.cells #[.int .i64 0, .int .i64 0, .int .i64 0, .string ⟨#[]⟩, .string ⟨#[]⟩, .int .u64 0, .int .i64 0, .int .i64 0] 67 (0, 0)) := keep hch ((heap_setCell_ne w3 (w.heap.size + 1) 3 w.heap.size (.string (ofNats (txV l.tail.tail))) (by omega)).trans HZ3.out) (by omega)
  have HC4 := Lib.hid ((chg_set (b := w.heap.size + 1) (i := 3) HC3.out (by omega) (.string (ofNats (txV l.tail.tail)))).trans hch (fun _ h => .inl h))
  have x0 := cell_at hX4 0
  have x1 := cell_at hX4 1
  have x2 := cell_at hX4 2
  have x3 := cell_at hX4 3
  have x4 := cell_at hX4 4
  have x5 := cell_at hX4 5
  have x6 := cell_at hX4 6
  have x7 := cell_at hX4 7
  have xf0 := frozen_at hX4 0
  have xf1 := frozen_at hX4 1
  have xf2 := frozen_at hX4 2
  have xf3 := frozen_at hX4 3
  have xf4 := frozen_at hX4 4
  have xf5 := frozen_at hX4 5
  have xf6 := frozen_at hX4 6
  have xf7 := frozen_at hX4 7
  have HX4 := Lib.hid hX4
  have HZ4 := Lib.hid hZ4
  have hlt4 := lt_of_some hX4
  clear hch hX4 hZ4
  have hZf := HZ4.out
  have z0 := cell_at hZf 0
  have z1 := cell_at hZf 1
  have z2 := cell_at hZf 2
  have z3 := cell_at hZf 3
  have z4 := cell_at hZf 4
  have z5 := cell_at hZf 5
  have z6 := cell_at hZf 6
  have z7 := cell_at hZf 7
  have zf0 := frozen_at hZf 0
  have zf1 := frozen_at hZf 1
  have zf2 := frozen_at hZf 2
  have zf3 := frozen_at hZf 3
  have zf4 := frozen_at hZf 4
  have zf5 := frozen_at hZf 5
  have zf6 := frozen_at hZf 6
  have zf7 := frozen_at hZf 7
  have HS := Lib.hid hs4
  clear hZf hs4
  go_wp2_with fail
  obtain ⟨q0, q1, q2, q3, q4, q5, q6, q7⟩ := eight_set ((heap_setCell_ne w4 (w.heap.size + 1) 4 w.heap.size (.string (ofNats (txV (txL l.tail.tail)))) (by omega)).trans HZ4.out) (.int .i64 1) (.int .i64 ((hd l : Int) % 8)) (.int .i64 (hd l.tail : Int)) (.string (ofNats (txV l.tail.tail))) (.string (ofNats (txV (txL l.tail.tail)))) (.int .u64 0) (.int .i64 0) (.int .i64 0)
  refine bodyPost_ret (v := .agg #[.int .i64 1, .int .i64 ((hd l : Int) % 8), .int .i64 (hd l.tail : Int), .string (ofNats (txV l.tail.tail)), .string (ofNats (txV (txL l.tail.tail))), .int .u64 0, .int .i64 0, .int .i64 0]) (by simp [results, Try.results49, go_sem, q0, q1, q2, q3, q4, q5, q6, q7]) rfl ⟨rfl, ?_, ?_⟩
  · repeat (first | (with_reducible exact HS.out) | (with_reducible refine RfR.al ?_ _) | (with_reducible refine RfR.setB ?_ (by omega) _))
  · repeat (first | (with_reducible exact HC4.out) | (with_reducible refine chg_alloc ?_ _) | (with_reducible refine chg_set ?_ (by omega) _))
set_option maxRecDepth 100000 in
set_option maxHeartbeats 1000000 in
theorem rentry_1_3 (h : RfR w R s l o) (hs : s.size ≤ 1000000) (hk : hd l.tail = 3) : Calls Try.prog 49 #[.pointer (some ⟨R, 0, none⟩), .int .i64 1] w fun x w' => x = .returned (.agg #[.int .i64 1, .int .i64 ((hd l : Int) % 8), .int .i64 (hd l.tail : Int), .string (ofNats (txV l.tail.tail)), .string ⟨#[]⟩, .int .u64 0, .int .i64 0, .int .i64 0]) ∧ RfR w' R s (txL l.tail.tail) (((o || l.isEmpty) || l.tail.isEmpty) || txO l.tail.tail) ∧ Chg (· = R) w w' := by
  have hkk : hd l.tail = 3 := hk
  clear hk
  have t1 : decide ((1 : Int) ≤ (hd l.tail : Int)) = true := decide_eq_true (by omega)
  have t2 : decide ((hd l.tail : Int) ≤ 5) = true := decide_eq_true (by omega)
  have t3 : decide ((0 : Int) < (hd l.tail : Int)) = true := decide_eq_true (by omega)
  have t4 : decide (0 < hd l.tail) = true := decide_eq_true (by omega)
  have t5 : decide (1 ≤ hd l.tail) = true := decide_eq_true (by omega)
  have t6 : decide (hd l.tail ≤ 5) = true := decide_eq_true (by omega)
  have e2 : ((hd l.tail : Int) == 2) = false := beq_eq_false_iff_ne.2 (by omega)
  have e4 : ((hd l.tail : Int) == 4) = false := beq_eq_false_iff_ne.2 (by omega)
  have e5 : ((hd l.tail : Int) == 5) = false := beq_eq_false_iff_ne.2 (by omega)
  have HKK := Lib.hid hkk
  clear hkk
  have hRW := h.lt
  have h256 := h.bytes
  go_enter Try.func49, Try.ntmps49
  have hZ0 := box1 (new_block w (.cells #[.int .i64 0, .int .i64 0, .int .i64 0, .string ⟨#[]⟩, .string ⟨#[]⟩, .int .u64 0, .int .i64 0, .int .i64 0] 67 (0, 0))) (below_al (Below.refl _ _) (.cells #[.int .i64 1, .int .i64 0, .int .i64 0, .string ⟨#[]⟩, .string ⟨#[]⟩, .int .u64 0, .int .i64 0, .int .i64 0] 67 (0, 0)))
  have hX0 := new_block2 w (.cells #[.int .i64 0, .int .i64 0, .int .i64 0, .string ⟨#[]⟩, .string ⟨#[]⟩, .int .u64 0, .int .i64 0, .int .i64 0] 67 (0, 0)) (.cells #[.int .i64 1, .int .i64 0, .int .i64 0, .string ⟨#[]⟩, .string ⟨#[]⟩, .int .u64 0, .int .i64 0, .int .i64 0] 67 (0, 0))
  have HC0 := Lib.hid (chg_alloc (chg_alloc (Chg.refl (· = R) w) (.cells #[.int .i64 0, .int .i64 0, .int .i64 0, .string ⟨#[]⟩, .string ⟨#[]⟩, .int .u64 0, .int .i64 0, .int .i64 0] 67 (0, 0))) (.cells #[.int .i64 1, .int .i64 0, .int .i64 0, .string ⟨#[]⟩, .string ⟨#[]⟩, .int .u64 0, .int .i64 0, .int .i64 0] 67 (0, 0)))
  have hs0 := (h.al (.cells #[.int .i64 0, .int .i64 0, .int .i64 0, .string ⟨#[]⟩, .string ⟨#[]⟩, .int .u64 0, .int .i64 0, .int .i64 0] 67 (0, 0))).al (.cells #[.int .i64 1, .int .i64 0, .int .i64 0, .string ⟨#[]⟩, .string ⟨#[]⟩, .int .u64 0, .int .i64 0, .int .i64 0] 67 (0, 0))
  have HZ0 := Lib.hid hZ0
  have HX0 := Lib.hid hX0
  clear h hZ0 hX0
  have HT0 := Lib.hid (next_any hs0 hs)
  clear hs0
  go_wp2_with fail
  refine HT0.out.mono ?_
  rintro x w1 ⟨rfl, hs1, hch⟩
  have hX1 : w1.heap[w.heap.size + 1]? = some (.cells #[.int .i64 1, .int .i64 0, .int .i64 0, .string ⟨#[]⟩, .string ⟨#[]⟩, .int .u64 0, .int .i64 0, .int .i64 0] 67 (0, 0)) := keep hch HX0.out (by omega)
  have hZ1 : w1.heap[w.heap.size]? = some (.cells #[.int .i64 0, .int .i64 0, .int .i64 0, .string ⟨#[]⟩, .string ⟨#[]⟩, .int .u64 0, .int .i64 0, .int .i64 0] 67 (0, 0)) := keep hch HZ0.out (by omega)
  have HC1 := Lib.hid (HC0.out.trans hch (fun _ h => .inl h))
  have x0 := cell_at hX1 0
  have x1 := cell_at hX1 1
  have x2 := cell_at hX1 2
  have x3 := cell_at hX1 3
  have x4 := cell_at hX1 4
  have x5 := cell_at hX1 5
  have x6 := cell_at hX1 6
  have x7 := cell_at hX1 7
  have xf0 := frozen_at hX1 0
  have xf1 := frozen_at hX1 1
  have xf2 := frozen_at hX1 2
  have xf3 := frozen_at hX1 3
  have xf4 := frozen_at hX1 4
  have xf5 := frozen_at hX1 5
  have xf6 := frozen_at hX1 6
  have xf7 := frozen_at hX1 7
  have HX1 := Lib.hid hX1
  have HZ1 := Lib.hid hZ1
  have hlt1 := lt_of_some hX1
  clear hch hX1 hZ1
  have HT1 := Lib.hid (next_any (hs1.setB (b := w.heap.size + 1) (i := 1) (by omega) (.int .i64 ((hd l : Int) % 8))) hs)
  clear hs1
  go_wp2_with fail
  refine HT1.out.mono ?_
  rintro x w2 ⟨rfl, hs2, hch⟩
  clear x0 xf0 x1 xf1 x2 xf2 x3 xf3 x4 xf4 x5 xf5 x6 xf6 x7 xf7
  have hX2 : w2.heap[w.heap.size + 1]? = some (.cells #[.int .i64 1, .int .i64 ((hd l : Int) % 8), .int .i64 0, .string ⟨#[]⟩, .string ⟨#[]⟩, .int .u64 0, .int .i64 0, .int .i64 0] 67 (0, 0)) := keep hch (heap_setCell_self w1 (w.heap.size + 1) 1 _ _ (.int .i64 ((hd l : Int) % 8)) HX1.out) (by omega)
  have hZ2 : w2.heap[w.heap.size]? = some (.cells #[.int .i64 0, .int .i64 0, .int .i64 0, .string ⟨#[]⟩, .string ⟨#[]⟩, .int .u64 0, .int .i64 0, .int .i64 0] 67 (0, 0)) := keep hch ((heap_setCell_ne w1 (w.heap.size + 1) 1 w.heap.size (.int .i64 ((hd l : Int) % 8)) (by omega)).trans HZ1.out) (by omega)
  have HC2 := Lib.hid ((chg_set (b := w.heap.size + 1) (i := 1) HC1.out (by omega) (.int .i64 ((hd l : Int) % 8))).trans hch (fun _ h => .inl h))
  have x0 := cell_at hX2 0
  have x1 := cell_at hX2 1
  have x2 := cell_at hX2 2
  have x3 := cell_at hX2 3
  have x4 := cell_at hX2 4
  have x5 := cell_at hX2 5
  have x6 := cell_at hX2 6
  have x7 := cell_at hX2 7
  have xf0 := frozen_at hX2 0
  have xf1 := frozen_at hX2 1
  have xf2 := frozen_at hX2 2
  have xf3 := frozen_at hX2 3
  have xf4 := frozen_at hX2 4
  have xf5 := frozen_at hX2 5
  have xf6 := frozen_at hX2 6
  have xf7 := frozen_at hX2 7
  have HX2 := Lib.hid hX2
  have HZ2 := Lib.hid hZ2
  have hlt2 := lt_of_some hX2
  clear hch hX2 hZ2
  have HT2 := Lib.hid (rtext_any (hs2.setB (b := w.heap.size + 1) (i := 2) (by omega) (.int .i64 (hd l.tail : Int))) hs)
  clear hs2
  go_wp2_with fail
  refine HT2.out.mono ?_
  rintro x w3 ⟨rfl, hs3, hch⟩
  clear x0 xf0 x1 xf1 x2 xf2 x3 xf3 x4 xf4 x5 xf5 x6 xf6 x7 xf7
  have hX3 : w3.heap[w.heap.size + 1]? = some (.cells #[.int .i64 1, .int .i64 ((hd l : Int) % 8), .int .i64 (hd l.tail : Int), .string ⟨#[]⟩, .string ⟨#[]⟩, .int .u64 0, .int .i64 0, .int .i64 0] 67 (0, 0)) := keep hch (heap_setCell_self w2 (w.heap.size + 1) 2 _ _ (.int .i64 (hd l.tail : Int)) HX2.out) (by omega)
  have hZ3 : w3.heap[w.heap.size]? = some (.cells #[.int .i64 0, .int .i64 0, .int .i64 0, .string ⟨#[]⟩, .string ⟨#[]⟩, .int .u64 0, .int .i64 0, .int .i64 0] 67 (0, 0)) := keep hch ((heap_setCell_ne w2 (w.heap.size + 1) 2 w.heap.size (.int .i64 (hd l.tail : Int)) (by omega)).trans HZ2.out) (by omega)
  have HC3 := Lib.hid ((chg_set (b := w.heap.size + 1) (i := 2) HC2.out (by omega) (.int .i64 (hd l.tail : Int))).trans hch (fun _ h => .inl h))
  have x0 := cell_at hX3 0
  have x1 := cell_at hX3 1
  have x2 := cell_at hX3 2
  have x3 := cell_at hX3 3
  have x4 := cell_at hX3 4
  have x5 := cell_at hX3 5
  have x6 := cell_at hX3 6
  have x7 := cell_at hX3 7
  have xf0 := frozen_at hX3 0
  have xf1 := frozen_at hX3 1
  have xf2 := frozen_at hX3 2
  have xf3 := frozen_at hX3 3
  have xf4 := frozen_at hX3 4
  have xf5 := frozen_at hX3 5
  have xf6 := frozen_at hX3 6
  have xf7 := frozen_at hX3 7
  have HX3 := Lib.hid hX3
  have HZ3 := Lib.hid hZ3
  have hlt3 := lt_of_some hX3
  clear hch hX3 hZ3
  have hZf := HZ3.out
  have z0 := cell_at hZf 0
  have z1 := cell_at hZf 1
  have z2 := cell_at hZf 2
  have z3 := cell_at hZf 3
  have z4 := cell_at hZf 4
  have z5 := cell_at hZf 5
  have z6 := cell_at hZf 6
  have z7 := cell_at hZf 7
  have zf0 := frozen_at hZf 0
  have zf1 := frozen_at hZf 1
  have zf2 := frozen_at hZf 2
  have zf3 := frozen_at hZf 3
  have zf4 := frozen_at hZf 4
  have zf5 := frozen_at hZf 5
  have zf6 := frozen_at hZf 6
  have zf7 := frozen_at hZf 7
  have HS := Lib.hid hs3
  clear hZf hs3
  go_wp2_with fail
  obtain ⟨q0, q1, q2, q3, q4, q5, q6, q7⟩ := eight_set ((heap_setCell_ne w3 (w.heap.size + 1) 3 w.heap.size (.string (ofNats (txV l.tail.tail))) (by omega)).trans HZ3.out) (.int .i64 1) (.int .i64 ((hd l : Int) % 8)) (.int .i64 (hd l.tail : Int)) (.string (ofNats (txV l.tail.tail))) (.string ⟨#[]⟩) (.int .u64 0) (.int .i64 0) (.int .i64 0)
  refine bodyPost_ret (v := .agg #[.int .i64 1, .int .i64 ((hd l : Int) % 8), .int .i64 (hd l.tail : Int), .string (ofNats (txV l.tail.tail)), .string ⟨#[]⟩, .int .u64 0, .int .i64 0, .int .i64 0]) (by simp [results, Try.results49, go_sem, q0, q1, q2, q3, q4, q5, q6, q7]) rfl ⟨rfl, ?_, ?_⟩
  · repeat (first | (with_reducible exact HS.out) | (with_reducible refine RfR.al ?_ _) | (with_reducible refine RfR.setB ?_ (by omega) _))
  · repeat (first | (with_reducible exact HC3.out) | (with_reducible refine chg_alloc ?_ _) | (with_reducible refine chg_set ?_ (by omega) _))
set_option maxRecDepth 100000 in
set_option maxHeartbeats 1000000 in
theorem rentry_1_4 (h : RfR w R s l o) (hs : s.size ≤ 1000000) (hk : hd l.tail = 4) : Calls Try.prog 49 #[.pointer (some ⟨R, 0, none⟩), .int .i64 1] w fun x w' => x = .returned (.agg #[.int .i64 1, .int .i64 ((hd l : Int) % 8), .int .i64 (hd l.tail : Int), .string (ofNats (txV l.tail.tail)), .string (ofNats (txV (txL l.tail.tail))), .int .u64 0, .int .i64 0, .int .i64 0]) ∧ RfR w' R s (txL (txL l.tail.tail)) ((((o || l.isEmpty) || l.tail.isEmpty) || txO l.tail.tail) || txO (txL l.tail.tail)) ∧ Chg (· = R) w w' := by
  have hkk : hd l.tail = 4 := hk
  clear hk
  have t1 : decide ((1 : Int) ≤ (hd l.tail : Int)) = true := decide_eq_true (by omega)
  have t2 : decide ((hd l.tail : Int) ≤ 5) = true := decide_eq_true (by omega)
  have t3 : decide ((0 : Int) < (hd l.tail : Int)) = true := decide_eq_true (by omega)
  have t4 : decide (0 < hd l.tail) = true := decide_eq_true (by omega)
  have t5 : decide (1 ≤ hd l.tail) = true := decide_eq_true (by omega)
  have t6 : decide (hd l.tail ≤ 5) = true := decide_eq_true (by omega)
  have e2 : ((hd l.tail : Int) == 2) = false := beq_eq_false_iff_ne.2 (by omega)
  have e4 : ((hd l.tail : Int) == 4) = true := beq_iff_eq.2 (by omega)
  have e5 : ((hd l.tail : Int) == 5) = false := beq_eq_false_iff_ne.2 (by omega)
  have HKK := Lib.hid hkk
  clear hkk
  have hRW := h.lt
  have h256 := h.bytes
  go_enter Try.func49, Try.ntmps49
  have hZ0 := box1 (new_block w (.cells #[.int .i64 0, .int .i64 0, .int .i64 0, .string ⟨#[]⟩, .string ⟨#[]⟩, .int .u64 0, .int .i64 0, .int .i64 0] 67 (0, 0))) (below_al (Below.refl _ _) (.cells #[.int .i64 1, .int .i64 0, .int .i64 0, .string ⟨#[]⟩, .string ⟨#[]⟩, .int .u64 0, .int .i64 0, .int .i64 0] 67 (0, 0)))
  have hX0 := new_block2 w (.cells #[.int .i64 0, .int .i64 0, .int .i64 0, .string ⟨#[]⟩, .string ⟨#[]⟩, .int .u64 0, .int .i64 0, .int .i64 0] 67 (0, 0)) (.cells #[.int .i64 1, .int .i64 0, .int .i64 0, .string ⟨#[]⟩, .string ⟨#[]⟩, .int .u64 0, .int .i64 0, .int .i64 0] 67 (0, 0))
  have HC0 := Lib.hid (chg_alloc (chg_alloc (Chg.refl (· = R) w) (.cells #[.int .i64 0, .int .i64 0, .int .i64 0, .string ⟨#[]⟩, .string ⟨#[]⟩, .int .u64 0, .int .i64 0, .int .i64 0] 67 (0, 0))) (.cells #[.int .i64 1, .int .i64 0, .int .i64 0, .string ⟨#[]⟩, .string ⟨#[]⟩, .int .u64 0, .int .i64 0, .int .i64 0] 67 (0, 0)))
  have hs0 := (h.al (.cells #[.int .i64 0, .int .i64 0, .int .i64 0, .string ⟨#[]⟩, .string ⟨#[]⟩, .int .u64 0, .int .i64 0, .int .i64 0] 67 (0, 0))).al (.cells #[.int .i64 1, .int .i64 0, .int .i64 0, .string ⟨#[]⟩, .string ⟨#[]⟩, .int .u64 0, .int .i64 0, .int .i64 0] 67 (0, 0))
  have HZ0 := Lib.hid hZ0
  have HX0 := Lib.hid hX0
  clear h hZ0 hX0
  have HT0 := Lib.hid (next_any hs0 hs)
  clear hs0
  go_wp2_with fail
  refine HT0.out.mono ?_
  rintro x w1 ⟨rfl, hs1, hch⟩
  have hX1 : w1.heap[w.heap.size + 1]? = some (.cells #[.int .i64 1, .int .i64 0, .int .i64 0, .string ⟨#[]⟩, .string ⟨#[]⟩, .int .u64 0, .int .i64 0, .int .i64 0] 67 (0, 0)) := keep hch HX0.out (by omega)
  have hZ1 : w1.heap[w.heap.size]? = some (.cells #[.int .i64 0, .int .i64 0, .int .i64 0, .string ⟨#[]⟩, .string ⟨#[]⟩, .int .u64 0, .int .i64 0, .int .i64 0] 67 (0, 0)) := keep hch HZ0.out (by omega)
  have HC1 := Lib.hid (HC0.out.trans hch (fun _ h => .inl h))
  have x0 := cell_at hX1 0
  have x1 := cell_at hX1 1
  have x2 := cell_at hX1 2
  have x3 := cell_at hX1 3
  have x4 := cell_at hX1 4
  have x5 := cell_at hX1 5
  have x6 := cell_at hX1 6
  have x7 := cell_at hX1 7
  have xf0 := frozen_at hX1 0
  have xf1 := frozen_at hX1 1
  have xf2 := frozen_at hX1 2
  have xf3 := frozen_at hX1 3
  have xf4 := frozen_at hX1 4
  have xf5 := frozen_at hX1 5
  have xf6 := frozen_at hX1 6
  have xf7 := frozen_at hX1 7
  have HX1 := Lib.hid hX1
  have HZ1 := Lib.hid hZ1
  have hlt1 := lt_of_some hX1
  clear hch hX1 hZ1
  have HT1 := Lib.hid (next_any (hs1.setB (b := w.heap.size + 1) (i := 1) (by omega) (.int .i64 ((hd l : Int) % 8))) hs)
  clear hs1
  go_wp2_with fail
  refine HT1.out.mono ?_
  rintro x w2 ⟨rfl, hs2, hch⟩
  clear x0 xf0 x1 xf1 x2 xf2 x3 xf3 x4 xf4 x5 xf5 x6 xf6 x7 xf7
  have hX2 : w2.heap[w.heap.size + 1]? = some (.cells #[.int .i64 1, .int .i64 ((hd l : Int) % 8), .int .i64 0, .string ⟨#[]⟩, .string ⟨#[]⟩, .int .u64 0, .int .i64 0, .int .i64 0] 67 (0, 0)) := keep hch (heap_setCell_self w1 (w.heap.size + 1) 1 _ _ (.int .i64 ((hd l : Int) % 8)) HX1.out) (by omega)
  have hZ2 : w2.heap[w.heap.size]? = some (.cells #[.int .i64 0, .int .i64 0, .int .i64 0, .string ⟨#[]⟩, .string ⟨#[]⟩, .int .u64 0, .int .i64 0, .int .i64 0] 67 (0, 0)) := keep hch ((heap_setCell_ne w1 (w.heap.size + 1) 1 w.heap.size (.int .i64 ((hd l : Int) % 8)) (by omega)).trans HZ1.out) (by omega)
  have HC2 := Lib.hid ((chg_set (b := w.heap.size + 1) (i := 1) HC1.out (by omega) (.int .i64 ((hd l : Int) % 8))).trans hch (fun _ h => .inl h))
  have x0 := cell_at hX2 0
  have x1 := cell_at hX2 1
  have x2 := cell_at hX2 2
  have x3 := cell_at hX2 3
  have x4 := cell_at hX2 4
  have x5 := cell_at hX2 5
  have x6 := cell_at hX2 6
  have x7 := cell_at hX2 7
  have xf0 := frozen_at hX2 0
  have xf1 := frozen_at hX2 1
  have xf2 := frozen_at hX2 2
  have xf3 := frozen_at hX2 3
  have xf4 := frozen_at hX2 4
  have xf5 := frozen_at hX2 5
  have xf6 := frozen_at hX2 6
  have xf7 := frozen_at hX2 7
  have HX2 := Lib.hid hX2
  have HZ2 := Lib.hid hZ2
  have hlt2 := lt_of_some hX2
  clear hch hX2 hZ2
  have HT2 := Lib.hid (rtext_any (hs2.setB (b := w.heap.size + 1) (i := 2) (by omega) (.int .i64 (hd l.tail : Int))) hs)
  clear hs2
  go_wp2_with fail
  refine HT2.out.mono ?_
  rintro x w3 ⟨rfl, hs3, hch⟩
  clear x0 xf0 x1 xf1 x2 xf2 x3 xf3 x4 xf4 x5 xf5 x6 xf6 x7 xf7
  have hX3 : w3.heap[w.heap.size + 1]? = some (.cells #[.int .i64 1, .int .i64 ((hd l : Int) % 8), .int .i64 (hd l.tail : Int), .string ⟨#[]⟩, .string ⟨#[]⟩, .int .u64 0, .int .i64 0, .int .i64 0] 67 (0, 0)) := keep hch (heap_setCell_self w2 (w.heap.size + 1) 2 _ _ (.int .i64 (hd l.tail : Int)) HX2.out) (by omega)
  have hZ3 : w3.heap[w.heap.size]? = some (.cells #[.int .i64 0, .int .i64 0, .int .i64 0, .string ⟨#[]⟩, .string ⟨#[]⟩, .int .u64 0, .int .i64 0, .int .i64 0] 67 (0, 0)) := keep hch ((heap_setCell_ne w2 (w.heap.size + 1) 2 w.heap.size (.int .i64 (hd l.tail : Int)) (by omega)).trans HZ2.out) (by omega)
  have HC3 := Lib.hid ((chg_set (b := w.heap.size + 1) (i := 2) HC2.out (by omega) (.int .i64 (hd l.tail : Int))).trans hch (fun _ h => .inl h))
  have x0 := cell_at hX3 0
  have x1 := cell_at hX3 1
  have x2 := cell_at hX3 2
  have x3 := cell_at hX3 3
  have x4 := cell_at hX3 4
  have x5 := cell_at hX3 5
  have x6 := cell_at hX3 6
  have x7 := cell_at hX3 7
  have xf0 := frozen_at hX3 0
  have xf1 := frozen_at hX3 1
  have xf2 := frozen_at hX3 2
  have xf3 := frozen_at hX3 3
  have xf4 := frozen_at hX3 4
  have xf5 := frozen_at hX3 5
  have xf6 := frozen_at hX3 6
  have xf7 := frozen_at hX3 7
  have HX3 := Lib.hid hX3
  have HZ3 := Lib.hid hZ3
  have hlt3 := lt_of_some hX3
  clear hch hX3 hZ3
  have HT3 := Lib.hid (rtext_any (hs3.setB (b := w.heap.size + 1) (i := 3) (by omega) (.string (ofNats (txV l.tail.tail)))) hs)
  clear hs3
  go_wp2_with fail
  refine HT3.out.mono ?_
  rintro x w4 ⟨rfl, hs4, hch⟩
  clear x0 xf0 x1 xf1 x2 xf2 x3 xf3 x4 xf4 x5 xf5 x6 xf6 x7 xf7
  have hX4 : w4.heap[w.heap.size + 1]? = some (.cells #[.int .i64 1, .int .i64 ((hd l : Int) % 8), .int .i64 (hd l.tail : Int), .string (ofNats (txV l.tail.tail)), .string ⟨#[]⟩, .int .u64 0, .int .i64 0, .int .i64 0] 67 (0, 0)) := keep hch (heap_setCell_self w3 (w.heap.size + 1) 3 _ _ (.string (ofNats (txV l.tail.tail))) HX3.out) (by omega)
  have hZ4 : w4.heap[w.heap.size]? = some (.cells #[.int .i64 0, .int .i64 0, .int .i64 0, .string ⟨#[]⟩, .string ⟨#[]⟩, .int .u64 0, .int .i64 0, .int .i64 0] 67 (0, 0)) := keep hch ((heap_setCell_ne w3 (w.heap.size + 1) 3 w.heap.size (.string (ofNats (txV l.tail.tail))) (by omega)).trans HZ3.out) (by omega)
  have HC4 := Lib.hid ((chg_set (b := w.heap.size + 1) (i := 3) HC3.out (by omega) (.string (ofNats (txV l.tail.tail)))).trans hch (fun _ h => .inl h))
  have x0 := cell_at hX4 0
  have x1 := cell_at hX4 1
  have x2 := cell_at hX4 2
  have x3 := cell_at hX4 3
  have x4 := cell_at hX4 4
  have x5 := cell_at hX4 5
  have x6 := cell_at hX4 6
  have x7 := cell_at hX4 7
  have xf0 := frozen_at hX4 0
  have xf1 := frozen_at hX4 1
  have xf2 := frozen_at hX4 2
  have xf3 := frozen_at hX4 3
  have xf4 := frozen_at hX4 4
  have xf5 := frozen_at hX4 5
  have xf6 := frozen_at hX4 6
  have xf7 := frozen_at hX4 7
  have HX4 := Lib.hid hX4
  have HZ4 := Lib.hid hZ4
  have hlt4 := lt_of_some hX4
  clear hch hX4 hZ4
  have hZf := HZ4.out
  have z0 := cell_at hZf 0
  have z1 := cell_at hZf 1
  have z2 := cell_at hZf 2
  have z3 := cell_at hZf 3
  have z4 := cell_at hZf 4
  have z5 := cell_at hZf 5
  have z6 := cell_at hZf 6
  have z7 := cell_at hZf 7
  have zf0 := frozen_at hZf 0
  have zf1 := frozen_at hZf 1
  have zf2 := frozen_at hZf 2
  have zf3 := frozen_at hZf 3
  have zf4 := frozen_at hZf 4
  have zf5 := frozen_at hZf 5
  have zf6 := frozen_at hZf 6
  have zf7 := frozen_at hZf 7
  have HS := Lib.hid hs4
  clear hZf hs4
  go_wp2_with fail
  obtain ⟨q0, q1, q2, q3, q4, q5, q6, q7⟩ := eight_set ((heap_setCell_ne w4 (w.heap.size + 1) 4 w.heap.size (.string (ofNats (txV (txL l.tail.tail)))) (by omega)).trans HZ4.out) (.int .i64 1) (.int .i64 ((hd l : Int) % 8)) (.int .i64 (hd l.tail : Int)) (.string (ofNats (txV l.tail.tail))) (.string (ofNats (txV (txL l.tail.tail)))) (.int .u64 0) (.int .i64 0) (.int .i64 0)
  refine bodyPost_ret (v := .agg #[.int .i64 1, .int .i64 ((hd l : Int) % 8), .int .i64 (hd l.tail : Int), .string (ofNats (txV l.tail.tail)), .string (ofNats (txV (txL l.tail.tail))), .int .u64 0, .int .i64 0, .int .i64 0]) (by simp [results, Try.results49, go_sem, q0, q1, q2, q3, q4, q5, q6, q7]) rfl ⟨rfl, ?_, ?_⟩
  · repeat (first | (with_reducible exact HS.out) | (with_reducible refine RfR.al ?_ _) | (with_reducible refine RfR.setB ?_ (by omega) _))
  · repeat (first | (with_reducible exact HC4.out) | (with_reducible refine chg_alloc ?_ _) | (with_reducible refine chg_set ?_ (by omega) _))
set_option maxRecDepth 100000 in
set_option maxHeartbeats 1000000 in
theorem rentry_1_5 (h : RfR w R s l o) (hs : s.size ≤ 1000000) (hk : hd l.tail = 5) : Calls Try.prog 49 #[.pointer (some ⟨R, 0, none⟩), .int .i64 1] w fun x w' => x = .returned (.agg #[.int .i64 1, .int .i64 ((hd l : Int) % 8), .int .i64 (hd l.tail : Int), .string (ofNats (txV l.tail.tail)), .string (ofNats (txV (txL l.tail.tail))), .int .u64 0, .int .i64 0, .int .i64 0]) ∧ RfR w' R s (txL (txL l.tail.tail)) ((((o || l.isEmpty) || l.tail.isEmpty) || txO l.tail.tail) || txO (txL l.tail.tail)) ∧ Chg (· = R) w w' := by
  have hkk : hd l.tail = 5 := hk
  clear hk
  have t1 : decide ((1 : Int) ≤ (hd l.tail : Int)) = true := decide_eq_true (by omega)
  have t2 : decide ((hd l.tail : Int) ≤ 5) = true := decide_eq_true (by omega)
  have t3 : decide ((0 : Int) < (hd l.tail : Int)) = true := decide_eq_true (by omega)
  have t4 : decide (0 < hd l.tail) = true := decide_eq_true (by omega)
  have t5 : decide (1 ≤ hd l.tail) = true := decide_eq_true (by omega)
  have t6 : decide (hd l.tail ≤ 5) = true := decide_eq_true (by omega)
  have e2 : ((hd l.tail : Int) == 2) = false := beq_eq_false_iff_ne.2 (by omega)
  have e4 : ((hd l.tail : Int) == 4) = false := beq_eq_false_iff_ne.2 (by omega)
  have e5 : ((hd l.tail : Int) == 5) = true := beq_iff_eq.2 (by omega)
  have HKK := Lib.hid hkk
  clear hkk
  have hRW := h.lt
  have h256 := h.bytes
  go_enter Try.func49, Try.ntmps49
  have hZ0 := box1 (new_block w (.cells #[.int .i64 0, .int .i64 0, .int .i64 0, .string ⟨#[]⟩, .string ⟨#[]⟩, .int .u64 0, .int .i64 0, .int .i64 0] 67 (0, 0))) (below_al (Below.refl _ _) (.cells #[.int .i64 1, .int .i64 0, .int .i64 0, .string ⟨#[]⟩, .string ⟨#[]⟩, .int .u64 0, .int .i64 0, .int .i64 0] 67 (0, 0)))
  have hX0 := new_block2 w (.cells #[.int .i64 0, .int .i64 0, .int .i64 0, .string ⟨#[]⟩, .string ⟨#[]⟩, .int .u64 0, .int .i64 0, .int .i64 0] 67 (0, 0)) (.cells #[.int .i64 1, .int .i64 0, .int .i64 0, .string ⟨#[]⟩, .string ⟨#[]⟩, .int .u64 0, .int .i64 0, .int .i64 0] 67 (0, 0))
  have HC0 := Lib.hid (chg_alloc (chg_alloc (Chg.refl (· = R) w) (.cells #[.int .i64 0, .int .i64 0, .int .i64 0, .string ⟨#[]⟩, .string ⟨#[]⟩, .int .u64 0, .int .i64 0, .int .i64 0] 67 (0, 0))) (.cells #[.int .i64 1, .int .i64 0, .int .i64 0, .string ⟨#[]⟩, .string ⟨#[]⟩, .int .u64 0, .int .i64 0, .int .i64 0] 67 (0, 0)))
  have hs0 := (h.al (.cells #[.int .i64 0, .int .i64 0, .int .i64 0, .string ⟨#[]⟩, .string ⟨#[]⟩, .int .u64 0, .int .i64 0, .int .i64 0] 67 (0, 0))).al (.cells #[.int .i64 1, .int .i64 0, .int .i64 0, .string ⟨#[]⟩, .string ⟨#[]⟩, .int .u64 0, .int .i64 0, .int .i64 0] 67 (0, 0))
  have HZ0 := Lib.hid hZ0
  have HX0 := Lib.hid hX0
  clear h hZ0 hX0
  have HT0 := Lib.hid (next_any hs0 hs)
  clear hs0
  go_wp2_with fail
  refine HT0.out.mono ?_
  rintro x w1 ⟨rfl, hs1, hch⟩
  have hX1 : w1.heap[w.heap.size + 1]? = some (.cells #[.int .i64 1, .int .i64 0, .int .i64 0, .string ⟨#[]⟩, .string ⟨#[]⟩, .int .u64 0, .int .i64 0, .int .i64 0] 67 (0, 0)) := keep hch HX0.out (by omega)
  have hZ1 : w1.heap[w.heap.size]? = some (.cells #[.int .i64 0, .int .i64 0, .int .i64 0, .string ⟨#[]⟩, .string ⟨#[]⟩, .int .u64 0, .int .i64 0, .int .i64 0] 67 (0, 0)) := keep hch HZ0.out (by omega)
  have HC1 := Lib.hid (HC0.out.trans hch (fun _ h => .inl h))
  have x0 := cell_at hX1 0
  have x1 := cell_at hX1 1
  have x2 := cell_at hX1 2
  have x3 := cell_at hX1 3
  have x4 := cell_at hX1 4
  have x5 := cell_at hX1 5
  have x6 := cell_at hX1 6
  have x7 := cell_at hX1 7
  have xf0 := frozen_at hX1 0
  have xf1 := frozen_at hX1 1
  have xf2 := frozen_at hX1 2
  have xf3 := frozen_at hX1 3
  have xf4 := frozen_at hX1 4
  have xf5 := frozen_at hX1 5
  have xf6 := frozen_at hX1 6
  have xf7 := frozen_at hX1 7
  have HX1 := Lib.hid hX1
  have HZ1 := Lib.hid hZ1
  have hlt1 := lt_of_some hX1
  clear hch hX1 hZ1
  have HT1 := Lib.hid (next_any (hs1.setB (b := w.heap.size + 1) (i := 1) (by omega) (.int .i64 ((hd l : Int) % 8))) hs)
  clear hs1
  go_wp2_with fail
  refine HT1.out.mono ?_
  rintro x w2 ⟨rfl, hs2, hch⟩
  clear x0 xf0 x1 xf1 x2 xf2 x3 xf3 x4 xf4 x5 xf5 x6 xf6 x7 xf7
  have hX2 : w2.heap[w.heap.size + 1]? = some (.cells #[.int .i64 1, .int .i64 ((hd l : Int) % 8), .int .i64 0, .string ⟨#[]⟩, .string ⟨#[]⟩, .int .u64 0, .int .i64 0, .int .i64 0] 67 (0, 0)) := keep hch (heap_setCell_self w1 (w.heap.size + 1) 1 _ _ (.int .i64 ((hd l : Int) % 8)) HX1.out) (by omega)
  have hZ2 : w2.heap[w.heap.size]? = some (.cells #[.int .i64 0, .int .i64 0, .int .i64 0, .string ⟨#[]⟩, .string ⟨#[]⟩, .int .u64 0, .int .i64 0, .int .i64 0] 67 (0, 0)) := keep hch ((heap_setCell_ne w1 (w.heap.size + 1) 1 w.heap.size (.int .i64 ((hd l : Int) % 8)) (by omega)).trans HZ1.out) (by omega)
  have HC2 := Lib.hid ((chg_set (b := w.heap.size + 1) (i := 1) HC1.out (by omega) (.int .i64 ((hd l : Int) % 8))).trans hch (fun _ h => .inl h))
  have x0 := cell_at hX2 0
  have x1 := cell_at hX2 1
  have x2 := cell_at hX2 2
  have x3 := cell_at hX2 3
  have x4 := cell_at hX2 4
  have x5 := cell_at hX2 5
  have x6 := cell_at hX2 6
  have x7 := cell_at hX2 7
  have xf0 := frozen_at hX2 0
  have xf1 := frozen_at hX2 1
  have xf2 := frozen_at hX2 2
  have xf3 := frozen_at hX2 3
  have xf4 := frozen_at hX2 4
  have xf5 := frozen_at hX2 5
  have xf6 := frozen_at hX2 6
  have xf7 := frozen_at hX2 7
  have HX2 := Lib.hid hX2
  have HZ2 := Lib.hid hZ2
  have hlt2 := lt_of_some hX2
  clear hch hX2 hZ2
  have HT2 := Lib.hid (rtext_any (hs2.setB (b := w.heap.size + 1) (i := 2) (by omega) (.int .i64 (hd l.tail : Int))) hs)
  clear hs2
  go_wp2_with fail
  refine HT2.out.mono ?_
  rintro x w3 ⟨rfl, hs3, hch⟩
  clear x0 xf0 x1 xf1 x2 xf2 x3 xf3 x4 xf4 x5 xf5 x6 xf6 x7 xf7
  have hX3 : w3.heap[w.heap.size + 1]? = some (.cells #[.int .i64 1, .int .i64 ((hd l : Int) % 8), .int .i64 (hd l.tail : Int), .string ⟨#[]⟩, .string ⟨#[]⟩, .int .u64 0, .int .i64 0, .int .i64 0] 67 (0, 0)) := keep hch (heap_setCell_self w2 (w.heap.size + 1) 2 _ _ (.int .i64 (hd l.tail : Int)) HX2.out) (by omega)
  have hZ3 : w3.heap[w.heap.size]? = some (.cells #[.int .i64 0, .int .i64 0, .int .i64 0, .string ⟨#[]⟩, .string ⟨#[]⟩, .int .u64 0, .int .i64 0, .int .i64 0] 67 (0, 0)) := keep hch ((heap_setCell_ne w2 (w.heap.size + 1) 2 w.heap.size (.int .i64 (hd l.tail : Int)) (by omega)).trans HZ2.out) (by omega)
  have HC3 := Lib.hid ((chg_set (b := w.heap.size + 1) (i := 2) HC2.out (by omega) (.int .i64 (hd l.tail : Int))).trans hch (fun _ h => .inl h))
  have x0 := cell_at hX3 0
  have x1 := cell_at hX3 1
  have x2 := cell_at hX3 2
  have x3 := cell_at hX3 3
  have x4 := cell_at hX3 4
  have x5 := cell_at hX3 5
  have x6 := cell_at hX3 6
  have x7 := cell_at hX3 7
  have xf0 := frozen_at hX3 0
  have xf1 := frozen_at hX3 1
  have xf2 := frozen_at hX3 2
  have xf3 := frozen_at hX3 3
  have xf4 := frozen_at hX3 4
  have xf5 := frozen_at hX3 5
  have xf6 := frozen_at hX3 6
  have xf7 := frozen_at hX3 7
  have HX3 := Lib.hid hX3
  have HZ3 := Lib.hid hZ3
  have hlt3 := lt_of_some hX3
  clear hch hX3 hZ3
  have HT3 := Lib.hid (rtext_any (hs3.setB (b := w.heap.size + 1) (i := 3) (by omega) (.string (ofNats (txV l.tail.tail)))) hs)
  clear hs3
  go_wp2_with fail
  refine HT3.out.mono ?_
  rintro x w4 ⟨rfl, hs4, hch⟩
  clear x0 xf0 x1 xf1 x2 xf2 x3 xf3 x4 xf4 x5 xf5 x6 xf6 x7 xf7
  have hX4 : w4.heap[w.heap.size + 1]? = some (.cells #[.int .i64 1, .int .i64 ((hd l : Int) % 8), .int .i64 (hd l.tail : Int), .string (ofNats (txV l.tail.tail)), .string ⟨#[]⟩, .int .u64 0, .int .i64 0, .int .i64 0] 67 (0, 0)) := keep hch (heap_setCell_self w3 (w.heap.size + 1) 3 _ _ (.string (ofNats (txV l.tail.tail))) HX3.out) (by omega)
  have hZ4 : w4.heap[w.heap.size]? = some (.cells #[.int .i64 0, .int .i64 0, .int .i64 0, .string ⟨#[]⟩, .string ⟨#[]⟩, .int .u64 0, .int .i64 0, .int .i64 0] 67 (0, 0)) := keep hch ((heap_setCell_ne w3 (w.heap.size + 1) 3 w.heap.size (.string (ofNats (txV l.tail.tail))) (by omega)).trans HZ3.out) (by omega)
  have HC4 := Lib.hid ((chg_set (b := w.heap.size + 1) (i := 3) HC3.out (by omega) (.string (ofNats (txV l.tail.tail)))).trans hch (fun _ h => .inl h))
  have x0 := cell_at hX4 0
  have x1 := cell_at hX4 1
  have x2 := cell_at hX4 2
  have x3 := cell_at hX4 3
  have x4 := cell_at hX4 4
  have x5 := cell_at hX4 5
  have x6 := cell_at hX4 6
  have x7 := cell_at hX4 7
  have xf0 := frozen_at hX4 0
  have xf1 := frozen_at hX4 1
  have xf2 := frozen_at hX4 2
  have xf3 := frozen_at hX4 3
  have xf4 := frozen_at hX4 4
  have xf5 := frozen_at hX4 5
  have xf6 := frozen_at hX4 6
  have xf7 := frozen_at hX4 7
  have HX4 := Lib.hid hX4
  have HZ4 := Lib.hid hZ4
  have hlt4 := lt_of_some hX4
  clear hch hX4 hZ4
  have hZf := HZ4.out
  have z0 := cell_at hZf 0
  have z1 := cell_at hZf 1
  have z2 := cell_at hZf 2
  have z3 := cell_at hZf 3
  have z4 := cell_at hZf 4
  have z5 := cell_at hZf 5
  have z6 := cell_at hZf 6
  have z7 := cell_at hZf 7
  have zf0 := frozen_at hZf 0
  have zf1 := frozen_at hZf 1
  have zf2 := frozen_at hZf 2
  have zf3 := frozen_at hZf 3
  have zf4 := frozen_at hZf 4
  have zf5 := frozen_at hZf 5
  have zf6 := frozen_at hZf 6
  have zf7 := frozen_at hZf 7
  have HS := Lib.hid hs4
  clear hZf hs4
  go_wp2_with fail
  obtain ⟨q0, q1, q2, q3, q4, q5, q6, q7⟩ := eight_set ((heap_setCell_ne w4 (w.heap.size + 1) 4 w.heap.size (.string (ofNats (txV (txL l.tail.tail)))) (by omega)).trans HZ4.out) (.int .i64 1) (.int .i64 ((hd l : Int) % 8)) (.int .i64 (hd l.tail : Int)) (.string (ofNats (txV l.tail.tail))) (.string (ofNats (txV (txL l.tail.tail)))) (.int .u64 0) (.int .i64 0) (.int .i64 0)
  refine bodyPost_ret (v := .agg #[.int .i64 1, .int .i64 ((hd l : Int) % 8), .int .i64 (hd l.tail : Int), .string (ofNats (txV l.tail.tail)), .string (ofNats (txV (txL l.tail.tail))), .int .u64 0, .int .i64 0, .int .i64 0]) (by simp [results, Try.results49, go_sem, q0, q1, q2, q3, q4, q5, q6, q7]) rfl ⟨rfl, ?_, ?_⟩
  · repeat (first | (with_reducible exact HS.out) | (with_reducible refine RfR.al ?_ _) | (with_reducible refine RfR.setB ?_ (by omega) _))
  · repeat (first | (with_reducible exact HC4.out) | (with_reducible refine chg_alloc ?_ _) | (with_reducible refine chg_set ?_ (by omega) _))
set_option maxRecDepth 100000 in
set_option maxHeartbeats 1000000 in
theorem rentry_2 (h : RfR w R s l o) (hs : s.size ≤ 1000000) : Calls Try.prog 49 #[.pointer (some ⟨R, 0, none⟩), .int .i64 2] w fun x w' => x = .returned (.agg #[.int .i64 2, .int .i64 ((hd l : Int) % 8), .int .i64 0, .string ⟨#[]⟩, .string ⟨#[]⟩, .int .u64 0, .int .i64 0, .int .i64 0]) ∧ RfR w' R s (l.tail) (o || l.isEmpty) ∧ Chg (· = R) w w' := by
  have hRW := h.lt
  have h256 := h.bytes
  go_enter Try.func49, Try.ntmps49
  have hZ0 := box1 (new_block w (.cells #[.int .i64 0, .int .i64 0, .int .i64 0, .string ⟨#[]⟩, .string ⟨#[]⟩, .int .u64 0, .int .i64 0, .int .i64 0] 67 (0, 0))) (below_al (Below.refl _ _) (.cells #[.int .i64 2, .int .i64 0, .int .i64 0, .string ⟨#[]⟩, .string ⟨#[]⟩, .int .u64 0, .int .i64 0, .int .i64 0] 67 (0, 0)))
  have hX0 := new_block2 w (.cells #[.int .i64 0, .int .i64 0, .int .i64 0, .string ⟨#[]⟩, .string ⟨#[]⟩, .int .u64 0, .int .i64 0, .int .i64 0] 67 (0, 0)) (.cells #[.int .i64 2, .int .i64 0, .int .i64 0, .string ⟨#[]⟩, .string ⟨#[]⟩, .int .u64 0, .int .i64 0, .int .i64 0] 67 (0, 0))
  have HC0 := Lib.hid (chg_alloc (chg_alloc (Chg.refl (· = R) w) (.cells #[.int .i64 0, .int .i64 0, .int .i64 0, .string ⟨#[]⟩, .string ⟨#[]⟩, .int .u64 0, .int .i64 0, .int .i64 0] 67 (0, 0))) (.cells #[.int .i64 2, .int .i64 0, .int .i64 0, .string ⟨#[]⟩, .string ⟨#[]⟩, .int .u64 0, .int .i64 0, .int .i64 0] 67 (0, 0)))
  have hs0 := (h.al (.cells #[.int .i64 0, .int .i64 0, .int .i64 0, .string ⟨#[]⟩, .string ⟨#[]⟩, .int .u64 0, .int .i64 0, .int .i64 0] 67 (0, 0))).al (.cells #[.int .i64 2, .int .i64 0, .int .i64 0, .string ⟨#[]⟩, .string ⟨#[]⟩, .int .u64 0, .int .i64 0, .int .i64 0] 67 (0, 0))
  have HZ0 := Lib.hid hZ0
  have HX0 := Lib.hid hX0
  clear h hZ0 hX0
  have HT0 := Lib.hid (next_any hs0 hs)
  clear hs0
  go_wp2_with fail
  refine HT0.out.mono ?_
  rintro x w1 ⟨rfl, hs1, hch⟩
  have hX1 : w1.heap[w.heap.size + 1]? = some (.cells #[.int .i64 2, .int .i64 0, .int .i64 0, .string ⟨#[]⟩, .string ⟨#[]⟩, .int .u64 0, .int .i64 0, .int .i64 0] 67 (0, 0)) := keep hch HX0.out (by omega)
  have hZ1 : w1.heap[w.heap.size]? = some (.cells #[.int .i64 0, .int .i64 0, .int .i64 0, .string ⟨#[]⟩, .string ⟨#[]⟩, .int .u64 0, .int .i64 0, .int .i64 0] 67 (0, 0)) := keep hch HZ0.out (by omega)
  have HC1 := Lib.hid (HC0.out.trans hch (fun _ h => .inl h))
  have x0 := cell_at hX1 0
  have x1 := cell_at hX1 1
  have x2 := cell_at hX1 2
  have x3 := cell_at hX1 3
  have x4 := cell_at hX1 4
  have x5 := cell_at hX1 5
  have x6 := cell_at hX1 6
  have x7 := cell_at hX1 7
  have xf0 := frozen_at hX1 0
  have xf1 := frozen_at hX1 1
  have xf2 := frozen_at hX1 2
  have xf3 := frozen_at hX1 3
  have xf4 := frozen_at hX1 4
  have xf5 := frozen_at hX1 5
  have xf6 := frozen_at hX1 6
  have xf7 := frozen_at hX1 7
  have HX1 := Lib.hid hX1
  have HZ1 := Lib.hid hZ1
  have hlt1 := lt_of_some hX1
  clear hch hX1 hZ1
  have hZf := HZ1.out
  have z0 := cell_at hZf 0
  have z1 := cell_at hZf 1
  have z2 := cell_at hZf 2
  have z3 := cell_at hZf 3
  have z4 := cell_at hZf 4
  have z5 := cell_at hZf 5
  have z6 := cell_at hZf 6
  have z7 := cell_at hZf 7
  have zf0 := frozen_at hZf 0
  have zf1 := frozen_at hZf 1
  have zf2 := frozen_at hZf 2
  have zf3 := frozen_at hZf 3
  have zf4 := frozen_at hZf 4
  have zf5 := frozen_at hZf 5
  have zf6 := frozen_at hZf 6
  have zf7 := frozen_at hZf 7
  have HS := Lib.hid hs1
  clear hZf hs1
  go_wp2_with fail
  obtain ⟨q0, q1, q2, q3, q4, q5, q6, q7⟩ := eight_set ((heap_setCell_ne w1 (w.heap.size + 1) 1 w.heap.size (.int .i64 ((hd l : Int) % 8)) (by omega)).trans HZ1.out) (.int .i64 2) (.int .i64 ((hd l : Int) % 8)) (.int .i64 0) (.string ⟨#[]⟩) (.string ⟨#[]⟩) (.int .u64 0) (.int .i64 0) (.int .i64 0)
  refine bodyPost_ret (v := .agg #[.int .i64 2, .int .i64 ((hd l : Int) % 8), .int .i64 0, .string ⟨#[]⟩, .string ⟨#[]⟩, .int .u64 0, .int .i64 0, .int .i64 0]) (by simp [results, Try.results49, go_sem, q0, q1, q2, q3, q4, q5, q6, q7]) rfl ⟨rfl, ?_, ?_⟩
  · repeat (first | (with_reducible exact HS.out) | (with_reducible refine RfR.al ?_ _) | (with_reducible refine RfR.setB ?_ (by omega) _))
  · repeat (first | (with_reducible exact HC1.out) | (with_reducible refine chg_alloc ?_ _) | (with_reducible refine chg_set ?_ (by omega) _))
set_option maxRecDepth 100000 in
set_option maxHeartbeats 1000000 in
theorem rentry_3 (h : RfR w R s l o) (hs : s.size ≤ 1000000) : Calls Try.prog 49 #[.pointer (some ⟨R, 0, none⟩), .int .i64 3] w fun x w' => x = .returned (.agg #[.int .i64 3, .int .i64 0, .int .i64 0, .string ⟨#[]⟩, .string ⟨#[]⟩, .int .u64 (hd l : Int), .int .i64 (hd l.tail : Int), .int .i64 (hd l.tail.tail : Int)]) ∧ RfR w' R s (l.tail.tail.tail) (((o || l.isEmpty) || l.tail.isEmpty) || l.tail.tail.isEmpty) ∧ Chg (· = R) w w' := by
  have hRW := h.lt
  have h256 := h.bytes
  have hwr := u64_in (hd l) (Nat.lt_of_lt_of_le (hd_lt h256) (by decide))
  go_enter Try.func49, Try.ntmps49
  have hZ0 := box1 (new_block w (.cells #[.int .i64 0, .int .i64 0, .int .i64 0, .string ⟨#[]⟩, .string ⟨#[]⟩, .int .u64 0, .int .i64 0, .int .i64 0] 67 (0, 0))) (below_al (Below.refl _ _) (.cells #[.int .i64 3, .int .i64 0, .int .i64 0, .string ⟨#[]⟩, .string ⟨#[]⟩, .int .u64 0, .int .i64 0, .int .i64 0] 67 (0, 0)))
  have hX0 := new_block2 w (.cells #[.int .i64 0, .int .i64 0, .int .i64 0, .string ⟨#[]⟩, .string ⟨#[]⟩, .int .u64 0, .int .i64 0, .int .i64 0] 67 (0, 0)) (.cells #[.int .i64 3, .int .i64 0, .int .i64 0, .string ⟨#[]⟩, .string ⟨#[]⟩, .int .u64 0, .int .i64 0, .int .i64 0] 67 (0, 0))
  have HC0 := Lib.hid (chg_alloc (chg_alloc (Chg.refl (· = R) w) (.cells #[.int .i64 0, .int .i64 0, .int .i64 0, .string ⟨#[]⟩, .string ⟨#[]⟩, .int .u64 0, .int .i64 0, .int .i64 0] 67 (0, 0))) (.cells #[.int .i64 3, .int .i64 0, .int .i64 0, .string ⟨#[]⟩, .string ⟨#[]⟩, .int .u64 0, .int .i64 0, .int .i64 0] 67 (0, 0)))
  have hs0 := (h.al (.cells #[.int .i64 0, .int .i64 0, .int .i64 0, .string ⟨#[]⟩, .string ⟨#[]⟩, .int .u64 0, .int .i64 0, .int .i64 0] 67 (0, 0))).al (.cells #[.int .i64 3, .int .i64 0, .int .i64 0, .string ⟨#[]⟩, .string ⟨#[]⟩, .int .u64 0, .int .i64 0, .int .i64 0] 67 (0, 0))
  have HZ0 := Lib.hid hZ0
  have HX0 := Lib.hid hX0
  clear h hZ0 hX0
  have HT0 := Lib.hid (next_any hs0 hs)
  clear hs0
  go_wp2_with fail
  refine HT0.out.mono ?_
  rintro x w1 ⟨rfl, hs1, hch⟩
  have hX1 : w1.heap[w.heap.size + 1]? = some (.cells #[.int .i64 3, .int .i64 0, .int .i64 0, .string ⟨#[]⟩, .string ⟨#[]⟩, .int .u64 0, .int .i64 0, .int .i64 0] 67 (0, 0)) := keep hch HX0.out (by omega)
  have hZ1 : w1.heap[w.heap.size]? = some (.cells #[.int .i64 0, .int .i64 0, .int .i64 0, .string ⟨#[]⟩, .string ⟨#[]⟩, .int .u64 0, .int .i64 0, .int .i64 0] 67 (0, 0)) := keep hch HZ0.out (by omega)
  have HC1 := Lib.hid (HC0.out.trans hch (fun _ h => .inl h))
  have x0 := cell_at hX1 0
  have x1 := cell_at hX1 1
  have x2 := cell_at hX1 2
  have x3 := cell_at hX1 3
  have x4 := cell_at hX1 4
  have x5 := cell_at hX1 5
  have x6 := cell_at hX1 6
  have x7 := cell_at hX1 7
  have xf0 := frozen_at hX1 0
  have xf1 := frozen_at hX1 1
  have xf2 := frozen_at hX1 2
  have xf3 := frozen_at hX1 3
  have xf4 := frozen_at hX1 4
  have xf5 := frozen_at hX1 5
  have xf6 := frozen_at hX1 6
  have xf7 := frozen_at hX1 7
  have HX1 := Lib.hid hX1
  have HZ1 := Lib.hid hZ1
  have hlt1 := lt_of_some hX1
  clear hch hX1 hZ1
  have HT1 := Lib.hid (next_any (hs1.setB (b := w.heap.size + 1) (i := 5) (by omega) (.int .u64 (hd l : Int))) hs)
  clear hs1
  go_wp2_with fail
  refine HT1.out.mono ?_
  rintro x w2 ⟨rfl, hs2, hch⟩
  clear x0 xf0 x1 xf1 x2 xf2 x3 xf3 x4 xf4 x5 xf5 x6 xf6 x7 xf7
  have hX2 : w2.heap[w.heap.size + 1]? = some (.cells #[.int .i64 3, .int .i64 0, .int .i64 0, .string ⟨#[]⟩, .string ⟨#[]⟩, .int .u64 (hd l : Int), .int .i64 0, .int .i64 0] 67 (0, 0)) := keep hch (heap_setCell_self w1 (w.heap.size + 1) 5 _ _ (.int .u64 (hd l : Int)) HX1.out) (by omega)
  have hZ2 : w2.heap[w.heap.size]? = some (.cells #[.int .i64 0, .int .i64 0, .int .i64 0, .string ⟨#[]⟩, .string ⟨#[]⟩, .int .u64 0, .int .i64 0, .int .i64 0] 67 (0, 0)) := keep hch ((heap_setCell_ne w1 (w.heap.size + 1) 5 w.heap.size (.int .u64 (hd l : Int)) (by omega)).trans HZ1.out) (by omega)
  have HC2 := Lib.hid ((chg_set (b := w.heap.size + 1) (i := 5) HC1.out (by omega) (.int .u64 (hd l : Int))).trans hch (fun _ h => .inl h))
  have x0 := cell_at hX2 0
  have x1 := cell_at hX2 1
  have x2 := cell_at hX2 2
  have x3 := cell_at hX2 3
  have x4 := cell_at hX2 4
  have x5 := cell_at hX2 5
  have x6 := cell_at hX2 6
  have x7 := cell_at hX2 7
  have xf0 := frozen_at hX2 0
  have xf1 := frozen_at hX2 1
  have xf2 := frozen_at hX2 2
  have xf3 := frozen_at hX2 3
  have xf4 := frozen_at hX2 4
  have xf5 := frozen_at hX2 5
  have xf6 := frozen_at hX2 6
  have xf7 := frozen_at hX2 7
  have HX2 := Lib.hid hX2
  have HZ2 := Lib.hid hZ2
  have hlt2 := lt_of_some hX2
  clear hch hX2 hZ2
  have HT2 := Lib.hid (next_any (hs2.setB (b := w.heap.size + 1) (i := 6) (by omega) (.int .i64 (hd l.tail : Int))) hs)
  clear hs2
  go_wp2_with fail
  refine HT2.out.mono ?_
  rintro x w3 ⟨rfl, hs3, hch⟩
  clear x0 xf0 x1 xf1 x2 xf2 x3 xf3 x4 xf4 x5 xf5 x6 xf6 x7 xf7
  have hX3 : w3.heap[w.heap.size + 1]? = some (.cells #[.int .i64 3, .int .i64 0, .int .i64 0, .string ⟨#[]⟩, .string ⟨#[]⟩, .int .u64 (hd l : Int), .int .i64 (hd l.tail : Int), .int .i64 0] 67 (0, 0)) := keep hch (heap_setCell_self w2 (w.heap.size + 1) 6 _ _ (.int .i64 (hd l.tail : Int)) HX2.out) (by omega)
  have hZ3 : w3.heap[w.heap.size]? = some (.cells #[.int .i64 0, .int .i64 0, .int .i64 0, .string ⟨#[]⟩, .string ⟨#[]⟩, .int .u64 0, .int .i64 0, .int .i64 0] 67 (0, 0)) := keep hch ((heap_setCell_ne w2 (w.heap.size + 1) 6 w.heap.size (.int .i64 (hd l.tail : Int)) (by omega)).trans HZ2.out) (by omega)
  have HC3 := Lib.hid ((chg_set (b := w.heap.size + 1) (i := 6) HC2.out (by omega) (.int .i64 (hd l.tail : Int))).trans hch (fun _ h => .inl h))
  have x0 := cell_at hX3 0
  have x1 := cell_at hX3 1
  have x2 := cell_at hX3 2
  have x3 := cell_at hX3 3
  have x4 := cell_at hX3 4
  have x5 := cell_at hX3 5
  have x6 := cell_at hX3 6
  have x7 := cell_at hX3 7
  have xf0 := frozen_at hX3 0
  have xf1 := frozen_at hX3 1
  have xf2 := frozen_at hX3 2
  have xf3 := frozen_at hX3 3
  have xf4 := frozen_at hX3 4
  have xf5 := frozen_at hX3 5
  have xf6 := frozen_at hX3 6
  have xf7 := frozen_at hX3 7
  have HX3 := Lib.hid hX3
  have HZ3 := Lib.hid hZ3
  have hlt3 := lt_of_some hX3
  clear hch hX3 hZ3
  have hZf := HZ3.out
  have z0 := cell_at hZf 0
  have z1 := cell_at hZf 1
  have z2 := cell_at hZf 2
  have z3 := cell_at hZf 3
  have z4 := cell_at hZf 4
  have z5 := cell_at hZf 5
  have z6 := cell_at hZf 6
  have z7 := cell_at hZf 7
  have zf0 := frozen_at hZf 0
  have zf1 := frozen_at hZf 1
  have zf2 := frozen_at hZf 2
  have zf3 := frozen_at hZf 3
  have zf4 := frozen_at hZf 4
  have zf5 := frozen_at hZf 5
  have zf6 := frozen_at hZf 6
  have zf7 := frozen_at hZf 7
  have HS := Lib.hid hs3
  clear hZf hs3
  go_wp2_with fail
  obtain ⟨q0, q1, q2, q3, q4, q5, q6, q7⟩ := eight_set ((heap_setCell_ne w3 (w.heap.size + 1) 7 w.heap.size (.int .i64 (hd l.tail.tail : Int)) (by omega)).trans HZ3.out) (.int .i64 3) (.int .i64 0) (.int .i64 0) (.string ⟨#[]⟩) (.string ⟨#[]⟩) (.int .u64 (hd l : Int)) (.int .i64 (hd l.tail : Int)) (.int .i64 (hd l.tail.tail : Int))
  refine bodyPost_ret (v := .agg #[.int .i64 3, .int .i64 0, .int .i64 0, .string ⟨#[]⟩, .string ⟨#[]⟩, .int .u64 (hd l : Int), .int .i64 (hd l.tail : Int), .int .i64 (hd l.tail.tail : Int)]) (by simp [results, Try.results49, go_sem, q0, q1, q2, q3, q4, q5, q6, q7]) rfl ⟨rfl, ?_, ?_⟩
  · repeat (first | (with_reducible exact HS.out) | (with_reducible refine RfR.al ?_ _) | (with_reducible refine RfR.setB ?_ (by omega) _))
  · repeat (first | (with_reducible exact HC3.out) | (with_reducible refine chg_alloc ?_ _) | (with_reducible refine chg_set ?_ (by omega) _))
set_option maxRecDepth 100000 in
set_option maxHeartbeats 1000000 in
theorem rentry_4 (h : RfR w R s l o) (hs : s.size ≤ 1000000) : Calls Try.prog 49 #[.pointer (some ⟨R, 0, none⟩), .int .i64 4] w fun x w' => x = .returned (.agg #[.int .i64 4, .int .i64 (hd l : Int), .int .i64 0, .string (ofNats (txV l.tail)), .string ⟨#[]⟩, .int .u64 0, .int .i64 0, .int .i64 0]) ∧ RfR w' R s (txL l.tail) ((o || l.isEmpty) || txO l.tail) ∧ Chg (· = R) w w' := by
  have hRW := h.lt
  have h256 := h.bytes
  go_enter Try.func49, Try.ntmps49
  have hZ0 := box1 (new_block w (.cells #[.int .i64 0, .int .i64 0, .int .i64 0, .string ⟨#[]⟩, .string ⟨#[]⟩, .int .u64 0, .int .i64 0, .int .i64 0] 67 (0, 0))) (below_al (Below.refl _ _) (.cells #[.int .i64 4, .int .i64 0, .int .i64 0, .string ⟨#[]⟩, .string ⟨#[]⟩, .int .u64 0, .int .i64 0, .int .i64 0] 67 (0, 0)))
  have hX0 := new_block2 w (.cells #[.int .i64 0, .int .i64 0, .int .i64 0, .string ⟨#[]⟩, .string ⟨#[]⟩, .int .u64 0, .int .i64 0, .int .i64 0] 67 (0, 0)) (.cells #[.int .i64 4, .int .i64 0, .int .i64 0, .string ⟨#[]⟩, .string ⟨#[]⟩, .int .u64 0, .int .i64 0, .int .i64 0] 67 (0, 0))
  have HC0 := Lib.hid (chg_alloc (chg_alloc (Chg.refl (· = R) w) (.cells #[.int .i64 0, .int .i64 0, .int .i64 0, .string ⟨#[]⟩, .string ⟨#[]⟩, .int .u64 0, .int .i64 0, .int .i64 0] 67 (0, 0))) (.cells #[.int .i64 4, .int .i64 0, .int .i64 0, .string ⟨#[]⟩, .string ⟨#[]⟩, .int .u64 0, .int .i64 0, .int .i64 0] 67 (0, 0)))
  have hs0 := (h.al (.cells #[.int .i64 0, .int .i64 0, .int .i64 0, .string ⟨#[]⟩, .string ⟨#[]⟩, .int .u64 0, .int .i64 0, .int .i64 0] 67 (0, 0))).al (.cells #[.int .i64 4, .int .i64 0, .int .i64 0, .string ⟨#[]⟩, .string ⟨#[]⟩, .int .u64 0, .int .i64 0, .int .i64 0] 67 (0, 0))
  have HZ0 := Lib.hid hZ0
  have HX0 := Lib.hid hX0
  clear h hZ0 hX0
  have HT0 := Lib.hid (next_any hs0 hs)
  clear hs0
  go_wp2_with fail
  refine HT0.out.mono ?_
  rintro x w1 ⟨rfl, hs1, hch⟩
  have hX1 : w1.heap[w.heap.size + 1]? = some (.cells #[.int .i64 4, .int .i64 0, .int .i64 0, .string ⟨#[]⟩, .string ⟨#[]⟩, .int .u64 0, .int .i64 0, .int .i64 0] 67 (0, 0)) := keep hch HX0.out (by omega)
  have hZ1 : w1.heap[w.heap.size]? = some (.cells #[.int .i64 0, .int .i64 0, .int .i64 0, .string ⟨#[]⟩, .string ⟨#[]⟩, .int .u64 0, .int .i64 0, .int .i64 0] 67 (0, 0)) := keep hch HZ0.out (by omega)
  have HC1 := Lib.hid (HC0.out.trans hch (fun _ h => .inl h))
  have x0 := cell_at hX1 0
  have x1 := cell_at hX1 1
  have x2 := cell_at hX1 2
  have x3 := cell_at hX1 3
  have x4 := cell_at hX1 4
  have x5 := cell_at hX1 5
  have x6 := cell_at hX1 6
  have x7 := cell_at hX1 7
  have xf0 := frozen_at hX1 0
  have xf1 := frozen_at hX1 1
  have xf2 := frozen_at hX1 2
  have xf3 := frozen_at hX1 3
  have xf4 := frozen_at hX1 4
  have xf5 := frozen_at hX1 5
  have xf6 := frozen_at hX1 6
  have xf7 := frozen_at hX1 7
  have HX1 := Lib.hid hX1
  have HZ1 := Lib.hid hZ1
  have hlt1 := lt_of_some hX1
  clear hch hX1 hZ1
  have HT1 := Lib.hid (rtext_any (hs1.setB (b := w.heap.size + 1) (i := 1) (by omega) (.int .i64 (hd l : Int))) hs)
  clear hs1
  go_wp2_with fail
  refine HT1.out.mono ?_
  rintro x w2 ⟨rfl, hs2, hch⟩
  clear x0 xf0 x1 xf1 x2 xf2 x3 xf3 x4 xf4 x5 xf5 x6 xf6 x7 xf7
  have hX2 : w2.heap[w.heap.size + 1]? = some (.cells #[.int .i64 4, .int .i64 (hd l : Int), .int .i64 0, .string ⟨#[]⟩, .string ⟨#[]⟩, .int .u64 0, .int .i64 0, .int .i64 0] 67 (0, 0)) := keep hch (heap_setCell_self w1 (w.heap.size + 1) 1 _ _ (.int .i64 (hd l : Int)) HX1.out) (by omega)
  have hZ2 : w2.heap[w.heap.size]? = some (.cells #[.int .i64 0, .int .i64 0, .int .i64 0, .string ⟨#[]⟩, .string ⟨#[]⟩, .int .u64 0, .int .i64 0, .int .i64 0] 67 (0, 0)) := keep hch ((heap_setCell_ne w1 (w.heap.size + 1) 1 w.heap.size (.int .i64 (hd l : Int)) (by omega)).trans HZ1.out) (by omega)
  have HC2 := Lib.hid ((chg_set (b := w.heap.size + 1) (i := 1) HC1.out (by omega) (.int .i64 (hd l : Int))).trans hch (fun _ h => .inl h))
  have x0 := cell_at hX2 0
  have x1 := cell_at hX2 1
  have x2 := cell_at hX2 2
  have x3 := cell_at hX2 3
  have x4 := cell_at hX2 4
  have x5 := cell_at hX2 5
  have x6 := cell_at hX2 6
  have x7 := cell_at hX2 7
  have xf0 := frozen_at hX2 0
  have xf1 := frozen_at hX2 1
  have xf2 := frozen_at hX2 2
  have xf3 := frozen_at hX2 3
  have xf4 := frozen_at hX2 4
  have xf5 := frozen_at hX2 5
  have xf6 := frozen_at hX2 6
  have xf7 := frozen_at hX2 7
  have HX2 := Lib.hid hX2
  have HZ2 := Lib.hid hZ2
  have hlt2 := lt_of_some hX2
  clear hch hX2 hZ2
  have hZf := HZ2.out
  have z0 := cell_at hZf 0
  have z1 := cell_at hZf 1
  have z2 := cell_at hZf 2
  have z3 := cell_at hZf 3
  have z4 := cell_at hZf 4
  have z5 := cell_at hZf 5
  have z6 := cell_at hZf 6
  have z7 := cell_at hZf 7
  have zf0 := frozen_at hZf 0
  have zf1 := frozen_at hZf 1
  have zf2 := frozen_at hZf 2
  have zf3 := frozen_at hZf 3
  have zf4 := frozen_at hZf 4
  have zf5 := frozen_at hZf 5
  have zf6 := frozen_at hZf 6
  have zf7 := frozen_at hZf 7
  have HS := Lib.hid hs2
  clear hZf hs2
  go_wp2_with fail
  obtain ⟨q0, q1, q2, q3, q4, q5, q6, q7⟩ := eight_set ((heap_setCell_ne w2 (w.heap.size + 1) 3 w.heap.size (.string (ofNats (txV l.tail))) (by omega)).trans HZ2.out) (.int .i64 4) (.int .i64 (hd l : Int)) (.int .i64 0) (.string (ofNats (txV l.tail))) (.string ⟨#[]⟩) (.int .u64 0) (.int .i64 0) (.int .i64 0)
  refine bodyPost_ret (v := .agg #[.int .i64 4, .int .i64 (hd l : Int), .int .i64 0, .string (ofNats (txV l.tail)), .string ⟨#[]⟩, .int .u64 0, .int .i64 0, .int .i64 0]) (by simp [results, Try.results49, go_sem, q0, q1, q2, q3, q4, q5, q6, q7]) rfl ⟨rfl, ?_, ?_⟩
  · repeat (first | (with_reducible exact HS.out) | (with_reducible refine RfR.al ?_ _) | (with_reducible refine RfR.setB ?_ (by omega) _))
  · repeat (first | (with_reducible exact HC2.out) | (with_reducible refine chg_alloc ?_ _) | (with_reducible refine chg_set ?_ (by omega) _))
set_option maxRecDepth 100000 in
set_option maxHeartbeats 1000000 in
theorem rentry_5 (h : RfR w R s l o) (hs : s.size ≤ 1000000) : Calls Try.prog 49 #[.pointer (some ⟨R, 0, none⟩), .int .i64 5] w fun x w' => x = .returned (.agg #[.int .i64 5, .int .i64 (hd l : Int), .int .i64 0, .string ⟨#[]⟩, .string ⟨#[]⟩, .int .u64 0, .int .i64 0, .int .i64 0]) ∧ RfR w' R s (l.tail) (o || l.isEmpty) ∧ Chg (· = R) w w' := by
  have hRW := h.lt
  have h256 := h.bytes
  go_enter Try.func49, Try.ntmps49
  have hZ0 := box1 (new_block w (.cells #[.int .i64 0, .int .i64 0, .int .i64 0, .string ⟨#[]⟩, .string ⟨#[]⟩, .int .u64 0, .int .i64 0, .int .i64 0] 67 (0, 0))) (below_al (Below.refl _ _) (.cells #[.int .i64 5, .int .i64 0, .int .i64 0, .string ⟨#[]⟩, .string ⟨#[]⟩, .int .u64 0, .int .i64 0, .int .i64 0] 67 (0, 0)))
  have hX0 := new_block2 w (.cells #[.int .i64 0, .int .i64 0, .int .i64 0, .string ⟨#[]⟩, .string ⟨#[]⟩, .int .u64 0, .int .i64 0, .int .i64 0] 67 (0, 0)) (.cells #[.int .i64 5, .int .i64 0, .int .i64 0, .string ⟨#[]⟩, .string ⟨#[]⟩, .int .u64 0, .int .i64 0, .int .i64 0] 67 (0, 0))
  have HC0 := Lib.hid (chg_alloc (chg_alloc (Chg.refl (· = R) w) (.cells #[.int .i64 0, .int .i64 0, .int .i64 0, .string ⟨#[]⟩, .string ⟨#[]⟩, .int .u64 0, .int .i64 0, .int .i64 0] 67 (0, 0))) (.cells #[.int .i64 5, .int .i64 0, .int .i64 0, .string ⟨#[]⟩, .string ⟨#[]⟩, .int .u64 0, .int .i64 0, .int .i64 0] 67 (0, 0)))
  have hs0 := (h.al (.cells #[.int .i64 0, .int .i64 0, .int .i64 0, .string ⟨#[]⟩, .string ⟨#[]⟩, .int .u64 0, .int .i64 0, .int .i64 0] 67 (0, 0))).al (.cells #[.int .i64 5, .int .i64 0, .int .i64 0, .string ⟨#[]⟩, .string ⟨#[]⟩, .int .u64 0, .int .i64 0, .int .i64 0] 67 (0, 0))
  have HZ0 := Lib.hid hZ0
  have HX0 := Lib.hid hX0
  clear h hZ0 hX0
  have HT0 := Lib.hid (next_any hs0 hs)
  clear hs0
  go_wp2_with fail
  refine HT0.out.mono ?_
  rintro x w1 ⟨rfl, hs1, hch⟩
  have hX1 : w1.heap[w.heap.size + 1]? = some (.cells #[.int .i64 5, .int .i64 0, .int .i64 0, .string ⟨#[]⟩, .string ⟨#[]⟩, .int .u64 0, .int .i64 0, .int .i64 0] 67 (0, 0)) := keep hch HX0.out (by omega)
  have hZ1 : w1.heap[w.heap.size]? = some (.cells #[.int .i64 0, .int .i64 0, .int .i64 0, .string ⟨#[]⟩, .string ⟨#[]⟩, .int .u64 0, .int .i64 0, .int .i64 0] 67 (0, 0)) := keep hch HZ0.out (by omega)
  have HC1 := Lib.hid (HC0.out.trans hch (fun _ h => .inl h))
  have x0 := cell_at hX1 0
  have x1 := cell_at hX1 1
  have x2 := cell_at hX1 2
  have x3 := cell_at hX1 3
  have x4 := cell_at hX1 4
  have x5 := cell_at hX1 5
  have x6 := cell_at hX1 6
  have x7 := cell_at hX1 7
  have xf0 := frozen_at hX1 0
  have xf1 := frozen_at hX1 1
  have xf2 := frozen_at hX1 2
  have xf3 := frozen_at hX1 3
  have xf4 := frozen_at hX1 4
  have xf5 := frozen_at hX1 5
  have xf6 := frozen_at hX1 6
  have xf7 := frozen_at hX1 7
  have HX1 := Lib.hid hX1
  have HZ1 := Lib.hid hZ1
  have hlt1 := lt_of_some hX1
  clear hch hX1 hZ1
  have hZf := HZ1.out
  have z0 := cell_at hZf 0
  have z1 := cell_at hZf 1
  have z2 := cell_at hZf 2
  have z3 := cell_at hZf 3
  have z4 := cell_at hZf 4
  have z5 := cell_at hZf 5
  have z6 := cell_at hZf 6
  have z7 := cell_at hZf 7
  have zf0 := frozen_at hZf 0
  have zf1 := frozen_at hZf 1
  have zf2 := frozen_at hZf 2
  have zf3 := frozen_at hZf 3
  have zf4 := frozen_at hZf 4
  have zf5 := frozen_at hZf 5
  have zf6 := frozen_at hZf 6
  have zf7 := frozen_at hZf 7
  have HS := Lib.hid hs1
  clear hZf hs1
  go_wp2_with fail
  obtain ⟨q0, q1, q2, q3, q4, q5, q6, q7⟩ := eight_set ((heap_setCell_ne w1 (w.heap.size + 1) 1 w.heap.size (.int .i64 (hd l : Int)) (by omega)).trans HZ1.out) (.int .i64 5) (.int .i64 (hd l : Int)) (.int .i64 0) (.string ⟨#[]⟩) (.string ⟨#[]⟩) (.int .u64 0) (.int .i64 0) (.int .i64 0)
  refine bodyPost_ret (v := .agg #[.int .i64 5, .int .i64 (hd l : Int), .int .i64 0, .string ⟨#[]⟩, .string ⟨#[]⟩, .int .u64 0, .int .i64 0, .int .i64 0]) (by simp [results, Try.results49, go_sem, q0, q1, q2, q3, q4, q5, q6, q7]) rfl ⟨rfl, ?_, ?_⟩
  · repeat (first | (with_reducible exact HS.out) | (with_reducible refine RfR.al ?_ _) | (with_reducible refine RfR.setB ?_ (by omega) _))
  · repeat (first | (with_reducible exact HC1.out) | (with_reducible refine chg_alloc ?_ _) | (with_reducible refine chg_set ?_ (by omega) _))
theorem rentry_any (h : RfR w R s l o) (hs : s.size ≤ 1000000) (k : Nat) (h1 : 1 ≤ k) (h5 : k ≤ 5) : Calls Try.prog 49 #[.pointer (some ⟨R, 0, none⟩), .int .i64 (k : Int)] w fun x w' => x = .returned (stpV (entryR k l o).v) ∧ RfR w' R s (entryR k l o).l (entryR k l o).o ∧ Chg (· = R) w w' := by
  rcases (by omega : k = 1 ∨ k = 2 ∨ k = 3 ∨ k = 4 ∨ k = 5) with rfl | rfl | rfl | rfl | rfl
  · have e : entryR 1 l o = ⟨⟨1, hd l % 8, (callR l.tail (o || l.isEmpty)).v.1, (callR l.tail (o || l.isEmpty)).v.2.1, (callR l.tail (o || l.isEmpty)).v.2.2, 0, 0, 0⟩, (callR l.tail (o || l.isEmpty)).l, (callR l.tail (o || l.isEmpty)).o⟩ := rfl
    rw [e]
    unfold callR
    dsimp only
    by_cases hA : hd l.tail = 1 ∨ hd l.tail = 3
    · rw [if_pos hA]
      rcases hA with hk | hk
      · exact rentry_1_1 h hs hk
      · exact rentry_1_3 h hs hk
    · rw [if_neg hA]
      by_cases hC : hd l.tail = 2 ∨ hd l.tail = 4 ∨ hd l.tail = 5
      · rw [if_pos hC]
        rcases hC with hk | hk | hk
        · exact rentry_1_2 h hs hk
        · exact rentry_1_4 h hs hk
        · exact rentry_1_5 h hs hk
      · rw [if_neg hC]
        by_cases h0 : hd l.tail = 0
        · exact rentry_1_0 h hs h0
        · exact rentry_1_6 h hs (by omega)
  · exact rentry_2 h hs
  · exact rentry_3 h hs
  · exact rentry_4 h hs
  · exact rentry_5 h hs
end
end Go.Proofs.Ytpjgmcoimniheaa.Sc
