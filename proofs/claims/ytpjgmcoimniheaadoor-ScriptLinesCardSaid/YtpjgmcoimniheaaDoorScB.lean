/- The program's call and entry of a script, by walks. -/
import Derived.Test.YtpjgmcoimniheaaDoorScA
namespace Go.Proofs.YtpjgmcoimniheaaDoor.Sc
open Go.RowKit Go.Proofs.YtpjgmcoimniheaaDoor.By Go.Proofs.YtpjgmcoimniheaaDoor.Mt
set_option linter.unusedSimpArgs false
set_option linter.unusedVariables false

/-- A step: its kind, who, the call's kind, key and value, what is kept, torn, in part. -/
structure Stp where
  kind : Nat
  who : Nat
  xk : Nat
  key : List Nat
  val : List Nat
  keep : Nat
  torn : Nat
  part : Nat
def Stp.zero (k : Nat) : Stp := ⟨k, 0, 0, [], [], 0, 0, 0⟩
/-- What a reading gives: what is left, and whether it ended too early. -/
structure Rd (α : Type) where
  v : α
  l : List Nat
  o : Bool
def callR (l : List Nat) (o : Bool) : Rd (Nat × List Nat × List Nat) :=
  let k := hd l
  let l1 := l.tail
  let o1 := o || l.isEmpty
  if k = 1 ∨ k = 3 then ⟨(k, txV l1, []), txL l1, o1 || txO l1⟩
  else if k = 2 ∨ k = 4 ∨ k = 5 then ⟨(k, txV l1, txV (txL l1)), txL (txL l1), (o1 || txO l1) || txO (txL l1)⟩
  else ⟨(k, [], []), l1, o1⟩
def callC (c : Nat × List Nat × List Nat) : Value := .agg #[.int .i64 (c.1 : Int), .string (ofNats c.2.1), .string (ofNats c.2.2)]
section
variable {w w1 : World} {B R : Nat} {l : List Nat} {o : Bool}
theorem ScR.setB (h : ScR w B R l o) {b i : Nat} (hb : B ≤ b) (u : Value) : ScR (w.setCell ⟨b, i, none⟩ u) B R l o := by
  obtain ⟨g, f, c, h1, h2, h3, h4, hgB, hRB, h5, h6⟩ := h
  refine ⟨g, f, c, by rw [heap_setCell_ne w b i R u (by omega)]; exact h1, h2, h3, h4, hgB, hRB, fun j x hj => ?_, h6⟩
  rw [World.cell?_of_block (heap_setCell_ne w b i g u (by omega))]
  exact h5 j x hj
theorem ScR.al (h : ScR w B R l o) (X : Obj) : ScR (w.alloc X) B R l o := h.below (below_al (Below.refl _ _) X)
theorem ScR.set3 (h : ScR w B R l o) {b i j m : Nat} (hb : B ≤ b) (u0 u1 u2 : Value) : ScR (((w.setCell ⟨b, i, none⟩ u0).setCell ⟨b, j, none⟩ u1).setCell ⟨b, m, none⟩ u2) B R l o := ((h.setB hb u0).setB hb u1).setB hb u2
theorem keep {X t : Nat} {cs : Array Value} (hch : Chg (· = R) w w1) (h : w.heap[X]? = some (.cells cs t (0, 0))) (hne : X ≠ R) : w1.heap[X]? = some (.cells cs t (0, 0)) := (hch.block X (lt_of_some h) hne).trans h
theorem box1 {g t : Nat} {cs : Array Value} (h : w.heap[g]? = some (.cells cs t (0, 0))) (hb : Below w.heap.size w w1) : w1.heap[g]? = some (.cells cs t (0, 0)) := (hb.block g (lt_of_some h)).trans h
theorem chg_box {X : Obj} (h : Chg (· = R) (w.alloc X) w1) : Chg (· = R) w w1 := (Chg.of_below (below_al (Below.refl _ w) X) _).trans h (fun _ h => .inl h)
theorem chg_alloc (h : Chg (· = R) w w1) (X : Obj) : Chg (· = R) w (w1.alloc X) := h.trans (Chg.of_below (below_al (Below.refl _ w1) X) _) (fun _ h => .inl h)
theorem chg_set {b i : Nat} (h : Chg (· = R) w w1) (hb : w.heap.size ≤ b) (u : Value) : Chg (· = R) w (w1.setCell ⟨b, i, none⟩ u) := h.setCell (p := ⟨b, i, none⟩) (.inr hb) u
theorem chg_set3 {b i j m : Nat} (h : Chg (· = R) w w1) (hb : w.heap.size ≤ b) (u0 u1 u2 : Value) : Chg (· = R) w (((w1.setCell ⟨b, i, none⟩ u0).setCell ⟨b, j, none⟩ u1).setCell ⟨b, m, none⟩ u2) := chg_set (chg_set (chg_set h hb u0) hb u1) hb u2
theorem three_set {b : Nat} {x y z : Value} {T : TypeId} (h : w.heap[b]? = some (.cells #[x, y, z] T (0, 0))) (u0 u1 u2 : Value) : (((w.setCell ⟨b, 0, none⟩ u0).setCell ⟨b, 1, none⟩ u1).setCell ⟨b, 2, none⟩ u2).cell? ⟨b, 0, none⟩ = some u0 ∧ (((w.setCell ⟨b, 0, none⟩ u0).setCell ⟨b, 1, none⟩ u1).setCell ⟨b, 2, none⟩ u2).cell? ⟨b, 1, none⟩ = some u1 ∧ (((w.setCell ⟨b, 0, none⟩ u0).setCell ⟨b, 1, none⟩ u1).setCell ⟨b, 2, none⟩ u2).cell? ⟨b, 2, none⟩ = some u2 := by
  have h1 := heap_setCell_self w b 0 _ _ u0 h
  have h2 := heap_setCell_self _ b 1 _ _ u1 h1
  have h3 := heap_setCell_self _ b 2 _ _ u2 h2
  exact ⟨cell_at h3 0, cell_at h3 1, cell_at h3 2⟩
set_option maxRecDepth 100000 in
set_option maxHeartbeats 1000000 in
theorem call_0 {k : Nat} {t : List Nat} {o1 : Bool} (hk : ¬ (k = 1 ∨ k = 2 ∨ k = 3 ∨ k = 4 ∨ k = 5)) (HB : Hid (B ≤ w.heap.size)) (HR : Hid (w.heap.size ≠ R)) (HRW : Hid (R < w.heap.size)) (H1 : Hid (Calls Tryd.prog 14 #[.pointer (some ⟨R, 0, none⟩)] (w.alloc (.cells #[.int .i64 0, .string ⟨#[]⟩, .string ⟨#[]⟩] 23 (0, 0))) fun x w' => x = .returned (.int .i64 (k : Int)) ∧ ScR w' B R t o1 ∧ Chg (· = R) (w.alloc (.cells #[.int .i64 0, .string ⟨#[]⟩, .string ⟨#[]⟩] 23 (0, 0))) w')) : Calls Tryd.prog 17 #[.pointer (some ⟨R, 0, none⟩)] w fun x w' => x = .returned (callC (k, [], [])) ∧ ScR w' B R (t) (o1) ∧ Chg (· = R) w w' := by
  have t1 : ((k : Int) == 1) = false := beq_eq_false_iff_ne.2 (by omega)
  have t2 : ((k : Int) == 2) = false := beq_eq_false_iff_ne.2 (by omega)
  have t3 : ((k : Int) == 3) = false := beq_eq_false_iff_ne.2 (by omega)
  have t4 : ((k : Int) == 4) = false := beq_eq_false_iff_ne.2 (by omega)
  have t5 : ((k : Int) == 5) = false := beq_eq_false_iff_ne.2 (by omega)
  clear hk
  go_enter Tryd.func17, Tryd.ntmps17
  go_wp2_with fail
  refine H1.out.mono ?_
  rintro x w1 ⟨rfl, hs1, hch1⟩
  have hZ1 := keep hch1 (new_block w (.cells #[.int .i64 0, .string ⟨#[]⟩, .string ⟨#[]⟩] 23 (0, 0))) HR.out
  have HC1 := Lib.hid (chg_box hch1)
  clear hch1
  have z0 := cell_at hZ1 0
  have z1 := cell_at hZ1 1
  have z2 := cell_at hZ1 2
  have zf0 := frozen_at hZ1 0
  have zf1 := frozen_at hZ1 1
  have zf2 := frozen_at hZ1 2
  have hltz := lt_of_some hZ1
  have HZ := Lib.hid hZ1
  have HS := Lib.hid hs1
  clear hs1 hZ1
  go_wp2_with fail
  obtain ⟨q0, q1, q2⟩ := three_set HZ.out (.int .i64 (k : Int)) (.string ⟨#[]⟩) (.string ⟨#[]⟩)
  have q0 := cell_alloc q0 (.cells #[.int .i64 (k : Int), .string ⟨#[]⟩, .string ⟨#[]⟩] 23 (0, 0))
  have q1 := cell_alloc q1 (.cells #[.int .i64 (k : Int), .string ⟨#[]⟩, .string ⟨#[]⟩] 23 (0, 0))
  have q2 := cell_alloc q2 (.cells #[.int .i64 (k : Int), .string ⟨#[]⟩, .string ⟨#[]⟩] 23 (0, 0))
  refine bodyPost_ret (v := .agg #[.int .i64 (k : Int), .string ⟨#[]⟩, .string ⟨#[]⟩]) (by simp [results, Tryd.results17, go_sem, q0, q1, q2]) rfl ⟨rfl, ?_, ?_⟩
  · repeat (first | (with_reducible exact HS.out) | (with_reducible refine ScR.al ?_ _) | (with_reducible refine ScR.setB ?_ (by have := HB.out; have := HC1.out.size; omega) _))
  · repeat (first | (with_reducible exact HC1.out) | (with_reducible refine chg_alloc ?_ _) | (with_reducible refine chg_set ?_ (by have := HC1.out.size; omega) _))
set_option maxRecDepth 100000 in
set_option maxHeartbeats 1000000 in
theorem call_1 {k : Nat} {t : List Nat} {o1 : Bool} (hk : k = 1) (HB : Hid (B ≤ w.heap.size)) (HR : Hid (w.heap.size ≠ R)) (HRW : Hid (R < w.heap.size)) (H1 : Hid (Calls Tryd.prog 14 #[.pointer (some ⟨R, 0, none⟩)] (w.alloc (.cells #[.int .i64 0, .string ⟨#[]⟩, .string ⟨#[]⟩] 23 (0, 0))) fun x w' => x = .returned (.int .i64 (k : Int)) ∧ ScR w' B R t o1 ∧ Chg (· = R) (w.alloc (.cells #[.int .i64 0, .string ⟨#[]⟩, .string ⟨#[]⟩] 23 (0, 0))) w')) : Calls Tryd.prog 17 #[.pointer (some ⟨R, 0, none⟩)] w fun x w' => x = .returned (callC (k, txV t, [])) ∧ ScR w' B R (txL t) (o1 || txO t) ∧ Chg (· = R) w w' := by
  have t1 : ((k : Int) == 1) = true := beq_iff_eq.2 (by omega)
  have t2 : ((k : Int) == 2) = false := beq_eq_false_iff_ne.2 (by omega)
  have t3 : ((k : Int) == 3) = false := beq_eq_false_iff_ne.2 (by omega)
  have t4 : ((k : Int) == 4) = false := beq_eq_false_iff_ne.2 (by omega)
  have t5 : ((k : Int) == 5) = false := beq_eq_false_iff_ne.2 (by omega)
  clear hk
  go_enter Tryd.func17, Tryd.ntmps17
  go_wp2_with fail
  refine H1.out.mono ?_
  rintro x w1 ⟨rfl, hs1, hch1⟩
  have hZ1 := keep hch1 (new_block w (.cells #[.int .i64 0, .string ⟨#[]⟩, .string ⟨#[]⟩] 23 (0, 0))) HR.out
  have HC1 := Lib.hid (chg_box hch1)
  clear hch1
  have HT1 := Lib.hid (text_any (hs1.al (.cells #[.int .i64 (k : Int), .string ⟨#[]⟩, .string ⟨#[]⟩] 23 (0, 0))))
  have hlt1 := lt_of_some hZ1
  have HZ1 := Lib.hid hZ1
  clear hs1 hZ1
  go_wp2_with fail
  refine HT1.out.mono ?_
  rintro x w2 ⟨rfl, hs2, hch2⟩
  have hX2 := keep hch2 (new_block w1 (.cells #[.int .i64 (k : Int), .string ⟨#[]⟩, .string ⟨#[]⟩] 23 (0, 0))) (by have := HR.out; have := HRW.out; have := HC1.out.size; omega)
  have hZ2 := keep hch2 (box1 HZ1.out (below_al (Below.refl _ w1) (.cells #[.int .i64 (k : Int), .string ⟨#[]⟩, .string ⟨#[]⟩] 23 (0, 0)))) HR.out
  have HC2 := Lib.hid ((chg_alloc HC1.out (.cells #[.int .i64 (k : Int), .string ⟨#[]⟩, .string ⟨#[]⟩] 23 (0, 0))).trans hch2 (fun _ h => .inl h))
  clear hch2
  have x0 := cell_at hX2 0
  have x1 := cell_at hX2 1
  have x2 := cell_at hX2 2
  have xf0 := frozen_at hX2 0
  have xf1 := frozen_at hX2 1
  have xf2 := frozen_at hX2 2
  have z0 := cell_at hZ2 0
  have z1 := cell_at hZ2 1
  have z2 := cell_at hZ2 2
  have zf0 := frozen_at hZ2 0
  have zf1 := frozen_at hZ2 1
  have zf2 := frozen_at hZ2 2
  have hltz := lt_of_some hZ2
  have HZ := Lib.hid hZ2
  have HS := Lib.hid hs2
  clear hs2 hZ2
  go_wp2_with fail
  obtain ⟨q0, q1, q2⟩ := three_set ((heap_setCell_ne w2 w1.heap.size 1 w.heap.size (.string (ofNats (txV t))) (by omega)).trans HZ.out) (.int .i64 (k : Int)) (.string (ofNats (txV t))) (.string ⟨#[]⟩)
  refine bodyPost_ret (v := .agg #[.int .i64 (k : Int), .string (ofNats (txV t)), .string ⟨#[]⟩]) (by simp [results, Tryd.results17, go_sem, q0, q1, q2]) rfl ⟨rfl, ?_, ?_⟩
  · repeat (first | (with_reducible exact HS.out) | (with_reducible refine ScR.al ?_ _) | (with_reducible refine ScR.setB ?_ (by have := HB.out; have := HC1.out.size; omega) _))
  · repeat (first | (with_reducible exact HC2.out) | (with_reducible refine chg_alloc ?_ _) | (with_reducible refine chg_set ?_ (by have := HC1.out.size; omega) _))
set_option maxRecDepth 100000 in
set_option maxHeartbeats 1000000 in
theorem call_3 {k : Nat} {t : List Nat} {o1 : Bool} (hk : k = 3) (HB : Hid (B ≤ w.heap.size)) (HR : Hid (w.heap.size ≠ R)) (HRW : Hid (R < w.heap.size)) (H1 : Hid (Calls Tryd.prog 14 #[.pointer (some ⟨R, 0, none⟩)] (w.alloc (.cells #[.int .i64 0, .string ⟨#[]⟩, .string ⟨#[]⟩] 23 (0, 0))) fun x w' => x = .returned (.int .i64 (k : Int)) ∧ ScR w' B R t o1 ∧ Chg (· = R) (w.alloc (.cells #[.int .i64 0, .string ⟨#[]⟩, .string ⟨#[]⟩] 23 (0, 0))) w')) : Calls Tryd.prog 17 #[.pointer (some ⟨R, 0, none⟩)] w fun x w' => x = .returned (callC (k, txV t, [])) ∧ ScR w' B R (txL t) (o1 || txO t) ∧ Chg (· = R) w w' := by
  have t1 : ((k : Int) == 1) = false := beq_eq_false_iff_ne.2 (by omega)
  have t2 : ((k : Int) == 2) = false := beq_eq_false_iff_ne.2 (by omega)
  have t3 : ((k : Int) == 3) = true := beq_iff_eq.2 (by omega)
  have t4 : ((k : Int) == 4) = false := beq_eq_false_iff_ne.2 (by omega)
  have t5 : ((k : Int) == 5) = false := beq_eq_false_iff_ne.2 (by omega)
  clear hk
  go_enter Tryd.func17, Tryd.ntmps17
  go_wp2_with fail
  refine H1.out.mono ?_
  rintro x w1 ⟨rfl, hs1, hch1⟩
  have hZ1 := keep hch1 (new_block w (.cells #[.int .i64 0, .string ⟨#[]⟩, .string ⟨#[]⟩] 23 (0, 0))) HR.out
  have HC1 := Lib.hid (chg_box hch1)
  clear hch1
  have HT1 := Lib.hid (text_any (hs1.al (.cells #[.int .i64 (k : Int), .string ⟨#[]⟩, .string ⟨#[]⟩] 23 (0, 0))))
  have hlt1 := lt_of_some hZ1
  have HZ1 := Lib.hid hZ1
  clear hs1 hZ1
  go_wp2_with fail
  refine HT1.out.mono ?_
  rintro x w2 ⟨rfl, hs2, hch2⟩
  have hX2 := keep hch2 (new_block w1 (.cells #[.int .i64 (k : Int), .string ⟨#[]⟩, .string ⟨#[]⟩] 23 (0, 0))) (by have := HR.out; have := HRW.out; have := HC1.out.size; omega)
  have hZ2 := keep hch2 (box1 HZ1.out (below_al (Below.refl _ w1) (.cells #[.int .i64 (k : Int), .string ⟨#[]⟩, .string ⟨#[]⟩] 23 (0, 0)))) HR.out
  have HC2 := Lib.hid ((chg_alloc HC1.out (.cells #[.int .i64 (k : Int), .string ⟨#[]⟩, .string ⟨#[]⟩] 23 (0, 0))).trans hch2 (fun _ h => .inl h))
  clear hch2
  have x0 := cell_at hX2 0
  have x1 := cell_at hX2 1
  have x2 := cell_at hX2 2
  have xf0 := frozen_at hX2 0
  have xf1 := frozen_at hX2 1
  have xf2 := frozen_at hX2 2
  have z0 := cell_at hZ2 0
  have z1 := cell_at hZ2 1
  have z2 := cell_at hZ2 2
  have zf0 := frozen_at hZ2 0
  have zf1 := frozen_at hZ2 1
  have zf2 := frozen_at hZ2 2
  have hltz := lt_of_some hZ2
  have HZ := Lib.hid hZ2
  have HS := Lib.hid hs2
  clear hs2 hZ2
  go_wp2_with fail
  obtain ⟨q0, q1, q2⟩ := three_set ((heap_setCell_ne w2 w1.heap.size 1 w.heap.size (.string (ofNats (txV t))) (by omega)).trans HZ.out) (.int .i64 (k : Int)) (.string (ofNats (txV t))) (.string ⟨#[]⟩)
  refine bodyPost_ret (v := .agg #[.int .i64 (k : Int), .string (ofNats (txV t)), .string ⟨#[]⟩]) (by simp [results, Tryd.results17, go_sem, q0, q1, q2]) rfl ⟨rfl, ?_, ?_⟩
  · repeat (first | (with_reducible exact HS.out) | (with_reducible refine ScR.al ?_ _) | (with_reducible refine ScR.setB ?_ (by have := HB.out; have := HC1.out.size; omega) _))
  · repeat (first | (with_reducible exact HC2.out) | (with_reducible refine chg_alloc ?_ _) | (with_reducible refine chg_set ?_ (by have := HC1.out.size; omega) _))
set_option maxRecDepth 100000 in
set_option maxHeartbeats 1000000 in
theorem call_2 {k : Nat} {t : List Nat} {o1 : Bool} (hk : k = 2) (HB : Hid (B ≤ w.heap.size)) (HR : Hid (w.heap.size ≠ R)) (HRW : Hid (R < w.heap.size)) (H1 : Hid (Calls Tryd.prog 14 #[.pointer (some ⟨R, 0, none⟩)] (w.alloc (.cells #[.int .i64 0, .string ⟨#[]⟩, .string ⟨#[]⟩] 23 (0, 0))) fun x w' => x = .returned (.int .i64 (k : Int)) ∧ ScR w' B R t o1 ∧ Chg (· = R) (w.alloc (.cells #[.int .i64 0, .string ⟨#[]⟩, .string ⟨#[]⟩] 23 (0, 0))) w')) : Calls Tryd.prog 17 #[.pointer (some ⟨R, 0, none⟩)] w fun x w' => x = .returned (callC (k, txV t, txV (txL t))) ∧ ScR w' B R (txL (txL t)) ((o1 || txO t) || txO (txL t)) ∧ Chg (· = R) w w' := by
  have t1 : ((k : Int) == 1) = false := beq_eq_false_iff_ne.2 (by omega)
  have t2 : ((k : Int) == 2) = true := beq_iff_eq.2 (by omega)
  have t3 : ((k : Int) == 3) = false := beq_eq_false_iff_ne.2 (by omega)
  have t4 : ((k : Int) == 4) = false := beq_eq_false_iff_ne.2 (by omega)
  have t5 : ((k : Int) == 5) = false := beq_eq_false_iff_ne.2 (by omega)
  clear hk
  go_enter Tryd.func17, Tryd.ntmps17
  go_wp2_with fail
  refine H1.out.mono ?_
  rintro x w1 ⟨rfl, hs1, hch1⟩
  have hZ1 := keep hch1 (new_block w (.cells #[.int .i64 0, .string ⟨#[]⟩, .string ⟨#[]⟩] 23 (0, 0))) HR.out
  have HC1 := Lib.hid (chg_box hch1)
  clear hch1
  have HT1 := Lib.hid (text_any (hs1.al (.cells #[.int .i64 (k : Int), .string ⟨#[]⟩, .string ⟨#[]⟩] 23 (0, 0))))
  have hlt1 := lt_of_some hZ1
  have HZ1 := Lib.hid hZ1
  clear hs1 hZ1
  go_wp2_with fail
  refine HT1.out.mono ?_
  rintro x w2 ⟨rfl, hs2, hch2⟩
  have hX2 := keep hch2 (new_block w1 (.cells #[.int .i64 (k : Int), .string ⟨#[]⟩, .string ⟨#[]⟩] 23 (0, 0))) (by have := HR.out; have := HRW.out; have := HC1.out.size; omega)
  have hZ2 := keep hch2 (box1 HZ1.out (below_al (Below.refl _ w1) (.cells #[.int .i64 (k : Int), .string ⟨#[]⟩, .string ⟨#[]⟩] 23 (0, 0)))) HR.out
  have HC2 := Lib.hid ((chg_alloc HC1.out (.cells #[.int .i64 (k : Int), .string ⟨#[]⟩, .string ⟨#[]⟩] 23 (0, 0))).trans hch2 (fun _ h => .inl h))
  clear hch2
  have x0 := cell_at hX2 0
  have x1 := cell_at hX2 1
  have x2 := cell_at hX2 2
  have xf0 := frozen_at hX2 0
  have xf1 := frozen_at hX2 1
  have xf2 := frozen_at hX2 2
  have hlt2 := lt_of_some hZ2
  have hltX := lt_of_some hX2
  have HX2 := Lib.hid hX2
  have HZ2 := Lib.hid hZ2
  have HS2 := Lib.hid hs2
  clear hs2 hX2 hZ2
  go_wp2_with fail
  refine (text_any (HS2.out.setB (b := w1.heap.size) (i := 1) (by have := HB.out; have := HC1.out.size; omega) (.string (ofNats (txV t))))).mono ?_
  rintro x w3 ⟨rfl, hs3, hch3⟩
  have hX3 := keep hch3 (heap_setCell_self w2 w1.heap.size 1 _ _ (.string (ofNats (txV t))) HX2.out) (by have := HR.out; have := HRW.out; have := HC1.out.size; omega)
  have hZ3 := keep hch3 ((heap_setCell_ne w2 w1.heap.size 1 w.heap.size (.string (ofNats (txV t))) (by omega)).trans HZ2.out) HR.out
  have hX3' : w3.heap[w1.heap.size]? = some (.cells #[.int .i64 (k : Int), .string (ofNats (txV t)), .string ⟨#[]⟩] 23 (0, 0)) := hX3
  have HC3 := Lib.hid ((chg_set (b := w1.heap.size) (i := 1) HC2.out (by have := HC1.out.size; omega) (.string (ofNats (txV t)))).trans hch3 (fun _ h => .inl h))
  clear hch3 hX3 x0 xf0 x1 xf1 x2 xf2
  have x0 := cell_at hX3' 0
  have x1 := cell_at hX3' 1
  have x2 := cell_at hX3' 2
  have xf0 := frozen_at hX3' 0
  have xf1 := frozen_at hX3' 1
  have xf2 := frozen_at hX3' 2
  have z0 := cell_at hZ3 0
  have z1 := cell_at hZ3 1
  have z2 := cell_at hZ3 2
  have zf0 := frozen_at hZ3 0
  have zf1 := frozen_at hZ3 1
  have zf2 := frozen_at hZ3 2
  have hltz := lt_of_some hZ3
  have HZ := Lib.hid hZ3
  have HS := Lib.hid hs3
  clear hs3 hZ3
  go_wp2_with fail
  obtain ⟨q0, q1, q2⟩ := three_set ((heap_setCell_ne w3 w1.heap.size 2 w.heap.size (.string (ofNats (txV (txL t)))) (by omega)).trans HZ.out) (.int .i64 (k : Int)) (.string (ofNats (txV t))) (.string (ofNats (txV (txL t))))
  refine bodyPost_ret (v := .agg #[.int .i64 (k : Int), .string (ofNats (txV t)), .string (ofNats (txV (txL t)))]) (by simp [results, Tryd.results17, go_sem, q0, q1, q2]) rfl ⟨rfl, ?_, ?_⟩
  · repeat (first | (with_reducible exact HS.out) | (with_reducible refine ScR.al ?_ _) | (with_reducible refine ScR.setB ?_ (by have := HB.out; have := HC1.out.size; omega) _))
  · repeat (first | (with_reducible exact HC3.out) | (with_reducible refine chg_alloc ?_ _) | (with_reducible refine chg_set ?_ (by have := HC1.out.size; omega) _))
set_option maxRecDepth 100000 in
set_option maxHeartbeats 1000000 in
theorem call_4 {k : Nat} {t : List Nat} {o1 : Bool} (hk : k = 4) (HB : Hid (B ≤ w.heap.size)) (HR : Hid (w.heap.size ≠ R)) (HRW : Hid (R < w.heap.size)) (H1 : Hid (Calls Tryd.prog 14 #[.pointer (some ⟨R, 0, none⟩)] (w.alloc (.cells #[.int .i64 0, .string ⟨#[]⟩, .string ⟨#[]⟩] 23 (0, 0))) fun x w' => x = .returned (.int .i64 (k : Int)) ∧ ScR w' B R t o1 ∧ Chg (· = R) (w.alloc (.cells #[.int .i64 0, .string ⟨#[]⟩, .string ⟨#[]⟩] 23 (0, 0))) w')) : Calls Tryd.prog 17 #[.pointer (some ⟨R, 0, none⟩)] w fun x w' => x = .returned (callC (k, txV t, txV (txL t))) ∧ ScR w' B R (txL (txL t)) ((o1 || txO t) || txO (txL t)) ∧ Chg (· = R) w w' := by
  have t1 : ((k : Int) == 1) = false := beq_eq_false_iff_ne.2 (by omega)
  have t2 : ((k : Int) == 2) = false := beq_eq_false_iff_ne.2 (by omega)
  have t3 : ((k : Int) == 3) = false := beq_eq_false_iff_ne.2 (by omega)
  have t4 : ((k : Int) == 4) = true := beq_iff_eq.2 (by omega)
  have t5 : ((k : Int) == 5) = false := beq_eq_false_iff_ne.2 (by omega)
  clear hk
  go_enter Tryd.func17, Tryd.ntmps17
  go_wp2_with fail
  refine H1.out.mono ?_
  rintro x w1 ⟨rfl, hs1, hch1⟩
  have hZ1 := keep hch1 (new_block w (.cells #[.int .i64 0, .string ⟨#[]⟩, .string ⟨#[]⟩] 23 (0, 0))) HR.out
  have HC1 := Lib.hid (chg_box hch1)
  clear hch1
  have HT1 := Lib.hid (text_any (hs1.al (.cells #[.int .i64 (k : Int), .string ⟨#[]⟩, .string ⟨#[]⟩] 23 (0, 0))))
  have hlt1 := lt_of_some hZ1
  have HZ1 := Lib.hid hZ1
  clear hs1 hZ1
  go_wp2_with fail
  refine HT1.out.mono ?_
  rintro x w2 ⟨rfl, hs2, hch2⟩
  have hX2 := keep hch2 (new_block w1 (.cells #[.int .i64 (k : Int), .string ⟨#[]⟩, .string ⟨#[]⟩] 23 (0, 0))) (by have := HR.out; have := HRW.out; have := HC1.out.size; omega)
  have hZ2 := keep hch2 (box1 HZ1.out (below_al (Below.refl _ w1) (.cells #[.int .i64 (k : Int), .string ⟨#[]⟩, .string ⟨#[]⟩] 23 (0, 0)))) HR.out
  have HC2 := Lib.hid ((chg_alloc HC1.out (.cells #[.int .i64 (k : Int), .string ⟨#[]⟩, .string ⟨#[]⟩] 23 (0, 0))).trans hch2 (fun _ h => .inl h))
  clear hch2
  have x0 := cell_at hX2 0
  have x1 := cell_at hX2 1
  have x2 := cell_at hX2 2
  have xf0 := frozen_at hX2 0
  have xf1 := frozen_at hX2 1
  have xf2 := frozen_at hX2 2
  have hlt2 := lt_of_some hZ2
  have hltX := lt_of_some hX2
  have HX2 := Lib.hid hX2
  have HZ2 := Lib.hid hZ2
  have HS2 := Lib.hid hs2
  clear hs2 hX2 hZ2
  go_wp2_with fail
  refine (text_any (HS2.out.setB (b := w1.heap.size) (i := 1) (by have := HB.out; have := HC1.out.size; omega) (.string (ofNats (txV t))))).mono ?_
  rintro x w3 ⟨rfl, hs3, hch3⟩
  have hX3 := keep hch3 (heap_setCell_self w2 w1.heap.size 1 _ _ (.string (ofNats (txV t))) HX2.out) (by have := HR.out; have := HRW.out; have := HC1.out.size; omega)
  have hZ3 := keep hch3 ((heap_setCell_ne w2 w1.heap.size 1 w.heap.size (.string (ofNats (txV t))) (by omega)).trans HZ2.out) HR.out
  have hX3' : w3.heap[w1.heap.size]? = some (.cells #[.int .i64 (k : Int), .string (ofNats (txV t)), .string ⟨#[]⟩] 23 (0, 0)) := hX3
  have HC3 := Lib.hid ((chg_set (b := w1.heap.size) (i := 1) HC2.out (by have := HC1.out.size; omega) (.string (ofNats (txV t)))).trans hch3 (fun _ h => .inl h))
  clear hch3 hX3 x0 xf0 x1 xf1 x2 xf2
  have x0 := cell_at hX3' 0
  have x1 := cell_at hX3' 1
  have x2 := cell_at hX3' 2
  have xf0 := frozen_at hX3' 0
  have xf1 := frozen_at hX3' 1
  have xf2 := frozen_at hX3' 2
  have z0 := cell_at hZ3 0
  have z1 := cell_at hZ3 1
  have z2 := cell_at hZ3 2
  have zf0 := frozen_at hZ3 0
  have zf1 := frozen_at hZ3 1
  have zf2 := frozen_at hZ3 2
  have hltz := lt_of_some hZ3
  have HZ := Lib.hid hZ3
  have HS := Lib.hid hs3
  clear hs3 hZ3
  go_wp2_with fail
  obtain ⟨q0, q1, q2⟩ := three_set ((heap_setCell_ne w3 w1.heap.size 2 w.heap.size (.string (ofNats (txV (txL t)))) (by omega)).trans HZ.out) (.int .i64 (k : Int)) (.string (ofNats (txV t))) (.string (ofNats (txV (txL t))))
  refine bodyPost_ret (v := .agg #[.int .i64 (k : Int), .string (ofNats (txV t)), .string (ofNats (txV (txL t)))]) (by simp [results, Tryd.results17, go_sem, q0, q1, q2]) rfl ⟨rfl, ?_, ?_⟩
  · repeat (first | (with_reducible exact HS.out) | (with_reducible refine ScR.al ?_ _) | (with_reducible refine ScR.setB ?_ (by have := HB.out; have := HC1.out.size; omega) _))
  · repeat (first | (with_reducible exact HC3.out) | (with_reducible refine chg_alloc ?_ _) | (with_reducible refine chg_set ?_ (by have := HC1.out.size; omega) _))
set_option maxRecDepth 100000 in
set_option maxHeartbeats 1000000 in
theorem call_5 {k : Nat} {t : List Nat} {o1 : Bool} (hk : k = 5) (HB : Hid (B ≤ w.heap.size)) (HR : Hid (w.heap.size ≠ R)) (HRW : Hid (R < w.heap.size)) (H1 : Hid (Calls Tryd.prog 14 #[.pointer (some ⟨R, 0, none⟩)] (w.alloc (.cells #[.int .i64 0, .string ⟨#[]⟩, .string ⟨#[]⟩] 23 (0, 0))) fun x w' => x = .returned (.int .i64 (k : Int)) ∧ ScR w' B R t o1 ∧ Chg (· = R) (w.alloc (.cells #[.int .i64 0, .string ⟨#[]⟩, .string ⟨#[]⟩] 23 (0, 0))) w')) : Calls Tryd.prog 17 #[.pointer (some ⟨R, 0, none⟩)] w fun x w' => x = .returned (callC (k, txV t, txV (txL t))) ∧ ScR w' B R (txL (txL t)) ((o1 || txO t) || txO (txL t)) ∧ Chg (· = R) w w' := by
  have t1 : ((k : Int) == 1) = false := beq_eq_false_iff_ne.2 (by omega)
  have t2 : ((k : Int) == 2) = false := beq_eq_false_iff_ne.2 (by omega)
  have t3 : ((k : Int) == 3) = false := beq_eq_false_iff_ne.2 (by omega)
  have t4 : ((k : Int) == 4) = false := beq_eq_false_iff_ne.2 (by omega)
  have t5 : ((k : Int) == 5) = true := beq_iff_eq.2 (by omega)
  clear hk
  go_enter Tryd.func17, Tryd.ntmps17
  go_wp2_with fail
  refine H1.out.mono ?_
  rintro x w1 ⟨rfl, hs1, hch1⟩
  have hZ1 := keep hch1 (new_block w (.cells #[.int .i64 0, .string ⟨#[]⟩, .string ⟨#[]⟩] 23 (0, 0))) HR.out
  have HC1 := Lib.hid (chg_box hch1)
  clear hch1
  have HT1 := Lib.hid (text_any (hs1.al (.cells #[.int .i64 (k : Int), .string ⟨#[]⟩, .string ⟨#[]⟩] 23 (0, 0))))
  have hlt1 := lt_of_some hZ1
  have HZ1 := Lib.hid hZ1
  clear hs1 hZ1
  go_wp2_with fail
  refine HT1.out.mono ?_
  rintro x w2 ⟨rfl, hs2, hch2⟩
  have hX2 := keep hch2 (new_block w1 (.cells #[.int .i64 (k : Int), .string ⟨#[]⟩, .string ⟨#[]⟩] 23 (0, 0))) (by have := HR.out; have := HRW.out; have := HC1.out.size; omega)
  have hZ2 := keep hch2 (box1 HZ1.out (below_al (Below.refl _ w1) (.cells #[.int .i64 (k : Int), .string ⟨#[]⟩, .string ⟨#[]⟩] 23 (0, 0)))) HR.out
  have HC2 := Lib.hid ((chg_alloc HC1.out (.cells #[.int .i64 (k : Int), .string ⟨#[]⟩, .string ⟨#[]⟩] 23 (0, 0))).trans hch2 (fun _ h => .inl h))
  clear hch2
  have x0 := cell_at hX2 0
  have x1 := cell_at hX2 1
  have x2 := cell_at hX2 2
  have xf0 := frozen_at hX2 0
  have xf1 := frozen_at hX2 1
  have xf2 := frozen_at hX2 2
  have hlt2 := lt_of_some hZ2
  have hltX := lt_of_some hX2
  have HX2 := Lib.hid hX2
  have HZ2 := Lib.hid hZ2
  have HS2 := Lib.hid hs2
  clear hs2 hX2 hZ2
  go_wp2_with fail
  refine (text_any (HS2.out.setB (b := w1.heap.size) (i := 1) (by have := HB.out; have := HC1.out.size; omega) (.string (ofNats (txV t))))).mono ?_
  rintro x w3 ⟨rfl, hs3, hch3⟩
  have hX3 := keep hch3 (heap_setCell_self w2 w1.heap.size 1 _ _ (.string (ofNats (txV t))) HX2.out) (by have := HR.out; have := HRW.out; have := HC1.out.size; omega)
  have hZ3 := keep hch3 ((heap_setCell_ne w2 w1.heap.size 1 w.heap.size (.string (ofNats (txV t))) (by omega)).trans HZ2.out) HR.out
  have hX3' : w3.heap[w1.heap.size]? = some (.cells #[.int .i64 (k : Int), .string (ofNats (txV t)), .string ⟨#[]⟩] 23 (0, 0)) := hX3
  have HC3 := Lib.hid ((chg_set (b := w1.heap.size) (i := 1) HC2.out (by have := HC1.out.size; omega) (.string (ofNats (txV t)))).trans hch3 (fun _ h => .inl h))
  clear hch3 hX3 x0 xf0 x1 xf1 x2 xf2
  have x0 := cell_at hX3' 0
  have x1 := cell_at hX3' 1
  have x2 := cell_at hX3' 2
  have xf0 := frozen_at hX3' 0
  have xf1 := frozen_at hX3' 1
  have xf2 := frozen_at hX3' 2
  have z0 := cell_at hZ3 0
  have z1 := cell_at hZ3 1
  have z2 := cell_at hZ3 2
  have zf0 := frozen_at hZ3 0
  have zf1 := frozen_at hZ3 1
  have zf2 := frozen_at hZ3 2
  have hltz := lt_of_some hZ3
  have HZ := Lib.hid hZ3
  have HS := Lib.hid hs3
  clear hs3 hZ3
  go_wp2_with fail
  obtain ⟨q0, q1, q2⟩ := three_set ((heap_setCell_ne w3 w1.heap.size 2 w.heap.size (.string (ofNats (txV (txL t)))) (by omega)).trans HZ.out) (.int .i64 (k : Int)) (.string (ofNats (txV t))) (.string (ofNats (txV (txL t))))
  refine bodyPost_ret (v := .agg #[.int .i64 (k : Int), .string (ofNats (txV t)), .string (ofNats (txV (txL t)))]) (by simp [results, Tryd.results17, go_sem, q0, q1, q2]) rfl ⟨rfl, ?_, ?_⟩
  · repeat (first | (with_reducible exact HS.out) | (with_reducible refine ScR.al ?_ _) | (with_reducible refine ScR.setB ?_ (by have := HB.out; have := HC1.out.size; omega) _))
  · repeat (first | (with_reducible exact HC3.out) | (with_reducible refine chg_alloc ?_ _) | (with_reducible refine chg_set ?_ (by have := HC1.out.size; omega) _))
theorem call_any (h : ScR w B R l o) (hB : B ≤ w.heap.size) : Calls Tryd.prog 17 #[.pointer (some ⟨R, 0, none⟩)] w fun x w' => x = .returned (callC (callR l o).v) ∧ ScR w' B R (callR l o).l (callR l o).o ∧ Chg (· = R) w w' := by
  have hlt := h.lt
  have H1 := one_any (h.al (.cells #[.int .i64 0, .string ⟨#[]⟩, .string ⟨#[]⟩] 23 (0, 0)))
  unfold callR
  dsimp only
  by_cases hA : hd l = 1 ∨ hd l = 3
  · rw [if_pos hA]
    rcases hA with hk | hk
    · exact call_1 hk (Lib.hid hB) (Lib.hid (by omega)) (Lib.hid hlt) (Lib.hid H1)
    · exact call_3 hk (Lib.hid hB) (Lib.hid (by omega)) (Lib.hid hlt) (Lib.hid H1)
  · rw [if_neg hA]
    by_cases hC : hd l = 2 ∨ hd l = 4 ∨ hd l = 5
    · rw [if_pos hC]
      rcases hC with hk | hk | hk
      · exact call_2 hk (Lib.hid hB) (Lib.hid (by omega)) (Lib.hid hlt) (Lib.hid H1)
      · exact call_4 hk (Lib.hid hB) (Lib.hid (by omega)) (Lib.hid hlt) (Lib.hid H1)
      · exact call_5 hk (Lib.hid hB) (Lib.hid (by omega)) (Lib.hid hlt) (Lib.hid H1)
    · rw [if_neg hC]
      exact call_0 (by omega) (Lib.hid hB) (Lib.hid (by omega)) (Lib.hid hlt) (Lib.hid H1)
end
end Go.Proofs.YtpjgmcoimniheaaDoor.Sc
