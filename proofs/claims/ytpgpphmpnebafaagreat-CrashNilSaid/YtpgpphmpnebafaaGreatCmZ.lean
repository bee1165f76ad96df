import Derived.Test.YtpgpphmpnebafaaGreatFmA
import Derived.Defers
import Derived.Recover
import Derived.Laws.Pointers
import Derived.Carry
import Derived.RegionTactic
import Derived.ChangeAlike
import Derived.BigRegion
import Derived.Laws.CopyRow
import Derived.Laws.Rows
import Derived.Laws.IdiomRangeMap
import Derived.Deep.WholeRow
import Derived.Test.YtpgpphmpnebafaaGreatMsD
set_option maxRecDepth 100000
/- load.Tree at the root of the tree without entries, by walks. -/
namespace Go.Proofs.YtpgpphmpnebafaaGreat.Fm
open Go.RowKit Go.Proofs.YtpgpphmpnebafaaGreat.By Go.Proofs.YtpgpphmpnebafaaGreat.Mt
set_option linter.unusedSimpArgs false
set_option linter.unusedVariables false
set_option maxRecDepth 100000

theorem new_any (w : World) : Calls Tryz.prog 93 #[] w fun x w' => x = .returned (.pointer (some ⟨w.heap.size, 0, none⟩)) ∧ w.alloc (.cells #[.map none] 174 (0, 0)) = w' := by
  go_enter Tryz.func93, Tryz.ntmps93
  go_wp2_with fail
  go_ret
  exact ⟨rfl, rfl⟩
theorem blk2 (w : World) (A B : Obj) : ((w.alloc A).alloc B).heap[w.heap.size + 1]? = some B := by
  have := new_block (w.alloc A) B
  rwa [World.size_alloc] at this
/-- A reader at its beginning, and its pages. -/
def RdAt (w : World) (d : Option Addr) (x : Ending) (w' : World) : Prop := ∃ (m : Option Nat) (p R : Nat), x = .returned (.pointer (some ⟨R, 0, none⟩)) ∧ w'.heap[R]? = some (.cells #[.pointer d, .map m, .pointer (some ⟨p, 0, none⟩)] 168 (0, 0)) ∧ w'.heap[p]? = some (.cells #[.map none] 174 (0, 0)) ∧ w.heap.size ≤ p ∧ w.heap.size ≤ R ∧ Below w.heap.size w w'
theorem rd_mk (w : World) (d : Option Addr) : RdAt w d (.returned (.pointer (some ⟨w.heap.size + 2, 0, none⟩))) (((w.alloc (.map #[] 0)).alloc (.cells #[.map none] 174 (0, 0))).alloc (.cells #[.pointer d, .map (some w.heap.size), .pointer (some ⟨w.heap.size + 1, 0, none⟩)] 168 (0, 0))) := by
  refine ⟨some w.heap.size, w.heap.size + 1, w.heap.size + 2, rfl, ?_, ?_, by omega, by omega, below_al (below_al (below_al (Below.refl _ _) _) _) _⟩
  · have := new_block ((w.alloc (.map #[] 0)).alloc (.cells #[.map none] 174 (0, 0))) (.cells #[.pointer d, .map (some w.heap.size), .pointer (some ⟨w.heap.size + 1, 0, none⟩)] 168 (0, 0))
    rwa [World.size_alloc, World.size_alloc] at this
  · exact ((below_al (Below.refl _ _) _).block _ (lt_of_some (blk2 w _ _))).trans (blk2 w _ _)
set_option maxHeartbeats 1000000 in
theorem read_any (d : Option Addr) (w : World) : Calls Tryz.prog 81 #[.pointer d] w (RdAt w d) := by
  have hmm := @run_makeMap Tryz.prog
  have HN := Lib.hid (fun X => new_any X)
  have HM := Lib.hid (rd_mk w d)
  go_enter Tryz.func81, Tryz.ntmps81
  go_wp2_with fail
  refine (HN.out _).mono ?_
  rintro x w1 ⟨rfl, rfl⟩
  go_wp2_with fail
  go_ret
  exact HM.out
theorem run_assert (w : World) : (Instr.typeAssert .nilIface 20 162 true).run Tryz.prog w = .ok (.tuple #[.agg #[], .bool false]) w := by kernel_rfl
theorem catch_idle (p q r : Addr) (w : World) :
    CallsD Tryz.prog 80 #[.pointer (some p), .pointer (some q), .pointer (some r)] .returning w fun e u' w' => e = .returned (.tuple #[]) ∧ u' = .returning ∧ ∃ o, w' = w.alloc o := by
  have hta := run_assert
  refine callsD_of_wpS Tryz.func80 rfl fun c₀ cs hu => ?_
  apply wpS_seq
  apply wpS_region
  simp only [Tryz.ntmps80, List.size_toArray, List.length_cons, List.length_nil, Nat.reduceAdd, Nat.reduceSub, Array.replicate_succ, Array.replicate_zero, List.push_toArray, List.append_toArray, List.nil_append, List.cons_append]
  simp [wpOpsS, go_sem, recoverD, hu, Exit.thenS, hta]
  apply wpS_seq
  apply wpS_region
  simp [wpOpsS, go_sem, Exit.thenS]
  refine wpS_cond (t := false) (by simp [Act.eval]) ?_
  simp only [Bool.false_eq_true, if_false]
  refine wpS_of_wp (wp_skip ?_)
  cases c₀
  simp_all [bodyPostS, results, Tryz.results80]
  exact ⟨_, rfl⟩
theorem blk3 {w w1 : World} {A B C : Obj} (hb : Below (((w.alloc A).alloc B).alloc C).heap.size (((w.alloc A).alloc B).alloc C) w1) : w1.heap[w.heap.size]? = some A ∧ w1.heap[w.heap.size + 1]? = some B ∧ w1.heap[w.heap.size + 2]? = some C := by
  have hA : (((w.alloc A).alloc B).alloc C).heap[w.heap.size]? = some A := ((below_al (below_al (Below.refl _ (w.alloc A)) B) C).block w.heap.size (by rw [World.size_alloc]; omega)).trans (new_block w A)
  have hB : (((w.alloc A).alloc B).alloc C).heap[w.heap.size + 1]? = some B := ((below_al (Below.refl _ ((w.alloc A).alloc B)) C).block (w.heap.size + 1) (by rw [World.size_alloc, World.size_alloc]; omega)).trans (by have := new_block (w.alloc A) B; rwa [World.size_alloc] at this)
  have hC : (((w.alloc A).alloc B).alloc C).heap[w.heap.size + 2]? = some C := by have := new_block ((w.alloc A).alloc B) C; rwa [World.size_alloc, World.size_alloc] at this
  exact ⟨(hb.block _ (lt_of_some hA)).trans hA, (hb.block _ (lt_of_some hB)).trans hB, (hb.block _ (lt_of_some hC)).trans hC⟩
theorem below_al3 {w w1 : World} {A B C : Obj} (hb : Below (((w.alloc A).alloc B).alloc C).heap.size (((w.alloc A).alloc B).alloc C) w1) : Below w.heap.size w w1 := bl (below_al (below_al (below_al (Below.refl _ w) A) B) C) hb
/-- What Tree answers at root 0. -/
def TreeZ (w : World) (x : Ending) (w' : World) : Prop := ∃ p : Nat, x = .returned (.tuple #[.pointer none, .pointer (some ⟨p, 0, none⟩), .int .i64 0]) ∧ w'.heap[p]? = some (.cells #[.map none] 174 (0, 0)) ∧ w.heap.size ≤ p ∧ Below w.heap.size w w'
theorem set3 {w w1 : World} {a b c : Nat} (hk : w1.heap[w.heap.size]? = some (.cells #[.pointer none] a (0, 0)) ∧ w1.heap[w.heap.size + 1]? = some (.cells #[.pointer none] b (0, 0)) ∧ w1.heap[w.heap.size + 2]? = some (.cells #[.int .i64 0] c (0, 0))) (o : Obj) (u v x : Value) :
    let W := (((w1.setCell ⟨w.heap.size, 0, none⟩ u).setCell ⟨w.heap.size + 1, 0, none⟩ v).setCell ⟨w.heap.size + 2, 0, none⟩ x).drew.alloc o
    W.heap[w.heap.size]? = some (.cells #[u] a (0, 0)) ∧ W.heap[w.heap.size + 1]? = some (.cells #[v] b (0, 0)) ∧ W.heap[w.heap.size + 2]? = some (.cells #[x] c (0, 0)) ∧ (Below w.heap.size w w1 → Below w.heap.size w W) ∧ (∀ p, w.heap.size + 2 < p → p < w1.heap.size → W.heap[p]? = w1.heap[p]?) := by
  obtain ⟨h0, h1, h2⟩ := hk
  intro W
  have g0 := (heap_setCell_ne ((w1.setCell ⟨w.heap.size, 0, none⟩ u).setCell ⟨w.heap.size + 1, 0, none⟩ v) (w.heap.size + 2) 0 w.heap.size x (by omega)).trans ((heap_setCell_ne (w1.setCell ⟨w.heap.size, 0, none⟩ u) (w.heap.size + 1) 0 w.heap.size v (by omega)).trans (heap_setCell_self w1 w.heap.size 0 _ _ u h0))
  have g1 := (heap_setCell_ne ((w1.setCell ⟨w.heap.size, 0, none⟩ u).setCell ⟨w.heap.size + 1, 0, none⟩ v) (w.heap.size + 2) 0 (w.heap.size + 1) x (by omega)).trans (heap_setCell_self (w1.setCell ⟨w.heap.size, 0, none⟩ u) (w.heap.size + 1) 0 _ _ v ((heap_setCell_ne w1 w.heap.size 0 (w.heap.size + 1) u (by omega)).trans h1))
  have g2 := heap_setCell_self ((w1.setCell ⟨w.heap.size, 0, none⟩ u).setCell ⟨w.heap.size + 1, 0, none⟩ v) (w.heap.size + 2) 0 _ _ x ((heap_setCell_ne (w1.setCell ⟨w.heap.size, 0, none⟩ u) (w.heap.size + 1) 0 (w.heap.size + 2) v (by omega)).trans ((heap_setCell_ne w1 w.heap.size 0 (w.heap.size + 2) u (by omega)).trans h2))
  have ha : Below _ ((((w1.setCell ⟨w.heap.size, 0, none⟩ u).setCell ⟨w.heap.size + 1, 0, none⟩ v).setCell ⟨w.heap.size + 2, 0, none⟩ x).drew) W := below_al (Below.refl _ _) o
  refine ⟨(ha.block _ (lt_of_some g0)).trans g0, (ha.block _ (lt_of_some g1)).trans g1, (ha.block _ (lt_of_some g2)).trans g2, fun hb => ?_, fun p hp hq => ?_⟩
  · exact below_al (below_st (below_st (below_st hb (p := ⟨w.heap.size, 0, none⟩) (Nat.le_refl _) u) (p := ⟨w.heap.size + 1, 0, none⟩) (by show w.heap.size ≤ w.heap.size + 1; omega) v) (p := ⟨w.heap.size + 2, 0, none⟩) (by show w.heap.size ≤ w.heap.size + 2; omega) x).drew o
  · have e := (heap_setCell_ne ((w1.setCell ⟨w.heap.size, 0, none⟩ u).setCell ⟨w.heap.size + 1, 0, none⟩ v) (w.heap.size + 2) 0 p x (by omega)).trans ((heap_setCell_ne (w1.setCell ⟨w.heap.size, 0, none⟩ u) (w.heap.size + 1) 0 p v (by omega)).trans (heap_setCell_ne w1 w.heap.size 0 p u (by omega)))
    have hl : p < ((((w1.setCell ⟨w.heap.size, 0, none⟩ u).setCell ⟨w.heap.size + 1, 0, none⟩ v).setCell ⟨w.heap.size + 2, 0, none⟩ x).drew).heap.size := by
      show p < (((w1.setCell ⟨w.heap.size, 0, none⟩ u).setCell ⟨w.heap.size + 1, 0, none⟩ v).setCell ⟨w.heap.size + 2, 0, none⟩ x).heap.size
      simpa only [World.size_setCell] using hq
    exact (ha.block p hl).trans e
set_option maxHeartbeats 2000000 in
theorem tree_zero (d : Option Addr) (w : World) : Calls Tryz.prog 47 #[.pointer d, .int .i64 0] w (TreeZ w) := by
  have hmf : ∀ (fn : Fn) (first cap : Array Value) (w : World), (Instr.makeFunc fn first cap).run Tryz.prog w = .ok (.func fn first cap) w := fun _ _ _ _ => rfl
  have HR := Lib.hid (fun X => read_any d X)
  go_enter_defers Tryz.func47, Tryz.ntmps47
  go_wp2_with fail
  refine (HR.out _).mono ?_
  rintro x w1 ⟨m, p, R, rfl, hR, hp, hpb, hRb, hb⟩
  obtain ⟨k0, k1, k2⟩ := blk3 hb
  have a0 := cell_at k0 0
  have a1 := cell_at k1 0
  have a2 := cell_at k2 0
  have f0 := frozen_at k0 0
  have f1 := frozen_at k1 0
  have f2 := frozen_at k2 0
  have r2 := cell_at hR 2
  have HP := Lib.hid hp
  have HK := Lib.hid (And.intro k0 (And.intro k1 k2))
  have HB := Lib.hid (below_al3 hb)
  have hz := lt_of_some k2
  have HPB := Lib.hid hpb
  have HRB := Lib.hid hRb
  clear hb hp k0 k1 k2 hR hpb hRb
  go_wp2_with fail
  go_region
  go_wp2_with fail
  refine leaves_cons (f := 80) (args := #[.pointer (some ⟨w.heap.size, 0, none⟩), .pointer (some ⟨w.heap.size + 1, 0, none⟩), .pointer (some ⟨w.heap.size + 2, 0, none⟩)]) (by simp) (by simp [go_sem]) ?_
  refine (catch_idle _ _ _ _).mono ?_
  rintro e u' w'' ⟨rfl, rfl, o, rfl⟩
  obtain ⟨z0, z1, z2, zb, zp⟩ := set3 HK.out o (.pointer none) (.pointer (some ⟨p, 0, none⟩)) (.int .i64 0)
  have q0 := cell_at z0 0
  have q1 := cell_at z1 0
  have q2 := cell_at z2 0
  have qb := zb HB.out
  have hpl : w.heap.size + 2 < p := by have := HPB.out; simp only [World.size_alloc] at this; omega
  have qp := (zp p hpl (lt_of_some HP.out)).trans HP.out
  clear z0 z1 z2 zb zp
  rw [show w.heap.size + 2 = w.heap.size + 1 + 1 from rfl] at q0 q1 q2 qb qp
  revert q0 q1 q2 qb qp
  generalize (((w1.setCell ⟨w.heap.size, 0, none⟩ (.pointer none)).setCell ⟨w.heap.size + 1, 0, none⟩ (.pointer (some ⟨p, 0, none⟩))).setCell ⟨w.heap.size + 1 + 1, 0, none⟩ (.int .i64 0)).drew.alloc o = W
  intro q0 q1 q2 qb qp
  simp [Leaves, settle, results, Tryz.results47, go_sem, q0, q1, q2]
  exact ⟨p, rfl, qp, by omega, qb⟩
end Go.Proofs.YtpgpphmpnebafaaGreat.Fm

/- The ledger, by walks. -/
namespace Go.Proofs.YtpgpphmpnebafaaGreat.Lg
open Go.RowKit Go.Proofs.YtpgpphmpnebafaaGreat.By Go.Proofs.YtpgpphmpnebafaaGreat.Mt Go.Proofs.YtpgpphmpnebafaaGreat.Fm
set_option linter.unusedSimpArgs false
set_option linter.unusedVariables false
set_option maxRecDepth 100000

theorem size_any (L : Nat) (n : Int) (r : Array Value) (w : World) (h : w.cell? ⟨L, 0, none⟩ = some (.int .i64 n)) : Calls Tryz.prog 95 #[.pointer (some ⟨L, 0, none⟩)] w fun x w' => x = .returned (.int .i64 n) ∧ w = w' := by
  go_enter Tryz.func95, Tryz.ntmps95
  go_wp2_with fail
  go_ret
  exact ⟨rfl, rfl⟩
theorem z181_eq : Tryz.zeroCells181 = (Value.int .i64 0 :: List.replicate 1536 (.bool false)).toArray := by kernel_rfl
theorem z179_eq : Tryz.zeroCells179 = (List.replicate 512 (Value.bool false)).toArray := by kernel_rfl
theorem new_any (n : Int) (w : World) : Calls Tryz.prog 53 #[.int .i64 n] w fun x w' => x = .returned (.pointer (some ⟨w.heap.size, 0, none⟩)) ∧ w' = w.alloc (.cells (Tryz.zeroCells181.setIfInBounds 0 (.int .i64 (max 0 (min n 512)))) 181 (0, 0)) := by
  go_enter Tryz.func53, Tryz.ntmps53
  go_wp2_with fail
  go_ret
  exact ⟨rfl, rfl⟩
theorem insert_nil (w : World) : Calls Tryz.prog 155 #[.slice none 0 0, .int .i64 0, .int .i64 0] w fun x w' => x = .returned (.tuple #[]) ∧ w = w' := by
  go_enter Tryz.func155, Tryz.ntmps155
  go_wp2_with fail
  refine wp_loop_rounds 1 ?_
  rw [rounds_succ]
  go_wp2_with fail
  go_end0
  exact ⟨rfl, rfl⟩
theorem pdq_nil (l : Int) (w : World) : Calls Tryz.prog 126 #[.slice none 0 0, .int .i64 0, .int .i64 0, .int .i64 l] w fun x w' => x = .returned (.tuple #[]) ∧ w = w' := by
  have H := Lib.hid (insert_nil w)
  go_enter Tryz.func126, Tryz.ntmps126
  go_wp2_with fail
  refine wp_loop_rounds 1 ?_
  rw [rounds_succ]
  go_wp2_with fail
  refine H.out.mono ?_
  rintro x w1 ⟨rfl, rfl⟩
  go_wp2_with fail
  first
  | exact bodyPost_ret (v := .tuple #[]) (by simp [results, Tryz.f126, go_sem]) rfl ⟨rfl, rfl⟩
  | (go_ret; exact ⟨rfl, rfl⟩)
theorem sort_nil (w : World) : Calls Tryz.prog 85 #[.slice none 0 0] w fun x w' => x = .returned (.tuple #[]) ∧ w = w' := by
  have H := Lib.hid (fun l => pdq_nil l w)
  have HL := Lib.hid (Tryz.bits_Len (0 : Int) w (by omega) (by omega))
  go_enter Tryz.func85, Tryz.ntmps85
  go_wp2_with fail
  refine HL.out.mono ?_
  rintro x w1 ⟨rfl, hw1⟩
  obtain rfl : w1 = w := hw1
  go_wp2_with fail
  refine (H.out _).mono ?_
  rintro x w2 ⟨rfl, rfl⟩
  go_wp2_with fail
  go_end0
  exact ⟨rfl, rfl⟩
theorem compact_nil (w : World) : Calls Tryz.prog 86 #[.slice none 0 0] w fun x w' => x = .returned (.slice none 0 0) ∧ w = w' := by
  go_enter Tryz.func86, Tryz.ntmps86
  go_wp2_with fail
  go_ret
  exact ⟨rfl, rfl⟩
theorem all_nil (p : Nat) (w : World) (h : w.cell? ⟨p, 0, none⟩ = some (.map none)) : Calls Tryz.prog 48 #[.pointer (some ⟨p, 0, none⟩)] w fun x w' => x = .returned (.slice none 0 0) ∧ Below w.heap.size w w' := by
  have hrn := run_range_nilMap (P := Tryz.prog) w 172 _ _ rfl
  have hnx := run_next_nilMap (P := Tryz.prog) w 0 0 0 #[]
  have HS := Lib.hid (fun X => sort_nil X)
  have HC := Lib.hid (fun X => compact_nil X)
  go_enter Tryz.func48, Tryz.ntmps48
  go_wp2_with fail
  refine wp_loop_rounds 1 ?_
  rw [rounds_succ]
  go_wp2_with fail
  refine (HS.out _).mono ?_
  rintro x w1 ⟨rfl, rfl⟩
  go_wp2_with fail
  refine (HC.out _).mono ?_
  rintro x w1 ⟨rfl, rfl⟩
  go_wp2_with fail
  go_ret
  exact ⟨rfl, below_al (Below.refl _ _) _⟩
theorem blk_self {w : World} {g : Nat} {c : Array Value} {t : TypeId} (hg : w.heap[g]? = some (.cells c t (0, 0))) : w.setRow g c = w := setRow_self w g c t (0, 0) hg
theorem agg179 (w : World) : (isAgg 179).run Tryz.prog w = .ok true w := by kernel_rfl
theorem siz179 (w : World) : (sizeOf 179).run Tryz.prog w = .ok 512 w := by kernel_rfl
theorem one179 : (Tryz.zeroCells179).all (·.oneCell') = true := by rw [z179_eq]; kernel_rfl
theorem sz179 : (Tryz.zeroCells179).size = 512 := by rw [z179_eq, List.size_toArray, List.length_replicate]
theorem inf179 : (Tryz.prog.info? 179).map (·.size) = some (Tryz.zeroCells179).size := by rw [sz179]; kernel_rfl
/-- A row of marks is loaded, and stored, whole. -/
theorem run_loadMarks {w : World} {g : Nat} {c : Array Value} {T : TypeId} (hg : w.heap[g]? = some (.cells c T (0, 0))) {o : Nat} {m : Array Value} (hm : m.size = 512) (hc : ∀ i, i < 512 → c[o + i]? = m[i]?) : (loadCellsFrom ⟨g, o, none⟩ 0 512 #[]).run Tryz.prog w = .ok m w := by
  have := run_loadCells_list (P := Tryz.prog) w ⟨g, o, none⟩ m.toList (fun j v hv => by
    have hadd : (⟨g, o, none⟩ : Addr).add j = ⟨g, o + j, none⟩ := by unfold Addr.add; split <;> simp_all
    rw [hadd, cell_of_row w g (o + j) c T (0, 0) hg, hc j (by have := (List.getElem?_eq_some_iff.1 hv).1; rw [Array.length_toList] at this; omega)]
    simpa using hv)
  rw [Array.length_toList, hm] at this
  exact this
theorem run_storeMarks {w : World} {g : Nat} {c : Array Value} {T : TypeId} (hg : w.heap[g]? = some (.cells c T (0, 0))) {o : Nat} {m : Array Value} (hm : m.size = 512) (ho : o + 512 ≤ c.size) (h1 : m.all (·.oneCell') = true) : (storeCells ⟨g, o, none⟩ m.toList 0).run Tryz.prog w = .ok () (w.setRow g (c.toList.take o ++ m.toList ++ c.toList.drop (o + 512)).toArray) := by
  have := run_storeCells_at (P := Tryz.prog) g o T m.toList 0 c w hg (by rw [Array.length_toList, hm]; omega) (fun v hv => (Array.all_eq_true_iff_forall_mem.1 h1) v (by simpa using hv))
  rw [Array.length_toList, hm, Nat.add_zero] at this
  exact this
theorem oper_load {P : Program} {o : Oper} {a : Act} {w : World} {K : Act → World → Prop} {Q : Exit → Act → World → Prop} {t : TypeId} {x : Operand} {A : Addr} {v : Value} (ho : o.op = .load t x) (hx : a.eval x = .pointer (some A)) (h : (loadVar t A).run P w = .ok v w) (hk : K (a.put o.dst v) w) : o.wp P a w K Q := by
  have hr : (execOp a.eval o).run P w = .ok (.value v) w := by
    simp only [execOp, ho, hx, Instr.loadAt, Instr.sureAddr, Sem.run_bind, Sem.run_pure, Result.andThen, h]
  unfold Oper.wp
  rw [hr]
  exact hk
theorem oper_store {P : Program} {o : Oper} {a : Act} {w w' : World} {K : Act → World → Prop} {Q : Exit → Act → World → Prop} {t : TypeId} {x y : Operand} {A : Addr} {v : Value} (ho : o.op = .store t x y) (hx : a.eval x = .pointer (some A)) (hy : a.eval y = v) (h : (storeVar t A v).run P w = .ok () w') (hk : K (a.put o.dst undef) w') : o.wp P a w K Q := by
  have hr : (execOp a.eval o).run P w = .ok .skip w' := by
    simp only [execOp, ho, hx, hy, Instr.storeAt, Instr.sureAddr, Sem.run_bind, Sem.run_pure, Result.andThen, h]
  unfold Oper.wp
  rw [hr]
  exact hk
theorem load_row {w : World} {g : Nat} {c : Array Value} {T : TypeId} (hg : w.heap[g]? = some (.cells c T (0, 0))) {o : Nat} {m : Array Value} (hm : m.size = 512) (hc : ∀ i, i < 512 → c[o + i]? = m[i]?) : (loadVar 179 ⟨g, o, none⟩).run Tryz.prog w = .ok (.agg m) w := by
  have h := run_loadMarks hg hm hc
  simp only [loadVar, loadCells, Sem.run_bind, agg179, siz179, Result.andThen, if_true, h, Sem.run_pure]
theorem store_row {w : World} {g : Nat} {c : Array Value} {T : TypeId} (hg : w.heap[g]? = some (.cells c T (0, 0))) {o : Nat} {m : Array Value} (hm : m.size = 512) (ho : o + 512 ≤ c.size) (h1 : m.all (·.oneCell') = true) : (storeVar 179 ⟨g, o, none⟩ (.agg m)).run Tryz.prog w = .ok () (w.setRow g (c.toList.take o ++ m.toList ++ c.toList.drop (o + 512)).toArray) := by
  have h := run_storeMarks hg hm ho h1
  simp only [storeVar, Value.cells, Sem.run_bind, siz179, Result.andThen, hm, ne_eq, not_true_eq_false, if_false, h]
set_option maxHeartbeats 1000000 in
theorem set_nil (w : World) : Calls Tryz.prog 88 #[.slice none 0 0] w fun x w' => x = .returned (.agg Tryz.zeroCells179) ∧ Below w.heap.size w w' := by
  go_enter Tryz.func88, Tryz.ntmps88
  have hb := blk2 w (.cells Tryz.zeroCells179 179 (0, 0)) (.cells Tryz.zeroCells179 179 (0, 0))
  have hb0 : ((w.alloc (.cells Tryz.zeroCells179 179 (0, 0))).alloc (.cells Tryz.zeroCells179 179 (0, 0))).heap[w.heap.size]? = some (.cells Tryz.zeroCells179 179 (0, 0)) := ((below_al (Below.refl _ _) _).block _ (lt_of_some (new_block w _))).trans (new_block w _)
  have HL := Lib.hid (load_row hb (o := 0) sz179 (fun i _ => by rw [Nat.zero_add]))
  have hs := run_storeMarks hb0 (o := 0) (m := Tryz.zeroCells179) sz179 (by rw [sz179]; exact Nat.le_refl _) one179
  rw [List.take_zero, List.nil_append, List.drop_of_length_le (by rw [Array.length_toList, sz179]; exact Nat.le_refl _), List.append_nil, Array.toArray_toList, blk_self hb0] at hs
  have HB0 := Lib.hid hb0
  clear hb hb0
  go_wp2_with fail
  refine wp_loop_rounds 1 ?_
  rw [rounds_succ]
  go_wp2_with fail
  refine oper_load rfl rfl HL.out ?_
  go_wp2_with fail
  refine bodyPost_ret (v := .agg Tryz.zeroCells179) ?_ rfl ⟨rfl, ?_⟩
  · exact results_cell_row rfl _ _ w.heap.size _ _ _ _ rfl HB0.out Tryz.underlying179 rfl inf179
  · exact below_al (below_al (Below.refl _ _) _) _
/-- A ledger of n pages none of which is held. -/
noncomputable def ledC (n : Int) : Array Value := Tryz.zeroCells181.setIfInBounds 0 (.int .i64 n)
theorem ledC_eq (n : Int) : ledC n = (Value.int .i64 n :: List.replicate 1536 (.bool false)).toArray := by
  unfold ledC
  rw [z181_eq, List.setIfInBounds_toArray, List.set_cons_zero]
theorem ledC_size (n : Int) : (ledC n).size = 1537 := by rw [ledC_eq, List.size_toArray, List.length_cons, List.length_replicate]
theorem ledC_zero (n : Int) : (ledC n)[0]? = some (.int .i64 n) := by rw [ledC_eq]; rfl
theorem ledC_at (n : Int) (i : Nat) (h : i < 1536) : (ledC n)[1 + i]? = some (.bool false) := by
  rw [ledC_eq, List.getElem?_toArray, Nat.add_comm, List.getElem?_cons_succ, List.getElem?_replicate, if_pos h]
theorem take_rep (n : Int) (a : Nat) (h : a + 512 ≤ 1536) : ((ledC n).toList.take (1 + a) ++ (Tryz.zeroCells179).toList ++ (ledC n).toList.drop (1 + a + 512)).toArray = ledC n := by
  rw [ledC_eq, z179_eq]
  simp only [List.toList_toArray]
  rw [Nat.add_comm 1 a, List.take_succ_cons, show a + 1 + 512 = (a + 512) + 1 by omega, List.drop_succ_cons, List.take_replicate, List.drop_replicate, List.cons_append, List.replicate_append_replicate, List.cons_append, List.replicate_append_replicate]
  congr 3
  omega
theorem store_led {w : World} {L : Nat} {n : Int} (h : w.heap[L]? = some (.cells (ledC n) 181 (0, 0))) (a b : Nat) (ha : a + 512 ≤ 1536) (hb : b = 1 + a) : (storeCells ⟨L, b, none⟩ (Tryz.zeroCells179).toList).run Tryz.prog w = .ok () w := by
  subst hb
  have hs := run_storeMarks h (o := 1 + a) (m := Tryz.zeroCells179) sz179 (by rw [ledC_size]; omega) one179
  rw [take_rep n a ha, blk_self h] at hs
  exact hs
set_option maxHeartbeats 1000000 in
theorem reset_nil (L : Nat) (n : Int) (w : World) (h : w.heap[L]? = some (.cells (ledC n) 181 (0, 0))) : Calls Tryz.prog 54 #[.pointer (some ⟨L, 0, none⟩), .slice none 0 0, .slice none 0 0] w fun x w' => x = .returned (.tuple #[]) ∧ Below w.heap.size w w' := by
  have HN := Lib.hid (fun X => set_nil X)
  have H := Lib.hid h
  clear h
  go_enter Tryz.func54, Tryz.ntmps54
  go_wp2_with fail
  refine (HN.out _).mono ?_
  rintro x w1 ⟨rfl, hb1⟩
  have H1 := Lib.hid ((hb1.block _ (lt_of_some H.out)).trans H.out)
  have B1 := Lib.hid hb1
  clear hb1
  go_wp2_with fail
  refine (HN.out _).mono ?_
  rintro x w2 ⟨rfl, hb2⟩
  have h2 := (hb2.block _ (lt_of_some H1.out)).trans H1.out
  have B2 := Lib.hid (bl B1.out hb2)
  have s0 := store_led h2 0 1 (by omega) rfl
  have s1 := store_led h2 512 513 (by omega) rfl
  have s2 := store_led h2 1024 1025 (by omega) rfl
  clear hb2 h2
  go_wp2_with fail
  go_end0
  exact ⟨rfl, B2.out⟩
theorem inuse_led (L : Nat) (n : Int) (i : Nat) (w : World) (h : w.heap[L]? = some (.cells (ledC n) 181 (0, 0))) (hi : (i : Int) < n) (hn : n ≤ 512) : Calls Tryz.prog 96 #[.pointer (some ⟨L, 0, none⟩), .int .i64 (i : Int)] w fun x w' => x = .returned (.bool (decide (i < 2))) ∧ w = w' := by
  have c0 := cell_at h 0
  rw [ledC_zero] at c0
  have HZ := Lib.hid (size_any L n (ledC n) w c0)
  have t1 : decide ((0 : Int) ≤ (i : Int)) = true := decide_eq_true (by omega)
  have t2 : decide ((i : Int) < n) = true := decide_eq_true hi
  have c1 := cell_at h (1 + i)
  rw [ledC_at n i (by omega)] at c1
  have c2 := cell_at h (513 + i)
  rw [show 513 + i = 1 + (512 + i) by omega, ledC_at n (512 + i) (by omega), show 1 + (512 + i) = 513 + i by omega] at c2
  have c3 := cell_at h (1025 + i)
  rw [show 1025 + i = 1 + (1024 + i) by omega, ledC_at n (1024 + i) (by omega), show 1 + (1024 + i) = 1025 + i by omega] at c3
  have t3 : decide ((i : Int) < 512) = true := decide_eq_true (by omega)
  have t4 : decide (i < 512) = true := decide_eq_true (by omega)
  clear h c0
  by_cases h2 : i < 2
  · have t5 : decide ((i : Int) < 2) = true := decide_eq_true (by omega)
    have t6 : decide (i < 2) = true := decide_eq_true h2
    go_enter Tryz.func96, Tryz.ntmps96
    go_wp2_with fail
    refine HZ.out.mono ?_
    rintro x w1 ⟨rfl, rfl⟩
    go_wp2_with fail
    go_ret
    exact ⟨by simp [h2], rfl⟩
  · have t5 : decide ((i : Int) < 2) = false := decide_eq_false (by omega)
    have t6 : decide (i < 2) = false := decide_eq_false h2
    go_enter Tryz.func96, Tryz.ntmps96
    go_wp2_with fail
    refine HZ.out.mono ?_
    rintro x w1 ⟨rfl, rfl⟩
    go_wp2_with fail
    go_ret
    exact ⟨by simp [h2], rfl⟩
set_option maxHeartbeats 1000000 in
theorem free_led (L m : Nat) (w : World) (h : w.heap[L]? = some (.cells (ledC (m : Int)) 181 (0, 0))) (hm : m ≤ 512) : Calls Tryz.prog 60 #[.pointer (some ⟨L, 0, none⟩)] w fun x w' => x = .returned (.int .i64 ((m - 2 : Nat) : Int)) ∧ w = w' := by
  have c0 := cell_at h 0
  rw [ledC_zero] at c0
  have HZ := Lib.hid (size_any L m (ledC (m : Int)) w c0)
  have HU := Lib.hid (fun (i : Nat) (hi : (i : Int) < m) => inuse_led L m i w h hi (by omega))
  have HM := Lib.hid hm
  clear h c0 hm
  go_enter Tryz.func60, Tryz.ntmps60
  go_wp2_with fail
  refine HZ.out.mono ?_
  rintro x w1 ⟨rfl, rfl⟩
  go_wp2_with fail
  go_loopw [3, 7] (fun a i wr => ∃ k : Nat, k ≤ m ∧ i = .int .i64 (k : Int) ∧ a = .int .i64 ((k - 2 : Nat) : Int) ∧ wr = w) (fun _ i _ => m - (intOf i).toNat)
  case atStart => exact ⟨0, Nat.zero_le _, rfl, rfl, rfl⟩
  case round =>
    obtain ⟨k, hk, rfl, rfl, rfl⟩ := hrel
    have hm5 : m ≤ 512 := HM.out
    by_cases hlt : k < m
    · have ht1 : decide ((k : Int) < (m : Int)) = true := decide_eq_true (by omega)
      have ht2 : decide (k < m) = true := decide_eq_true hlt
      go_wp2_with fail
      refine (HU.out k (by omega)).mono ?_
      rintro x w1 ⟨rfl, rfl⟩
      by_cases h2 : k < 2
      · have ht3 : decide (k < 2) = true := decide_eq_true h2
        go_wp2_with fail
        go_roundw
        case rel => exact ⟨k + 1, by omega, by go_num, by rw [show k + 1 - 2 = k - 2 by omega], by first | rfl | trivial⟩
        case measure => simp [intOf]; omega
      · have ht3 : decide (k < 2) = false := decide_eq_false h2
        go_wp2_with fail
        go_roundw
        case rel => 
          refine ⟨k + 1, by omega, by go_num, ?_, by first | rfl | trivial⟩
          rw [show k + 1 - 2 = (k - 2) + 1 by omega]
          go_num
        case measure => simp [intOf]; omega
    · have ht1 : decide ((k : Int) < (m : Int)) = false := decide_eq_false (by omega)
      have ht2 : decide (k < m) = false := decide_eq_false hlt
      have hkm := Lib.hid (show k = m by omega)
      go_wp2_with fail
      go_ret
      exact ⟨by rw [← hkm.out]; rfl, rfl⟩
end Go.Proofs.YtpgpphmpnebafaaGreat.Lg

/- commit.Open on a device that was just formatted, by a walk. -/
namespace Go.Proofs.YtpgpphmpnebafaaGreat.Cm
open Go.RowKit Go.Proofs.YtpgpphmpnebafaaGreat.By Go.Proofs.YtpgpphmpnebafaaGreat.Mt Go.Proofs.YtpgpphmpnebafaaGreat.Fm Go.Proofs.YtpgpphmpnebafaaGreat.Lg
set_option linter.unusedSimpArgs false
set_option linter.unusedVariables false
set_option maxRecDepth 100000

theorem fmtP_zero (n : Nat) (h : 2 ≤ n) : (fmtP n).getD 0 ByteArray.empty = Dv.zeroPage := by
  unfold fmtP
  show ((List.replicate n Dv.zeroPage).set 1 (enc 1 0)).getD 0 ByteArray.empty = Dv.zeroPage
  rw [List.getD_eq_getElem?_getD, List.getElem?_set_ne (by omega), List.getElem?_replicate, if_pos (by omega)]; rfl
theorem fmtP_one (n : Nat) (h : 2 ≤ n) : (fmtP n).getD 1 ByteArray.empty = enc 1 0 := by
  unfold fmtP
  show ((List.replicate n Dv.zeroPage).set 1 (enc 1 0)).getD 1 ByteArray.empty = enc 1 0
  rw [List.getD_eq_getElem?_getD, List.getElem?_set_self (by rw [List.length_replicate]; omega)]; rfl
theorem decV_zero : decV Dv.zeroPage = 0 := by kernel_rfl
theorem zero_none (k : Int) : one k Dv.zeroPage = [] := by
  unfold one
  refine if_neg (fun h => ?_)
  have := h.1.2.1
  rw [decV_zero] at this
  simp [rightB] at this
theorem both_fmt : sorted (both Dv.zeroPage (enc 1 0) 2) = [((1 : Int), (0 : Int))] := by
  show sorted (one 0 Dv.zeroPage ++ one 1 (enc 1 0)) = _
  rw [zero_none, one_enc rfl]
  rfl
theorem new_led (n : Nat) (h : n ≤ 512) (w : World) : Calls Tryz.prog 53 #[.int .i64 (n : Int)] w fun x w' => x = .returned (.pointer (some ⟨w.heap.size, 0, none⟩)) ∧ w.alloc (.cells (ledC (n : Int)) 181 (0, 0)) = w' := by
  have hl := Lg.new_any (n : Int) w
  have hmx : max (0 : Int) (min (n : Int) 512) = n := by omega
  rw [hmx] at hl
  refine hl.mono ?_
  rintro x w' ⟨rfl, rfl⟩
  exact ⟨rfl, rfl⟩
/-- The committer's cells. -/
def comC (b L : Nat) (t : Value) (p : Option Addr) (e : Int) : Array Value := #[.pointer (some ⟨b, 0, none⟩), .pointer (some ⟨L, 0, none⟩), t, .pointer none, .pointer p, .int .i64 e, .pointer none]
theorem com_set {w0 w5 : World} {b L c : Nat} {t : Value} (h : w5.heap[c]? = some (.cells (comC b L t none 0) 44 (0, 0))) (hb : Below w0.heap.size w0 w5) (hc : w0.heap.size ≤ c) (p : Nat) :
    let W := (((w5.setCell ⟨c, 3, none⟩ (.pointer none)).setCell ⟨c, 4, none⟩ (.pointer (some ⟨p, 0, none⟩))).setCell ⟨c, 5, none⟩ (.int .i64 1)).drew
    W.heap[c]? = some (.cells (comC b L t (some ⟨p, 0, none⟩) 1) 44 (0, 0)) ∧ (∀ q, q ≠ c → W.heap[q]? = w5.heap[q]?) ∧ W.heap.size = w5.heap.size ∧ Below w0.heap.size w0 W := by
  intro W
  refine ⟨heap_setCell_self _ c 5 _ _ _ (heap_setCell_self _ c 4 _ _ _ (heap_setCell_self _ c 3 _ _ _ h)), fun q hq => ?_, ?_, ?_⟩
  · exact (heap_setCell_ne _ c 5 q _ hq).trans ((heap_setCell_ne _ c 4 q _ hq).trans (heap_setCell_ne _ c 3 q _ hq))
  · show (((w5.setCell ⟨c, 3, none⟩ (.pointer none)).setCell ⟨c, 4, none⟩ (.pointer (some ⟨p, 0, none⟩))).setCell ⟨c, 5, none⟩ (.int .i64 1)).heap.size = _
    simp only [World.size_setCell]
  · exact (below_st (below_st (below_st hb (p := ⟨c, 3, none⟩) hc _) (p := ⟨c, 4, none⟩) hc _) (p := ⟨c, 5, none⟩) hc _).drew
def OpenF (w : World) (b n : Nat) (x : Ending) (w' : World) : Prop := ∃ (c L p k : Nat) (A : Option Addr), x = .returned (.tuple #[.pointer (some ⟨c, 0, none⟩), .int .i64 0]) ∧ w'.heap[c]? = some (.cells (comC b L (.slice A 1 k) (some ⟨p, 0, none⟩) 1) 44 (0, 0)) ∧ w'.heap[L]? = some (.cells (ledC (n : Int)) 181 (0, 0)) ∧ w'.heap[p]? = some (.cells #[.map none] 174 (0, 0)) ∧ Below w.heap.size w w'
set_option maxHeartbeats 4000000 in
theorem open_fmt (n b : Nat) (F : Nat → Prop) (w : World) (hd : Dv.Dev w F b (fmtP n) []) (h2 : 2 ≤ n) (h512 : n ≤ 512) : Calls Tryz.prog 16 #[.pointer (some ⟨b, 0, none⟩)] w (OpenF w b n) := by
  have hpg := fun (X : World) (hb : Below w.heap.size w X) => Dv.pages_any (hd.below hb)
  rw [fmtP_length] at hpg
  have hr0 := fun (X : World) (hb : Below w.heap.size w X) => Dv.read_ok (hd.below hb) 0 (by rw [fmtP_length]; omega) (by simp)
  have hr1 := fun (X : World) (hb : Below w.heap.size w X) => Dv.read_ok (hd.below hb) 1 (by rw [fmtP_length]; omega) (by simp)
  simp only [Dv.dRead_nil, fmtP_zero n h2, fmtP_one n h2] at hr0 hr1
  have HP := Lib.hid hpg
  have HR0 := Lib.hid hr0
  have HR1 := Lib.hid hr1
  have HT := Lib.hid (fun X => tree_zero (some ⟨b, 0, none⟩) X)
  have HLN := Lib.hid (fun X => new_led n h512 X)
  have t1 : decide ((n : Int) < 2) = false := decide_eq_false (by omega)
  have t2 : decide (n < 2) = false := decide_eq_false (by omega)
  clear hpg hr0 hr1 hd h2 h512
  go_enter Tryz.func16, Tryz.ntmps16
  go_wp2_with fail
  refine (HP.out _ (Below.refl _ _)).mono ?_
  rintro x w1 ⟨rfl, rfl⟩
  go_wp2_with fail
  refine (HR0.out _ (Below.refl _ _)).mono ?_
  rintro x w1 ⟨va, rfl, hva, hb1⟩
  obtain ⟨ga, ca, rfl⟩ := Dv.OwnB.shape hva Dv.zeroPage_size
  have HVA := Lib.hid hva
  have HB1 := Lib.hid hb1
  clear hva hb1
  go_wp2_with fail
  refine (HR1.out _ HB1.out).mono ?_
  rintro x w2 ⟨vb, rfl, hvb, hb2⟩
  obtain ⟨gb, cb, rfl⟩ := Dv.OwnB.shape hvb (enc_size 1 0)
  have hW2 := bl HB1.out hb2
  have HVA2 := Lib.hid (Dv.OwnB.below HVA.out hb2)
  have HVB := Lib.hid hvb
  have HB2 := Lib.hid hW2
  clear hvb hb2 hW2 HVA
  go_wp2_with fail
  refine (HP.out _ HB2.out).mono ?_
  rintro x w9 ⟨rfl, rfl⟩
  go_wp2_with fail
  refine (HLN.out _).mono ?_
  rintro x w3 ⟨rfl, rfl⟩
  have hLb := below_al (Below.refl w2.heap.size w2) (.cells (ledC (n : Int)) 181 (0, 0))
  have hW3 := bl HB2.out hLb
  have hna := newest_any (some ⟨ga, 0, none⟩) (some ⟨gb, 0, none⟩) ca cb Dv.zeroPage (enc 1 0) (w2.alloc (.cells (ledC (n : Int)) 181 (0, 0))) ((Dv.OwnB.below HVA2.out hLb).rds) ((Dv.OwnB.below HVB.out hLb).rds) (by rw [Dv.zeroPage_size]; omega) (by rw [enc_size]; omega) (by simp) (by simp) (by simp) (by simp)
  rw [Dv.zeroPage_size, enc_size, both_fmt] at hna
  simp only [List.length_cons, List.length_nil, Nat.zero_add] at hna
  have HNA := Lib.hid hna
  have HW3 := Lib.hid hW3
  have HK3 := Lib.hid (new_block w2 (.cells (ledC (n : Int)) 181 (0, 0)))
  clear hna hW3 hLb
  go_wp2_with fail
  refine HNA.out.mono ?_
  rintro x w4 ⟨A, k, rfl, hm, hk1, hk2, hb4⟩
  obtain ⟨g, off, rfl, hm0, hm1⟩ := hm 0 (1, 0) rfl
  simp only [Nat.zero_mul, Nat.add_zero] at hm0 hm1
  have hlt4 := World.block_lt_of_cell? w4 _ hm0
  have HM := Lib.hid (And.intro hm0 hm1)
  have HW4 := Lib.hid (bl HW3.out hb4)
  have HK4 := Lib.hid ((hb4.block _ (lt_of_some HK3.out)).trans HK3.out)
  clear hm hk1 hk2 hb4
  go_wp2_with fail
  refine wp_loop_rounds 2 ?_
  rw [rounds_succ]
  go_wp2_with fail
  refine (HT.out _).mono ?_
  rintro x w5 ⟨p, rfl, hp, hpb, hb5⟩
  have kc := (hb5.block w4.heap.size (by rw [World.size_alloc, World.size_alloc]; omega)).trans (((below_al (Below.refl _ _) _).block w4.heap.size (by rw [World.size_alloc]; omega)).trans (new_block w4 _))
  have km := (hb5.block (w4.heap.size + 1) (by rw [World.size_alloc, World.size_alloc]; omega)).trans (blk2 w4 _ _)
  have c0 := cell_at kc 0
  have c1 := cell_at kc 1
  have c2 := cell_at kc 2
  have c3 := cell_at kc 3
  have c4 := cell_at kc 4
  have c5 := cell_at kc 5
  have f0 := frozen_at kc 3
  have f1 := frozen_at kc 4
  have f2 := frozen_at kc 5
  have m0 := cell_at km 0
  have HP5 := Lib.hid hp
  have HPB := Lib.hid hpb
  have HC5 := Lib.hid kc
  have hb45 := bl (below_al (below_al (Below.refl _ w4) _) _) hb5
  have HW5 := Lib.hid (bl HW4.out hb45)
  have HB45 := Lib.hid hb45
  have HK5 := Lib.hid ((hb45.block _ (lt_of_some HK4.out)).trans HK4.out)
  clear hp hpb kc km hb5 hb45
  go_wp2_with fail
  go_region
  go_wp2_with fail
  obtain ⟨kc6, ko6, ks6, hb6⟩ := com_set (b := b) (L := w2.heap.size) (t := .slice (some ⟨g, off, none⟩) 1 k) HC5.out HW5.out (by have := HW4.out.size; omega) p
  clear c0 c1 c2 c3 c4 c5 f0 f1 f2 m0
  revert kc6 ko6 ks6 hb6
  generalize (((w5.setCell ⟨w4.heap.size, 3, none⟩ (.pointer none)).setCell ⟨w4.heap.size, 4, none⟩ (.pointer (some ⟨p, 0, none⟩))).setCell ⟨w4.heap.size, 5, none⟩ (.int .i64 1)).drew = w6
  intro kc6 ko6 ks6 hb6
  have hplt := HPB.out
  simp only [World.size_alloc] at hplt
  have hLlt := lt_of_some HK4.out
  have kp6 := (ko6 p (by omega)).trans HP5.out
  have kl6 := (ko6 w2.heap.size (by omega)).trans HK5.out
  have hcx : ∀ X, Below w6.heap.size w6 X → X.cell? ⟨w4.heap.size, 1, none⟩ = some (.pointer (some ⟨w2.heap.size, 0, none⟩)) := fun X hX => cell_at ((hX.block _ (lt_of_some kc6)).trans kc6) 1
  have HA := Lib.hid (fun X (hX : Below w6.heap.size w6 X) => all_nil p X (cell_at ((hX.block _ (lt_of_some kp6)).trans kp6) 0))
  have HRS := Lib.hid (fun X (hX : Below w6.heap.size w6 X) => reset_nil w2.heap.size n X ((hX.block _ (lt_of_some kl6)).trans kl6))
  have KC := Lib.hid kc6
  have KP := Lib.hid kp6
  have KL := Lib.hid kl6
  have HB6 := Lib.hid hb6
  clear kc6 ko6 ks6 hb6 kp6 kl6 hplt hLlt HB45 HK5 HC5 HP5 HPB HK4 HW4 HW5 HM HNA HW3 HK3 HVA2 HVB HB2 HB1 HP HR0 HR1 HT HLN
  refine wp_region_held_drew (S := (fun X => Below w6.heap.size w6 X ∧ X.cell? ⟨w4.heap.size, 1, none⟩ = some (.pointer (some ⟨w2.heap.size, 0, none⟩)))) (by kernel_rfl) (⟨(by repeat (first | exact Below.refl _ _ | assumption | apply below_dr | apply below_dn | apply below_al)), hcx _ (by repeat (first | exact Below.refl _ _ | assumption | apply below_dr | apply below_dn | apply below_al))⟩) (fun hHeld => ?_)
  try simp only [Act.put, List.setIfInBounds_toArray, List.set_cons_zero, List.set_cons_succ]
  refine wpAnyH_take (i := 0) (v := ?_) (by simp only [List.getElem?_toArray, List.getElem?_cons_succ, List.getElem?_cons_zero]; rfl) (by kernel_rfl) (by kernel_rfl) (by kernel_rfl) (by exact fun _ _ _ h => h) (Or.inl ⟨by rfl, ?_⟩) (by assumption) ?_
  rotate_left
  · intro w hSw; (try dsimp only at hSw); go_simp; try with_reducible rfl
  try simp only [Act.put, List.setIfInBounds_toArray, List.set_cons_zero, List.set_cons_succ]
  refine wpAnyH_take (i := 1) (v := ?_) (by simp only [List.getElem?_toArray, List.getElem?_cons_succ, List.getElem?_cons_zero]; rfl) (by kernel_rfl) (by kernel_rfl) (by kernel_rfl) (by exact fun _ _ _ h => h) (Or.inl ⟨by rfl, ?_⟩) (by assumption) ?_
  rotate_left
  · intro w hSw; (try dsimp only at hSw); go_simp; try with_reducible rfl
  try simp only [Act.put, List.setIfInBounds_toArray, List.set_cons_zero, List.set_cons_succ]
  refine wpAnyH_take (i := 2) (v := ?_) (by simp only [List.getElem?_toArray, List.getElem?_cons_succ, List.getElem?_cons_zero]; rfl) (by kernel_rfl) (by kernel_rfl) (by kernel_rfl) (by exact fun _ _ _ h => h) (Or.inl ⟨by rfl, ?_⟩) (by assumption) ?_
  rotate_left
  · intro w hSw; (try dsimp only at hSw); go_simp; try with_reducible rfl
  try simp only [Act.put, List.setIfInBounds_toArray, List.set_cons_zero, List.set_cons_succ]
  refine wpAnyH_take (i := 3) (v := ?_) (by simp only [List.getElem?_toArray, List.getElem?_cons_succ, List.getElem?_cons_zero]; rfl) (by kernel_rfl) (by kernel_rfl) (by kernel_rfl) (by exact fun _ _ _ h => h) (Or.inl ⟨by rfl, ?_⟩) (by assumption) ?_
  rotate_left
  · intro w hSw; (try dsimp only at hSw); go_simp; try with_reducible rfl
  try simp only [Act.put, List.setIfInBounds_toArray, List.set_cons_zero, List.set_cons_succ]
  refine wpAnyH_take (i := 4) (v := ?_) (by simp only [List.getElem?_toArray, List.getElem?_cons_succ, List.getElem?_cons_zero]; rfl) (by kernel_rfl) (by kernel_rfl) (by kernel_rfl) (by exact fun _ _ _ h => h) (Or.inl ⟨by rfl, ?_⟩) (by assumption) ?_
  rotate_left
  · intro w hSw; (try dsimp only at hSw); go_simp; try with_reducible rfl
  try simp only [Act.put, List.setIfInBounds_toArray, List.set_cons_zero, List.set_cons_succ]
  refine wpAnyH_ready (rs := [5]) (by kernel_rfl) (by simp) ?_
  refine AllReadyH.cons (by simp only [List.getElem?_toArray, List.getElem?_cons_succ, List.getElem?_cons_zero]; rfl) (fun K hK => ?_) AllReadyH.nil
  go_simp
  refine (HA.out _ (by repeat (first | exact Below.refl _ _ | assumption | apply below_dr | apply below_dn | apply below_al))).mono ?_; rintro x w7 ⟨rfl, hb7⟩; have hb67 : Below w6.heap.size w6 w7 := bl (by repeat (first | exact Below.refl _ _ | assumption | apply below_dr | apply below_dn | apply below_al)) hb7
  try go_simp
  refine hK.out _ _ (⟨(by repeat (first | exact Below.refl _ _ | assumption | apply below_dr | apply below_dn | apply below_al)), hcx _ (by repeat (first | exact Below.refl _ _ | assumption | apply below_dr | apply below_dn | apply below_al))⟩) (fun hHeld => ?_)
  clear hK K
  try simp only [Act.put, List.setIfInBounds_toArray, List.set_cons_zero, List.set_cons_succ]
  refine wpAnyH_ready (rs := [6]) (by kernel_rfl) (by simp) ?_
  refine AllReadyH.cons (by simp only [List.getElem?_toArray, List.getElem?_cons_succ, List.getElem?_cons_zero]; rfl) (fun K hK => ?_) AllReadyH.nil
  go_simp
  refine (HRS.out _ (by repeat (first | exact Below.refl _ _ | assumption | apply below_dr | apply below_dn | apply below_al))).mono ?_; rintro x w8 ⟨rfl, hb8⟩; have hb68 : Below w6.heap.size w6 w8 := bl (by repeat (first | exact Below.refl _ _ | assumption | apply below_dr | apply below_dn | apply below_al)) hb8
  try go_simp
  refine hK.out _ _ (⟨(by repeat (first | exact Below.refl _ _ | assumption | apply below_dr | apply below_dn | apply below_al)), hcx _ (by repeat (first | exact Below.refl _ _ | assumption | apply below_dr | apply below_dn | apply below_al))⟩) (fun hHeld => ?_)
  clear hK K
  try simp only [Act.put, List.setIfInBounds_toArray, List.set_cons_zero, List.set_cons_succ]
  refine wpAnyH_done (by kernel_rfl) ?_ _
  go_wp2_with fail
  rw [rounds_succ]
  have kc8 := (hb68.block _ (lt_of_some KC.out)).trans KC.out
  have c4 : w8.cell? ⟨w4.heap.size, 4, none⟩ = some (.pointer (some ⟨p, 0, none⟩)) := cell_at kc8 4
  have K8 := Lib.hid kc8
  clear kc8
  go_wp2_with fail
  go_ret2
  exact ⟨w4.heap.size, w2.heap.size, p, k, some ⟨g, off, none⟩, rfl, K8.out, (hb68.block _ (lt_of_some KL.out)).trans KL.out, (hb68.block _ (lt_of_some KP.out)).trans KP.out, bl HB6.out hb68⟩
end Go.Proofs.YtpgpphmpnebafaaGreat.Cm

/- The nil committer, the zero one, and law17's awake, by walks. -/
namespace Go.Proofs.YtpgpphmpnebafaaGreat.Cm
open Go.RowKit Go.Proofs.YtpgpphmpnebafaaGreat.By Go.Proofs.YtpgpphmpnebafaaGreat.Mt Go.Proofs.YtpgpphmpnebafaaGreat.Fm Go.Proofs.YtpgpphmpnebafaaGreat.Lg
set_option linter.unusedSimpArgs false
set_option linter.unusedVariables false
set_option maxRecDepth 100000

/-- A nil committer, or the zero one. -/
def Zc (w : World) (C : Option Addr) : Prop := C = none ∨ ∃ c, C = some ⟨c, 0, none⟩ ∧ w.heap[c]? = some (.cells #[.pointer none, .pointer none, .slice none 0 0, .pointer none, .pointer none, .int .i64 0, .pointer none] 44 (0, 0))
theorem Zc.below {w w1 : World} {C : Option Addr} (h : Zc w C) (hb : Below w.heap.size w w1) : Zc w1 C := by
  rcases h with rfl | ⟨c, rfl, h⟩
  · exact .inl rfl
  · exact .inr ⟨c, rfl, (hb.block _ (lt_of_some h)).trans h⟩
theorem busy_zc {C : Option Addr} {w : World} (h : Zc w C) : Calls Tryz.prog 21 #[.pointer C] w fun x w' => x = .returned (.bool false) ∧ w = w' := by
  rcases h with rfl | ⟨c, rfl, h⟩
  · go_enter Tryz.func21, Tryz.ntmps21
    go_wp2_with fail
    go_ret
    exact ⟨rfl, rfl⟩
  · have c6 := cell_at h 6
    clear h
    go_enter Tryz.func21, Tryz.ntmps21
    go_wp2_with fail
    go_ret
    exact ⟨rfl, rfl⟩
theorem epoch_at (c : Nat) (e : Int) (w : World) (c5 : w.cell? ⟨c, 5, none⟩ = some (.int .i64 e)) : Calls Tryz.prog 20 #[.pointer (some ⟨c, 0, none⟩)] w fun x w' => x = .returned (.int .i64 e) ∧ w = w' := by
  go_enter Tryz.func20, Tryz.ntmps20
  go_wp2_with fail
  go_ret
  exact ⟨rfl, rfl⟩
theorem epoch_zc {C : Option Addr} {w : World} (h : Zc w C) : Calls Tryz.prog 20 #[.pointer C] w fun x w' => x = .returned (.int .i64 0) ∧ w = w' := by
  rcases h with rfl | ⟨c, rfl, h⟩
  · go_enter Tryz.func20, Tryz.ntmps20
    go_wp2_with fail
    go_ret
    exact ⟨rfl, rfl⟩
  · exact epoch_at c 0 w (cell_at h 5)
theorem tree_zc {C : Option Addr} {w : World} (h : Zc w C) : Calls Tryz.prog 19 #[.pointer C] w fun x w' => x = .returned (.pointer none) ∧ w = w' := by
  rcases h with rfl | ⟨c, rfl, h⟩
  · go_enter Tryz.func19, Tryz.ntmps19
    go_wp2_with fail
    go_ret
    exact ⟨rfl, rfl⟩
  · have c3 := cell_at h 3
    clear h
    go_enter Tryz.func19, Tryz.ntmps19
    go_wp2_with fail
    go_ret
    exact ⟨rfl, rfl⟩
theorem size_nil (w : World) : Calls Tryz.prog 95 #[.pointer none] w fun x w' => x = .returned (.int .i64 0) ∧ w = w' := by
  go_enter Tryz.func95, Tryz.ntmps95
  go_wp2_with fail
  go_ret
  exact ⟨rfl, rfl⟩
theorem ledfree_nil (w : World) : Calls Tryz.prog 60 #[.pointer none] w fun x w' => x = .returned (.int .i64 0) ∧ w = w' := by
  have H := Lib.hid (size_nil w)
  go_enter Tryz.func60, Tryz.ntmps60
  go_wp2_with fail
  refine H.out.mono ?_
  rintro x w1 ⟨rfl, rfl⟩
  go_wp2_with fail
  refine wp_loop_rounds 1 ?_
  rw [rounds_succ]
  go_wp2_with fail
  go_ret
  exact ⟨rfl, rfl⟩
theorem free_at (c : Nat) (L : Option Addr) (v : Value) (w : World) (c1 : w.cell? ⟨c, 1, none⟩ = some (.pointer L)) (hf : Calls Tryz.prog 60 #[.pointer L] w fun x w' => x = .returned v ∧ w = w') : Calls Tryz.prog 22 #[.pointer (some ⟨c, 0, none⟩)] w fun x w' => x = .returned v ∧ w = w' := by
  have H := Lib.hid hf
  clear hf
  go_enter Tryz.func22, Tryz.ntmps22
  go_wp2_with fail
  refine H.out.mono ?_
  rintro x w1 ⟨rfl, rfl⟩
  go_wp2_with fail
  go_ret
  exact ⟨rfl, rfl⟩
theorem free_zc {C : Option Addr} {w : World} (h : Zc w C) : Calls Tryz.prog 22 #[.pointer C] w fun x w' => x = .returned (.int .i64 0) ∧ w = w' := by
  rcases h with rfl | ⟨c, rfl, h⟩
  · go_enter Tryz.func22, Tryz.ntmps22
    go_wp2_with fail
    go_ret
    exact ⟨rfl, rfl⟩
  · exact free_at c none _ w (cell_at h 1) (ledfree_nil w)
theorem begin_zc {C : Option Addr} {w : World} (h : Zc w C) : Calls Tryz.prog 18 #[.pointer C, .pointer none] w fun x w' => x = .returned (.int .i64 10) ∧ w = w' := by
  rcases h with rfl | ⟨c, rfl, h⟩
  · go_enter Tryz.func18, Tryz.ntmps18
    go_wp2_with fail
    go_ret
    exact ⟨rfl, rfl⟩
  · have c0 := cell_at h 0
    clear h
    go_enter Tryz.func18, Tryz.ntmps18
    go_wp2_with fail
    go_ret
    exact ⟨rfl, rfl⟩
theorem step_zc {C : Option Addr} {w : World} (h : Zc w C) : Calls Tryz.prog 15 #[.pointer C] w fun x w' => x = .returned (.tuple #[.bool false, .int .i64 10]) ∧ w = w' := by
  have H := Lib.hid (busy_zc h)
  clear h
  go_enter Tryz.func15, Tryz.ntmps15
  go_wp2_with fail
  refine H.out.mono ?_
  rintro x w1 ⟨rfl, rfl⟩
  go_wp2_with fail
  go_ret2
  exact ⟨rfl, rfl⟩
theorem open_nil (w : World) : Calls Tryz.prog 16 #[.pointer none] w fun x w' => x = .returned (.tuple #[.pointer none, .int .i64 1]) ∧ w = w' := by
  have H := Lib.hid (Dv.pages_nil w)
  go_enter Tryz.func16, Tryz.ntmps16
  go_wp2_with fail
  refine H.out.mono ?_
  rintro x w1 ⟨rfl, rfl⟩
  go_wp2_with fail
  go_ret2
  exact ⟨rfl, rfl⟩
set_option maxHeartbeats 1000000 in
theorem awake17_any (w : World) : Calls Tryz.prog 14 #[] w fun x w' => x = .returned (.bool true) ∧ Below w.heap.size w w' := by
  have HF := Lib.hid (fun X => format_ok 9 X (by omega) (by omega))
  go_enter Tryz.func14, Tryz.ntmps14
  go_wp2_with fail
  refine (HF.out _).mono ?_
  rintro x w1 ⟨b, rfl, hd1, hb1⟩
  have HO := Lib.hid (open_fmt 9 b _ w1 hd1 (by omega) (by omega))
  have HB1 := Lib.hid hb1
  clear hd1 hb1
  go_wp2_with fail
  refine HO.out.mono ?_
  rintro x w2 ⟨c, L, p, k, A, rfl, hc, hL, hp, hb2⟩
  have HE := Lib.hid (epoch_at c 1 w2 (cell_at hc 5))
  have HFR := Lib.hid (free_at c (some ⟨L, 0, none⟩) (.int .i64 7) w2 (cell_at hc 1) (free_led L 9 w2 hL (by omega)))
  have HB2 := Lib.hid (bl HB1.out hb2)
  clear hc hL hp hb2
  go_wp2_with fail
  refine HE.out.mono ?_
  rintro x w9 ⟨rfl, rfl⟩
  go_wp2_with fail
  refine HFR.out.mono ?_
  rintro x w9 ⟨rfl, rfl⟩
  go_wp2_with fail
  go_ret
  exact ⟨rfl, HB2.out⟩
end Go.Proofs.YtpgpphmpnebafaaGreat.Cm

/- law17's CommitNil, by a walk. -/
namespace Go.Proofs.YtpgpphmpnebafaaGreat.Cm
open Go.RowKit Go.Proofs.YtpgpphmpnebafaaGreat.By Go.Proofs.YtpgpphmpnebafaaGreat.Mt Go.Proofs.YtpgpphmpnebafaaGreat.Fm Go.Proofs.YtpgpphmpnebafaaGreat.Lg
set_option linter.unusedSimpArgs false
set_option linter.unusedVariables false
set_option maxRecDepth 100000

/-- What Format answers. -/
def FmtPost (n : Int) (w : World) (x : Ending) (w' : World) : Prop := ∃ (o : Option Addr) (e : Int), x = .returned (.tuple #[.pointer o, .int .i64 e]) ∧ ((2 ≤ n ∧ n ≤ 512 ∧ (∃ b, o = some ⟨b, 0, none⟩) ∧ e = 0) ∨ (¬ (2 ≤ n ∧ n ≤ 512) ∧ o = none ∧ e = 1)) ∧ Below w.heap.size w w'
theorem format_post (n : Int) (w : World) : Calls Tryz.prog 17 #[.int .i64 n] w (FmtPost n w) := by
  by_cases h : 2 ≤ n ∧ n ≤ 512
  · obtain ⟨m, rfl⟩ : ∃ m : Nat, n = m := ⟨n.toNat, by omega⟩
    refine (format_ok m w (by omega) (by omega)).mono ?_
    rintro x w1 ⟨b, rfl, _, hb⟩
    exact ⟨_, _, rfl, .inl ⟨h.1, h.2, ⟨b, rfl⟩, rfl⟩, hb⟩
  · refine (format_bad n w (by omega)).mono ?_
    rintro x w1 ⟨rfl, rfl⟩
    exact ⟨_, _, rfl, .inr ⟨h, rfl, rfl⟩, Below.refl _ _⟩
set_option maxHeartbeats 4000000 in
theorem commitNil_any (z : Bool) (n : Int) (w : World) : Calls Tryz.prog 4 #[.bool z, .int .i64 n] w fun x w' => x = .returned (.bool true) ∧ Below w.heap.size w w' := by
  have HAW := Lib.hid (fun X => awake17_any X)
  have HF := Lib.hid (fun X => format_post n X)
  have HS := Lib.hid (fun (C : Option Addr) (X : World) (h : Zc X C) => step_zc h)
  have HO := Lib.hid (fun X => open_nil X)
  have HBG := Lib.hid (fun (C : Option Addr) (X : World) (h : Zc X C) => begin_zc h)
  have HTR := Lib.hid (fun (C : Option Addr) (X : World) (h : Zc X C) => tree_zc h)
  have HEP := Lib.hid (fun (C : Option Addr) (X : World) (h : Zc X C) => epoch_zc h)
  have HBU := Lib.hid (fun (C : Option Addr) (X : World) (h : Zc X C) => busy_zc h)
  have HFR := Lib.hid (fun (C : Option Addr) (X : World) (h : Zc X C) => free_zc h)
  cases z
  all_goals (
    go_enter Tryz.func4, Tryz.ntmps4
    go_wp2_with fail
    refine (HAW.out _).mono ?_
    rintro x w1 ⟨rfl, hb1⟩
    have HB1 := Lib.hid hb1
    clear hb1
    go_wp2_with fail)
  · have HZ : Hid (Zc w1 none) := Lib.hid (.inl rfl)
    have HB0 := HB1
    refine (HS.out _ _ HZ.out).mono ?_
    rintro x w9 ⟨rfl, rfl⟩
    go_wp2_with fail
    refine (HO.out _).mono ?_
    rintro x w9 ⟨rfl, rfl⟩
    go_wp2_with fail
    refine (HF.out _).mono ?_
    rintro x w2 ⟨o, e, rfl, hoe, hb2⟩
    have HZ2 := Lib.hid (HZ.out.below hb2)
    have HB2 := Lib.hid (bl HB0.out hb2)
    clear hb2
    rcases hoe with ⟨h2, h5, ⟨b, rfl⟩, rfl⟩ | ⟨hn, rfl, rfl⟩
    · have t1 : decide ((2 : Int) ≤ n) = true := decide_eq_true h2
      have t2 : decide (n ≤ 512) = true := decide_eq_true h5
      go_wp2_with fail
      refine (HBG.out _ _ HZ2.out).mono ?_
      rintro x w9 ⟨rfl, rfl⟩
      go_wp2_with fail
      refine (HTR.out _ _ HZ2.out).mono ?_
      rintro x w9 ⟨rfl, rfl⟩
      go_wp2_with fail
      refine (HEP.out _ _ HZ2.out).mono ?_
      rintro x w9 ⟨rfl, rfl⟩
      go_wp2_with fail
      refine (HBU.out _ _ HZ2.out).mono ?_
      rintro x w9 ⟨rfl, rfl⟩
      go_wp2_with fail
      refine (HFR.out _ _ HZ2.out).mono ?_
      rintro x w9 ⟨rfl, rfl⟩
      go_wp2_with fail
      go_ret
      exact ⟨rfl, HB2.out⟩
    · by_cases h2 : (2 : Int) ≤ n
      · have t1 : decide ((2 : Int) ≤ n) = true := decide_eq_true h2
        have t2 : decide (n ≤ 512) = false := decide_eq_false (by omega)
        go_wp2_with fail
        refine (HBG.out _ _ HZ2.out).mono ?_
        rintro x w9 ⟨rfl, rfl⟩
        go_wp2_with fail
        refine (HTR.out _ _ HZ2.out).mono ?_
        rintro x w9 ⟨rfl, rfl⟩
        go_wp2_with fail
        refine (HEP.out _ _ HZ2.out).mono ?_
        rintro x w9 ⟨rfl, rfl⟩
        go_wp2_with fail
        refine (HBU.out _ _ HZ2.out).mono ?_
        rintro x w9 ⟨rfl, rfl⟩
        go_wp2_with fail
        refine (HFR.out _ _ HZ2.out).mono ?_
        rintro x w9 ⟨rfl, rfl⟩
        go_wp2_with fail
        go_ret
        exact ⟨rfl, HB2.out⟩
      · have t1 : decide ((2 : Int) ≤ n) = false := decide_eq_false h2
        go_wp2_with fail
        refine (HBG.out _ _ HZ2.out).mono ?_
        rintro x w9 ⟨rfl, rfl⟩
        go_wp2_with fail
        refine (HTR.out _ _ HZ2.out).mono ?_
        rintro x w9 ⟨rfl, rfl⟩
        go_wp2_with fail
        refine (HEP.out _ _ HZ2.out).mono ?_
        rintro x w9 ⟨rfl, rfl⟩
        go_wp2_with fail
        refine (HBU.out _ _ HZ2.out).mono ?_
        rintro x w9 ⟨rfl, rfl⟩
        go_wp2_with fail
        refine (HFR.out _ _ HZ2.out).mono ?_
        rintro x w9 ⟨rfl, rfl⟩
        go_wp2_with fail
        go_ret
        exact ⟨rfl, HB2.out⟩
  · have HZ := Lib.hid (show Zc (w1.alloc (.cells #[.pointer none, .pointer none, .slice none 0 0, .pointer none, .pointer none, .int .i64 0, .pointer none] 44 (0, 0))) (some ⟨w1.heap.size, 0, none⟩) from .inr ⟨_, rfl, new_block w1 _⟩)
    have HB0 := Lib.hid (bl HB1.out (below_al (Below.refl _ w1) (.cells #[.pointer none, .pointer none, .slice none 0 0, .pointer none, .pointer none, .int .i64 0, .pointer none] 44 (0, 0))))
    refine (HS.out _ _ HZ.out).mono ?_
    rintro x w9 ⟨rfl, rfl⟩
    go_wp2_with fail
    refine (HO.out _).mono ?_
    rintro x w9 ⟨rfl, rfl⟩
    go_wp2_with fail
    refine (HF.out _).mono ?_
    rintro x w2 ⟨o, e, rfl, hoe, hb2⟩
    have HZ2 := Lib.hid (HZ.out.below hb2)
    have HB2 := Lib.hid (bl HB0.out hb2)
    clear hb2
    rcases hoe with ⟨h2, h5, ⟨b, rfl⟩, rfl⟩ | ⟨hn, rfl, rfl⟩
    · have t1 : decide ((2 : Int) ≤ n) = true := decide_eq_true h2
      have t2 : decide (n ≤ 512) = true := decide_eq_true h5
      go_wp2_with fail
      refine (HBG.out _ _ HZ2.out).mono ?_
      rintro x w9 ⟨rfl, rfl⟩
      go_wp2_with fail
      refine (HTR.out _ _ HZ2.out).mono ?_
      rintro x w9 ⟨rfl, rfl⟩
      go_wp2_with fail
      refine (HEP.out _ _ HZ2.out).mono ?_
      rintro x w9 ⟨rfl, rfl⟩
      go_wp2_with fail
      refine (HBU.out _ _ HZ2.out).mono ?_
      rintro x w9 ⟨rfl, rfl⟩
      go_wp2_with fail
      refine (HFR.out _ _ HZ2.out).mono ?_
      rintro x w9 ⟨rfl, rfl⟩
      go_wp2_with fail
      go_ret
      exact ⟨rfl, HB2.out⟩
    · by_cases h2 : (2 : Int) ≤ n
      · have t1 : decide ((2 : Int) ≤ n) = true := decide_eq_true h2
        have t2 : decide (n ≤ 512) = false := decide_eq_false (by omega)
        go_wp2_with fail
        refine (HBG.out _ _ HZ2.out).mono ?_
        rintro x w9 ⟨rfl, rfl⟩
        go_wp2_with fail
        refine (HTR.out _ _ HZ2.out).mono ?_
        rintro x w9 ⟨rfl, rfl⟩
        go_wp2_with fail
        refine (HEP.out _ _ HZ2.out).mono ?_
        rintro x w9 ⟨rfl, rfl⟩
        go_wp2_with fail
        refine (HBU.out _ _ HZ2.out).mono ?_
        rintro x w9 ⟨rfl, rfl⟩
        go_wp2_with fail
        refine (HFR.out _ _ HZ2.out).mono ?_
        rintro x w9 ⟨rfl, rfl⟩
        go_wp2_with fail
        go_ret
        exact ⟨rfl, HB2.out⟩
      · have t1 : decide ((2 : Int) ≤ n) = false := decide_eq_false h2
        go_wp2_with fail
        refine (HBG.out _ _ HZ2.out).mono ?_
        rintro x w9 ⟨rfl, rfl⟩
        go_wp2_with fail
        refine (HTR.out _ _ HZ2.out).mono ?_
        rintro x w9 ⟨rfl, rfl⟩
        go_wp2_with fail
        refine (HEP.out _ _ HZ2.out).mono ?_
        rintro x w9 ⟨rfl, rfl⟩
        go_wp2_with fail
        refine (HBU.out _ _ HZ2.out).mono ?_
        rintro x w9 ⟨rfl, rfl⟩
        go_wp2_with fail
        refine (HFR.out _ _ HZ2.out).mono ?_
        rintro x w9 ⟨rfl, rfl⟩
        go_wp2_with fail
        go_ret
        exact ⟨rfl, HB2.out⟩
end Go.Proofs.YtpgpphmpnebafaaGreat.Cm
