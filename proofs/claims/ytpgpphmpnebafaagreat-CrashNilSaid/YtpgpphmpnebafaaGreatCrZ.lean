import Derived.Test.YtpgpphmpnebafaaGreatStZ
import Derived.Test.YtpgpphmpnebafaaGreatByA
import Derived.Deep.SlicePairs
set_option maxRecDepth 100000
/- crash.New, by a walk. -/
namespace Go.Proofs.YtpgpphmpnebafaaGreat.Cr
open Go.RowKit Go.Proofs.YtpgpphmpnebafaaGreat.By Go.Proofs.YtpgpphmpnebafaaGreat.Mt Go.Proofs.YtpgpphmpnebafaaGreat.Fm Go.Proofs.YtpgpphmpnebafaaGreat.Lg Go.Proofs.YtpgpphmpnebafaaGreat.Cm Go.Proofs.YtpgpphmpnebafaaGreat.St
set_option linter.unusedSimpArgs false
set_option linter.unusedVariables false
set_option maxRecDepth 100000

/-- A machine that was just made: its device, and its store behind it. -/
def MadeM (w : World) (n : Nat) (x : Ending) (w' : World) : Prop := ∃ (mc b S M g c m L p k : Nat) (A : Option Addr) (w1 : World), x = .returned (.tuple #[.pointer (some ⟨mc, 0, none⟩), .int .i64 0]) ∧ w'.heap[mc]? = some (.cells #[.pointer (some ⟨b, 0, none⟩), .pointer (some ⟨S, 0, none⟩), .int .i64 0] 93 (0, 0)) ∧ Dv.Dev w1 (fun q => w.heap.size ≤ q) b (fmtP n) [] ∧ StAt w1 w' S M g c m b L p k A ∧ w1.heap.size ≤ S ∧ S ≠ M ∧ S ≠ g ∧ S ≠ c ∧ S ≠ m ∧ m ≠ M ∧ m ≠ g ∧ m ≠ c ∧ w1.heap.size ≤ M ∧ w1.heap.size ≤ m ∧ Below w.heap.size w w1 ∧ mc ≠ S ∧ mc ≠ M ∧ mc ≠ m
theorem stAt_below {w wr w1 : World} {S M g c m b L p k : Nat} {A : Option Addr} (h : StAt w wr S M g c m b L p k A) (hb : Below wr.heap.size wr w1) : StAt w w1 S M g c m b L p k A := by
  obtain ⟨arr, h1, h2, h3, h4, h5, h6⟩ := h
  have up : ∀ {q : Nat} {v : Obj}, wr.heap[q]? = some v → w1.heap[q]? = some v := fun e => (hb.block _ (lt_of_some e)).trans e
  exact ⟨arr, up h1, h2, up h3, ⟨up h4.1, up h4.2.1, h4.2.2⟩, up h5, bl h6 hb⟩
set_option maxHeartbeats 1000000 in
theorem new_ok (n : Nat) (w : World) (h2 : 2 ≤ n) (h512 : n ≤ 512) : Calls Tryz.prog 36 #[.int .i64 (n : Int)] w (MadeM w n) := by
  have HF := Lib.hid (format_ok n w h2 h512)
  have HL := Lib.hid (And.intro h2 h512)
  clear h2 h512
  go_enter Tryz.func36, Tryz.ntmps36
  go_wp2_with fail
  refine HF.out.mono ?_
  rintro x w1 ⟨b, rfl, hd1, hb1⟩
  have HO := Lib.hid (open_st n b _ w1 hd1 HL.out.1 HL.out.2)
  have HB1 := Lib.hid hb1
  have HD1 := Lib.hid hd1
  clear hd1 hb1
  go_wp2_with fail
  refine HO.out.mono ?_
  rintro x w2 ⟨S, M, g, c, m, L, p, k, A, rfl, hst, h1, h2, h3, h4, h5, h6, h7, h8, h9, h10⟩
  have HST := Lib.hid hst
  have HH := Lib.hid (And.intro h1 (And.intro h2 (And.intro h3 (And.intro h4 (And.intro h5 (And.intro h6 (And.intro h7 (And.intro h8 (And.intro h9 h10)))))))))
  clear hst h1 h2 h3 h4 h5 h6 h7 h8 h9 h10
  go_wp2_with fail
  go_ret2
  obtain ⟨arr, kS, _, km, kM, _, _⟩ := HST.out
  have l1 := lt_of_some kS
  have l2 := lt_of_some kM.1
  have l3 := lt_of_some km
  obtain ⟨h1, h2, h3, h4, h5, h6, h7, h8, h9, h10⟩ := HH.out
  exact ⟨w2.heap.size, b, S, M, g, c, m, L, p, k, A, w1, rfl, new_block w2 _, HD1.out, stAt_below HST.out (below_al (Below.refl _ _) _), h1, h2, h3, h4, h5, h6, h7, h8, h9, h10, HB1.out, by omega, by omega, by omega⟩
theorem new_bad (n : Int) (w : World) (h : n < 2 ∨ 512 < n) : Calls Tryz.prog 36 #[.int .i64 n] w fun x w' => x = .returned (.tuple #[.pointer none, .int .i64 1]) ∧ w = w' := by
  have HF := Lib.hid (format_bad n w h)
  clear h
  go_enter Tryz.func36, Tryz.ntmps36
  go_wp2_with fail
  refine HF.out.mono ?_
  rintro x w1 ⟨rfl, rfl⟩
  go_wp2_with fail
  go_ret2
  exact ⟨rfl, rfl⟩
end Go.Proofs.YtpgpphmpnebafaaGreat.Cr

/- A Snap through a machine, by walks. -/
namespace Go.Proofs.YtpgpphmpnebafaaGreat.Cr
open Go.RowKit Go.Proofs.YtpgpphmpnebafaaGreat.By Go.Proofs.YtpgpphmpnebafaaGreat.Mt Go.Proofs.YtpgpphmpnebafaaGreat.Fm Go.Proofs.YtpgpphmpnebafaaGreat.Lg Go.Proofs.YtpgpphmpnebafaaGreat.Cm Go.Proofs.YtpgpphmpnebafaaGreat.St
set_option linter.unusedSimpArgs false
set_option linter.unusedVariables false
set_option maxRecDepth 100000

theorem image_at (mc b : Nat) (F : Nat → Prop) (P : List ByteArray) (w : World) (c0 : w.cell? ⟨mc, 0, none⟩ = some (.pointer (some ⟨b, 0, none⟩))) (hd : Dv.Dev w F b P []) : Calls Tryz.prog 39 #[.pointer (some ⟨mc, 0, none⟩)] w fun e w' => ∃ v, e = .returned v ∧ w'.ownsRow w.heap.size 5 1 v (Dv.joinP P).size (Lib.strCells (Dv.joinP P)) ∧ Below w.heap.size w w' := by
  have H := Lib.hid (Dv.bytes_any hd (by simp))
  clear hd
  go_enter Tryz.func39, Tryz.ntmps39
  go_wp2_with fail
  refine H.out.mono ?_
  rintro x w1 ⟨v, rfl, ho, hb⟩
  have HO := Lib.hid ho
  have HB := Lib.hid hb
  clear ho hb
  go_wp2_with fail
  go_ret
  exact ⟨v, rfl, HO.out, HB.out⟩
theorem set6 {w : World} {g t : Nat} {a b c d e f : Value} (h : w.heap[g]? = some (.cells #[a, b, c, d, e, f] t (0, 0))) (x0 x1 x2 x3 x4 x5 : Value) : ((((((w.setCell ⟨g, 0, none⟩ x0).setCell ⟨g, 1, none⟩ x1).setCell ⟨g, 2, none⟩ x2).setCell ⟨g, 3, none⟩ x3).setCell ⟨g, 4, none⟩ x4).setCell ⟨g, 5, none⟩ x5).heap[g]? = some (.cells #[x0, x1, x2, x3, x4, x5] t (0, 0)) := by
  have := heap_setCell_self _ g 5 _ _ x5 (heap_setCell_self _ g 4 _ _ x4 (heap_setCell_self _ g 3 _ _ x3 (heap_setCell_self _ g 2 _ _ x2 (heap_setCell_self _ g 1 _ _ x1 (heap_setCell_self w g 0 _ _ x0 h)))))
  simpa using this
theorem set6_ne (w : World) (g k : Nat) (x0 x1 x2 x3 x4 x5 : Value) (h : k ≠ g) : ((((((w.setCell ⟨g, 0, none⟩ x0).setCell ⟨g, 1, none⟩ x1).setCell ⟨g, 2, none⟩ x2).setCell ⟨g, 3, none⟩ x3).setCell ⟨g, 4, none⟩ x4).setCell ⟨g, 5, none⟩ x5).heap[k]? = w.heap[k]? := by
  rw [heap_setCell_ne _ _ _ _ _ h, heap_setCell_ne _ _ _ _ _ h, heap_setCell_ne _ _ _ _ _ h, heap_setCell_ne _ _ _ _ _ h, heap_setCell_ne _ _ _ _ _ h, heap_setCell_ne _ _ _ _ _ h]
theorem cell6 (w : World) (g k o : Nat) (x0 x1 x2 x3 x4 x5 : Value) (h : k ≠ g) : ((((((w.setCell ⟨g, 0, none⟩ x0).setCell ⟨g, 1, none⟩ x1).setCell ⟨g, 2, none⟩ x2).setCell ⟨g, 3, none⟩ x3).setCell ⟨g, 4, none⟩ x4).setCell ⟨g, 5, none⟩ x5).cell? ⟨k, o, none⟩ = w.cell? ⟨k, o, none⟩ := by
  unfold World.cell?
  rw [show ∀ X : World, X.heap[(⟨k, o, none⟩ : Addr).block]? = X.heap[k]? from fun _ => rfl, set6_ne w g k x0 x1 x2 x3 x4 x5 h]
theorem set6_below {w0 w : World} (hb : Below w0.heap.size w0 w) {g : Nat} (hg : w0.heap.size ≤ g) (x0 x1 x2 x3 x4 x5 : Value) : Below w0.heap.size w0 ((((((w.setCell ⟨g, 0, none⟩ x0).setCell ⟨g, 1, none⟩ x1).setCell ⟨g, 2, none⟩ x2).setCell ⟨g, 3, none⟩ x3).setCell ⟨g, 4, none⟩ x4).setCell ⟨g, 5, none⟩ x5) :=
  below_st (below_st (below_st (below_st (below_st (below_st hb (p := ⟨g, 0, none⟩) hg _) (p := ⟨g, 1, none⟩) hg _) (p := ⟨g, 2, none⟩) hg _) (p := ⟨g, 3, none⟩) hg _) (p := ⟨g, 4, none⟩) hg _) (p := ⟨g, 5, none⟩) hg _
def CallM (w0 w : World) (S : Nat) (arr : Array Value) (x : Ending) (w' : World) : Prop := x = .returned (.agg #[.int .i64 0, .int .i64 0, .string ⟨#[]⟩, .bool false, .int .i64 0, .bool false]) ∧ w'.heap[S]? = some (.cells (arr.setIfInBounds 10 (snapV S)) 70 (0, 0)) ∧ (∀ q, q < w.heap.size → q ≠ S → w'.heap[q]? = w.heap[q]?) ∧ Below w0.heap.size w0 w' ∧ w.heap.size ≤ w'.heap.size
set_option maxHeartbeats 4000000 in
theorem do_call (mc S : Nat) (b M : Addr) (arr : Array Value) (w : World) (k : w.heap[mc]? = some (.cells #[.pointer (some b), .pointer (some ⟨S, 0, none⟩), .int .i64 0] 93 (0, 0))) (hS : w.heap[S]? = some (.cells arr 70 (0, 0))) (a0 : arr[0]? = some (.pointer (some M))) (a10 : arr[10]? = some .nilIface) (hne : mc ≠ S) (w0 : World) (hb0 : Below w0.heap.size w0 w) (hSb : w0.heap.size ≤ S) :
    Calls Tryz.prog 37 #[.pointer (some ⟨mc, 0, none⟩), .agg #[.int .i64 1, .int .i64 0, .int .i64 7, .string ⟨#[]⟩, .string ⟨#[]⟩, .int .u64 0, .int .i64 0, .int .i64 0]] w (CallM w0 w S arr) := by
  have hml := lt_of_some k
  have hSl := lt_of_some hS
  have hmA : ¬ mc = w.heap.size + 1 := by omega
  have q1 := cell_at k 1
  have HK := Lib.hid k
  have HS := Lib.hid hS
  clear k hS
  go_enter Tryz.func37, Tryz.ntmps37
  go_wp2_with fail
  have kA := blk2 w (.cells #[.int .i64 1, .int .i64 0, .int .i64 7, .string ⟨#[]⟩, .string ⟨#[]⟩, .int .u64 0, .int .i64 0, .int .i64 0] 88 (0, 0)) (.cells #[.int .i64 0, .int .i64 0, .string ⟨#[]⟩, .bool false, .int .i64 0, .bool false] 100 (0, 0))
  have kT := ((below_al (Below.refl _ (w.alloc (.cells #[.int .i64 1, .int .i64 0, .int .i64 7, .string ⟨#[]⟩, .string ⟨#[]⟩, .int .u64 0, .int .i64 0, .int .i64 0] 88 (0, 0)))) (.cells #[.int .i64 0, .int .i64 0, .string ⟨#[]⟩, .bool false, .int .i64 0, .bool false] 100 (0, 0))).block w.heap.size (by rw [World.size_alloc]; omega)).trans (new_block w (.cells #[.int .i64 1, .int .i64 0, .int .i64 7, .string ⟨#[]⟩, .string ⟨#[]⟩, .int .u64 0, .int .i64 0, .int .i64 0] 88 (0, 0)))
  have hal := below_al (below_al (Below.refl w.heap.size w) (.cells #[.int .i64 1, .int .i64 0, .int .i64 7, .string ⟨#[]⟩, .string ⟨#[]⟩, .int .u64 0, .int .i64 0, .int .i64 0] 88 (0, 0))) (.cells #[.int .i64 0, .int .i64 0, .string ⟨#[]⟩, .bool false, .int .i64 0, .bool false] 100 (0, 0))
  have hwz := hb0.size
  revert kA kT hal
  generalize ((w.alloc (.cells #[.int .i64 1, .int .i64 0, .int .i64 7, .string ⟨#[]⟩, .string ⟨#[]⟩, .int .u64 0, .int .i64 0, .int .i64 0] 88 (0, 0))).alloc (.cells #[.int .i64 0, .int .i64 0, .string ⟨#[]⟩, .bool false, .int .i64 0, .bool false] 100 (0, 0))) = w6
  intro kA kT hal
  have kS6 := (hal.block _ hSl).trans HS.out
  have kM6 := (hal.block _ hml).trans HK.out
  have kb6 := bl hb0 hal
  have hS1 : w6.cell? ⟨mc, 1, none⟩ = some (.pointer (some ⟨S, 0, none⟩)) ∧ w6.cell? ⟨w.heap.size, 0, none⟩ = some (.int .i64 1) ∧ w6.cell? ⟨w.heap.size, 1, none⟩ = some (.int .i64 0) ∧ w6.cell? ⟨w.heap.size, 2, none⟩ = some (.int .i64 7) ∧ w6.cell? ⟨w.heap.size, 3, none⟩ = some (.string ⟨#[]⟩) ∧ w6.cell? ⟨w.heap.size, 4, none⟩ = some (.string ⟨#[]⟩) := ⟨cell_at kM6 1, cell_at kT 0, cell_at kT 1, cell_at kT 2, cell_at kT 3, cell_at kT 4⟩
  have HCS := Lib.hid (fun (X : World) (hX : X.heap = w6.heap) => call_snap S M X ((cell_at (by rw [hX]; exact kS6) 0).trans a0) ((cell_at (by rw [hX]; exact kS6) 10).trans a10) (frozen_at (by rw [hX]; exact kS6) 10))
  have hcx : ∀ {X w9 : World}, X.heap = w6.heap → Below w0.heap.size w0 X → ∀ o, (X.setCell ⟨S, 10, none⟩ (snapV S)).alloc o = w9 → w9.heap[w.heap.size + 1]? = some (.cells #[.int .i64 0, .int .i64 0, .string ⟨#[]⟩, .bool false, .int .i64 0, .bool false] 100 (0, 0)) ∧ w9.heap[S]? = some (.cells (arr.setIfInBounds 10 (snapV S)) 70 (0, 0)) ∧ (∀ q, q < w.heap.size → q ≠ S → w9.heap[q]? = w.heap[q]?) ∧ Below w0.heap.size w0 w9 ∧ (w9.cell? ⟨mc, 1, none⟩ = some (.pointer (some ⟨S, 0, none⟩)) ∧ w9.cell? ⟨w.heap.size, 0, none⟩ = some (.int .i64 1) ∧ w9.cell? ⟨w.heap.size, 1, none⟩ = some (.int .i64 0) ∧ w9.cell? ⟨w.heap.size, 2, none⟩ = some (.int .i64 7) ∧ w9.cell? ⟨w.heap.size, 3, none⟩ = some (.string ⟨#[]⟩) ∧ w9.cell? ⟨w.heap.size, 4, none⟩ = some (.string ⟨#[]⟩)) := by
    rintro X w9 hX hXb o rfl
    have hx := below_al (Below.refl _ (X.setCell ⟨S, 10, none⟩ (snapV S))) o
    have up : ∀ {q : Nat} {v : Obj}, q ≠ S → w6.heap[q]? = some v → ((X.setCell ⟨S, 10, none⟩ (snapV S)).alloc o).heap[q]? = some v := fun {q v} hq e => by
      have e2 : (X.setCell ⟨S, 10, none⟩ (snapV S)).heap[q]? = some v := (heap_setCell_ne X S 10 q (snapV S) hq).trans (by rw [hX]; exact e)
      exact (hx.block _ (lt_of_some e2)).trans e2
    have eS := heap_setCell_self X S 10 _ _ (snapV S) (by rw [hX]; exact kS6)
    have uT := up (by omega) kT
    refine ⟨up (by omega) kA, (hx.block _ (lt_of_some eS)).trans eS, fun q hq h => ?_, below_al (below_st hXb (p := ⟨S, 10, none⟩) hSb _) o, cell_at (up hne kM6) 1, cell_at uT 0, cell_at uT 1, cell_at uT 2, cell_at uT 3, cell_at uT 4⟩
    have e := hal.block q hq
    rw [Array.getElem?_eq_getElem hq] at e ⊢
    exact up h e
  clear q1 kA kT kS6 kM6
  refine wp_region_held_drew (S := (fun X => X.cell? ⟨mc, 1, none⟩ = some (.pointer (some ⟨S, 0, none⟩)) ∧ X.cell? ⟨w.heap.size, 0, none⟩ = some (.int .i64 1) ∧ X.cell? ⟨w.heap.size, 1, none⟩ = some (.int .i64 0) ∧ X.cell? ⟨w.heap.size, 2, none⟩ = some (.int .i64 7) ∧ X.cell? ⟨w.heap.size, 3, none⟩ = some (.string ⟨#[]⟩) ∧ X.cell? ⟨w.heap.size, 4, none⟩ = some (.string ⟨#[]⟩))) (by kernel_rfl) ((by first | assumption | exact hS1 | trivial)) (fun hHeld => ?_)
  try simp only [Act.put, List.setIfInBounds_toArray, List.set_cons_zero, List.set_cons_succ]
  refine wpAnyH_take (i := 0) (v := ?_) (by simp only [List.getElem?_toArray, List.getElem?_cons_succ, List.getElem?_cons_zero]; rfl) (by kernel_rfl) (by kernel_rfl) (by kernel_rfl) (by exact fun _ _ _ h => h) (Or.inl ⟨by rfl, ?_⟩) (by assumption) ?_
  rotate_left
  · intro w hSw; (try dsimp only at hSw); go_simp; try with_reducible rfl
  try simp only [Act.put, List.setIfInBounds_toArray, List.set_cons_zero, List.set_cons_succ]
  refine wpAnyH_take (i := 1) (v := ?_) (by simp only [List.getElem?_toArray, List.getElem?_cons_succ, List.getElem?_cons_zero]; rfl) (by kernel_rfl) (by kernel_rfl) (by kernel_rfl) (by exact fun _ _ _ h => h) (Or.inl ⟨by rfl, ?_⟩) (by assumption) ?_
  rotate_left
  · intro w hSw; (try dsimp only at hSw); go_simp; try with_reducible rfl
  try simp only [Act.put, List.setIfInBounds_toArray, List.set_cons_zero, List.set_cons_succ]
  refine wpAnyH_take (i := 2) (v := ?_) (by simp only [List.getElem?_toArray, List.getElem?_cons_succ, List.getElem?_cons_zero]; rfl) (by kernel_rfl) (by kernel_rfl) (by kernel_rfl) (by exact fun _ _ _ h => h) (Or.inl ⟨by rfl, ?_⟩) (by assumption) ?_
  rotate_left
  · intro w hSw; (try dsimp only at hSw); go_simp; try with_reducible rfl
  try simp only [Act.put, List.setIfInBounds_toArray, List.set_cons_zero, List.set_cons_succ]
  refine wpAnyH_take (i := 3) (v := ?_) (by simp only [List.getElem?_toArray, List.getElem?_cons_succ, List.getElem?_cons_zero]; rfl) (by kernel_rfl) (by kernel_rfl) (by kernel_rfl) (by exact fun _ _ _ h => h) (Or.inl ⟨by rfl, ?_⟩) (by assumption) ?_
  rotate_left
  · intro w hSw; (try dsimp only at hSw); go_simp; try with_reducible rfl
  try simp only [Act.put, List.setIfInBounds_toArray, List.set_cons_zero, List.set_cons_succ]
  refine wpAnyH_take (i := 4) (v := ?_) (by simp only [List.getElem?_toArray, List.getElem?_cons_succ, List.getElem?_cons_zero]; rfl) (by kernel_rfl) (by kernel_rfl) (by kernel_rfl) (by exact fun _ _ _ h => h) (Or.inl ⟨by rfl, ?_⟩) (by assumption) ?_
  rotate_left
  · intro w hSw; (try dsimp only at hSw); go_simp; try with_reducible rfl
  try simp only [Act.put, List.setIfInBounds_toArray, List.set_cons_zero, List.set_cons_succ]
  refine wpAnyH_take (i := 5) (v := ?_) (by simp only [List.getElem?_toArray, List.getElem?_cons_succ, List.getElem?_cons_zero]; rfl) (by kernel_rfl) (by kernel_rfl) (by kernel_rfl) (by exact fun _ _ _ h => h) (Or.inl ⟨by rfl, ?_⟩) (by assumption) ?_
  rotate_left
  · intro w hSw; (try dsimp only at hSw); go_simp; try with_reducible rfl
  try simp only [Act.put, List.setIfInBounds_toArray, List.set_cons_zero, List.set_cons_succ]
  refine wpAnyH_take (i := 6) (v := ?_) (by simp only [List.getElem?_toArray, List.getElem?_cons_succ, List.getElem?_cons_zero]; rfl) (by kernel_rfl) (by kernel_rfl) (by kernel_rfl) (by exact fun _ _ _ h => h) (Or.inl ⟨by rfl, ?_⟩) (by assumption) ?_
  rotate_left
  · intro w hSw; (try dsimp only at hSw); go_simp; try with_reducible rfl
  try simp only [Act.put, List.setIfInBounds_toArray, List.set_cons_zero, List.set_cons_succ]
  refine wpAnyH_take (i := 7) (v := ?_) (by simp only [List.getElem?_toArray, List.getElem?_cons_succ, List.getElem?_cons_zero]; rfl) (by kernel_rfl) (by kernel_rfl) (by kernel_rfl) (by exact fun _ _ _ h => h) (Or.inl ⟨by rfl, ?_⟩) (by assumption) ?_
  rotate_left
  · intro w hSw; (try dsimp only at hSw); go_simp; try with_reducible rfl
  try simp only [Act.put, List.setIfInBounds_toArray, List.set_cons_zero, List.set_cons_succ]
  refine wpAnyH_ready (rs := [8]) (by kernel_rfl) (by simp) ?_
  refine AllReadyH.cons (by simp only [List.getElem?_toArray, List.getElem?_cons_succ, List.getElem?_cons_zero]; rfl) (fun K hK => ?_) AllReadyH.nil
  go_simp
  refine (HCS.out w6.drew rfl).mono ?_; rintro x w9 ⟨rfl, o, hw9⟩; obtain ⟨kA9, kS9, ko9, kb9, hS9⟩ := hcx (X := w6.drew) rfl kb6.drew o hw9; have e0 := cell_at kA9 0; have e1 := cell_at kA9 1; have e2 := cell_at kA9 2; have e3 := cell_at kA9 3; have e4 := cell_at kA9 4; have e5 := cell_at kA9 5; have g0 := frozen_at kA9 0; have g1 := frozen_at kA9 1; have g2 := frozen_at kA9 2; have g3 := frozen_at kA9 3; have g4 := frozen_at kA9 4; have g5 := frozen_at kA9 5
  try go_simp
  refine hK.out _ _ ((by assumption)) (fun hHeld => ?_)
  clear hK K
  try simp only [Act.put, List.setIfInBounds_toArray, List.set_cons_zero, List.set_cons_succ]
  refine wpAnyH_take (i := 9) (v := ?_) (by simp only [List.getElem?_toArray, List.getElem?_cons_succ, List.getElem?_cons_zero]; rfl) (by kernel_rfl) (by kernel_rfl) (by kernel_rfl) (by exact fun _ _ _ h => h) (Or.inl ⟨by rfl, ?_⟩) (by assumption) ?_
  rotate_left
  · intro w hSw; (try dsimp only at hSw); go_simp; try with_reducible rfl
  try simp only [Act.put, List.setIfInBounds_toArray, List.set_cons_zero, List.set_cons_succ]
  refine wpAnyH_ready (rs := [10]) (by kernel_rfl) (by simp) ?_
  refine AllReadyH.cons (by simp only [List.getElem?_toArray, List.getElem?_cons_succ, List.getElem?_cons_zero]; rfl) (fun K hK => ?_) AllReadyH.nil
  go_simp
  refine hK.out _ _ ((by have hSA : w.heap.size ≠ w.heap.size + 1 := Nat.ne_of_lt (Nat.lt_succ_self _); refine ⟨(cell6 w9 (w.heap.size + 1) mc 1 _ _ _ _ _ _ hmA).trans hS9.1, (cell6 w9 (w.heap.size + 1) w.heap.size 0 _ _ _ _ _ _ hSA).trans hS9.2.1, (cell6 w9 (w.heap.size + 1) w.heap.size 1 _ _ _ _ _ _ hSA).trans hS9.2.2.1, (cell6 w9 (w.heap.size + 1) w.heap.size 2 _ _ _ _ _ _ hSA).trans hS9.2.2.2.1, (cell6 w9 (w.heap.size + 1) w.heap.size 3 _ _ _ _ _ _ hSA).trans hS9.2.2.2.2.1, (cell6 w9 (w.heap.size + 1) w.heap.size 4 _ _ _ _ _ _ hSA).trans hS9.2.2.2.2.2⟩)) (fun hHeld => ?_)
  clear hK K
  try simp only [Act.put, List.setIfInBounds_toArray, List.set_cons_zero, List.set_cons_succ]
  refine wpAnyH_done (by kernel_rfl) ?_ _
  go_wp2_with fail
  have kF := set6 kA9 (.int .i64 0) (.int .i64 0) (.string ⟨#[]⟩) (.bool false) (.int .i64 0) (.bool false)
  have kN := fun (q : Nat) (h : q ≠ w.heap.size + 1) => set6_ne w9 (w.heap.size + 1) q (.int .i64 0) (.int .i64 0) (.string ⟨#[]⟩) (.bool false) (.int .i64 0) (.bool false) h
  have kB := set6_below kb9 (g := w.heap.size + 1) (by omega) (.int .i64 0) (.int .i64 0) (.string ⟨#[]⟩) (.bool false) (.int .i64 0) (.bool false)
  clear hS9 hHeld e0 e1 e2 e3 e4 e5 g0 g1 g2 g3 g4 g5
  revert kF kN kB
  generalize (((((w9.setCell ⟨w.heap.size + 1, 0, none⟩ (.int .i64 0)).setCell ⟨w.heap.size + 1, 1, none⟩ (.int .i64 0)).setCell ⟨w.heap.size + 1, 2, none⟩ (.string ⟨#[]⟩)).setCell ⟨w.heap.size + 1, 3, none⟩ (.bool false)).setCell ⟨w.heap.size + 1, 4, none⟩ (.int .i64 0)).setCell ⟨w.heap.size + 1, 5, none⟩ (.bool false) = w5
  intro kF kN kB
  have r0 := cell_at kF 0
  have r1 := cell_at kF 1
  have r2 := cell_at kF 2
  have r3 := cell_at kF 3
  have r4 := cell_at kF 4
  have r5 := cell_at kF 5
  refine bodyPost_ret (v := .agg #[.int .i64 0, .int .i64 0, .string ⟨#[]⟩, .bool false, .int .i64 0, .bool false]) (by simp [results, Tryz.results37, go_sem, r0, r1, r2, r3, r4, r5]) rfl ⟨rfl, (kN S (by omega)).trans kS9, fun q hq h => (kN q (by omega)).trans (ko9 q hq h), kB, by have := lt_of_some kF; omega⟩
end Go.Proofs.YtpgpphmpnebafaaGreat.Cr

/- crash.Machine.Do of a Pick that is a Snap's step, by a walk. -/
namespace Go.Proofs.YtpgpphmpnebafaaGreat.Cr
open Go.RowKit Go.Proofs.YtpgpphmpnebafaaGreat.By Go.Proofs.YtpgpphmpnebafaaGreat.Mt Go.Proofs.YtpgpphmpnebafaaGreat.Fm Go.Proofs.YtpgpphmpnebafaaGreat.Lg Go.Proofs.YtpgpphmpnebafaaGreat.Cm Go.Proofs.YtpgpphmpnebafaaGreat.St
set_option linter.unusedSimpArgs false
set_option linter.unusedVariables false
set_option maxRecDepth 100000

theorem cell_ne (w : World) (g i k o : Nat) (u : Value) (h : ¬ k = g) : (w.setCell ⟨g, i, none⟩ u).cell? ⟨k, o, none⟩ = w.cell? ⟨k, o, none⟩ := World.cell?_of_block (a := ⟨k, o, none⟩) (heap_setCell_ne w g i k u h)
theorem set4 {w : World} {g t : Nat} {a b c d : Value} (h : w.heap[g]? = some (.cells #[a, b, c, d] t (0, 0))) (x0 x1 x2 x3 : Value) : ((((w.setCell ⟨g, 0, none⟩ x0).setCell ⟨g, 1, none⟩ x1).setCell ⟨g, 2, none⟩ x2).setCell ⟨g, 3, none⟩ x3).heap[g]? = some (.cells #[x0, x1, x2, x3] t (0, 0)) := by
  have := heap_setCell_self _ g 3 _ _ x3 (heap_setCell_self _ g 2 _ _ x2 (heap_setCell_self _ g 1 _ _ x1 (heap_setCell_self w g 0 _ _ x0 h)))
  simpa using this
theorem set4_ne (w : World) (g k : Nat) (x0 x1 x2 x3 : Value) (h : k ≠ g) : ((((w.setCell ⟨g, 0, none⟩ x0).setCell ⟨g, 1, none⟩ x1).setCell ⟨g, 2, none⟩ x2).setCell ⟨g, 3, none⟩ x3).heap[k]? = w.heap[k]? := by
  rw [heap_setCell_ne _ _ _ _ _ h, heap_setCell_ne _ _ _ _ _ h, heap_setCell_ne _ _ _ _ _ h, heap_setCell_ne _ _ _ _ _ h]
theorem set4_below {w0 w : World} (hb : Below w0.heap.size w0 w) {g : Nat} (hg : w0.heap.size ≤ g) (x0 x1 x2 x3 : Value) : Below w0.heap.size w0 ((((w.setCell ⟨g, 0, none⟩ x0).setCell ⟨g, 1, none⟩ x1).setCell ⟨g, 2, none⟩ x2).setCell ⟨g, 3, none⟩ x3) :=
  below_st (below_st (below_st (below_st hb (p := ⟨g, 0, none⟩) hg _) (p := ⟨g, 1, none⟩) hg _) (p := ⟨g, 2, none⟩) hg _) (p := ⟨g, 3, none⟩) hg _
def PickM (w0 w : World) (S M m : Nat) (x : Ending) (w' : World) : Prop := x = .returned (.agg #[.int .i64 0, .int .i64 0, .string ⟨#[]⟩, .bool false, .int .i64 1, .bool true]) ∧ Below w0.heap.size w0 w' ∧ ∀ q, q < w.heap.size → q ≠ S → q ≠ M → q ≠ m → w'.heap[q]? = w.heap[q]?
set_option maxHeartbeats 1000000 in
theorem do_pick (mc S M g m : Nat) (s c : Int) (b : Addr) (arr : Array Value) (w : World) (k : w.heap[mc]? = some (.cells #[.pointer (some b), .pointer (some ⟨S, 0, none⟩), .int .i64 0] 93 (0, 0))) (hS : w.heap[S]? = some (.cells arr 70 (0, 0))) (a0 : arr[0]? = some (.pointer (some ⟨M, 0, none⟩))) (a10 : arr[10]? = some (snapV S)) (a18 : arr[18]? = some (.map (some m))) (a19 : arr[19]? = some (.int .i64 0)) (hmem : MemAt w M g (.pointer none) s c) (hm : w.heap[m]? = some (.map #[] 0)) (hne : S ≠ M ∧ S ≠ g ∧ S ≠ m ∧ m ≠ M ∧ m ≠ g) (w0 : World) (hb0 : Below w0.heap.size w0 w) (hSb : w0.heap.size ≤ S) (hMb : w0.heap.size ≤ M) (hmb : w0.heap.size ≤ m) (hmc : mc ≠ S ∧ mc ≠ M ∧ mc ≠ m) :
    Calls Tryz.prog 37 #[.pointer (some ⟨mc, 0, none⟩), .agg #[.int .i64 2, .int .i64 0, .int .i64 0, .string ⟨#[]⟩, .string ⟨#[]⟩, .int .u64 0, .int .i64 0, .int .i64 0]] w (PickM w0 w S M m) := by
  have hml := lt_of_some k
  have hSl := lt_of_some hS
  have hMl := lt_of_some hmem.1
  have hmml := lt_of_some hm
  have hgl := lt_of_some hmem.2.1
  have q1 := cell_at k 1
  have HK := Lib.hid k
  have HST := Lib.hid (fun (X : World) (hw : Below w.heap.size w X) => step_st S M g m s c arr X ((hw.block _ hSl).trans hS) a0 a10 a18 a19 ⟨(hw.block _ hMl).trans hmem.1, (hw.block _ hgl).trans hmem.2.1, hmem.2.2⟩ ((hw.block _ hmml).trans hm) hne w0)
  have HNE := Lib.hid hmc
  clear k hS hmem hm hne hmc
  go_enter Tryz.func37, Tryz.ntmps37
  go_wp2_with fail
  have kA := blk2 w (.cells #[.int .i64 2, .int .i64 0, .int .i64 0, .string ⟨#[]⟩, .string ⟨#[]⟩, .int .u64 0, .int .i64 0, .int .i64 0] 88 (0, 0)) (.cells #[.int .i64 0, .int .i64 0, .string ⟨#[]⟩, .bool false, .int .i64 0, .bool false] 100 (0, 0))
  have kT := ((below_al (Below.refl _ (w.alloc (.cells #[.int .i64 2, .int .i64 0, .int .i64 0, .string ⟨#[]⟩, .string ⟨#[]⟩, .int .u64 0, .int .i64 0, .int .i64 0] 88 (0, 0)))) (.cells #[.int .i64 0, .int .i64 0, .string ⟨#[]⟩, .bool false, .int .i64 0, .bool false] 100 (0, 0))).block w.heap.size (by rw [World.size_alloc]; omega)).trans (new_block w (.cells #[.int .i64 2, .int .i64 0, .int .i64 0, .string ⟨#[]⟩, .string ⟨#[]⟩, .int .u64 0, .int .i64 0, .int .i64 0] 88 (0, 0)))
  have hal := below_al (below_al (Below.refl w.heap.size w) (.cells #[.int .i64 2, .int .i64 0, .int .i64 0, .string ⟨#[]⟩, .string ⟨#[]⟩, .int .u64 0, .int .i64 0, .int .i64 0] 88 (0, 0))) (.cells #[.int .i64 0, .int .i64 0, .string ⟨#[]⟩, .bool false, .int .i64 0, .bool false] 100 (0, 0))
  have hwz := hb0.size
  have hz6 : ((w.alloc (.cells #[.int .i64 2, .int .i64 0, .int .i64 0, .string ⟨#[]⟩, .string ⟨#[]⟩, .int .u64 0, .int .i64 0, .int .i64 0] 88 (0, 0))).alloc (.cells #[.int .i64 0, .int .i64 0, .string ⟨#[]⟩, .bool false, .int .i64 0, .bool false] 100 (0, 0))).heap.size = w.heap.size + 2 := by rw [World.size_alloc, World.size_alloc]
  revert kA kT hal hz6
  generalize ((w.alloc (.cells #[.int .i64 2, .int .i64 0, .int .i64 0, .string ⟨#[]⟩, .string ⟨#[]⟩, .int .u64 0, .int .i64 0, .int .i64 0] 88 (0, 0))).alloc (.cells #[.int .i64 0, .int .i64 0, .string ⟨#[]⟩, .bool false, .int .i64 0, .bool false] 100 (0, 0))) = w6
  intro kA kT hal hz6
  have kM6 := (hal.block _ hml).trans HK.out
  have kb6 := bl hb0 hal
  have hS1 : w6.cell? ⟨mc, 1, none⟩ = some (.pointer (some ⟨S, 0, none⟩)) ∧ w6.cell? ⟨w.heap.size, 1, none⟩ = some (.int .i64 0) := ⟨cell_at kM6 1, cell_at kT 1⟩
  have p1 := hS1.1
  have p2 := hS1.2
  have HZ6 := Lib.hid hz6
  have HCS := Lib.hid (fun (X : World) (hb : Below w6.heap.size w6 X) => HST.out X (bl hal hb) (bl kb6 hb) hSb hMb hmb)
  have HX := Lib.hid (fun (X w9 : World) (hb : Below w6.heap.size w6 X) (h : ∀ q, q < X.heap.size → q ≠ S → q ≠ M → q ≠ m → w9.heap[q]? = X.heap[q]?) => (have hzX := hb.size; ⟨(h mc (by omega) HNE.out.1 HNE.out.2.1 HNE.out.2.2).trans ((hb.block mc (by omega)).trans kM6), (h w.heap.size (by omega) (by omega) (by omega) (by omega)).trans ((hb.block _ (by omega)).trans kT), (h (w.heap.size + 1) (by omega) (by omega) (by omega) (by omega)).trans ((hb.block _ (by omega)).trans kA), fun q hq h1 h2 h3 => (h q (by omega) h1 h2 h3).trans ((hb.block q (by omega)).trans (hal.block q hq))⟩ : w9.heap[mc]? = _ ∧ w9.heap[w.heap.size]? = _ ∧ w9.heap[w.heap.size + 1]? = _ ∧ ∀ q, q < w.heap.size → q ≠ S → q ≠ M → q ≠ m → w9.heap[q]? = w.heap[q]?))
  have HR := Lib.hid (fun (X w9 : World) (o : Obj) (hr : X.heap[w6.heap.size]? = some o) (h : ∀ q, q < X.heap.size → q ≠ S → q ≠ M → q ≠ m → w9.heap[q]? = X.heap[q]?) => ((h _ (lt_of_some hr) (by omega) (by omega) (by omega)).trans hr : w9.heap[w6.heap.size]? = _))
  have nA : ¬ mc = w6.heap.size := by omega
  have nB : ¬ w.heap.size = w6.heap.size := by omega
  have nC : ¬ w.heap.size + 1 = w6.heap.size := by omega
  clear q1 kA kT kM6 hS1 hz6
  refine wp_region_held_drew (S := (fun X => X.cell? ⟨mc, 1, none⟩ = some (.pointer (some ⟨S, 0, none⟩)) ∧ X.cell? ⟨w.heap.size, 1, none⟩ = some (.int .i64 0))) (by kernel_rfl) ((by go_keep)) (fun hHeld => ?_)
  try simp only [Act.put, List.setIfInBounds_toArray, List.set_cons_zero, List.set_cons_succ]
  refine wpAnyH_take (i := 0) (v := ?_) (by simp only [List.getElem?_toArray, List.getElem?_cons_succ, List.getElem?_cons_zero]; rfl) (by kernel_rfl) (by kernel_rfl) (by kernel_rfl) (by exact fun _ _ _ h => h) (Or.inl ⟨by rfl, ?_⟩) (by assumption) ?_
  rotate_left
  · intro w hSw; (try dsimp only at hSw); go_simp; try with_reducible rfl
  try simp only [Act.put, List.setIfInBounds_toArray, List.set_cons_zero, List.set_cons_succ]
  refine wpAnyH_take (i := 1) (v := ?_) (by simp only [List.getElem?_toArray, List.getElem?_cons_succ, List.getElem?_cons_zero]; rfl) (by kernel_rfl) (by kernel_rfl) (by kernel_rfl) (by exact fun _ _ _ h => h) (Or.inl ⟨by rfl, ?_⟩) (by assumption) ?_
  rotate_left
  · intro w hSw; (try dsimp only at hSw); go_simp; try with_reducible rfl
  try simp only [Act.put, List.setIfInBounds_toArray, List.set_cons_zero, List.set_cons_succ]
  refine wpAnyH_take (i := 2) (v := ?_) (by simp only [List.getElem?_toArray, List.getElem?_cons_succ, List.getElem?_cons_zero]; rfl) (by kernel_rfl) (by kernel_rfl) (by kernel_rfl) (by exact fun _ _ _ h => h) (Or.inl ⟨by rfl, ?_⟩) (by assumption) ?_
  rotate_left
  · intro w hSw; (try dsimp only at hSw); go_simp; try with_reducible rfl
  try simp only [Act.put, List.setIfInBounds_toArray, List.set_cons_zero, List.set_cons_succ]
  refine wpAnyH_take (i := 3) (v := ?_) (by simp only [List.getElem?_toArray, List.getElem?_cons_succ, List.getElem?_cons_zero]; rfl) (by kernel_rfl) (by kernel_rfl) (by kernel_rfl) (by exact fun _ _ _ h => h) (Or.inl ⟨by rfl, ?_⟩) (by assumption) ?_
  rotate_left
  · intro w hSw; (try dsimp only at hSw); go_simp; try with_reducible rfl
  try simp only [Act.put, List.setIfInBounds_toArray, List.set_cons_zero, List.set_cons_succ]
  refine wpAnyH_take (i := 4) (v := ?_) (by simp only [List.getElem?_toArray, List.getElem?_cons_succ, List.getElem?_cons_zero]; rfl) (by kernel_rfl) (by kernel_rfl) (by kernel_rfl) (by exact fun _ _ _ h => h) (Or.inl ⟨by rfl, ?_⟩) (by assumption) ?_
  rotate_left
  · intro w hSw; (try dsimp only at hSw); go_simp; try with_reducible rfl
  try simp only [Act.put, List.setIfInBounds_toArray, List.set_cons_zero, List.set_cons_succ]
  refine wpAnyH_take (i := 5) (v := ?_) (by simp only [List.getElem?_toArray, List.getElem?_cons_succ, List.getElem?_cons_zero]; rfl) (by kernel_rfl) (by kernel_rfl) (by kernel_rfl) (by exact fun _ _ _ h => h) (Or.inl ⟨by rfl, ?_⟩) (by assumption) ?_
  rotate_left
  · intro w hSw; (try dsimp only at hSw); go_simp; try with_reducible rfl
  try simp only [Act.put, List.setIfInBounds_toArray, List.set_cons_zero, List.set_cons_succ]
  refine wpAnyH_ready (rs := [6, 11]) (by kernel_rfl) (by simp) ?_
  refine AllReadyH.cons (by simp only [List.getElem?_toArray, List.getElem?_cons_succ, List.getElem?_cons_zero]; rfl) (fun K hK => ?_) (AllReadyH.cons (by simp only [List.getElem?_toArray, List.getElem?_cons_succ, List.getElem?_cons_zero]; rfl) (fun K hK => ?_) AllReadyH.nil)
  · go_simp
    refine (HCS.out _ (by repeat (first | exact Below.refl _ _ | apply below_dr | apply below_dn | apply below_al))).mono ?_; rintro x w9 ⟨rfl, s0, s10, hb9, ho9⟩; obtain ⟨kM9, kT9, kA9, kO9⟩ := HX.out _ w9 (by repeat (first | exact Below.refl _ _ | apply below_dr | apply below_dn | apply below_al)) ho9; have e0 := cell_at kM9 1; have e1 := cell_at kT9 1
    try go_simp
    refine hK.out _ _ ((by first | go_keep | (simp only [cell_ne _ _ _ _ _ _ nA, cell_ne _ _ _ _ _ _ nB]; exact ⟨e0, e1⟩))) (fun hHeld => ?_)
    clear hK K
    try simp only [Act.put, List.setIfInBounds_toArray, List.set_cons_zero, List.set_cons_succ]
    refine wpAnyH_take (i := 7) (v := ?_) (by simp only [List.getElem?_toArray, List.getElem?_cons_succ, List.getElem?_cons_zero]; rfl) (by kernel_rfl) (by kernel_rfl) (by kernel_rfl) (by exact fun _ _ _ h => h) (Or.inl ⟨by rfl, ?_⟩) (by assumption) ?_
    rotate_left
    · intro w hSw; (try dsimp only at hSw); go_simp; try with_reducible rfl
    try simp only [Act.put, List.setIfInBounds_toArray, List.set_cons_zero, List.set_cons_succ]
    refine wpAnyH_take (i := 8) (v := ?_) (by simp only [List.getElem?_toArray, List.getElem?_cons_succ, List.getElem?_cons_zero]; rfl) (by kernel_rfl) (by kernel_rfl) (by kernel_rfl) (by exact fun _ _ _ h => h) (Or.inl ⟨by rfl, ?_⟩) (by assumption) ?_
    rotate_left
    · intro w hSw; (try dsimp only at hSw); go_simp; try with_reducible rfl
    try simp only [Act.put, List.setIfInBounds_toArray, List.set_cons_zero, List.set_cons_succ]
    refine wpAnyH_take (i := 9) (v := ?_) (by simp only [List.getElem?_toArray, List.getElem?_cons_succ, List.getElem?_cons_zero]; rfl) (by kernel_rfl) (by kernel_rfl) (by kernel_rfl) (by exact fun _ _ _ h => h) (Or.inl ⟨by rfl, ?_⟩) (by assumption) ?_
    rotate_left
    · intro w hSw; (try dsimp only at hSw); go_simp; try with_reducible rfl
    try simp only [Act.put, List.setIfInBounds_toArray, List.set_cons_zero, List.set_cons_succ]
    refine wpAnyH_take (i := 10) (v := ?_) (by simp only [List.getElem?_toArray, List.getElem?_cons_succ, List.getElem?_cons_zero]; rfl) (by kernel_rfl) (by kernel_rfl) (by kernel_rfl) (by exact fun _ _ _ h => h) (Or.inl ⟨by rfl, ?_⟩) (by assumption) ?_
    rotate_left
    · intro w hSw; (try dsimp only at hSw); go_simp; try with_reducible rfl
    try simp only [Act.put, List.setIfInBounds_toArray, List.set_cons_zero, List.set_cons_succ]
    refine wpAnyH_ready (rs := [11]) (by kernel_rfl) (by simp) ?_
    refine AllReadyH.cons (by simp only [List.getElem?_toArray, List.getElem?_cons_succ, List.getElem?_cons_zero]; rfl) (fun K hK => ?_) AllReadyH.nil
    go_simp
    refine hK.out _ _ ((by first | go_keep | (simp only [cell_ne _ _ _ _ _ _ nA, cell_ne _ _ _ _ _ _ nB]; exact ⟨e0, e1⟩))) (fun hHeld => ?_)
    clear hK K
    try simp only [Act.put, List.setIfInBounds_toArray, List.set_cons_zero, List.set_cons_succ]
    refine wpAnyH_ready (rs := [12]) (by kernel_rfl) (by simp) ?_
    refine AllReadyH.cons (by simp only [List.getElem?_toArray, List.getElem?_cons_succ, List.getElem?_cons_zero]; rfl) (fun K hK => ?_) AllReadyH.nil
    go_simp
    refine hK.out _ _ ((by first | go_keep | (simp only [cell_ne _ _ _ _ _ _ nA, cell_ne _ _ _ _ _ _ nB]; exact ⟨e0, e1⟩))) (fun hHeld => ?_)
    clear hK K
    try simp only [Act.put, List.setIfInBounds_toArray, List.set_cons_zero, List.set_cons_succ]
    refine wpAnyH_take (i := 13) (v := ?_) (by simp only [List.getElem?_toArray, List.getElem?_cons_succ, List.getElem?_cons_zero]; rfl) (by kernel_rfl) (by kernel_rfl) (by kernel_rfl) (by exact fun _ _ _ h => h) (Or.inl ⟨by rfl, ?_⟩) (by assumption) ?_
    rotate_left
    · intro w hSw; (try dsimp only at hSw); go_simp; try with_reducible rfl
    try simp only [Act.put, List.setIfInBounds_toArray, List.set_cons_zero, List.set_cons_succ]
    refine wpAnyH_take (i := 14) (v := ?_) (by simp only [List.getElem?_toArray, List.getElem?_cons_succ, List.getElem?_cons_zero]; rfl) (by kernel_rfl) (by kernel_rfl) (by kernel_rfl) (by exact fun _ _ _ h => h) (Or.inl ⟨by rfl, ?_⟩) (by assumption) ?_
    rotate_left
    · intro w hSw; (try dsimp only at hSw); go_simp; try with_reducible rfl
    try simp only [Act.put, List.setIfInBounds_toArray, List.set_cons_zero, List.set_cons_succ]
    refine wpAnyH_done (by kernel_rfl) ?_ _
    have hA1 := below_al (Below.refl _ w9) (.cells #[.int .i64 0, .string ⟨#[]⟩, .bool false, .int .i64 1] 72 (0, 0))
    have kAX := (hA1.block _ (lt_of_some kA9)).trans kA9
    have kRX := new_block w9 (.cells #[.int .i64 0, .string ⟨#[]⟩, .bool false, .int .i64 1] 72 (0, 0))
    have kMX := (hA1.block _ (lt_of_some kM9)).trans kM9
    have kBX := bl hb9 hA1
    have hzq := hb9.size
    have hz9 := lt_of_some kA9
    have kOX := fun (q : Nat) (hq : q < w.heap.size) (h1 : q ≠ S) (h2 : q ≠ M) (h3 : q ≠ m) => (hA1.block q (by omega)).trans (kO9 q hq h1 h2 h3)
    clear hHeld s0 s10 p1 p2 e0 e1
    revert kAX kRX kMX kBX kOX
    generalize (w9.alloc (.cells #[.int .i64 0, .string ⟨#[]⟩, .bool false, .int .i64 1] 72 (0, 0))) = wX
    intro kAX kRX kMX kBX kOX
    have a0 := cell_at kAX 0
    have a1 := cell_at kAX 1
    have a2 := cell_at kAX 2
    have a3 := cell_at kAX 3
    have a4 := cell_at kAX 4
    have a5 := cell_at kAX 5
    have b0 := frozen_at kAX 0
    have b1 := frozen_at kAX 1
    have b2 := frozen_at kAX 2
    have b3 := frozen_at kAX 3
    have b4 := frozen_at kAX 4
    have b5 := frozen_at kAX 5
    have d0 := cell_at kRX 0
    have d1 := cell_at kRX 1
    have d2 := cell_at kRX 2
    have d3 := cell_at kRX 3
    go_wp2_with fail
    have kF := set6 kAX (.int .i64 0) (.int .i64 0) (.string ⟨#[]⟩) (.bool false) (.int .i64 1) (.bool true)
    have kN := fun (q : Nat) (h : q ≠ w.heap.size + 1) => set6_ne wX (w.heap.size + 1) q (.int .i64 0) (.int .i64 0) (.string ⟨#[]⟩) (.bool false) (.int .i64 1) (.bool true) h
    have kB := set6_below kBX (g := w.heap.size + 1) (by omega) (.int .i64 0) (.int .i64 0) (.string ⟨#[]⟩) (.bool false) (.int .i64 1) (.bool true)
    clear a0 b0 a1 b1 a2 b2 a3 b3 a4 b4 a5 b5 d0 d1 d2 d3
    revert kF kN kB
    generalize (((((wX.setCell ⟨w.heap.size + 1, 0, none⟩ (.int .i64 0)).setCell ⟨w.heap.size + 1, 1, none⟩ (.int .i64 0)).setCell ⟨w.heap.size + 1, 2, none⟩ (.string ⟨#[]⟩)).setCell ⟨w.heap.size + 1, 3, none⟩ (.bool false)).setCell ⟨w.heap.size + 1, 4, none⟩ (.int .i64 1)).setCell ⟨w.heap.size + 1, 5, none⟩ (.bool true) = w5
    intro kF kN kB
    have r0 := cell_at kF 0
    have r1 := cell_at kF 1
    have r2 := cell_at kF 2
    have r3 := cell_at kF 3
    have r4 := cell_at kF 4
    have r5 := cell_at kF 5
    refine bodyPost_ret (v := .agg #[.int .i64 0, .int .i64 0, .string ⟨#[]⟩, .bool false, .int .i64 1, .bool true]) (by simp [results, Tryz.results37, go_sem, r0, r1, r2, r3, r4, r5]) rfl ⟨rfl, kB, fun q hq h1 h2 h3 => (kN q (by omega)).trans (kOX q hq h1 h2 h3)⟩
  · go_simp
    refine hK.out _ _ ((by first | go_keep | (simp only [cell_ne _ _ _ _ _ _ nA, cell_ne _ _ _ _ _ _ nB]; exact ⟨e0, e1⟩))) (fun hHeld => ?_)
    clear hK K
    try simp only [Act.put, List.setIfInBounds_toArray, List.set_cons_zero, List.set_cons_succ]
    refine wpAnyH_ready (rs := [6]) (by kernel_rfl) (by simp) ?_
    refine AllReadyH.cons (by simp only [List.getElem?_toArray, List.getElem?_cons_succ, List.getElem?_cons_zero]; rfl) (fun K hK => ?_) AllReadyH.nil
    go_simp
    refine (HCS.out _ (by repeat (first | exact Below.refl _ _ | apply below_dr | apply below_dn | apply below_al))).mono ?_; rintro x w9 ⟨rfl, s0, s10, hb9, ho9⟩; obtain ⟨kM9, kT9, kA9, kO9⟩ := HX.out _ w9 (by repeat (first | exact Below.refl _ _ | apply below_dr | apply below_dn | apply below_al)) ho9; have e0 := cell_at kM9 1; have e1 := cell_at kT9 1; have kR9 := HR.out _ w9 _ (new_block w6 _) ho9; have r0 := cell_at kR9 0; have r1 := cell_at kR9 1; have r2 := cell_at kR9 2; have r3 := cell_at kR9 3; have f0 := frozen_at kR9 0; have f1 := frozen_at kR9 1; have f2 := frozen_at kR9 2; have f3 := frozen_at kR9 3
    try go_simp
    refine hK.out _ _ ((by first | go_keep | (simp only [cell_ne _ _ _ _ _ _ nA, cell_ne _ _ _ _ _ _ nB]; exact ⟨e0, e1⟩))) (fun hHeld => ?_)
    clear hK K
    try simp only [Act.put, List.setIfInBounds_toArray, List.set_cons_zero, List.set_cons_succ]
    refine wpAnyH_take (i := 7) (v := ?_) (by simp only [List.getElem?_toArray, List.getElem?_cons_succ, List.getElem?_cons_zero]; rfl) (by kernel_rfl) (by kernel_rfl) (by kernel_rfl) (by exact fun _ _ _ h => h) (Or.inl ⟨by rfl, ?_⟩) (by assumption) ?_
    rotate_left
    · intro w hSw; (try dsimp only at hSw); go_simp; try with_reducible rfl
    try simp only [Act.put, List.setIfInBounds_toArray, List.set_cons_zero, List.set_cons_succ]
    refine wpAnyH_take (i := 8) (v := ?_) (by simp only [List.getElem?_toArray, List.getElem?_cons_succ, List.getElem?_cons_zero]; rfl) (by kernel_rfl) (by kernel_rfl) (by kernel_rfl) (by exact fun _ _ _ h => h) (Or.inl ⟨by rfl, ?_⟩) (by assumption) ?_
    rotate_left
    · intro w hSw; (try dsimp only at hSw); go_simp; try with_reducible rfl
    try simp only [Act.put, List.setIfInBounds_toArray, List.set_cons_zero, List.set_cons_succ]
    refine wpAnyH_take (i := 9) (v := ?_) (by simp only [List.getElem?_toArray, List.getElem?_cons_succ, List.getElem?_cons_zero]; rfl) (by kernel_rfl) (by kernel_rfl) (by kernel_rfl) (by exact fun _ _ _ h => h) (Or.inl ⟨by rfl, ?_⟩) (by assumption) ?_
    rotate_left
    · intro w hSw; (try dsimp only at hSw); go_simp; try with_reducible rfl
    try simp only [Act.put, List.setIfInBounds_toArray, List.set_cons_zero, List.set_cons_succ]
    refine wpAnyH_take (i := 10) (v := ?_) (by simp only [List.getElem?_toArray, List.getElem?_cons_succ, List.getElem?_cons_zero]; rfl) (by kernel_rfl) (by kernel_rfl) (by kernel_rfl) (by exact fun _ _ _ h => h) (Or.inl ⟨by rfl, ?_⟩) (by assumption) ?_
    rotate_left
    · intro w hSw; (try dsimp only at hSw); go_simp; try with_reducible rfl
    try simp only [Act.put, List.setIfInBounds_toArray, List.set_cons_zero, List.set_cons_succ]
    refine wpAnyH_ready (rs := [12]) (by kernel_rfl) (by simp) ?_
    refine AllReadyH.cons (by simp only [List.getElem?_toArray, List.getElem?_cons_succ, List.getElem?_cons_zero]; rfl) (fun K hK => ?_) AllReadyH.nil
    go_simp
    refine hK.out _ _ ((by first | go_keep | (simp only [cell_ne _ _ _ _ _ _ nA, cell_ne _ _ _ _ _ _ nB]; exact ⟨e0, e1⟩))) (fun hHeld => ?_)
    clear hK K
    try simp only [Act.put, List.setIfInBounds_toArray, List.set_cons_zero, List.set_cons_succ]
    refine wpAnyH_take (i := 13) (v := ?_) (by simp only [List.getElem?_toArray, List.getElem?_cons_succ, List.getElem?_cons_zero]; rfl) (by kernel_rfl) (by kernel_rfl) (by kernel_rfl) (by exact fun _ _ _ h => h) (Or.inl ⟨by rfl, ?_⟩) (by assumption) ?_
    rotate_left
    · intro w hSw; (try dsimp only at hSw); go_simp; try with_reducible rfl
    try simp only [Act.put, List.setIfInBounds_toArray, List.set_cons_zero, List.set_cons_succ]
    refine wpAnyH_take (i := 14) (v := ?_) (by simp only [List.getElem?_toArray, List.getElem?_cons_succ, List.getElem?_cons_zero]; rfl) (by kernel_rfl) (by kernel_rfl) (by kernel_rfl) (by exact fun _ _ _ h => h) (Or.inl ⟨by rfl, ?_⟩) (by assumption) ?_
    rotate_left
    · intro w hSw; (try dsimp only at hSw); go_simp; try with_reducible rfl
    try simp only [Act.put, List.setIfInBounds_toArray, List.set_cons_zero, List.set_cons_succ]
    refine wpAnyH_done (by kernel_rfl) ?_ _
    have kAX := (set4_ne w9 w6.heap.size (w.heap.size + 1) (.int .i64 0) (.string ⟨#[]⟩) (.bool false) (.int .i64 1) nC).trans kA9
    have kRX := set4 kR9 (.int .i64 0) (.string ⟨#[]⟩) (.bool false) (.int .i64 1)
    have kMX := (set4_ne w9 w6.heap.size mc (.int .i64 0) (.string ⟨#[]⟩) (.bool false) (.int .i64 1) nA).trans kM9
    have hzq := kb6.size
    have kBX := set4_below hb9 hzq (.int .i64 0) (.string ⟨#[]⟩) (.bool false) (.int .i64 1)
    have kOX := fun (q : Nat) (hq : q < w.heap.size) (h1 : q ≠ S) (h2 : q ≠ M) (h3 : q ≠ m) => (set4_ne w9 w6.heap.size q (.int .i64 0) (.string ⟨#[]⟩) (.bool false) (.int .i64 1) (by have := HZ6.out; omega)).trans (kO9 q hq h1 h2 h3)
    clear hHeld s0 s10 p1 p2 e0 e1 r0 r1 r2 r3 f0 f1 f2 f3
    revert kAX kRX kMX kBX kOX
    generalize ((((w9.setCell ⟨w6.heap.size, 0, none⟩ (.int .i64 0)).setCell ⟨w6.heap.size, 1, none⟩ (.string ⟨#[]⟩)).setCell ⟨w6.heap.size, 2, none⟩ (.bool false)).setCell ⟨w6.heap.size, 3, none⟩ (.int .i64 1)) = wX
    intro kAX kRX kMX kBX kOX
    have a0 := cell_at kAX 0
    have a1 := cell_at kAX 1
    have a2 := cell_at kAX 2
    have a3 := cell_at kAX 3
    have a4 := cell_at kAX 4
    have a5 := cell_at kAX 5
    have b0 := frozen_at kAX 0
    have b1 := frozen_at kAX 1
    have b2 := frozen_at kAX 2
    have b3 := frozen_at kAX 3
    have b4 := frozen_at kAX 4
    have b5 := frozen_at kAX 5
    have d0 := cell_at kRX 0
    have d1 := cell_at kRX 1
    have d2 := cell_at kRX 2
    have d3 := cell_at kRX 3
    go_wp2_with fail
    have kF := set6 kAX (.int .i64 0) (.int .i64 0) (.string ⟨#[]⟩) (.bool false) (.int .i64 1) (.bool true)
    have kN := fun (q : Nat) (h : q ≠ w.heap.size + 1) => set6_ne wX (w.heap.size + 1) q (.int .i64 0) (.int .i64 0) (.string ⟨#[]⟩) (.bool false) (.int .i64 1) (.bool true) h
    have kB := set6_below kBX (g := w.heap.size + 1) (by omega) (.int .i64 0) (.int .i64 0) (.string ⟨#[]⟩) (.bool false) (.int .i64 1) (.bool true)
    clear a0 b0 a1 b1 a2 b2 a3 b3 a4 b4 a5 b5 d0 d1 d2 d3
    revert kF kN kB
    generalize (((((wX.setCell ⟨w.heap.size + 1, 0, none⟩ (.int .i64 0)).setCell ⟨w.heap.size + 1, 1, none⟩ (.int .i64 0)).setCell ⟨w.heap.size + 1, 2, none⟩ (.string ⟨#[]⟩)).setCell ⟨w.heap.size + 1, 3, none⟩ (.bool false)).setCell ⟨w.heap.size + 1, 4, none⟩ (.int .i64 1)).setCell ⟨w.heap.size + 1, 5, none⟩ (.bool true) = w5
    intro kF kN kB
    have r0 := cell_at kF 0
    have r1 := cell_at kF 1
    have r2 := cell_at kF 2
    have r3 := cell_at kF 3
    have r4 := cell_at kF 4
    have r5 := cell_at kF 5
    refine bodyPost_ret (v := .agg #[.int .i64 0, .int .i64 0, .string ⟨#[]⟩, .bool false, .int .i64 1, .bool true]) (by simp [results, Tryz.results37, go_sem, r0, r1, r2, r3, r4, r5]) rfl ⟨rfl, kB, fun q hq h1 h2 h3 => (kN q (by omega)).trans (kOX q hq h1 h2 h3)⟩
end Go.Proofs.YtpgpphmpnebafaaGreat.Cr

/- law19's awake, and a nil machine, by walks. -/
namespace Go.Proofs.YtpgpphmpnebafaaGreat.Cr
open Go.RowKit Go.Proofs.YtpgpphmpnebafaaGreat.By Go.Proofs.YtpgpphmpnebafaaGreat.Mt Go.Proofs.YtpgpphmpnebafaaGreat.Fm Go.Proofs.YtpgpphmpnebafaaGreat.Lg Go.Proofs.YtpgpphmpnebafaaGreat.Cm Go.Proofs.YtpgpphmpnebafaaGreat.St
set_option linter.unusedSimpArgs false
set_option linter.unusedVariables false
set_option maxRecDepth 100000

theorem dev_sizes {w : World} {F : Nat → Prop} {b : Nat} {P : List ByteArray} {Q : List (Nat × ByteArray)} (h : Dv.Dev w F b P Q) : ∀ s ∈ P, s.size = 256 := by
  obtain ⟨vp, vw, gs, hs, hd, _⟩ := h
  intro s hs
  obtain ⟨i, hi, he⟩ := List.mem_iff_getElem.1 hs
  have hl : gs.length = P.length := by have := hd.rowP.1; rw [List.length_map] at this; omega
  have hg : gs[i]? = some (gs[i]'(by omega)) := List.getElem?_eq_getElem (by omega)
  obtain ⟨s', h1, h2, _⟩ := hd.page i _ hg
  rw [List.getElem?_eq_getElem hi, he] at h1
  injection h1 with h1
  rw [h1]; exact h2
set_option maxHeartbeats 2000000 in
theorem awake19_any (w : World) : Calls Tryz.prog 33 #[] w fun x w' => x = .returned (.bool true) ∧ Below w.heap.size w w' := by
  have HN := Lib.hid (fun X => new_ok 9 X (by omega) (by omega))
  go_enter Tryz.func33, Tryz.ntmps33
  go_wp2_with fail
  refine (HN.out _).mono ?_
  rintro x w2 ⟨mc, b, S, M, g, c, m, L, p, k, A, w1, rfl, kmc, hdev, hst, hS, n1, n2, n3, n4, n5, n6, n7, hM, hm, hb1, u1, u2, u3⟩
  obtain ⟨arr, kS, hSA, km, kM, kc, hb12⟩ := hst
  have hSl := lt_of_some kS
  have hMl := lt_of_some kM.1
  have hmml := lt_of_some km
  have hgl := lt_of_some kM.2.1
  have hmcl := lt_of_some kmc
  have HC := Lib.hid (do_call mc S _ _ arr w2 kmc kS hSA.mem (hSA.none 10 (by omega) (by omega)) u1 w1 hb12 hS)
  have HP := Lib.hid (fun (w3 X : World) (k3 : w3.heap[S]? = some (.cells (arr.setIfInBounds 10 (snapV S)) 70 (0, 0))) (o3 : ∀ q, q < w2.heap.size → q ≠ S → w3.heap[q]? = w2.heap[q]?) (hX : Below w3.heap.size w3 X) (hb3 : Below w1.heap.size w1 w3) => by
    have up : ∀ {q : Nat} {v : Obj}, w3.heap[q]? = some v → X.heap[q]? = some v := fun h => (hX.block _ (lt_of_some h)).trans h
    exact do_pick mc S M g m _ _ _ _ X (up ((o3 mc hmcl u1).trans kmc)) (up k3) (by rw [Array.getElem?_setIfInBounds_ne (by omega)]; exact hSA.mem) (Array.getElem?_setIfInBounds_self_of_lt (by have := hSA.size; omega)) (by rw [Array.getElem?_setIfInBounds_ne (by omega)]; exact hSA.map) (by rw [Array.getElem?_setIfInBounds_ne (by omega)]; exact hSA.last) ⟨up ((o3 M hMl (Ne.symm n1)).trans kM.1), up ((o3 g hgl (Ne.symm n2)).trans kM.2.1), kM.2.2⟩ (up ((o3 m hmml (Ne.symm n4)).trans km)) ⟨n1, n2, n4, n5, n6⟩ w1 (bl hb3 hX) hS hM hm ⟨u1, u2, u3⟩)
  have HI := Lib.hid (fun (X : World) (k : X.heap[mc]? = some (.cells #[.pointer (some ⟨b, 0, none⟩), .pointer (some ⟨S, 0, none⟩), .int .i64 0] 93 (0, 0))) (hX : Below w1.heap.size w1 X) => image_at mc b _ _ X (cell_at k 0) (hdev.below hX))
  have HM := Lib.hid (fun (w3 X w4 : World) (o3 : ∀ q, q < w2.heap.size → q ≠ S → w3.heap[q]? = w2.heap[q]?) (hX : Below w3.heap.size w3 X) (hz3 : w2.heap.size ≤ w3.heap.size) (o4 : ∀ q, q < X.heap.size → q ≠ S → q ≠ M → q ≠ m → w4.heap[q]? = X.heap[q]?) => (by
    have e := (o3 mc hmcl u1).trans kmc
    have hz := hX.size
    exact ⟨(o4 mc (by omega) u1 u2 u3).trans ((hX.block _ (lt_of_some e)).trans e), fun hx => o4 _ hx (by omega) (by omega) (by omega)⟩ : w4.heap[mc]? = some (.cells #[.pointer (some ⟨b, 0, none⟩), .pointer (some ⟨S, 0, none⟩), .int .i64 0] 93 (0, 0)) ∧ (w3.heap.size < X.heap.size → w4.heap[w3.heap.size]? = X.heap[w3.heap.size]?)))
  have HB1 := Lib.hid hb1
  have HZ : Hid ((Dv.joinP (fmtP 9)).size = 2304) := Lib.hid (by rw [Dv.joinP_size (dev_sizes hdev), fmtP_length])
  clear hSl hMl hmml hgl hmcl kS hSA km kM kc kmc hdev hS n1 n2 n3 n4 n5 n6 n7 hM hm hb1 u1 u2 u3 hb12
  go_wp2_with fail
  refine HC.out.mono ?_
  rintro x w3 ⟨rfl, k3, o3, hb3, hz3⟩
  have kA := new_block w3 (.cells #[.int .i64 0, .int .i64 0, .string ⟨#[]⟩, .bool false, .int .i64 0, .bool false] 100 (0, 0))
  have hA := below_al (Below.refl _ w3) (.cells #[.int .i64 0, .int .i64 0, .string ⟨#[]⟩, .bool false, .int .i64 0, .bool false] 100 (0, 0))
  have HP1 := Lib.hid (HP.out w3 _ k3 o3 hA hb3)
  have HM1 := Lib.hid (fun w4 => HM.out w3 _ w4 o3 hA hz3)
  have HA := Lib.hid kA
  clear k3 o3 hb3 hz3 kA hA HP HM HC
  go_wp2_with fail
  refine HP1.out.mono ?_
  rintro x w4 ⟨rfl, hb4, o4⟩
  obtain ⟨km4, ka4⟩ := HM1.out w4 o4
  have kA4 := (ka4 (lt_of_some HA.out)).trans HA.out
  have hB := below_al (Below.refl _ w4) (.cells #[.int .i64 0, .int .i64 0, .string ⟨#[]⟩, .bool false, .int .i64 1, .bool true] 100 (0, 0))
  have HI1 := Lib.hid (HI.out _ ((hB.block _ (lt_of_some km4)).trans km4) (bl hb4 hB))
  have HB4 := Lib.hid (bl HB1.out (bl hb4 hB))
  have a0 := (cell_at ((hB.block _ (lt_of_some kA4)).trans kA4) 0)
  clear kA4 hB km4 ka4 o4 hb4 HM1 HP1 HI
  go_wp2_with fail
  refine HI1.out.mono ?_
  rintro x w5 ⟨v, rfl, ho, hb5⟩
  obtain ⟨A5, c5, rfl, hc5⟩ := own_slice ho
  rw [HZ.out]
  have HB5 := Lib.hid (bl HB4.out hb5)
  clear ho hb5 hc5 a0
  go_wp2_with fail
  go_ret
  exact ⟨rfl, HB5.out⟩
end Go.Proofs.YtpgpphmpnebafaaGreat.Cr

/- A nil machine; law19's few and CrashNil, by walks. -/
namespace Go.Proofs.YtpgpphmpnebafaaGreat.Cr
open Go.RowKit Go.Proofs.YtpgpphmpnebafaaGreat.By Go.Proofs.YtpgpphmpnebafaaGreat.Mt Go.Proofs.YtpgpphmpnebafaaGreat.Fm Go.Proofs.YtpgpphmpnebafaaGreat.Lg Go.Proofs.YtpgpphmpnebafaaGreat.Cm Go.Proofs.YtpgpphmpnebafaaGreat.St
set_option linter.unusedSimpArgs false
set_option linter.unusedVariables false
set_option maxRecDepth 100000

/-- A nil machine, or the zero one. -/
def Zm (w : World) (C : Option Addr) : Prop := C = none ∨ ∃ c, C = some ⟨c, 0, none⟩ ∧ w.heap[c]? = some (.cells #[.pointer none, .pointer none, .int .i64 0] 93 (0, 0))
theorem Zm.below {w w1 : World} {C : Option Addr} (h : Zm w C) (hb : Below w.heap.size w w1) : Zm w1 C := by
  rcases h with rfl | ⟨c, rfl, h⟩
  · exact .inl rfl
  · exact .inr ⟨c, rfl, (hb.block _ (lt_of_some h)).trans h⟩
theorem entries_nil (w : World) : Calls Tryz.prog 98 #[.pointer none] w fun x w' => x = .returned (.slice none 0 0) ∧ w = w' := by
  go_enter Tryz.func98, Tryz.ntmps98
  go_wp2_with fail
  go_ret
  exact ⟨rfl, rfl⟩
theorem kids_nil (w : World) : Calls Tryz.prog 103 #[.pointer none] w fun x w' => x = .returned (.slice none 0 0) ∧ w = w' := by
  go_enter Tryz.func103, Tryz.ntmps103
  go_wp2_with fail
  go_ret
  exact ⟨rfl, rfl⟩
theorem items_nil (w : World) : Calls Tryz.prog 69 #[.pointer none] w fun x w' => x = .returned (.slice none 0 0) ∧ w = w' := by
  have HE := Lib.hid (fun X => entries_nil X)
  have HK := Lib.hid (fun X => kids_nil X)
  go_enter Tryz.func69, Tryz.ntmps69
  go_wp2_with fail
  refine (HE.out _).mono ?_
  rintro x w9 ⟨rfl, rfl⟩
  go_wp2_with fail
  refine (HK.out _).mono ?_
  rintro x w9 ⟨rfl, rfl⟩
  go_wp2_with fail
  refine wp_loop_rounds 1 ?_
  rw [rounds_succ]
  go_wp2_with fail
  go_ret
  exact ⟨rfl, rfl⟩
theorem items_zm {C : Option Addr} {w : World} (h : Zm w C) : Calls Tryz.prog 38 #[.pointer C] w fun x w' => x = .returned (.slice none 0 0) ∧ w = w' := by
  have HT := Lib.hid (fun X : World => tree_zs (C := none) (w := X) (.inl rfl))
  have HI := Lib.hid (fun X : World => items_nil X)
  rcases h with rfl | ⟨c, rfl, h⟩
  · go_enter Tryz.func38, Tryz.ntmps38
    go_wp2_with fail
    go_ret
    exact ⟨rfl, rfl⟩
  · have d1 := cell_at h 1
    clear h
    go_enter Tryz.func38, Tryz.ntmps38
    go_wp2_with fail
    refine (HT.out _).mono ?_
    rintro x w9 ⟨rfl, rfl⟩
    go_wp2_with fail
    refine (HI.out _).mono ?_
    rintro x w9 ⟨rfl, rfl⟩
    go_wp2_with fail
    go_ret
    exact ⟨rfl, rfl⟩
theorem committed_zm {C : Option Addr} {w : World} (h : Zm w C) : Calls Tryz.prog 35 #[.pointer C] w fun x w' => x = .returned (.tuple #[.slice none 0 0, .int .i64 0]) ∧ Below w.heap.size w w' := by
  have HT := Lib.hid (fun X : World => committed_zs (C := none) (w := X) (.inl rfl))
  have HI := Lib.hid (fun X : World => items_nil X)
  rcases h with rfl | ⟨c, rfl, h⟩
  · go_enter Tryz.func35, Tryz.ntmps35
    go_wp2_with fail
    go_ret2
    exact ⟨rfl, Below.refl _ _⟩
  · have d1 := cell_at h 1
    clear h
    go_enter Tryz.func35, Tryz.ntmps35
    go_wp2_with fail
    refine (HT.out _).mono ?_
    rintro x w1 ⟨rfl, hb1⟩
    go_wp2_with fail
    refine (HI.out _).mono ?_
    rintro x w9 ⟨rfl, rfl⟩
    go_wp2_with fail
    go_ret2
    exact ⟨rfl, hb1⟩
theorem image_zm {C : Option Addr} {w : World} (h : Zm w C) : Calls Tryz.prog 39 #[.pointer C] w fun x w' => x = .returned (.slice none 0 0) ∧ w = w' := by
  have HT := Lib.hid (fun X : World => Dv.bytes_nil X)
  rcases h with rfl | ⟨c, rfl, h⟩
  · go_enter Tryz.func39, Tryz.ntmps39
    go_wp2_with fail
    go_ret
    exact ⟨rfl, rfl⟩
  · have d1 := cell_at h 0
    clear h
    go_enter Tryz.func39, Tryz.ntmps39
    go_wp2_with fail
    refine (HT.out _).mono ?_
    rintro x w9 ⟨rfl, rfl⟩
    go_wp2_with fail
    go_ret
    exact ⟨rfl, rfl⟩
theorem crashes_zm {C : Option Addr} {w : World} (h : Zm w C) : Calls Tryz.prog 40 #[.pointer C] w fun x w' => x = .returned (.int .i64 0) ∧ w = w' := by
  rcases h with rfl | ⟨c, rfl, h⟩
  · go_enter Tryz.func40, Tryz.ntmps40
    go_wp2_with fail
    go_ret
    exact ⟨rfl, rfl⟩
  · have d1 := cell_at h 2
    clear h
    go_enter Tryz.func40, Tryz.ntmps40
    go_wp2_with fail
    go_ret
    exact ⟨rfl, rfl⟩
theorem do_zm {C : Option Addr} {w : World} (h : Zm w C) (k who xk keep torn part : Int) (a b : ByteArray) : Calls Tryz.prog 37 #[.pointer C, .agg #[.int .i64 k, .int .i64 who, .int .i64 xk, .string a, .string b, .int .u64 keep, .int .i64 torn, .int .i64 part]] w fun x w' => x = .returned (.agg #[.int .i64 1, .int .i64 0, .string ⟨#[]⟩, .bool false, .int .i64 0, .bool false]) ∧ Below w.heap.size w w' := by
  have kB := blk2 w (.cells #[.int .i64 k, .int .i64 who, .int .i64 xk, .string a, .string b, .int .u64 keep, .int .i64 torn, .int .i64 part] 88 (0, 0)) (.cells #[.int .i64 1, .int .i64 0, .string ⟨#[]⟩, .bool false, .int .i64 0, .bool false] 100 (0, 0))
  have r0 := cell_at kB 0
  have r1 := cell_at kB 1
  have r2 := cell_at kB 2
  have r3 := cell_at kB 3
  have r4 := cell_at kB 4
  have r5 := cell_at kB 5
  have HR := Lib.hid (And.intro r0 (And.intro r1 (And.intro r2 (And.intro r3 (And.intro r4 r5)))))
  clear kB r0 r1 r2 r3 r4 r5
  rcases h with rfl | ⟨c, rfl, h⟩
  · go_enter Tryz.func37, Tryz.ntmps37
    go_wp2_with fail
    obtain ⟨r0, r1, r2, r3, r4, r5⟩ := HR.out
    exact bodyPost_ret (v := .agg #[.int .i64 1, .int .i64 0, .string ⟨#[]⟩, .bool false, .int .i64 0, .bool false]) (by simp [results, Tryz.results37, go_sem, r0, r1, r2, r3, r4, r5]) rfl ⟨rfl, (by repeat (first | exact Below.refl _ _ | assumption | apply below_dr | apply below_dn | apply below_al))⟩
  · have d1 := cell_at h 1
    have hl := lt_of_some h
    clear h
    go_enter Tryz.func37, Tryz.ntmps37
    go_wp2_with fail
    obtain ⟨r0, r1, r2, r3, r4, r5⟩ := HR.out
    exact bodyPost_ret (v := .agg #[.int .i64 1, .int .i64 0, .string ⟨#[]⟩, .bool false, .int .i64 0, .bool false]) (by simp [results, Tryz.results37, go_sem, r0, r1, r2, r3, r4, r5]) rfl ⟨rfl, (by repeat (first | exact Below.refl _ _ | assumption | apply below_dr | apply below_dn | apply below_al))⟩
set_option maxHeartbeats 1000000 in
theorem few_one (g c : Nat) (a b : ByteArray) (w : World) (c4 : w.cell? ⟨g, 3, none⟩ = some (.string a)) (c5 : w.cell? ⟨g, 4, none⟩ = some (.string b)) : Calls Tryz.prog 34 #[.slice (some ⟨g, 0, none⟩) 1 c] w fun x w' => x = .returned (.bool (decide (IntKind.i64.wrap ((a.size : Int) + (b.size : Int)) ≤ 2000))) ∧ Below w.heap.size w w' := by
  obtain ⟨v, hwp⟩ : ∃ v, IntKind.i64.wrap ((a.size : Int) + (b.size : Int)) = v := ⟨_, rfl⟩
  rw [hwp]
  by_cases h : v ≤ 2000
  · have t1 : decide ((2000 : Int) < v) = false := decide_eq_false (by omega)
    go_enter Tryz.func34, Tryz.ntmps34
    go_wp2_with fail
    refine wp_loop_rounds 2 ?_
    rw [rounds_succ]
    go_wp2_with fail
    go_region
    go_wp2_with fail
    rw [rounds_succ]
    go_wp2_with fail
    go_ret
    exact ⟨by simp [h], (by repeat (first | exact Below.refl _ _ | assumption | apply below_dr | apply below_dn | apply below_al))⟩
  · have t1 : decide ((2000 : Int) < v) = true := decide_eq_true (by omega)
    go_enter Tryz.func34, Tryz.ntmps34
    go_wp2_with fail
    refine wp_loop_rounds 2 ?_
    rw [rounds_succ]
    go_wp2_with fail
    go_region
    go_wp2_with fail
    go_ret
    exact ⟨by simp [h], (by repeat (first | exact Below.refl _ _ | assumption | apply below_dr | apply below_dn | apply below_al))⟩
theorem madeM_below {w w' : World} {n : Nat} {x : Ending} (h : MadeM w n x w') : Below w.heap.size w w' := by
  obtain ⟨mc, b, S, M, g, c, m, L, p, k, A, w1, _, _, _, ⟨_, _, _, _, _, _, hb⟩, _, _, _, _, _, _, _, _, _, _, hb1, _⟩ := h
  exact bl hb1 hb
set_option maxHeartbeats 4000000 in
theorem crashNil_yes (n : Nat) (h2 : 2 ≤ n) (h512 : n ≤ 512) (k who xk keep torn part : Int) (a b : ByteArray) (z : Bool) (w : World) : Calls Tryz.prog 6 #[.agg #[.int .i64 k, .int .i64 who, .int .i64 xk, .string a, .string b, .int .u64 keep, .int .i64 torn, .int .i64 part], .bool z, .int .i64 (n : Int)] w fun x w' => x = .returned (.bool true) ∧ Below w.heap.size w w' := by
  · have HNEW := Lib.hid (fun X => new_ok n X h2 h512)
    have p1 : decide ((2 : Int) ≤ (n : Int)) = true := decide_eq_true (by omega)
    have p2 : decide ((n : Int) ≤ 512) = true := decide_eq_true (by omega)
    clear h2 h512
    have HAW := Lib.hid (fun X => awake19_any X)
    have HFW := Lib.hid (fun g c X c4 c5 => few_one g c a b X c4 c5)
    have HCM := Lib.hid (fun (C : Option Addr) (X : World) (h : Zm X C) => committed_zm h)
    have HDO := Lib.hid (fun (C : Option Addr) (X : World) (h : Zm X C) => do_zm h k who xk keep torn part a b)
    have HIT := Lib.hid (fun (C : Option Addr) (X : World) (h : Zm X C) => items_zm h)
    have HIM := Lib.hid (fun (C : Option Addr) (X : World) (h : Zm X C) => image_zm h)
    have HCR := Lib.hid (fun (C : Option Addr) (X : World) (h : Zm X C) => crashes_zm h)
    have kO := new_block w (.cells #[.int .i64 k, .int .i64 who, .int .i64 xk, .string a, .string b, .int .u64 keep, .int .i64 torn, .int .i64 part] 88 (0, 0))
    have hO := below_al (Below.refl w.heap.size w) (.cells #[.int .i64 k, .int .i64 who, .int .i64 xk, .string a, .string b, .int .u64 keep, .int .i64 torn, .int .i64 part] 88 (0, 0))
    have HO := Lib.hid (And.intro kO hO)
    clear kO hO
    go_enter Tryz.func6, Tryz.ntmps6
    go_wp2_with fail
    refine (HAW.out _).mono ?_
    rintro x w1 ⟨rfl, hb1⟩
    have K1 := Lib.hid ((hb1.block _ (lt_of_some HO.out.1)).trans HO.out.1)
    have B1 := Lib.hid (bl HO.out.2 hb1)
    clear hb1
    have o0 := cell_at K1.out 0
    have o1 := cell_at K1.out 1
    have o2 := cell_at K1.out 2
    have o3 := cell_at K1.out 3
    have o4 := cell_at K1.out 4
    have o5 := cell_at K1.out 5
    have o6 := cell_at K1.out 6
    have o7 := cell_at K1.out 7
    go_wp2_with fail
    have kx := new_block w1 (.cells #[.int .i64 k, .int .i64 who, .int .i64 xk, .string a, .string b, .int .u64 keep, .int .i64 torn, .int .i64 part] 88 (0, 0))
    have hx := below_al (Below.refl w1.heap.size w1) (.cells #[.int .i64 k, .int .i64 who, .int .i64 xk, .string a, .string b, .int .u64 keep, .int .i64 torn, .int .i64 part] 88 (0, 0))
    refine (HFW.out w1.heap.size 1 _ (cell_at kx 3) (cell_at kx 4)).mono ?_
    rintro x w2 ⟨rfl, hb2⟩
    have hb12 := bl hx hb2
    have K2 := Lib.hid ((hb12.block _ (lt_of_some K1.out)).trans K1.out)
    have B2 := Lib.hid (bl B1.out hb12)
    clear hb2 hb12 kx hx
    clear o0 o1 o2 o3 o4 o5 o6 o7
    by_cases hf : IntKind.i64.wrap ((a.size : Int) + (b.size : Int)) ≤ 2000
    · have t1 : decide (IntKind.i64.wrap ((a.size : Int) + (b.size : Int)) ≤ 2000) = true := decide_eq_true hf
      have HF := Lib.hid hf
      clear hf
      cases z
      · have KZ := K2
        have BZ := B2
        have Z2 : Hid (Zm w2 none) := Lib.hid (.inl rfl)
        go_wp2_with fail
        refine (HCM.out _ _ Z2.out).mono ?_
        rintro x w3 ⟨rfl, hb3⟩
        have K3 := Lib.hid ((hb3.block _ (lt_of_some KZ.out)).trans KZ.out)
        have B3 := Lib.hid (bl BZ.out hb3)
        have Z3 := Lib.hid (Z2.out.below hb3)
        clear hb3
        go_wp2_with fail
        refine (HNEW.out w3).mono ?_
        rintro x w4 hmade
        obtain ⟨mc, db, S, M, g, c, m, L, p, kk, A, w41, rfl, kmc, hdev, hst, hS, n1, n2, n3, n4, n5, n6, n7, hM, hm, hb41, u1, u2, u3⟩ := hmade
        have hb4 : Below w3.heap.size w3 w4 := madeM_below ⟨mc, db, S, M, g, c, m, L, p, kk, A, w41, rfl, kmc, hdev, hst, hS, n1, n2, n3, n4, n5, n6, n7, hM, hm, hb41, u1, u2, u3⟩
        clear kmc hdev hst hS n1 n2 n3 n4 n5 n6 n7 hM hm hb41 u1 u2 u3
        have K4 := Lib.hid ((hb4.block _ (lt_of_some K3.out)).trans K3.out)
        have B4 := Lib.hid (bl B3.out hb4)
        have Z4 := Lib.hid (Z3.out.below hb4)
        clear hb4
        have hl4 := lt_of_some K4.out
        have o0 := cell_at K4.out 0
        have o1 := cell_at K4.out 1
        have o2 := cell_at K4.out 2
        have o3 := cell_at K4.out 3
        have o4 := cell_at K4.out 4
        have o5 := cell_at K4.out 5
        have o6 := cell_at K4.out 6
        have o7 := cell_at K4.out 7
        go_wp2_with fail
        refine (HDO.out _ _ Z4.out).mono ?_
        rintro x w5 ⟨rfl, hb5⟩
        have B5 := Lib.hid (bl B4.out hb5)
        have Z5 := Lib.hid (Z4.out.below hb5)
        clear hb5
        clear o0 o1 o2 o3 o4 o5 o6 o7
        go_wp2_with fail
        refine (HIT.out _ _ Z5.out).mono ?_
        rintro x w9 ⟨rfl, rfl⟩
        go_wp2_with fail
        refine (HIM.out _ _ Z5.out).mono ?_
        rintro x w9 ⟨rfl, rfl⟩
        go_wp2_with fail
        refine (HCR.out _ _ Z5.out).mono ?_
        rintro x w9 ⟨rfl, rfl⟩
        go_wp2_with fail
        go_ret
        exact ⟨rfl, B5.out⟩
      · have kz := new_block w2 (.cells #[.pointer none, .pointer none, .int .i64 0] 93 (0, 0))
        have hz := below_al (Below.refl w2.heap.size w2) (.cells #[.pointer none, .pointer none, .int .i64 0] 93 (0, 0))
        have KZ := Lib.hid ((hz.block _ (lt_of_some K2.out)).trans K2.out)
        have BZ := Lib.hid (bl B2.out hz)
        have Z2 : Hid (Zm (w2.alloc (.cells #[.pointer none, .pointer none, .int .i64 0] 93 (0, 0))) (some ⟨w2.heap.size, 0, none⟩)) := Lib.hid (.inr ⟨_, rfl, kz⟩)
        clear kz hz
        go_wp2_with fail
        refine (HCM.out _ _ Z2.out).mono ?_
        rintro x w3 ⟨rfl, hb3⟩
        have K3 := Lib.hid ((hb3.block _ (lt_of_some KZ.out)).trans KZ.out)
        have B3 := Lib.hid (bl BZ.out hb3)
        have Z3 := Lib.hid (Z2.out.below hb3)
        clear hb3
        go_wp2_with fail
        refine (HNEW.out w3).mono ?_
        rintro x w4 hmade
        obtain ⟨mc, db, S, M, g, c, m, L, p, kk, A, w41, rfl, kmc, hdev, hst, hS, n1, n2, n3, n4, n5, n6, n7, hM, hm, hb41, u1, u2, u3⟩ := hmade
        have hb4 : Below w3.heap.size w3 w4 := madeM_below ⟨mc, db, S, M, g, c, m, L, p, kk, A, w41, rfl, kmc, hdev, hst, hS, n1, n2, n3, n4, n5, n6, n7, hM, hm, hb41, u1, u2, u3⟩
        clear kmc hdev hst hS n1 n2 n3 n4 n5 n6 n7 hM hm hb41 u1 u2 u3
        have K4 := Lib.hid ((hb4.block _ (lt_of_some K3.out)).trans K3.out)
        have B4 := Lib.hid (bl B3.out hb4)
        have Z4 := Lib.hid (Z3.out.below hb4)
        clear hb4
        have hl4 := lt_of_some K4.out
        have o0 := cell_at K4.out 0
        have o1 := cell_at K4.out 1
        have o2 := cell_at K4.out 2
        have o3 := cell_at K4.out 3
        have o4 := cell_at K4.out 4
        have o5 := cell_at K4.out 5
        have o6 := cell_at K4.out 6
        have o7 := cell_at K4.out 7
        go_wp2_with fail
        refine (HDO.out _ _ Z4.out).mono ?_
        rintro x w5 ⟨rfl, hb5⟩
        have B5 := Lib.hid (bl B4.out hb5)
        have Z5 := Lib.hid (Z4.out.below hb5)
        clear hb5
        clear o0 o1 o2 o3 o4 o5 o6 o7
        go_wp2_with fail
        refine (HIT.out _ _ Z5.out).mono ?_
        rintro x w9 ⟨rfl, rfl⟩
        go_wp2_with fail
        refine (HIM.out _ _ Z5.out).mono ?_
        rintro x w9 ⟨rfl, rfl⟩
        go_wp2_with fail
        refine (HCR.out _ _ Z5.out).mono ?_
        rintro x w9 ⟨rfl, rfl⟩
        go_wp2_with fail
        go_ret
        exact ⟨rfl, B5.out⟩
    · have t1 : decide (IntKind.i64.wrap ((a.size : Int) + (b.size : Int)) ≤ 2000) = false := decide_eq_false hf
      go_wp2_with fail
      refine (HAW.out _).mono ?_
      rintro x w3 ⟨rfl, hb3⟩
      have B3 := Lib.hid (bl B2.out hb3)
      clear hb3
      go_wp2_with fail
      go_ret
      exact ⟨rfl, B3.out⟩
set_option maxHeartbeats 4000000 in
theorem crashNil_lo (pages : Int) (hp : pages < 2) (k who xk keep torn part : Int) (a b : ByteArray) (z : Bool) (w : World) : Calls Tryz.prog 6 #[.agg #[.int .i64 k, .int .i64 who, .int .i64 xk, .string a, .string b, .int .u64 keep, .int .i64 torn, .int .i64 part], .bool z, .int .i64 pages] w fun x w' => x = .returned (.bool true) ∧ Below w.heap.size w w' := by
  · have HNEW := Lib.hid (fun X => new_bad pages X (by omega))
    have p1 : decide ((2 : Int) ≤ pages) = false := decide_eq_false (by omega)
    clear hp
    have HAW := Lib.hid (fun X => awake19_any X)
    have HFW := Lib.hid (fun g c X c4 c5 => few_one g c a b X c4 c5)
    have HCM := Lib.hid (fun (C : Option Addr) (X : World) (h : Zm X C) => committed_zm h)
    have HDO := Lib.hid (fun (C : Option Addr) (X : World) (h : Zm X C) => do_zm h k who xk keep torn part a b)
    have HIT := Lib.hid (fun (C : Option Addr) (X : World) (h : Zm X C) => items_zm h)
    have HIM := Lib.hid (fun (C : Option Addr) (X : World) (h : Zm X C) => image_zm h)
    have HCR := Lib.hid (fun (C : Option Addr) (X : World) (h : Zm X C) => crashes_zm h)
    have kO := new_block w (.cells #[.int .i64 k, .int .i64 who, .int .i64 xk, .string a, .string b, .int .u64 keep, .int .i64 torn, .int .i64 part] 88 (0, 0))
    have hO := below_al (Below.refl w.heap.size w) (.cells #[.int .i64 k, .int .i64 who, .int .i64 xk, .string a, .string b, .int .u64 keep, .int .i64 torn, .int .i64 part] 88 (0, 0))
    have HO := Lib.hid (And.intro kO hO)
    clear kO hO
    go_enter Tryz.func6, Tryz.ntmps6
    go_wp2_with fail
    refine (HAW.out _).mono ?_
    rintro x w1 ⟨rfl, hb1⟩
    have K1 := Lib.hid ((hb1.block _ (lt_of_some HO.out.1)).trans HO.out.1)
    have B1 := Lib.hid (bl HO.out.2 hb1)
    clear hb1
    have o0 := cell_at K1.out 0
    have o1 := cell_at K1.out 1
    have o2 := cell_at K1.out 2
    have o3 := cell_at K1.out 3
    have o4 := cell_at K1.out 4
    have o5 := cell_at K1.out 5
    have o6 := cell_at K1.out 6
    have o7 := cell_at K1.out 7
    go_wp2_with fail
    have kx := new_block w1 (.cells #[.int .i64 k, .int .i64 who, .int .i64 xk, .string a, .string b, .int .u64 keep, .int .i64 torn, .int .i64 part] 88 (0, 0))
    have hx := below_al (Below.refl w1.heap.size w1) (.cells #[.int .i64 k, .int .i64 who, .int .i64 xk, .string a, .string b, .int .u64 keep, .int .i64 torn, .int .i64 part] 88 (0, 0))
    refine (HFW.out w1.heap.size 1 _ (cell_at kx 3) (cell_at kx 4)).mono ?_
    rintro x w2 ⟨rfl, hb2⟩
    have hb12 := bl hx hb2
    have K2 := Lib.hid ((hb12.block _ (lt_of_some K1.out)).trans K1.out)
    have B2 := Lib.hid (bl B1.out hb12)
    clear hb2 hb12 kx hx
    clear o0 o1 o2 o3 o4 o5 o6 o7
    by_cases hf : IntKind.i64.wrap ((a.size : Int) + (b.size : Int)) ≤ 2000
    · have t1 : decide (IntKind.i64.wrap ((a.size : Int) + (b.size : Int)) ≤ 2000) = true := decide_eq_true hf
      have HF := Lib.hid hf
      clear hf
      cases z
      · have KZ := K2
        have BZ := B2
        have Z2 : Hid (Zm w2 none) := Lib.hid (.inl rfl)
        go_wp2_with fail
        refine (HCM.out _ _ Z2.out).mono ?_
        rintro x w3 ⟨rfl, hb3⟩
        have K3 := Lib.hid ((hb3.block _ (lt_of_some KZ.out)).trans KZ.out)
        have B3 := Lib.hid (bl BZ.out hb3)
        have Z3 := Lib.hid (Z2.out.below hb3)
        clear hb3
        go_wp2_with fail
        refine (HNEW.out w3).mono ?_
        rintro x w4 ⟨rfl, rfl⟩
        have hb4 : Below w3.heap.size w3 w3 := Below.refl _ _
        have K4 := Lib.hid ((hb4.block _ (lt_of_some K3.out)).trans K3.out)
        have B4 := Lib.hid (bl B3.out hb4)
        have Z4 := Lib.hid (Z3.out.below hb4)
        clear hb4
        have hl4 := lt_of_some K4.out
        have o0 := cell_at K4.out 0
        have o1 := cell_at K4.out 1
        have o2 := cell_at K4.out 2
        have o3 := cell_at K4.out 3
        have o4 := cell_at K4.out 4
        have o5 := cell_at K4.out 5
        have o6 := cell_at K4.out 6
        have o7 := cell_at K4.out 7
        go_wp2_with fail
        refine (HDO.out _ _ Z4.out).mono ?_
        rintro x w5 ⟨rfl, hb5⟩
        have B5 := Lib.hid (bl B4.out hb5)
        have Z5 := Lib.hid (Z4.out.below hb5)
        clear hb5
        clear o0 o1 o2 o3 o4 o5 o6 o7
        go_wp2_with fail
        refine (HIT.out _ _ Z5.out).mono ?_
        rintro x w9 ⟨rfl, rfl⟩
        go_wp2_with fail
        refine (HIM.out _ _ Z5.out).mono ?_
        rintro x w9 ⟨rfl, rfl⟩
        go_wp2_with fail
        refine (HCR.out _ _ Z5.out).mono ?_
        rintro x w9 ⟨rfl, rfl⟩
        go_wp2_with fail
        go_ret
        exact ⟨rfl, B5.out⟩
      · have kz := new_block w2 (.cells #[.pointer none, .pointer none, .int .i64 0] 93 (0, 0))
        have hz := below_al (Below.refl w2.heap.size w2) (.cells #[.pointer none, .pointer none, .int .i64 0] 93 (0, 0))
        have KZ := Lib.hid ((hz.block _ (lt_of_some K2.out)).trans K2.out)
        have BZ := Lib.hid (bl B2.out hz)
        have Z2 : Hid (Zm (w2.alloc (.cells #[.pointer none, .pointer none, .int .i64 0] 93 (0, 0))) (some ⟨w2.heap.size, 0, none⟩)) := Lib.hid (.inr ⟨_, rfl, kz⟩)
        clear kz hz
        go_wp2_with fail
        refine (HCM.out _ _ Z2.out).mono ?_
        rintro x w3 ⟨rfl, hb3⟩
        have K3 := Lib.hid ((hb3.block _ (lt_of_some KZ.out)).trans KZ.out)
        have B3 := Lib.hid (bl BZ.out hb3)
        have Z3 := Lib.hid (Z2.out.below hb3)
        clear hb3
        go_wp2_with fail
        refine (HNEW.out w3).mono ?_
        rintro x w4 ⟨rfl, rfl⟩
        have hb4 : Below w3.heap.size w3 w3 := Below.refl _ _
        have K4 := Lib.hid ((hb4.block _ (lt_of_some K3.out)).trans K3.out)
        have B4 := Lib.hid (bl B3.out hb4)
        have Z4 := Lib.hid (Z3.out.below hb4)
        clear hb4
        have hl4 := lt_of_some K4.out
        have o0 := cell_at K4.out 0
        have o1 := cell_at K4.out 1
        have o2 := cell_at K4.out 2
        have o3 := cell_at K4.out 3
        have o4 := cell_at K4.out 4
        have o5 := cell_at K4.out 5
        have o6 := cell_at K4.out 6
        have o7 := cell_at K4.out 7
        go_wp2_with fail
        refine (HDO.out _ _ Z4.out).mono ?_
        rintro x w5 ⟨rfl, hb5⟩
        have B5 := Lib.hid (bl B4.out hb5)
        have Z5 := Lib.hid (Z4.out.below hb5)
        clear hb5
        clear o0 o1 o2 o3 o4 o5 o6 o7
        go_wp2_with fail
        refine (HIT.out _ _ Z5.out).mono ?_
        rintro x w9 ⟨rfl, rfl⟩
        go_wp2_with fail
        refine (HIM.out _ _ Z5.out).mono ?_
        rintro x w9 ⟨rfl, rfl⟩
        go_wp2_with fail
        refine (HCR.out _ _ Z5.out).mono ?_
        rintro x w9 ⟨rfl, rfl⟩
        go_wp2_with fail
        go_ret
        exact ⟨rfl, B5.out⟩
    · have t1 : decide (IntKind.i64.wrap ((a.size : Int) + (b.size : Int)) ≤ 2000) = false := decide_eq_false hf
      go_wp2_with fail
      refine (HAW.out _).mono ?_
      rintro x w3 ⟨rfl, hb3⟩
      have B3 := Lib.hid (bl B2.out hb3)
      clear hb3
      go_wp2_with fail
      go_ret
      exact ⟨rfl, B3.out⟩
set_option maxHeartbeats 4000000 in
theorem crashNil_hi (pages : Int) (hp : 512 < pages) (k who xk keep torn part : Int) (a b : ByteArray) (z : Bool) (w : World) : Calls Tryz.prog 6 #[.agg #[.int .i64 k, .int .i64 who, .int .i64 xk, .string a, .string b, .int .u64 keep, .int .i64 torn, .int .i64 part], .bool z, .int .i64 pages] w fun x w' => x = .returned (.bool true) ∧ Below w.heap.size w w' := by
  · have HNEW := Lib.hid (fun X => new_bad pages X (by omega))
    have p1 : decide ((2 : Int) ≤ pages) = true := decide_eq_true (by omega)
    have p2 : decide (pages ≤ 512) = false := decide_eq_false (by omega)
    clear hp
    have HAW := Lib.hid (fun X => awake19_any X)
    have HFW := Lib.hid (fun g c X c4 c5 => few_one g c a b X c4 c5)
    have HCM := Lib.hid (fun (C : Option Addr) (X : World) (h : Zm X C) => committed_zm h)
    have HDO := Lib.hid (fun (C : Option Addr) (X : World) (h : Zm X C) => do_zm h k who xk keep torn part a b)
    have HIT := Lib.hid (fun (C : Option Addr) (X : World) (h : Zm X C) => items_zm h)
    have HIM := Lib.hid (fun (C : Option Addr) (X : World) (h : Zm X C) => image_zm h)
    have HCR := Lib.hid (fun (C : Option Addr) (X : World) (h : Zm X C) => crashes_zm h)
    have kO := new_block w (.cells #[.int .i64 k, .int .i64 who, .int .i64 xk, .string a, .string b, .int .u64 keep, .int .i64 torn, .int .i64 part] 88 (0, 0))
    have hO := below_al (Below.refl w.heap.size w) (.cells #[.int .i64 k, .int .i64 who, .int .i64 xk, .string a, .string b, .int .u64 keep, .int .i64 torn, .int .i64 part] 88 (0, 0))
    have HO := Lib.hid (And.intro kO hO)
    clear kO hO
    go_enter Tryz.func6, Tryz.ntmps6
    go_wp2_with fail
    refine (HAW.out _).mono ?_
    rintro x w1 ⟨rfl, hb1⟩
    have K1 := Lib.hid ((hb1.block _ (lt_of_some HO.out.1)).trans HO.out.1)
    have B1 := Lib.hid (bl HO.out.2 hb1)
    clear hb1
    have o0 := cell_at K1.out 0
    have o1 := cell_at K1.out 1
    have o2 := cell_at K1.out 2
    have o3 := cell_at K1.out 3
    have o4 := cell_at K1.out 4
    have o5 := cell_at K1.out 5
    have o6 := cell_at K1.out 6
    have o7 := cell_at K1.out 7
    go_wp2_with fail
    have kx := new_block w1 (.cells #[.int .i64 k, .int .i64 who, .int .i64 xk, .string a, .string b, .int .u64 keep, .int .i64 torn, .int .i64 part] 88 (0, 0))
    have hx := below_al (Below.refl w1.heap.size w1) (.cells #[.int .i64 k, .int .i64 who, .int .i64 xk, .string a, .string b, .int .u64 keep, .int .i64 torn, .int .i64 part] 88 (0, 0))
    refine (HFW.out w1.heap.size 1 _ (cell_at kx 3) (cell_at kx 4)).mono ?_
    rintro x w2 ⟨rfl, hb2⟩
    have hb12 := bl hx hb2
    have K2 := Lib.hid ((hb12.block _ (lt_of_some K1.out)).trans K1.out)
    have B2 := Lib.hid (bl B1.out hb12)
    clear hb2 hb12 kx hx
    clear o0 o1 o2 o3 o4 o5 o6 o7
    by_cases hf : IntKind.i64.wrap ((a.size : Int) + (b.size : Int)) ≤ 2000
    · have t1 : decide (IntKind.i64.wrap ((a.size : Int) + (b.size : Int)) ≤ 2000) = true := decide_eq_true hf
      have HF := Lib.hid hf
      clear hf
      cases z
      · have KZ := K2
        have BZ := B2
        have Z2 : Hid (Zm w2 none) := Lib.hid (.inl rfl)
        go_wp2_with fail
        refine (HCM.out _ _ Z2.out).mono ?_
        rintro x w3 ⟨rfl, hb3⟩
        have K3 := Lib.hid ((hb3.block _ (lt_of_some KZ.out)).trans KZ.out)
        have B3 := Lib.hid (bl BZ.out hb3)
        have Z3 := Lib.hid (Z2.out.below hb3)
        clear hb3
        go_wp2_with fail
        refine (HNEW.out w3).mono ?_
        rintro x w4 ⟨rfl, rfl⟩
        have hb4 : Below w3.heap.size w3 w3 := Below.refl _ _
        have K4 := Lib.hid ((hb4.block _ (lt_of_some K3.out)).trans K3.out)
        have B4 := Lib.hid (bl B3.out hb4)
        have Z4 := Lib.hid (Z3.out.below hb4)
        clear hb4
        have hl4 := lt_of_some K4.out
        have o0 := cell_at K4.out 0
        have o1 := cell_at K4.out 1
        have o2 := cell_at K4.out 2
        have o3 := cell_at K4.out 3
        have o4 := cell_at K4.out 4
        have o5 := cell_at K4.out 5
        have o6 := cell_at K4.out 6
        have o7 := cell_at K4.out 7
        go_wp2_with fail
        refine (HDO.out _ _ Z4.out).mono ?_
        rintro x w5 ⟨rfl, hb5⟩
        have B5 := Lib.hid (bl B4.out hb5)
        have Z5 := Lib.hid (Z4.out.below hb5)
        clear hb5
        clear o0 o1 o2 o3 o4 o5 o6 o7
        go_wp2_with fail
        refine (HIT.out _ _ Z5.out).mono ?_
        rintro x w9 ⟨rfl, rfl⟩
        go_wp2_with fail
        refine (HIM.out _ _ Z5.out).mono ?_
        rintro x w9 ⟨rfl, rfl⟩
        go_wp2_with fail
        refine (HCR.out _ _ Z5.out).mono ?_
        rintro x w9 ⟨rfl, rfl⟩
        go_wp2_with fail
        go_ret
        exact ⟨rfl, B5.out⟩
      · have kz := new_block w2 (.cells #[.pointer none, .pointer none, .int .i64 0] 93 (0, 0))
        have hz := below_al (Below.refl w2.heap.size w2) (.cells #[.pointer none, .pointer none, .int .i64 0] 93 (0, 0))
        have KZ := Lib.hid ((hz.block _ (lt_of_some K2.out)).trans K2.out)
        have BZ := Lib.hid (bl B2.out hz)
        have Z2 : Hid (Zm (w2.alloc (.cells #[.pointer none, .pointer none, .int .i64 0] 93 (0, 0))) (some ⟨w2.heap.size, 0, none⟩)) := Lib.hid (.inr ⟨_, rfl, kz⟩)
        clear kz hz
        go_wp2_with fail
        refine (HCM.out _ _ Z2.out).mono ?_
        rintro x w3 ⟨rfl, hb3⟩
        have K3 := Lib.hid ((hb3.block _ (lt_of_some KZ.out)).trans KZ.out)
        have B3 := Lib.hid (bl BZ.out hb3)
        have Z3 := Lib.hid (Z2.out.below hb3)
        clear hb3
        go_wp2_with fail
        refine (HNEW.out w3).mono ?_
        rintro x w4 ⟨rfl, rfl⟩
        have hb4 : Below w3.heap.size w3 w3 := Below.refl _ _
        have K4 := Lib.hid ((hb4.block _ (lt_of_some K3.out)).trans K3.out)
        have B4 := Lib.hid (bl B3.out hb4)
        have Z4 := Lib.hid (Z3.out.below hb4)
        clear hb4
        have hl4 := lt_of_some K4.out
        have o0 := cell_at K4.out 0
        have o1 := cell_at K4.out 1
        have o2 := cell_at K4.out 2
        have o3 := cell_at K4.out 3
        have o4 := cell_at K4.out 4
        have o5 := cell_at K4.out 5
        have o6 := cell_at K4.out 6
        have o7 := cell_at K4.out 7
        go_wp2_with fail
        refine (HDO.out _ _ Z4.out).mono ?_
        rintro x w5 ⟨rfl, hb5⟩
        have B5 := Lib.hid (bl B4.out hb5)
        have Z5 := Lib.hid (Z4.out.below hb5)
        clear hb5
        clear o0 o1 o2 o3 o4 o5 o6 o7
        go_wp2_with fail
        refine (HIT.out _ _ Z5.out).mono ?_
        rintro x w9 ⟨rfl, rfl⟩
        go_wp2_with fail
        refine (HIM.out _ _ Z5.out).mono ?_
        rintro x w9 ⟨rfl, rfl⟩
        go_wp2_with fail
        refine (HCR.out _ _ Z5.out).mono ?_
        rintro x w9 ⟨rfl, rfl⟩
        go_wp2_with fail
        go_ret
        exact ⟨rfl, B5.out⟩
    · have t1 : decide (IntKind.i64.wrap ((a.size : Int) + (b.size : Int)) ≤ 2000) = false := decide_eq_false hf
      go_wp2_with fail
      refine (HAW.out _).mono ?_
      rintro x w3 ⟨rfl, hb3⟩
      have B3 := Lib.hid (bl B2.out hb3)
      clear hb3
      go_wp2_with fail
      go_ret
      exact ⟨rfl, B3.out⟩
theorem crashNil_any (k who xk keep torn part pages : Int) (a b : ByteArray) (z : Bool) (w : World) : Calls Tryz.prog 6 #[.agg #[.int .i64 k, .int .i64 who, .int .i64 xk, .string a, .string b, .int .u64 keep, .int .i64 torn, .int .i64 part], .bool z, .int .i64 pages] w fun x w' => x = .returned (.bool true) ∧ Below w.heap.size w w' := by
  by_cases h : pages < 2
  · exact crashNil_lo pages h k who xk keep torn part a b z w
  · by_cases h' : 512 < pages
    · exact crashNil_hi pages h' k who xk keep torn part a b z w
    · obtain ⟨n, rfl⟩ := Int.eq_ofNat_of_zero_le (show 0 ≤ pages by omega)
      exact crashNil_yes n (by omega) (by omega) k who xk keep torn part a b z w
end Go.Proofs.YtpgpphmpnebafaaGreat.Cr

/- Arguments as the caller hands them in: their cells, read. -/
namespace Go.Proofs.YtpgpphmpnebafaaGreat.Cr
open Go.RowKit Go.Deep Go.ChangeShapes Go.WideShapes Go.Proofs.YtpgpphmpnebafaaGreat.By
set_option linter.unusedSimpArgs false
set_option linter.unusedVariables false
set_option maxRecDepth 100000

section
variable {H : Type} {enc : TypeId × Value → H} {w : World} {base : Nat} {spare : Nat → Bool} {held : Bool}
def fieldsOf : TypeDesc → List (TypeId × Nat)
  | .struct fs => fs.toList.map (fun (f : Field) => (f.type, f.offset))
  | _ => []
structure CallR where
  f0 : Int
  f1 : ByteArray
  f2 : ByteArray
def CallR.cells (o : CallR) : List Value := [.int .i64 o.f0, .string o.f1, .string o.f2]
def CallR.Ok (o : CallR) : Prop := (Lit.int .i64 o.f0).wf = true ∧ o.f1.size ≤ maxLen ∧ o.f2.size ≤ maxLen
set_option maxRecDepth 100000 in
theorem call_struct : (Tryz.prog.underlying 56).map fieldsOf = some [(3, 0), (9, 1), (9, 2)] := by kernel_rfl
theorem call_cells : Tryz.prog.cellsOf 56 = 3 ∧ Tryz.prog.cellsOf 3 = 1 ∧ Tryz.prog.cellsOf 9 = 1 := ⟨by kernel_rfl, by kernel_rfl, by kernel_rfl⟩
set_option maxRecDepth 100000 in
theorem open_call {n : Nat} {cs : List Value} {y : DataW H × List MemPlace} (hl : cs.length = 3) (h : DataW.trod enc Tryz.prog w base spare held n 56 cs = some y) :
    ∃ o : CallR, cs = o.cells ∧ o.Ok := by
  obtain ⟨fs, hfs⟩ : ∃ fs, Tryz.prog.underlying 56 = some (.struct fs) := ⟨_, Tryz.underlying56⟩
  have hs := call_struct
  rw [hfs] at hs
  obtain ⟨-, z0, z1⟩ := call_cells
  obtain ⟨xs, k, _, _, _, hxl, hf⟩ := DataW.trod_struct hfs h
  have hs' : fs.toList.map (fun (f : Field) => (f.type, f.offset)) = [(3, 0), (9, 1), (9, 2)] := Option.some.inj hs
  have hfl : fs.size = 3 := by have := congrArg List.length hs'; simpa using this
  have at' : ∀ (j : Nat) (t : TypeId) (o : Nat), ([(3, 0), (9, 1), (9, 2)] : List (TypeId × Nat))[j]? = some (t, o) → ∃ f : Field, fs[j]? = some f ∧ f.type = t ∧ f.offset = o := by
    intro j t o hj
    rw [← hs', List.getElem?_map] at hj
    cases hfj : fs.toList[j]? with
    | none => rw [hfj] at hj; cases hj
    | some f =>
      rw [hfj] at hj
      have : (f.type, f.offset) = (t, o) := Option.some.inj hj
      exact ⟨f, by rw [← Array.getElem?_toList]; exact hfj, congrArg Prod.fst this, congrArg Prod.snd this⟩
  have hx5 : xs.length = 3 := hxl.trans hfl
  match cs, hl, xs, hx5 with
  | [v0, v1, v2], _, [x0, x1, x2], _ =>
    have get : ∀ (j : Nat) (t : TypeId) (o : Nat), ([(3, 0), (9, 1), (9, 2)] : List (TypeId × Nat))[j]? = some (t, o) → DataW.trod enc Tryz.prog w base spare held k t (([v0, v1, v2].drop o).take (Tryz.prog.cellsOf t)) = [x0, x1, x2][j]? := by
      intro j t o hj
      obtain ⟨f, hf1, rfl, rfl⟩ := at' j t o hj
      exact hf j f hf1
    have g0 := get 0 _ _ rfl
    rw [z0] at g0
    simp only [List.drop_succ_cons, List.drop_zero, List.take_succ_cons, List.take_zero] at g0
    obtain ⟨m0, h0, -, w0⟩ := DataW.trod_int Tryz.underlying3 g0
    simp only [List.cons.injEq, and_true] at h0
    subst h0
    have g1 := get 1 _ _ rfl
    rw [z1] at g1
    simp only [List.drop_succ_cons, List.drop_zero, List.take_succ_cons, List.take_zero] at g1
    obtain ⟨m1, h1, -, w1⟩ := DataW.trod_string Tryz.underlying9 g1
    simp only [List.cons.injEq, and_true] at h1
    subst h1
    have g2 := get 2 _ _ rfl
    rw [z1] at g2
    simp only [List.drop_succ_cons, List.drop_zero, List.take_succ_cons, List.take_zero] at g2
    obtain ⟨m2, h2, -, w2⟩ := DataW.trod_string Tryz.underlying9 g2
    simp only [List.cons.injEq, and_true] at h2
    subst h2
    exact ⟨⟨m0, m1, m2⟩, rfl, ⟨w0, w1, w2⟩⟩
theorem open_call_val {v : Value} {b0 : Nat} {r : Reach} {fuel : Nat} {x : DataW H × List MemPlace} (hv : Value.okWide Tryz.prog w r b0 56 v) (h : DataW.trod enc Tryz.prog w base spare held fuel 56 v.cells.toList = some x) :
    ∃ o : CallR, v = .agg o.cells.toArray ∧ o.Ok := by
  obtain ⟨cs, rfl, hsz⟩ := okWide_struct Tryz.underlying56 hv
  rw [call_cells.1] at hsz
  obtain ⟨o, ho, hw⟩ := open_call (cs := cs.toList) (by simpa using hsz) h
  refine ⟨o, ?_, hw⟩
  congr 1
  rw [← ho]
structure StepR where
  f0 : Int
  f1 : Int
  f2 : Int
  f3 : ByteArray
  f4 : ByteArray
  f5 : Int
  f6 : Int
  f7 : Int
def StepR.cells (o : StepR) : List Value := [.int .i64 o.f0, .int .i64 o.f1, .int .i64 o.f2, .string o.f3, .string o.f4, .int .u64 o.f5, .int .i64 o.f6, .int .i64 o.f7]
def StepR.Ok (o : StepR) : Prop := (Lit.int .i64 o.f0).wf = true ∧ (Lit.int .i64 o.f1).wf = true ∧ (Lit.int .i64 o.f2).wf = true ∧ o.f3.size ≤ maxLen ∧ o.f4.size ≤ maxLen ∧ (Lit.int .u64 o.f5).wf = true ∧ (Lit.int .i64 o.f6).wf = true ∧ (Lit.int .i64 o.f7).wf = true
set_option maxRecDepth 100000 in
theorem step_struct : (Tryz.prog.underlying 88).map fieldsOf = some [(3, 0), (3, 1), (56, 2), (86, 5), (3, 6), (3, 7)] := by kernel_rfl
theorem step_cells : Tryz.prog.cellsOf 88 = 8 ∧ Tryz.prog.cellsOf 3 = 1 ∧ Tryz.prog.cellsOf 56 = 3 ∧ Tryz.prog.cellsOf 86 = 1 := ⟨by kernel_rfl, by kernel_rfl, by kernel_rfl, by kernel_rfl⟩
set_option maxRecDepth 100000 in
theorem open_step {n : Nat} {cs : List Value} {y : DataW H × List MemPlace} (hl : cs.length = 8) (h : DataW.trod enc Tryz.prog w base spare held n 88 cs = some y) :
    ∃ o : StepR, cs = o.cells ∧ o.Ok := by
  obtain ⟨fs, hfs⟩ : ∃ fs, Tryz.prog.underlying 88 = some (.struct fs) := ⟨_, Tryz.underlying88⟩
  have hs := step_struct
  rw [hfs] at hs
  obtain ⟨-, z0, z1, z2⟩ := step_cells
  obtain ⟨xs, k, _, _, _, hxl, hf⟩ := DataW.trod_struct hfs h
  have hs' : fs.toList.map (fun (f : Field) => (f.type, f.offset)) = [(3, 0), (3, 1), (56, 2), (86, 5), (3, 6), (3, 7)] := Option.some.inj hs
  have hfl : fs.size = 6 := by have := congrArg List.length hs'; simpa using this
  have at' : ∀ (j : Nat) (t : TypeId) (o : Nat), ([(3, 0), (3, 1), (56, 2), (86, 5), (3, 6), (3, 7)] : List (TypeId × Nat))[j]? = some (t, o) → ∃ f : Field, fs[j]? = some f ∧ f.type = t ∧ f.offset = o := by
    intro j t o hj
    rw [← hs', List.getElem?_map] at hj
    cases hfj : fs.toList[j]? with
    | none => rw [hfj] at hj; cases hj
    | some f =>
      rw [hfj] at hj
      have : (f.type, f.offset) = (t, o) := Option.some.inj hj
      exact ⟨f, by rw [← Array.getElem?_toList]; exact hfj, congrArg Prod.fst this, congrArg Prod.snd this⟩
  have hx5 : xs.length = 6 := hxl.trans hfl
  match cs, hl, xs, hx5 with
  | [v0, v1, v2, v3, v4, v5, v6, v7], _, [x0, x1, x2, x3, x4, x5], _ =>
    have get : ∀ (j : Nat) (t : TypeId) (o : Nat), ([(3, 0), (3, 1), (56, 2), (86, 5), (3, 6), (3, 7)] : List (TypeId × Nat))[j]? = some (t, o) → DataW.trod enc Tryz.prog w base spare held k t (([v0, v1, v2, v3, v4, v5, v6, v7].drop o).take (Tryz.prog.cellsOf t)) = [x0, x1, x2, x3, x4, x5][j]? := by
      intro j t o hj
      obtain ⟨f, hf1, rfl, rfl⟩ := at' j t o hj
      exact hf j f hf1
    have g0 := get 0 _ _ rfl
    rw [z0] at g0
    simp only [List.drop_succ_cons, List.drop_zero, List.take_succ_cons, List.take_zero] at g0
    obtain ⟨m0, h0, -, w0⟩ := DataW.trod_int Tryz.underlying3 g0
    simp only [List.cons.injEq, and_true] at h0
    subst h0
    have g1 := get 1 _ _ rfl
    rw [z0] at g1
    simp only [List.drop_succ_cons, List.drop_zero, List.take_succ_cons, List.take_zero] at g1
    obtain ⟨m1, h1, -, w1⟩ := DataW.trod_int Tryz.underlying3 g1
    simp only [List.cons.injEq, and_true] at h1
    subst h1
    have g2 := get 2 _ _ rfl
    rw [z1] at g2
    simp only [List.drop_succ_cons, List.drop_zero, List.take_succ_cons, List.take_zero] at g2
    obtain ⟨o2, h2, w2⟩ := open_call rfl g2
    unfold CallR.cells at h2
    simp only [List.cons.injEq, and_true] at h2
    obtain ⟨rfl, rfl, rfl⟩ := h2
    unfold CallR.Ok at w2
    obtain ⟨w2_0, w2_1, w2_2⟩ := w2
    have g3 := get 3 _ _ rfl
    rw [z2] at g3
    simp only [List.drop_succ_cons, List.drop_zero, List.take_succ_cons, List.take_zero] at g3
    obtain ⟨m3, h3, -, w3⟩ := DataW.trod_int Tryz.underlying86 g3
    simp only [List.cons.injEq, and_true] at h3
    subst h3
    have g4 := get 4 _ _ rfl
    rw [z0] at g4
    simp only [List.drop_succ_cons, List.drop_zero, List.take_succ_cons, List.take_zero] at g4
    obtain ⟨m4, h4, -, w4⟩ := DataW.trod_int Tryz.underlying3 g4
    simp only [List.cons.injEq, and_true] at h4
    subst h4
    have g5 := get 5 _ _ rfl
    rw [z0] at g5
    simp only [List.drop_succ_cons, List.drop_zero, List.take_succ_cons, List.take_zero] at g5
    obtain ⟨m5, h5, -, w5⟩ := DataW.trod_int Tryz.underlying3 g5
    simp only [List.cons.injEq, and_true] at h5
    subst h5
    exact ⟨⟨m0, m1, o2.f0, o2.f1, o2.f2, m3, m4, m5⟩, rfl, ⟨w0, w1, w2_0, w2_1, w2_2, w3, w4, w5⟩⟩
theorem open_step_val {v : Value} {b0 : Nat} {r : Reach} {fuel : Nat} {x : DataW H × List MemPlace} (hv : Value.okWide Tryz.prog w r b0 88 v) (h : DataW.trod enc Tryz.prog w base spare held fuel 88 v.cells.toList = some x) :
    ∃ o : StepR, v = .agg o.cells.toArray ∧ o.Ok := by
  obtain ⟨cs, rfl, hsz⟩ := okWide_struct Tryz.underlying88 hv
  rw [step_cells.1] at hsz
  obtain ⟨o, ho, hw⟩ := open_step (cs := cs.toList) (by simpa using hsz) h
  refine ⟨o, ?_, hw⟩
  congr 1
  rw [← ho]
end
end Go.Proofs.YtpgpphmpnebafaaGreat.Cr
