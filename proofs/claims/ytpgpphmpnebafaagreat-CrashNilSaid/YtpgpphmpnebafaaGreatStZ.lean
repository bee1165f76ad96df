import Derived.Test.YtpgpphmpnebafaaGreatCmZ
import Derived.WideMake
import Derived.Test.YtpgpphmpnebafaaGreatByA
import Derived.Deep.SlicePairs
set_option maxRecDepth 100000
/- The memory's cells and store.Open on a formatted device, by walks. -/
namespace Go.Proofs.YtpgpphmpnebafaaGreat.St
open Go.RowKit Go.Proofs.YtpgpphmpnebafaaGreat.By Go.Proofs.YtpgpphmpnebafaaGreat.Mt Go.Proofs.YtpgpphmpnebafaaGreat.Fm Go.Proofs.YtpgpphmpnebafaaGreat.Lg Go.Proofs.YtpgpphmpnebafaaGreat.Cm
set_option linter.unusedSimpArgs false
set_option linter.unusedVariables false
set_option maxRecDepth 100000

/-- A memory of one word. -/
def MemAt (w : World) (M g : Nat) (v : Value) (s c : Int) : Prop := w.heap[M]? = some (.cells #[.slice (some ⟨g, 0, none⟩) 1 1, .int .i64 s, .int .i64 c] 201 (0, 0)) ∧ w.heap[g]? = some (.cells #[v] 40 (0, 0)) ∧ M ≠ g
def CellNew (w : World) (x : Ending) (w' : World) : Prop := ∃ M g, x = .returned (.pointer (some ⟨M, 0, none⟩)) ∧ MemAt w' M g (.pointer none) 0 0 ∧ w.heap.size ≤ M ∧ w.heap.size ≤ g ∧ Below w.heap.size w w'
theorem run_makeWord (w : World) : (Instr.makeSlice 192 (.int .i64 (max 0 (min 1 65536))) (.int .i64 (max 0 (min 1 65536)))).run Tryz.prog w = .ok (.slice (some ⟨w.heap.size, 0, none⟩) 1 1) (w.alloc (.cells #[.pointer none] 40)) := by kernel_rfl
theorem cellNew_any (w : World) : Calls Tryz.prog 104 #[.int .i64 1] w (CellNew w) := by
  have hmk := run_makeWord
  go_enter Tryz.func104, Tryz.ntmps104
  go_wp2_with fail
  go_ret
  refine ⟨w.heap.size + 1, w.heap.size, rfl, ⟨?_, ?_, by omega⟩, by omega, by omega, by repeat (first | exact Below.refl _ _ | apply below_dr | apply below_dn | apply below_al)⟩
  · exact blk2 w _ _
  · exact ((below_al (Below.refl _ (w.alloc (.cells #[.pointer none] 40 (0, 0)))) _).block _ (by rw [World.size_alloc]; omega)).trans (new_block w _)
theorem step_ok (M g : Nat) (v : Value) (s c : Int) (w : World) (h : MemAt w M g v s c) : Calls Tryz.prog 102 #[.pointer (some ⟨M, 0, none⟩), .int .i64 0] w fun x w' => x = .returned (.int .i64 0) ∧ w.setCell ⟨M, 1, none⟩ (.int .i64 (wrap64 (s + 1))) = w' := by
  have c0 := cell_at h.1 0
  have c1 := cell_at h.1 1
  have f1 := frozen_at h.1 1
  clear h
  go_enter Tryz.func102, Tryz.ntmps102
  go_wp2_with fail
  exact bodyPost_ret (v := .int .i64 0) (by simp [results, Tryz.results102, go_sem]) rfl ⟨rfl, rfl⟩
theorem clientNew_any (M : Option Addr) (w : World) : Calls Tryz.prog 106 #[.pointer M] w fun x w' => x = .returned (.pointer (some ⟨w.heap.size, 0, none⟩)) ∧ Below w.heap.size w w' := by
  go_enter Tryz.func106, Tryz.ntmps106
  go_wp2_with fail
  go_ret
  exact ⟨rfl, by repeat (first | exact Below.refl _ _ | apply below_dr | apply below_dn | apply below_al)⟩
theorem store_ok (M g : Nat) (v n : Value) (s c : Int) (w : World) (h : MemAt w M g v s c) (hn : ∃ o, n = .pointer o) : Calls Tryz.prog 105 #[.pointer (some ⟨M, 0, none⟩), .int .i64 0, n] w fun x w' => x = .returned (.int .i64 0) ∧ (w.setCell ⟨M, 1, none⟩ (.int .i64 (wrap64 (s + 1)))).setCell ⟨g, 0, none⟩ n = w' := by
  obtain ⟨o, rfl⟩ := hn
  have H := Lib.hid (step_ok M g v s c w h)
  have k1 := heap_setCell_self w M 1 _ _ (.int .i64 (wrap64 (s + 1))) h.1
  have k2 := (heap_setCell_ne w M 1 g (.int .i64 (wrap64 (s + 1))) (Ne.symm h.2.2)).trans h.2.1
  have c0 := cell_at k1 0
  have g0 := cell_at k2 0
  have gf := frozen_at k2 0
  clear h k1 k2
  go_enter Tryz.func105, Tryz.ntmps105
  go_wp2_with fail
  refine H.out.mono ?_
  rintro x w1 ⟨rfl, hw1⟩
  rw [hw1] at c0 g0 gf
  go_wp2_with fail
  exact bodyPost_ret (v := .int .i64 0) (by simp [results, Tryz.results105, go_sem]) rfl ⟨rfl, by rw [hw1]⟩
theorem load_ok (M g : Nat) (o : Option Addr) (s c : Int) (w : World) (h : MemAt w M g (.pointer o) s c) : Calls Tryz.prog 68 #[.pointer (some ⟨M, 0, none⟩), .int .i64 0] w fun x w' => x = .returned (.tuple #[.pointer o, .int .i64 0]) ∧ w.setCell ⟨M, 1, none⟩ (.int .i64 (wrap64 (s + 1))) = w' := by
  have H := Lib.hid (step_ok M g _ s c w h)
  have k1 := heap_setCell_self w M 1 _ _ (.int .i64 (wrap64 (s + 1))) h.1
  have k2 := (heap_setCell_ne w M 1 g (.int .i64 (wrap64 (s + 1))) (Ne.symm h.2.2)).trans h.2.1
  have c0 := cell_at k1 0
  have g0 := cell_at k2 0
  clear h k1 k2
  go_enter Tryz.func68, Tryz.ntmps68
  go_wp2_with fail
  refine H.out.mono ?_
  rintro x w1 ⟨rfl, hw1⟩
  rw [hw1] at c0 g0
  go_wp2_with fail
  exact bodyPost_ret (v := .tuple #[.pointer o, .int .i64 0]) (by simp [results, Tryz.results68, go_sem]) rfl ⟨rfl, hw1⟩
end Go.Proofs.YtpgpphmpnebafaaGreat.St

/- store.Open on a device that was just formatted, by a walk. -/
namespace Go.Proofs.YtpgpphmpnebafaaGreat.St
open Go.RowKit Go.Proofs.YtpgpphmpnebafaaGreat.By Go.Proofs.YtpgpphmpnebafaaGreat.Mt Go.Proofs.YtpgpphmpnebafaaGreat.Fm Go.Proofs.YtpgpphmpnebafaaGreat.Lg Go.Proofs.YtpgpphmpnebafaaGreat.Cm
set_option linter.unusedSimpArgs false
set_option linter.unusedVariables false
set_option maxRecDepth 100000

/-- The cells of a store that was just opened. -/
structure SA (arr : Array Value) (M c m : Nat) : Prop where
  size : arr.size = 22
  mem : arr[0]? = some (.pointer (some ⟨M, 0, none⟩))
  com : arr[1]? = some (.pointer (some ⟨c, 0, none⟩))
  none : ∀ j, 10 ≤ j → j < 18 → arr[j]? = some .nilIface
  map : arr[18]? = some (.map (some m))
  last : arr[19]? = some (.int .i64 0)
  sealed' : arr[20]? = some (.int .i64 0)
  committed' : arr[21]? = some (.int .i64 0)
theorem SA.set {arr : Array Value} {M c m : Nat} (h : SA arr M c m) (i : Nat) (v : Value) (h2 : 2 ≤ i) (h10 : i < 10) : SA (arr.setIfInBounds i v) M c m where
  size := by rw [Array.size_setIfInBounds]; exact h.size
  mem := by rw [Array.getElem?_setIfInBounds_ne (by omega)]; exact h.mem
  com := by rw [Array.getElem?_setIfInBounds_ne (by omega)]; exact h.com
  none := fun j h1 h3 => by rw [Array.getElem?_setIfInBounds_ne (by omega)]; exact h.none j h1 h3
  map := by rw [Array.getElem?_setIfInBounds_ne (by omega)]; exact h.map
  last := by rw [Array.getElem?_setIfInBounds_ne (by omega)]; exact h.last
  sealed' := by rw [Array.getElem?_setIfInBounds_ne (by omega)]; exact h.sealed'
  committed' := by rw [Array.getElem?_setIfInBounds_ne (by omega)]; exact h.committed'
theorem tree_at (c : Nat) (w : World) (c3 : w.cell? ⟨c, 3, none⟩ = some (.pointer none)) : Calls Tryz.prog 19 #[.pointer (some ⟨c, 0, none⟩)] w fun x w' => x = .returned (.pointer none) ∧ w = w' := by
  go_enter Tryz.func19, Tryz.ntmps19
  go_wp2_with fail
  go_ret
  exact ⟨rfl, rfl⟩
/-- A store on its blocks. -/
def StAt (w wr : World) (S M g c m b L p k : Nat) (A : Option Addr) : Prop := ∃ arr : Array Value, wr.heap[S]? = some (.cells arr 70 (0, 0)) ∧ SA arr M c m ∧ wr.heap[m]? = some (.map #[] 0) ∧ MemAt wr M g (.pointer none) (wrap64 (0 + 1)) 0 ∧ wr.heap[c]? = some (.cells (comC b L (.slice A 1 k) (some ⟨p, 0, none⟩) 1) 44 (0, 0)) ∧ Below w.heap.size w wr
theorem StAt.next {w wr w1 : World} {S M g c m b L p k : Nat} {A : Option Addr} {i : Nat} {v : Value} (h : StAt w wr S M g c m b L p k A) (hb : Below wr.heap.size wr w1) (h8 : i < 8) (hS : w.heap.size ≤ S) (hd : S ≠ M ∧ S ≠ g ∧ S ≠ c ∧ S ≠ m) : StAt w (w1.setCell ⟨S, 2 + i, none⟩ v) S M g c m b L p k A := by
  obtain ⟨arr, h1, h2, h3, h4, h5, h6⟩ := h
  have nS : ∀ q, q ≠ S → (w1.setCell ⟨S, 2 + i, none⟩ v).heap[q]? = w1.heap[q]? := fun q hq => heap_setCell_ne _ S _ q _ hq
  exact ⟨_, heap_setCell_self w1 S (2 + i) _ _ v ((hb.block _ (lt_of_some h1)).trans h1), h2.set _ _ (by omega) (by omega), (nS _ (Ne.symm hd.2.2.2)).trans ((hb.block _ (lt_of_some h3)).trans h3), ⟨(nS _ (Ne.symm hd.1)).trans ((hb.block _ (lt_of_some h4.1)).trans h4.1), (nS _ (Ne.symm hd.2.1)).trans ((hb.block _ (lt_of_some h4.2.1)).trans h4.2.1), h4.2.2⟩, (nS _ (Ne.symm hd.2.2.1)).trans ((hb.block _ (lt_of_some h5)).trans h5), below_st (bl h6 hb) (p := ⟨S, 2 + i, none⟩) hS _⟩
def OpenS (w : World) (b : Nat) (x : Ending) (w' : World) : Prop := ∃ (S M g c m L p k : Nat) (A : Option Addr), x = .returned (.tuple #[.pointer (some ⟨S, 0, none⟩), .int .i64 0]) ∧ StAt w w' S M g c m b L p k A ∧ w.heap.size ≤ S ∧ S ≠ M ∧ S ≠ g ∧ S ≠ c ∧ S ≠ m ∧ m ≠ M ∧ m ≠ g ∧ m ≠ c ∧ w.heap.size ≤ M ∧ w.heap.size ≤ m
set_option maxHeartbeats 4000000 in
theorem open_st (n b : Nat) (F : Nat → Prop) (w : World) (hd : Dv.Dev w F b (fmtP n) []) (h2 : 2 ≤ n) (h512 : n ≤ 512) : Calls Tryz.prog 70 #[.pointer (some ⟨b, 0, none⟩)] w (OpenS w b) := by
  have hmm := @run_makeMap Tryz.prog
  have HO := Lib.hid (open_fmt n b F w hd h2 h512)
  have HC := Lib.hid (fun X => cellNew_any X)
  have HN := Lib.hid (fun M X => clientNew_any M X)
  clear hd h2 h512
  go_enter Tryz.func70, Tryz.ntmps70
  go_wp2_with fail
  refine HO.out.mono ?_
  rintro x w1 ⟨c, L, p, k, A, rfl, hc, hL, hp, hb1⟩
  have HCC := Lib.hid hc
  have HB1 := Lib.hid hb1
  clear hc hL hp hb1
  go_wp2_with fail
  refine (HC.out _).mono ?_
  rintro x w2 ⟨M, g, rfl, hm, hM, hg, hb2⟩
  have HM := Lib.hid hm
  have HB2 := Lib.hid (bl HB1.out hb2)
  have HC2 := Lib.hid ((hb2.block _ (lt_of_some HCC.out)).trans HCC.out)
  have HMM := Lib.hid (And.intro hM hg)
  clear hm hM hg hb2
  go_wp2_with fail
  have hMlt := lt_of_some HM.out.1
  have hglt := lt_of_some HM.out.2.1
  have hclt := lt_of_some HC2.out
  have hSA : SA (#[.pointer (some ⟨M, 0, none⟩), .pointer (some ⟨c, 0, none⟩), .pointer none, .pointer none, .pointer none, .pointer none, .pointer none, .pointer none, .pointer none, .pointer none, .nilIface, .nilIface, .nilIface, .nilIface, .nilIface, .nilIface, .nilIface, .nilIface, .map (some w2.heap.size), .int .i64 0, .int .i64 0, .int .i64 0] : Array Value) M c w2.heap.size := ⟨rfl, rfl, rfl, fun j h1 h2 => by rcases (by omega : j = 10 ∨ j = 11 ∨ j = 12 ∨ j = 13 ∨ j = 14 ∨ j = 15 ∨ j = 16 ∨ j = 17) with rfl | rfl | rfl | rfl | rfl | rfl | rfl | rfl <;> rfl, rfl, rfl, rfl, rfl⟩
  have kS := blk2 w2 (.map #[] 0) (.cells (#[.pointer (some ⟨M, 0, none⟩), .pointer (some ⟨c, 0, none⟩), .pointer none, .pointer none, .pointer none, .pointer none, .pointer none, .pointer none, .pointer none, .pointer none, .nilIface, .nilIface, .nilIface, .nilIface, .nilIface, .nilIface, .nilIface, .nilIface, .map (some w2.heap.size), .int .i64 0, .int .i64 0, .int .i64 0] : Array Value) 70 (0, 0))
  have kp := ((below_al (Below.refl _ (w2.alloc (.map #[] 0))) (.cells (#[.pointer (some ⟨M, 0, none⟩), .pointer (some ⟨c, 0, none⟩), .pointer none, .pointer none, .pointer none, .pointer none, .pointer none, .pointer none, .pointer none, .pointer none, .nilIface, .nilIface, .nilIface, .nilIface, .nilIface, .nilIface, .nilIface, .nilIface, .map (some w2.heap.size), .int .i64 0, .int .i64 0, .int .i64 0] : Array Value) 70 (0, 0))).block w2.heap.size (by rw [World.size_alloc]; omega)).trans (new_block w2 (.map #[] 0))
  have hb23 := below_al (below_al (Below.refl w2.heap.size w2) (.map #[] 0)) (.cells (#[.pointer (some ⟨M, 0, none⟩), .pointer (some ⟨c, 0, none⟩), .pointer none, .pointer none, .pointer none, .pointer none, .pointer none, .pointer none, .pointer none, .pointer none, .nilIface, .nilIface, .nilIface, .nilIface, .nilIface, .nilIface, .nilIface, .nilIface, .map (some w2.heap.size), .int .i64 0, .int .i64 0, .int .i64 0] : Array Value) 70 (0, 0))
  revert kS kp hb23 hSA
  generalize (w2.alloc (.map #[] 0)).alloc (.cells (#[.pointer (some ⟨M, 0, none⟩), .pointer (some ⟨c, 0, none⟩), .pointer none, .pointer none, .pointer none, .pointer none, .pointer none, .pointer none, .pointer none, .pointer none, .nilIface, .nilIface, .nilIface, .nilIface, .nilIface, .nilIface, .nilIface, .nilIface, .map (some w2.heap.size), .int .i64 0, .int .i64 0, .int .i64 0] : Array Value) 70 (0, 0)) = w3
  generalize (#[.pointer (some ⟨M, 0, none⟩), .pointer (some ⟨c, 0, none⟩), .pointer none, .pointer none, .pointer none, .pointer none, .pointer none, .pointer none, .pointer none, .pointer none, .nilIface, .nilIface, .nilIface, .nilIface, .nilIface, .nilIface, .nilIface, .nilIface, .map (some w2.heap.size), .int .i64 0, .int .i64 0, .int .i64 0] : Array Value) = arr0
  intro hSA kS kp hb23
  have km := (hb23.block _ hMlt).trans HM.out.1
  have kg := (hb23.block _ hglt).trans HM.out.2.1
  have kc := (hb23.block _ hclt).trans HC2.out
  have hne := HM.out.2.2
  have hcM : c ≠ M := by have := lt_of_some HCC.out; have := HMM.out.1; omega
  have hcg : c ≠ g := by have := lt_of_some HCC.out; have := HMM.out.2; omega
  have hcs : ∀ X w5, Below w3.heap.size w3 X → (X.setCell ⟨M, 1, none⟩ (.int .i64 (wrap64 (0 + 1)))).setCell ⟨g, 0, none⟩ (.pointer none) = w5 → (w5.heap[w2.heap.size + 1]? = some (.cells arr0 70 (0, 0)) ∧ w5.heap[w2.heap.size]? = some (.map #[] 0) ∧ MemAt w5 M g (.pointer none) (wrap64 (0 + 1)) 0 ∧ w5.heap[c]? = some (.cells (comC b L (.slice A 1 k) (some ⟨p, 0, none⟩) 1) 44 (0, 0)) ∧ Below w.heap.size w w5) := by
    rintro X w5 hX rfl
    have nM : ∀ q, q ≠ M → q ≠ g → ((X.setCell ⟨M, 1, none⟩ (.int .i64 (wrap64 (0 + 1)))).setCell ⟨g, 0, none⟩ (.pointer none)).heap[q]? = X.heap[q]? := fun q h1 h2 => (heap_setCell_ne _ g 0 q _ h2).trans (heap_setCell_ne _ M 1 q _ h1)
    refine ⟨(nM _ (by omega) (by omega)).trans ((hX.block _ (lt_of_some kS)).trans kS), (nM _ (by omega) (by omega)).trans ((hX.block _ (lt_of_some kp)).trans kp), ⟨?_, ?_, hne⟩, (nM _ hcM hcg).trans ((hX.block _ (lt_of_some kc)).trans kc), ?_⟩
    · exact (heap_setCell_ne _ g 0 M _ hne).trans (heap_setCell_self X M 1 _ _ _ ((hX.block _ (lt_of_some km)).trans km))
    · exact heap_setCell_self _ g 0 _ _ _ ((heap_setCell_ne X M 1 g _ (Ne.symm hne)).trans ((hX.block _ (lt_of_some kg)).trans kg))
    · exact below_st (below_st (bl (bl HB2.out hb23) hX) (p := ⟨M, 1, none⟩) (Nat.le_trans HB1.out.size HMM.out.1) _) (p := ⟨g, 0, none⟩) (Nat.le_trans HB1.out.size HMM.out.2) _
  have hcx : ∀ X, Below w3.heap.size w3 X → X.cell? ⟨w2.heap.size + 1, 0, none⟩ = some (.pointer (some ⟨M, 0, none⟩)) := fun X hX => (cell_at ((hX.block _ (lt_of_some kS)).trans kS) 0).trans hSA.mem
  have HTR := Lib.hid (fun X (hX : Below w3.heap.size w3 X) => tree_at c X (cell_at ((hX.block _ (lt_of_some kc)).trans kc) 3))
  have HSO := Lib.hid (fun X (hX : Below w3.heap.size w3 X) => store_ok M g (.pointer none) (.pointer none) 0 0 X ⟨(hX.block _ (lt_of_some km)).trans km, (hX.block _ (lt_of_some kg)).trans kg, hne⟩ ⟨_, rfl⟩)
  clear kS kp km kg kc hb23 hMlt hglt hclt
  refine wp_region_held_drew (S := (fun X => X.cell? ⟨w2.heap.size + 1, 0, none⟩ = some (.pointer (some ⟨M, 0, none⟩)))) (by kernel_rfl) ((by first | assumption | exact hcx _ (by repeat (first | exact Below.refl _ _ | assumption | apply below_dr | apply below_dn | apply below_al)))) (fun hHeld => ?_)
  try simp only [Act.put, List.setIfInBounds_toArray, List.set_cons_zero, List.set_cons_succ]
  refine wpAnyH_take (i := 0) (v := ?_) (by simp only [List.getElem?_toArray, List.getElem?_cons_succ, List.getElem?_cons_zero]; rfl) (by kernel_rfl) (by kernel_rfl) (by kernel_rfl) (by exact fun _ _ _ h => h) (Or.inl ⟨by rfl, ?_⟩) (by assumption) ?_
  rotate_left
  · intro w hSw; (try dsimp only at hSw); go_simp; try with_reducible rfl
  try simp only [Act.put, List.setIfInBounds_toArray, List.set_cons_zero, List.set_cons_succ]
  refine wpAnyH_take (i := 1) (v := ?_) (by simp only [List.getElem?_toArray, List.getElem?_cons_succ, List.getElem?_cons_zero]; rfl) (by kernel_rfl) (by kernel_rfl) (by kernel_rfl) (by exact fun _ _ _ h => h) (Or.inl ⟨by rfl, ?_⟩) (by assumption) ?_
  rotate_left
  · intro w hSw; (try dsimp only at hSw); go_simp; try with_reducible rfl
  try simp only [Act.put, List.setIfInBounds_toArray, List.set_cons_zero, List.set_cons_succ]
  refine wpAnyH_take (i := 2) (v := ?_) (by simp only [List.getElem?_toArray, List.getElem?_cons_succ, List.getElem?_cons_zero]; rfl) (by kernel_rfl) (by kernel_rfl) (by kernel_rfl) (by exact fun _ _ _ h => h) (Or.inl ⟨by rfl, ?_⟩) (by assumption) ?_
  rotate_left
  · intro w hSw; (try dsimp only at hSw); go_simp; try with_reducible rfl
  try simp only [Act.put, List.setIfInBounds_toArray, List.set_cons_zero, List.set_cons_succ]
  refine wpAnyH_take (i := 3) (v := ?_) (by simp only [List.getElem?_toArray, List.getElem?_cons_succ, List.getElem?_cons_zero]; rfl) (by kernel_rfl) (by kernel_rfl) (by kernel_rfl) (by exact fun _ _ _ h => h) (Or.inl ⟨by rfl, ?_⟩) (by assumption) ?_
  rotate_left
  · intro w hSw; (try dsimp only at hSw); go_simp; try with_reducible rfl
  try simp only [Act.put, List.setIfInBounds_toArray, List.set_cons_zero, List.set_cons_succ]
  refine wpAnyH_take (i := 4) (v := ?_) (by simp only [List.getElem?_toArray, List.getElem?_cons_succ, List.getElem?_cons_zero]; rfl) (by kernel_rfl) (by kernel_rfl) (by kernel_rfl) (by exact fun _ _ _ h => h) (Or.inl ⟨by rfl, ?_⟩) (by assumption) ?_
  rotate_left
  · intro w hSw; (try dsimp only at hSw); go_simp; try with_reducible rfl
  try simp only [Act.put, List.setIfInBounds_toArray, List.set_cons_zero, List.set_cons_succ]
  refine wpAnyH_ready (rs := [5]) (by kernel_rfl) (by simp) ?_
  refine AllReadyH.cons (by simp only [List.getElem?_toArray, List.getElem?_cons_succ, List.getElem?_cons_zero]; rfl) (fun K hK => ?_) AllReadyH.nil
  go_simp
  refine (HTR.out _ (by repeat (first | exact Below.refl _ _ | assumption | apply below_dr | apply below_dn | apply below_al))).mono ?_; rintro x w9 ⟨rfl, rfl⟩
  try go_simp
  refine hK.out _ _ ((by first | assumption | exact hcx _ (by repeat (first | exact Below.refl _ _ | assumption | apply below_dr | apply below_dn | apply below_al)))) (fun hHeld => ?_)
  clear hK K
  try simp only [Act.put, List.setIfInBounds_toArray, List.set_cons_zero, List.set_cons_succ]
  refine wpAnyH_ready (rs := [6]) (by kernel_rfl) (by simp) ?_
  refine AllReadyH.cons (by simp only [List.getElem?_toArray, List.getElem?_cons_succ, List.getElem?_cons_zero]; rfl) (fun K hK => ?_) AllReadyH.nil
  go_simp
  refine (HSO.out _ (by repeat (first | exact Below.refl _ _ | assumption | apply below_dr | apply below_dn | apply below_al))).mono ?_; rintro x w5 ⟨rfl, hw5⟩; obtain ⟨kS5, kp5, km5, kc5, hb5⟩ := hcs _ w5 (by repeat (first | exact Below.refl _ _ | assumption | apply below_dr | apply below_dn | apply below_al)) hw5; have qs : w5.cell? ⟨w2.heap.size + 1, 0, none⟩ = some (.pointer (some ⟨M, 0, none⟩)) := (cell_at kS5 0).trans hSA.mem
  try go_simp
  refine hK.out _ _ ((by first | assumption | exact hcx _ (by repeat (first | exact Below.refl _ _ | assumption | apply below_dr | apply below_dn | apply below_al)))) (fun hHeld => ?_)
  clear hK K
  try simp only [Act.put, List.setIfInBounds_toArray, List.set_cons_zero, List.set_cons_succ]
  refine wpAnyH_done (by kernel_rfl) ?_ _
  go_wp2_with fail
  have hdn : w2.heap.size + 1 ≠ M ∧ w2.heap.size + 1 ≠ g ∧ w2.heap.size + 1 ≠ c ∧ w2.heap.size + 1 ≠ w2.heap.size := ⟨by have := lt_of_some HM.out.1; omega, by have := lt_of_some HM.out.2.1; omega, by have := lt_of_some HC2.out; omega, by omega⟩
  have HD := Lib.hid (And.intro hdn (And.intro (show w2.heap.size ≠ M by have := lt_of_some HM.out.1; omega) (And.intro (show w2.heap.size ≠ g by have := lt_of_some HM.out.2.1; omega) (show w2.heap.size ≠ c by have := lt_of_some HC2.out; omega))))
  have HSZ := Lib.hid (show w.heap.size ≤ w2.heap.size + 1 by have := HB2.out.size; omega)
  have H0 := Lib.hid (show StAt w w5 (w2.heap.size + 1) M g c w2.heap.size b L p k A from ⟨arr0, kS5, hSA, kp5, km5, kc5, hb5⟩)
  clear kS5 hSA kp5 km5 kc5 hb5 qs hdn hcs hcx hne hcM hcg hw5
  go_loopw [28] (fun i wr => ∃ j : Nat, j ≤ 8 ∧ i = .int .i64 (j : Int) ∧ StAt w wr (w2.heap.size + 1) M g c w2.heap.size b L p k A) (fun i _ => 8 - (intOf i).toNat)
  case atStart => exact ⟨0, Nat.zero_le _, rfl, H0.out⟩
  case round =>
    obtain ⟨j, hj, rfl, hrel⟩ := hrel
    have HREL := Lib.hid hrel
    by_cases hlt : j < 8
    · have ht1 : decide ((j : Int) < 8) = true := decide_eq_true (by omega)
      have ht2 : decide (j < 8) = true := decide_eq_true hlt
      have ht3 : (j : Int) < 8 := by omega
      obtain ⟨arr, kS, hSA, -, -, -, -⟩ := hrel
      have hcx : ∀ X, Below wr.heap.size wr X → X.cell? ⟨w2.heap.size + 1, 0, none⟩ = some (.pointer (some ⟨M, 0, none⟩)) := fun X hX => (cell_at ((hX.block _ (lt_of_some kS)).trans kS) 0).trans hSA.mem
      have hcq : ∀ X, Below wr.heap.size wr X → ∃ v, X.cell? ⟨w2.heap.size + 1, 2 + j, none⟩ = some v := fun X hX => ⟨_, (cell_at ((hX.block _ (lt_of_some kS)).trans kS) (2 + j)).trans (Array.getElem?_eq_getElem (by have := hSA.size; omega))⟩
      have hcf : ∀ X, Below wr.heap.size wr X → X.frozen? ⟨w2.heap.size + 1, 2 + j, none⟩ = false := fun X hX => frozen_at ((hX.block _ (lt_of_some kS)).trans kS) (2 + j)
      clear kS hSA
      go_wp2_with fail
      refine wp_region_held_drew (S := (fun X => X.cell? ⟨w2.heap.size + 1, 0, none⟩ = some (.pointer (some ⟨M, 0, none⟩)))) (by kernel_rfl) ((by first | assumption | exact q0 _ | exact hcx _ (by repeat (first | exact Below.refl _ _ | assumption | apply below_dr | apply below_dn | apply below_al)))) (fun hHeld => ?_)
      try simp only [Act.put, List.setIfInBounds_toArray, List.set_cons_zero, List.set_cons_succ]
      refine wpAnyH_take (i := 0) (v := ?_) (by simp only [List.getElem?_toArray, List.getElem?_cons_succ, List.getElem?_cons_zero]; rfl) (by kernel_rfl) (by kernel_rfl) (by kernel_rfl) (by exact fun _ _ _ h => h) (Or.inl ⟨by rfl, ?_⟩) (by assumption) ?_
      rotate_left
      · intro w hSw; (try dsimp only at hSw); go_simp; try with_reducible rfl
      try simp only [Act.put, List.setIfInBounds_toArray, List.set_cons_zero, List.set_cons_succ]
      refine wpAnyH_take (i := 1) (v := ?_) (by simp only [List.getElem?_toArray, List.getElem?_cons_succ, List.getElem?_cons_zero]; rfl) (by kernel_rfl) (by kernel_rfl) (by kernel_rfl) (by exact fun _ _ _ h => h) (Or.inl ⟨by rfl, ?_⟩) (by assumption) ?_
      rotate_left
      · intro w hSw; (try dsimp only at hSw); go_simp; try with_reducible rfl
      try simp only [Act.put, List.setIfInBounds_toArray, List.set_cons_zero, List.set_cons_succ]
      refine wpAnyH_take (i := 2) (v := ?_) (by simp only [List.getElem?_toArray, List.getElem?_cons_succ, List.getElem?_cons_zero]; rfl) (by kernel_rfl) (by kernel_rfl) (by kernel_rfl) (by exact fun _ _ _ h => h) (Or.inl ⟨by rfl, ?_⟩) (by assumption) ?_
      rotate_left
      · intro w hSw; (try dsimp only at hSw); go_simp; try with_reducible rfl
      try simp only [Act.put, List.setIfInBounds_toArray, List.set_cons_zero, List.set_cons_succ]
      refine wpAnyH_take (i := 3) (v := ?_) (by simp only [List.getElem?_toArray, List.getElem?_cons_succ, List.getElem?_cons_zero]; rfl) (by kernel_rfl) (by kernel_rfl) (by kernel_rfl) (by exact fun _ _ _ h => h) (Or.inl ⟨by rfl, ?_⟩) (by assumption) ?_
      rotate_left
      · intro w hSw; (try dsimp only at hSw); go_simp; try with_reducible rfl
      try simp only [Act.put, List.setIfInBounds_toArray, List.set_cons_zero, List.set_cons_succ]
      refine wpAnyH_take (i := 4) (v := ?_) (by simp only [List.getElem?_toArray, List.getElem?_cons_succ, List.getElem?_cons_zero]; rfl) (by kernel_rfl) (by kernel_rfl) (by kernel_rfl) (by exact fun _ _ _ h => h) (Or.inl ⟨by rfl, ?_⟩) (by assumption) ?_
      rotate_left
      · intro w hSw; (try dsimp only at hSw); go_simp; try with_reducible rfl
      try simp only [Act.put, List.setIfInBounds_toArray, List.set_cons_zero, List.set_cons_succ]
      refine wpAnyH_take (i := 5) (v := ?_) (by simp only [List.getElem?_toArray, List.getElem?_cons_succ, List.getElem?_cons_zero]; rfl) (by kernel_rfl) (by kernel_rfl) (by kernel_rfl) (by exact fun _ _ _ h => h) (Or.inl ⟨by rfl, ?_⟩) (by assumption) ?_
      rotate_left
      · intro w hSw; (try dsimp only at hSw); go_simp; try with_reducible rfl
      try simp only [Act.put, List.setIfInBounds_toArray, List.set_cons_zero, List.set_cons_succ]
      refine wpAnyH_take (i := 7) (v := ?_) (by simp only [List.getElem?_toArray, List.getElem?_cons_succ, List.getElem?_cons_zero]; rfl) (by kernel_rfl) (by kernel_rfl) (by kernel_rfl) (by exact fun _ _ _ h => h) (Or.inl ⟨by rfl, ?_⟩) (by assumption) ?_
      rotate_left
      · intro w hSw; (try dsimp only at hSw); go_simp; try with_reducible rfl
      try simp only [Act.put, List.setIfInBounds_toArray, List.set_cons_zero, List.set_cons_succ]
      refine wpAnyH_take (i := 8) (v := ?_) (by simp only [List.getElem?_toArray, List.getElem?_cons_succ, List.getElem?_cons_zero]; rfl) (by kernel_rfl) (by kernel_rfl) (by kernel_rfl) (by exact fun _ _ _ h => h) (Or.inl ⟨by rfl, ?_⟩) (by assumption) ?_
      rotate_left
      · intro w hSw; (try dsimp only at hSw); go_simp; try with_reducible rfl
      try simp only [Act.put, List.setIfInBounds_toArray, List.set_cons_zero, List.set_cons_succ]
      refine wpAnyH_ready (rs := [6]) (by kernel_rfl) (by simp) ?_
      refine AllReadyH.cons (by simp only [List.getElem?_toArray, List.getElem?_cons_succ, List.getElem?_cons_zero]; rfl) (fun K hK => ?_) AllReadyH.nil
      go_simp
      refine (HN.out _ _).mono ?_; rintro x w9 ⟨rfl, hb9⟩; have hb99 : Below wr.heap.size wr w9 := bl (by repeat (first | exact Below.refl _ _ | assumption | apply below_dr | apply below_dn | apply below_al)) hb9; obtain ⟨v9, q1⟩ := hcq _ hb99; have qf := hcf _ hb99; have qh := hcx _ hb99; have q0 : ∀ v, (w9.setCell ⟨w2.heap.size + 1, 2 + j, none⟩ v).cell? ⟨w2.heap.size + 1, 0, none⟩ = some (.pointer (some ⟨M, 0, none⟩)) := fun v => (World.cell?_setCell_other _ _ _ _ (by intro e; injection e with _ e1 _; omega)).trans qh
      try go_simp
      refine hK.out _ _ ((by first | assumption | exact q0 _ | exact hcx _ (by repeat (first | exact Below.refl _ _ | assumption | apply below_dr | apply below_dn | apply below_al)))) (fun hHeld => ?_)
      clear hK K
      try simp only [Act.put, List.setIfInBounds_toArray, List.set_cons_zero, List.set_cons_succ]
      refine wpAnyH_take (i := 9) (v := ?_) (by simp only [List.getElem?_toArray, List.getElem?_cons_succ, List.getElem?_cons_zero]; rfl) (by kernel_rfl) (by kernel_rfl) (by kernel_rfl) (by exact fun _ _ _ h => h) (Or.inl ⟨by rfl, ?_⟩) (by assumption) ?_
      rotate_left
      · intro w hSw; (try dsimp only at hSw); go_simp; try with_reducible rfl
      try simp only [Act.put, List.setIfInBounds_toArray, List.set_cons_zero, List.set_cons_succ]
      refine wpAnyH_ready (rs := [10]) (by kernel_rfl) (by simp) ?_
      refine AllReadyH.cons (by simp only [List.getElem?_toArray, List.getElem?_cons_succ, List.getElem?_cons_zero]; rfl) (fun K hK => ?_) AllReadyH.nil
      go_simp
      refine hK.out _ _ ((by first | assumption | exact q0 _ | exact hcx _ (by repeat (first | exact Below.refl _ _ | assumption | apply below_dr | apply below_dn | apply below_al)))) (fun hHeld => ?_)
      clear hK K
      try simp only [Act.put, List.setIfInBounds_toArray, List.set_cons_zero, List.set_cons_succ]
      refine wpAnyH_done (by kernel_rfl) ?_ _
      go_wp2_with fail
      go_roundw
      case rel => exact ⟨j + 1, by omega, by go_num, HREL.out.next hb99 hlt HSZ.out HD.out.1⟩
      case measure => simp [intOf]; omega
    · have ht1 : decide ((j : Int) < 8) = false := decide_eq_false (by omega)
      have ht2 : decide (j < 8) = false := decide_eq_false hlt
      clear hrel
      go_wp2_with fail
      go_ret2
      exact ⟨w2.heap.size + 1, M, g, c, w2.heap.size, L, p, k, A, rfl, HREL.out, HSZ.out, HD.out.1.1, HD.out.1.2.1, HD.out.1.2.2.1, HD.out.1.2.2.2, HD.out.2.1, HD.out.2.2.1, HD.out.2.2.2, Nat.le_trans HB1.out.size HMM.out.1, HB2.out.size⟩
end Go.Proofs.YtpgpphmpnebafaaGreat.St

/- Calls of a store that was just opened: a Snap, by walks. -/
namespace Go.Proofs.YtpgpphmpnebafaaGreat.St
open Go.RowKit Go.Proofs.YtpgpphmpnebafaaGreat.By Go.Proofs.YtpgpphmpnebafaaGreat.Mt Go.Proofs.YtpgpphmpnebafaaGreat.Fm Go.Proofs.YtpgpphmpnebafaaGreat.Lg Go.Proofs.YtpgpphmpnebafaaGreat.Cm
set_option linter.unusedSimpArgs false
set_option linter.unusedVariables false
set_option maxRecDepth 100000

theorem there_ok (S : Nat) (M : Addr) (w : World) (c0 : w.cell? ⟨S, 0, none⟩ = some (.pointer (some M))) : Calls Tryz.prog 62 #[.pointer (some ⟨S, 0, none⟩), .int .i64 0] w fun x w' => x = .returned (.bool true) ∧ w = w' := by
  go_enter Tryz.func62, Tryz.ntmps62
  go_wp2_with fail
  go_ret
  exact ⟨rfl, rfl⟩
theorem pending_no (S : Nat) (M : Addr) (w : World) (c0 : w.cell? ⟨S, 0, none⟩ = some (.pointer (some M))) (c10 : w.cell? ⟨S, 10, none⟩ = some .nilIface) : Calls Tryz.prog 30 #[.pointer (some ⟨S, 0, none⟩), .int .i64 0] w fun x w' => x = .returned (.bool false) ∧ w = w' := by
  have H := Lib.hid (there_ok S M w c0)
  go_enter Tryz.func30, Tryz.ntmps30
  go_wp2_with fail
  refine H.out.mono ?_
  rintro x w1 ⟨rfl, rfl⟩
  go_wp2_with fail
  go_ret
  exact ⟨rfl, rfl⟩
theorem pending_yes (S : Nat) (M : Addr) (t : TypeId) (v : Value) (w : World) (c0 : w.cell? ⟨S, 0, none⟩ = some (.pointer (some M))) (c10 : w.cell? ⟨S, 10, none⟩ = some (.iface t v)) : Calls Tryz.prog 30 #[.pointer (some ⟨S, 0, none⟩), .int .i64 0] w fun x w' => x = .returned (.bool true) ∧ w = w' := by
  have H := Lib.hid (there_ok S M w c0)
  go_enter Tryz.func30, Tryz.ntmps30
  go_wp2_with fail
  refine H.out.mono ?_
  rintro x w1 ⟨rfl, rfl⟩
  go_wp2_with fail
  go_ret
  exact ⟨rfl, rfl⟩
/-- The doing of a Snap. -/
def snapV (S : Nat) : Value := .iface 144 (.agg #[.pointer (some ⟨S, 0, none⟩)])
def CallPost (w : World) (S : Nat) (x : Ending) (w' : World) : Prop := x = .returned (.int .i64 0) ∧ ∃ o, (w.setCell ⟨S, 10, none⟩ (snapV S)).alloc o = w'
theorem call_snap (S : Nat) (M : Addr) (w : World) (c0 : w.cell? ⟨S, 0, none⟩ = some (.pointer (some M))) (c10 : w.cell? ⟨S, 10, none⟩ = some .nilIface) (f10 : w.frozen? ⟨S, 10, none⟩ = false) : Calls Tryz.prog 29 #[.pointer (some ⟨S, 0, none⟩), .int .i64 0, .agg #[.int .i64 7, .string ⟨#[]⟩, .string ⟨#[]⟩]] w (CallPost w S) := by
  have hS : S < w.heap.size := World.block_lt_of_cell? w ⟨S, 0, none⟩ c0
  have hS2 : S < w.heap.size := World.block_lt_of_cell? w ⟨S, 10, none⟩ c10
  have H := Lib.hid (fun X (hX : Below w.heap.size w X) => there_ok S M X ((hX.cell (p := ⟨S, 0, none⟩) hS).trans c0))
  have HP := Lib.hid (fun X (hX : Below w.heap.size w X) => pending_no S M X ((hX.cell (p := ⟨S, 0, none⟩) hS).trans c0) ((hX.cell (p := ⟨S, 10, none⟩) hS2).trans c10))
  go_enter Tryz.func29, Tryz.ntmps29
  go_wp2_with fail
  refine (H.out _ (below_al (Below.refl _ _) _)).mono ?_
  rintro x w1 ⟨rfl, rfl⟩
  go_wp2_with fail
  refine (HP.out _ (below_al (Below.refl _ _) _)).mono ?_
  rintro x w1 ⟨rfl, rfl⟩
  go_wp2_with fail
  go_ret
  exact ⟨rfl, _, rfl⟩
end Go.Proofs.YtpgpphmpnebafaaGreat.St

/- A Snap's only step, by a walk. -/
namespace Go.Proofs.YtpgpphmpnebafaaGreat.St
open Go.RowKit Go.Proofs.YtpgpphmpnebafaaGreat.By Go.Proofs.YtpgpphmpnebafaaGreat.Mt Go.Proofs.YtpgpphmpnebafaaGreat.Fm Go.Proofs.YtpgpphmpnebafaaGreat.Lg Go.Proofs.YtpgpphmpnebafaaGreat.Cm
set_option linter.unusedSimpArgs false
set_option linter.unusedVariables false
set_option maxRecDepth 100000

theorem run_update_first (m : Nat) (k : Int) (v : Value) (w : World) (hb : w.heap[m]? = some (.map #[] 0)) :
    (Instr.mapUpdate 68 (.map (some m)) (.int .i64 k) v).run Tryz.prog w = .ok () { w with heap := w.heap.setIfInBounds m (.map #[{ key := .int .i64 k, val := v, born := 0 }] 1) } := by
  have hk : Tryz.prog.underlying 3 = some (.int .i64) := Tryz.underlying3
  have hf : Instr.findNow (.int .i64) (.int .i64 k) ([] : List MapEntry) 0 = some none := rfl
  have hc : (Instr.checkKey false 10000 3 (.int .i64 k)).run Tryz.prog w = .ok () w := MapKept.run_checkKey (k := .int .i64 k) hk (by simp [MapKept.IsKey]) false 9999
  simp [Instr.mapUpdate, run_underlying Tryz.underlying68, MapKept.run_getObj_map hb, hc, MapKept.run_findKey hk hf, MapKept.run_setObj_map _ hb, Result.andThen]
theorem tree_st (S M g : Nat) (s c : Int) (w : World) (c0 : w.cell? ⟨S, 0, none⟩ = some (.pointer (some ⟨M, 0, none⟩))) (h : MemAt w M g (.pointer none) s c) : Calls Tryz.prog 32 #[.pointer (some ⟨S, 0, none⟩)] w fun x w' => x = .returned (.pointer none) ∧ w.setCell ⟨M, 1, none⟩ (.int .i64 (wrap64 (s + 1))) = w' := by
  have H := Lib.hid (load_ok M g none s c w h)
  clear h
  go_enter Tryz.func32, Tryz.ntmps32
  go_wp2_with fail
  refine H.out.mono ?_
  rintro x w1 ⟨rfl, rfl⟩
  go_wp2_with fail
  go_ret
  exact ⟨rfl, rfl⟩
/-- A map's block is laid anew. -/
def setMap (w : World) (m : Nat) (o : Obj) : World := { w with heap := w.heap.setIfInBounds m o }
theorem setMap_ne (w : World) (m q : Nat) (o : Obj) (h : q ≠ m) : (setMap w m o).heap[q]? = w.heap[q]? := by
  show (w.heap.setIfInBounds m o)[q]? = _
  rw [Array.getElem?_setIfInBounds_ne (Ne.symm h)]
theorem setMap_below {w0 w : World} (hb : Below w0.heap.size w0 w) (m : Nat) (o : Obj) (hm : w0.heap.size ≤ m) : Below w0.heap.size w0 (setMap w m o) :=
  ⟨hb.os, hb.tape, hb.output, by show _ ≤ (w.heap.setIfInBounds m o).size; rw [Array.size_setIfInBounds]; exact hb.size, fun q hq => (setMap_ne w m q o (by omega)).trans (hb.block q hq)⟩
def SnapRes (w0 w : World) (S M m : Nat) (arr : Array Value) (x : Ending) (w' : World) : Prop := x = .returned (.tuple #[.agg #[.int .i64 0, .string ⟨#[]⟩, .bool false, .int .i64 1], .bool true, .int .i64 0]) ∧ w'.heap[S]? = some (.cells (arr.setIfInBounds 19 (.int .i64 1)) 70 (0, 0)) ∧ Below w0.heap.size w0 w' ∧ (∀ q, q < w.heap.size → q ≠ S → q ≠ M → q ≠ m → w'.heap[q]? = w.heap[q]?) ∧ w.heap.size < w'.heap.size
theorem upd_keeps {w9 : World} {S m z : Nat} {o : Obj} {u v x : Value} (hS : S ≠ m) (hz : z ≠ m) (y0 : w9.cell? ⟨z, 0, none⟩ = some u) (y18 : w9.cell? ⟨S, 18, none⟩ = some v) (y19 : w9.cell? ⟨S, 19, none⟩ = some x) :
    ({ w9 with heap := w9.heap.setIfInBounds m o } : World).cell? ⟨z, 0, none⟩ = some u ∧ ({ w9 with heap := w9.heap.setIfInBounds m o } : World).cell? ⟨S, 18, none⟩ = some v ∧ ({ w9 with heap := w9.heap.setIfInBounds m o } : World).cell? ⟨S, 19, none⟩ = some x :=
  ⟨(World.cell?_of_block (w := w9) (w' := setMap w9 m o) (a := ⟨z, 0, none⟩) (setMap_ne w9 m z o hz)).trans y0, (World.cell?_of_block (w := w9) (w' := setMap w9 m o) (a := ⟨S, 18, none⟩) (setMap_ne w9 m S o hS)).trans y18, (World.cell?_of_block (w := w9) (w' := setMap w9 m o) (a := ⟨S, 19, none⟩) (setMap_ne w9 m S o hS)).trans y19⟩
set_option maxHeartbeats 4000000 in
theorem snap_step (S M g m : Nat) (s c : Int) (arr : Array Value) (w : World) (hS : w.heap[S]? = some (.cells arr 70 (0, 0))) (a0 : arr[0]? = some (.pointer (some ⟨M, 0, none⟩))) (a18 : arr[18]? = some (.map (some m))) (a19 : arr[19]? = some (.int .i64 0)) (hmem : MemAt w M g (.pointer none) s c) (hm : w.heap[m]? = some (.map #[] 0)) (hne : S ≠ M ∧ S ≠ g ∧ S ≠ m ∧ m ≠ M ∧ m ≠ g) (w0 : World) (hb0 : Below w0.heap.size w0 w) (hSb : w0.heap.size ≤ S) (hMb : w0.heap.size ≤ M) (hmb : w0.heap.size ≤ m) :
    Calls Tryz.prog 232 #[.agg #[.pointer (some ⟨S, 0, none⟩)]] w (SnapRes w0 w S M m arr) := by
  have s19 := (cell_at hS 19).trans a19
  have sf := frozen_at hS 19
  have hSl := lt_of_some hS
  have HS := Lib.hid hS
  have HME := Lib.hid hmem
  have HMP := Lib.hid hm
  clear hS hmem hm
  go_enter Tryz.func232, Tryz.ntmps232
  go_wp2_with fail
  have hw0 : (w.setCell ⟨S, 19, none⟩ (.int .i64 1)).heap.size = w.heap.size := by rw [World.size_setCell]
  have kA0 : ((w.setCell ⟨S, 19, none⟩ (.int .i64 1)).alloc (.cells #[.pointer (some ⟨S, 0, none⟩)] 144 (0, 0))).heap[w.heap.size]? = some (.cells #[.pointer (some ⟨S, 0, none⟩)] 144 (0, 0)) := by have := new_block (w.setCell ⟨S, 19, none⟩ (.int .i64 1)) (.cells #[.pointer (some ⟨S, 0, none⟩)] 144 (0, 0)); rwa [hw0] at this
  have kA : (((w.setCell ⟨S, 19, none⟩ (.int .i64 1)).alloc (.cells #[.pointer (some ⟨S, 0, none⟩)] 144 (0, 0))).alloc (.cells #[.int .i64 0, .string ⟨#[]⟩, .bool false, .int .i64 0] 72 (0, 0))).heap[w.heap.size]? = some (.cells #[.pointer (some ⟨S, 0, none⟩)] 144 (0, 0)) := ((below_al (Below.refl _ ((w.setCell ⟨S, 19, none⟩ (.int .i64 1)).alloc (.cells #[.pointer (some ⟨S, 0, none⟩)] 144 (0, 0)))) (.cells #[.int .i64 0, .string ⟨#[]⟩, .bool false, .int .i64 0] 72 (0, 0))).block w.heap.size (by rw [World.size_alloc, hw0]; omega)).trans kA0
  have kB : (((w.setCell ⟨S, 19, none⟩ (.int .i64 1)).alloc (.cells #[.pointer (some ⟨S, 0, none⟩)] 144 (0, 0))).alloc (.cells #[.int .i64 0, .string ⟨#[]⟩, .bool false, .int .i64 0] 72 (0, 0))).heap[w.heap.size + 1]? = some (.cells #[.int .i64 0, .string ⟨#[]⟩, .bool false, .int .i64 0] 72 (0, 0)) := by have := blk2 (w.setCell ⟨S, 19, none⟩ (.int .i64 1)) (.cells #[.pointer (some ⟨S, 0, none⟩)] 144 (0, 0)) (.cells #[.int .i64 0, .string ⟨#[]⟩, .bool false, .int .i64 0] 72 (0, 0)); rwa [hw0] at this
  have hbx := below_al (below_al (Below.refl _ (w.setCell ⟨S, 19, none⟩ (.int .i64 1))) (.cells #[.pointer (some ⟨S, 0, none⟩)] 144 (0, 0))) (.cells #[.int .i64 0, .string ⟨#[]⟩, .bool false, .int .i64 0] 72 (0, 0))
  have old : ∀ q, q ≠ S → q < w.heap.size → (((w.setCell ⟨S, 19, none⟩ (.int .i64 1)).alloc (.cells #[.pointer (some ⟨S, 0, none⟩)] 144 (0, 0))).alloc (.cells #[.int .i64 0, .string ⟨#[]⟩, .bool false, .int .i64 0] 72 (0, 0))).heap[q]? = w.heap[q]? := fun q h1 h2 => (hbx.block q (by rw [hw0]; exact h2)).trans (heap_setCell_ne w S 19 q _ h1)
  have kS : (((w.setCell ⟨S, 19, none⟩ (.int .i64 1)).alloc (.cells #[.pointer (some ⟨S, 0, none⟩)] 144 (0, 0))).alloc (.cells #[.int .i64 0, .string ⟨#[]⟩, .bool false, .int .i64 0] 72 (0, 0))).heap[S]? = some (.cells (arr.setIfInBounds 19 (.int .i64 1)) 70 (0, 0)) := (hbx.block S (by rw [hw0]; exact hSl)).trans (heap_setCell_self w S 19 _ _ _ HS.out)
  have kM : MemAt (((w.setCell ⟨S, 19, none⟩ (.int .i64 1)).alloc (.cells #[.pointer (some ⟨S, 0, none⟩)] 144 (0, 0))).alloc (.cells #[.int .i64 0, .string ⟨#[]⟩, .bool false, .int .i64 0] 72 (0, 0))) M g (.pointer none) s c := ⟨(old M (Ne.symm hne.1) (lt_of_some HME.out.1)).trans HME.out.1, (old g (Ne.symm hne.2.1) (lt_of_some HME.out.2.1)).trans HME.out.2.1, HME.out.2.2⟩
  have km := (old m (Ne.symm hne.2.2.1) (lt_of_some HMP.out)).trans HMP.out
  have kb0 : Below w0.heap.size w0 (((w.setCell ⟨S, 19, none⟩ (.int .i64 1)).alloc (.cells #[.pointer (some ⟨S, 0, none⟩)] 144 (0, 0))).alloc (.cells #[.int .i64 0, .string ⟨#[]⟩, .bool false, .int .i64 0] 72 (0, 0))) := below_al (below_al (below_st hb0 (p := ⟨S, 19, none⟩) hSb _) _) _
  have hml := lt_of_some HMP.out
  have hMl := lt_of_some HME.out.1
  clear hbx hw0 kA0
  revert kA kB kS kM km kb0 old
  generalize (((w.setCell ⟨S, 19, none⟩ (.int .i64 1)).alloc (.cells #[.pointer (some ⟨S, 0, none⟩)] 144 (0, 0))).alloc (.cells #[.int .i64 0, .string ⟨#[]⟩, .bool false, .int .i64 0] 72 (0, 0))) = w6
  intro kA kB old kS kM km kb0
  have OLD := Lib.hid old
  clear old
  have z0 := cell_at kA 0
  have hsz : 19 < arr.size := (Array.getElem?_eq_some_iff.1 a19).1
  have b0 : (arr.setIfInBounds 19 (.int .i64 1))[0]? = some (.pointer (some ⟨M, 0, none⟩)) := by rw [Array.getElem?_setIfInBounds_ne (by omega)]; exact a0
  have b18 : (arr.setIfInBounds 19 (.int .i64 1))[18]? = some (.map (some m)) := by rw [Array.getElem?_setIfInBounds_ne (by omega)]; exact a18
  have b19 : (arr.setIfInBounds 19 (.int .i64 1))[19]? = some (.int .i64 1) := Array.getElem?_setIfInBounds_self_of_lt hsz
  clear s19 sf a0 a18 a19 hsz hSl
  have s18 := (cell_at kS 18).trans b18
  have s19 := (cell_at kS 19).trans b19
  have HTR := Lib.hid (fun (X : World) (hX : X.heap = w6.heap) => tree_st S M g s c X ((cell_at (by rw [hX]; exact kS) 0).trans b0) ⟨by rw [hX]; exact kM.1, by rw [hX]; exact kM.2.1, kM.2.2⟩)
  have hcx : ∀ {X w9 : World}, X.heap = w6.heap → Below w0.heap.size w0 X → X.setCell ⟨M, 1, none⟩ (.int .i64 (wrap64 (s + 1))) = w9 → w9.cell? ⟨w.heap.size, 0, none⟩ = some (.pointer (some ⟨S, 0, none⟩)) ∧ w9.cell? ⟨S, 18, none⟩ = some (.map (some m)) ∧ w9.cell? ⟨S, 19, none⟩ = some (.int .i64 1) ∧ w9.heap[m]? = some (.map #[] 0) ∧ w9.heap[S]? = some (.cells (arr.setIfInBounds 19 (.int .i64 1)) 70 (0, 0)) ∧ w9.heap[w.heap.size + 1]? = some (.cells #[.int .i64 0, .string ⟨#[]⟩, .bool false, .int .i64 0] 72 (0, 0)) ∧ Below w0.heap.size w0 w9 ∧ (∀ q, q ≠ M → w9.heap[q]? = w6.heap[q]?) := by
    rintro X w9 hX hXb rfl
    have nM : ∀ q, q ≠ M → (X.setCell ⟨M, 1, none⟩ (.int .i64 (wrap64 (s + 1)))).heap[q]? = w6.heap[q]? := fun q h => (heap_setCell_ne X M 1 q _ h).trans (by rw [hX])
    exact ⟨cell_at ((nM _ (by omega)).trans kA) 0, (cell_at ((nM S hne.1).trans kS) 18).trans b18, (cell_at ((nM S hne.1).trans kS) 19).trans b19, (nM m hne.2.2.2.1).trans km, (nM S hne.1).trans kS, (nM _ (by omega)).trans kB, below_st hXb (p := ⟨M, 1, none⟩) hMb _, nM⟩
  refine wp_region_held_drew (S := (fun X => X.cell? ⟨w.heap.size, 0, none⟩ = some (.pointer (some ⟨S, 0, none⟩)) ∧ X.cell? ⟨S, 18, none⟩ = some (.map (some m)) ∧ X.cell? ⟨S, 19, none⟩ = some (.int .i64 1))) (by kernel_rfl) ((by first | assumption | exact ⟨z0, s18, s19⟩ | exact ⟨y0, y18, y19⟩ | exact hcy)) (fun hHeld => ?_)
  try simp only [Act.put, List.setIfInBounds_toArray, List.set_cons_zero, List.set_cons_succ]
  refine wpAnyH_take (i := 0) (v := ?_) (by simp only [List.getElem?_toArray, List.getElem?_cons_succ, List.getElem?_cons_zero]; rfl) (by kernel_rfl) (by kernel_rfl) (by kernel_rfl) (by exact fun _ _ _ h => h) (Or.inl ⟨by rfl, ?_⟩) (by assumption) ?_
  rotate_left
  · intro w hSw; (try dsimp only at hSw); go_simp; try with_reducible rfl
  try simp only [Act.put, List.setIfInBounds_toArray, List.set_cons_zero, List.set_cons_succ]
  refine wpAnyH_take (i := 1) (v := ?_) (by simp only [List.getElem?_toArray, List.getElem?_cons_succ, List.getElem?_cons_zero]; rfl) (by kernel_rfl) (by kernel_rfl) (by kernel_rfl) (by exact fun _ _ _ h => h) (Or.inl ⟨by rfl, ?_⟩) (by assumption) ?_
  rotate_left
  · intro w hSw; (try dsimp only at hSw); go_simp; try with_reducible rfl
  try simp only [Act.put, List.setIfInBounds_toArray, List.set_cons_zero, List.set_cons_succ]
  refine wpAnyH_take (i := 2) (v := ?_) (by simp only [List.getElem?_toArray, List.getElem?_cons_succ, List.getElem?_cons_zero]; rfl) (by kernel_rfl) (by kernel_rfl) (by kernel_rfl) (by exact fun _ _ _ h => h) (Or.inl ⟨by rfl, ?_⟩) (by assumption) ?_
  rotate_left
  · intro w hSw; (try dsimp only at hSw); go_simp; try with_reducible rfl
  try simp only [Act.put, List.setIfInBounds_toArray, List.set_cons_zero, List.set_cons_succ]
  refine wpAnyH_take (i := 3) (v := ?_) (by simp only [List.getElem?_toArray, List.getElem?_cons_succ, List.getElem?_cons_zero]; rfl) (by kernel_rfl) (by kernel_rfl) (by kernel_rfl) (by exact fun _ _ _ h => h) (Or.inl ⟨by rfl, ?_⟩) (by assumption) ?_
  rotate_left
  · intro w hSw; (try dsimp only at hSw); go_simp; try with_reducible rfl
  try simp only [Act.put, List.setIfInBounds_toArray, List.set_cons_zero, List.set_cons_succ]
  refine wpAnyH_take (i := 4) (v := ?_) (by simp only [List.getElem?_toArray, List.getElem?_cons_succ, List.getElem?_cons_zero]; rfl) (by kernel_rfl) (by kernel_rfl) (by kernel_rfl) (by exact fun _ _ _ h => h) (Or.inl ⟨by rfl, ?_⟩) (by assumption) ?_
  rotate_left
  · intro w hSw; (try dsimp only at hSw); go_simp; try with_reducible rfl
  try simp only [Act.put, List.setIfInBounds_toArray, List.set_cons_zero, List.set_cons_succ]
  refine wpAnyH_take (i := 5) (v := ?_) (by simp only [List.getElem?_toArray, List.getElem?_cons_succ, List.getElem?_cons_zero]; rfl) (by kernel_rfl) (by kernel_rfl) (by kernel_rfl) (by exact fun _ _ _ h => h) (Or.inl ⟨by rfl, ?_⟩) (by assumption) ?_
  rotate_left
  · intro w hSw; (try dsimp only at hSw); go_simp; try with_reducible rfl
  try simp only [Act.put, List.setIfInBounds_toArray, List.set_cons_zero, List.set_cons_succ]
  refine wpAnyH_take (i := 6) (v := ?_) (by simp only [List.getElem?_toArray, List.getElem?_cons_succ, List.getElem?_cons_zero]; rfl) (by kernel_rfl) (by kernel_rfl) (by kernel_rfl) (by exact fun _ _ _ h => h) (Or.inl ⟨by rfl, ?_⟩) (by assumption) ?_
  rotate_left
  · intro w hSw; (try dsimp only at hSw); go_simp; try with_reducible rfl
  try simp only [Act.put, List.setIfInBounds_toArray, List.set_cons_zero, List.set_cons_succ]
  refine wpAnyH_take (i := 7) (v := ?_) (by simp only [List.getElem?_toArray, List.getElem?_cons_succ, List.getElem?_cons_zero]; rfl) (by kernel_rfl) (by kernel_rfl) (by kernel_rfl) (by exact fun _ _ _ h => h) (Or.inl ⟨by rfl, ?_⟩) (by assumption) ?_
  rotate_left
  · intro w hSw; (try dsimp only at hSw); go_simp; try with_reducible rfl
  try simp only [Act.put, List.setIfInBounds_toArray, List.set_cons_zero, List.set_cons_succ]
  refine wpAnyH_take (i := 8) (v := ?_) (by simp only [List.getElem?_toArray, List.getElem?_cons_succ, List.getElem?_cons_zero]; rfl) (by kernel_rfl) (by kernel_rfl) (by kernel_rfl) (by exact fun _ _ _ h => h) (Or.inl ⟨by rfl, ?_⟩) (by assumption) ?_
  rotate_left
  · intro w hSw; (try dsimp only at hSw); go_simp; try with_reducible rfl
  try simp only [Act.put, List.setIfInBounds_toArray, List.set_cons_zero, List.set_cons_succ]
  refine wpAnyH_take (i := 9) (v := ?_) (by simp only [List.getElem?_toArray, List.getElem?_cons_succ, List.getElem?_cons_zero]; rfl) (by kernel_rfl) (by kernel_rfl) (by kernel_rfl) (by exact fun _ _ _ h => h) (Or.inl ⟨by rfl, ?_⟩) (by assumption) ?_
  rotate_left
  · intro w hSw; (try dsimp only at hSw); go_simp; try with_reducible rfl
  try simp only [Act.put, List.setIfInBounds_toArray, List.set_cons_zero, List.set_cons_succ]
  refine wpAnyH_take (i := 10) (v := ?_) (by simp only [List.getElem?_toArray, List.getElem?_cons_succ, List.getElem?_cons_zero]; rfl) (by kernel_rfl) (by kernel_rfl) (by kernel_rfl) (by exact fun _ _ _ h => h) (Or.inl ⟨by rfl, ?_⟩) (by assumption) ?_
  rotate_left
  · intro w hSw; (try dsimp only at hSw); go_simp; try with_reducible rfl
  try simp only [Act.put, List.setIfInBounds_toArray, List.set_cons_zero, List.set_cons_succ]
  refine wpAnyH_take (i := 11) (v := ?_) (by simp only [List.getElem?_toArray, List.getElem?_cons_succ, List.getElem?_cons_zero]; rfl) (by kernel_rfl) (by kernel_rfl) (by kernel_rfl) (by exact fun _ _ _ h => h) (Or.inl ⟨by rfl, ?_⟩) (by assumption) ?_
  rotate_left
  · intro w hSw; (try dsimp only at hSw); go_simp; try with_reducible rfl
  try simp only [Act.put, List.setIfInBounds_toArray, List.set_cons_zero, List.set_cons_succ]
  refine wpAnyH_ready (rs := [12]) (by kernel_rfl) (by simp) ?_
  refine AllReadyH.cons (by simp only [List.getElem?_toArray, List.getElem?_cons_succ, List.getElem?_cons_zero]; rfl) (fun K hK => ?_) AllReadyH.nil
  go_simp
  refine (HTR.out w6.drew rfl).mono ?_; rintro x w9 ⟨rfl, hw9⟩; obtain ⟨y0, y18, y19, ym, yS, yB, yb, yo⟩ := hcx (X := w6.drew) rfl kb0.drew hw9; have hup := run_update_first m 1 (.pointer none) w9 ym; have hcy := upd_keeps (o := (.map #[{ key := .int .i64 1, val := .pointer none, born := 0 }] 1)) hne.2.2.1 (show w.heap.size ≠ m by omega) y0 y18 y19; have yS10 := (setMap_ne w9 m S (.map #[{ key := .int .i64 1, val := .pointer none, born := 0 }] 1) hne.2.2.1).trans yS; have yB10 := (setMap_ne w9 m (w.heap.size + 1) (.map #[{ key := .int .i64 1, val := .pointer none, born := 0 }] 1) (by omega)).trans yB; have yb10 := setMap_below yb m (.map #[{ key := .int .i64 1, val := .pointer none, born := 0 }] 1) hmb; have yo10 : ∀ q, q ≠ M → q ≠ m → (setMap w9 m (.map #[{ key := .int .i64 1, val := .pointer none, born := 0 }] 1)).heap[q]? = w6.heap[q]? := fun q h1 h2 => (setMap_ne w9 m q _ h2).trans (yo q h1); unfold setMap at yS10 yB10 yb10 yo10; generalize ({ w9 with heap := w9.heap.setIfInBounds m (.map #[{ key := .int .i64 1, val := .pointer none, born := 0 }] 1) } : World) = W10 at hup hcy yS10 yB10 yb10 yo10; have YO := Lib.hid yo10; clear yS yB yb yo yo10; have q0 := cell_at yB10 0; have q1 := cell_at yB10 1; have q2 := cell_at yB10 2; have q3 := cell_at yB10 3; have p0 := frozen_at yB10 0; have p1 := frozen_at yB10 1; have p2 := frozen_at yB10 2; have p3 := frozen_at yB10 3; have x19 := hcy.2.2; have x0 := hcy.1
  try go_simp
  refine hK.out _ _ ((by first | assumption | exact ⟨z0, s18, s19⟩ | exact ⟨y0, y18, y19⟩ | exact hcy)) (fun hHeld => ?_)
  clear hK K
  try simp only [Act.put, List.setIfInBounds_toArray, List.set_cons_zero, List.set_cons_succ]
  refine wpAnyH_ready (rs := [13]) (by kernel_rfl) (by simp) ?_
  refine AllReadyH.cons (by simp only [List.getElem?_toArray, List.getElem?_cons_succ, List.getElem?_cons_zero]; rfl) (fun K hK => ?_) AllReadyH.nil
  go_simp
  refine hK.out _ _ ((by first | assumption | exact ⟨z0, s18, s19⟩ | exact ⟨y0, y18, y19⟩ | exact hcy)) (fun hHeld => ?_)
  clear hK K
  try simp only [Act.put, List.setIfInBounds_toArray, List.set_cons_zero, List.set_cons_succ]
  refine wpAnyH_done (by kernel_rfl) ?_ _
  go_wp2_with fail
  have kF := heap_setCell_self _ (w.heap.size + 1) 3 _ _ (.int .i64 1) (heap_setCell_self _ (w.heap.size + 1) 2 _ _ (.bool false) (heap_setCell_self _ (w.heap.size + 1) 1 _ _ (.string ⟨#[]⟩) (heap_setCell_self W10 (w.heap.size + 1) 0 _ _ (.int .i64 0) yB10)))
  have r0 := cell_at kF 0
  have r1 := cell_at kF 1
  have r2 := cell_at kF 2
  have r3 := cell_at kF 3
  have hSne : S ≠ w.heap.size + 1 := by have := lt_of_some HS.out; omega
  have hwz := hb0.size
  refine bodyPost_ret (v := .tuple #[.agg #[.int .i64 0, .string ⟨#[]⟩, .bool false, .int .i64 1], .bool true, .int .i64 0]) (by simp [results, Tryz.results232, go_sem, r0, r1, r2, r3]) rfl ⟨rfl, ?_, ?_, fun q hq h1 h2 h3 => ?_, ?_⟩
  · exact (heap_setCell_ne _ (w.heap.size + 1) 3 S _ hSne).trans ((heap_setCell_ne _ (w.heap.size + 1) 2 S _ hSne).trans ((heap_setCell_ne _ (w.heap.size + 1) 1 S _ hSne).trans ((heap_setCell_ne W10 (w.heap.size + 1) 0 S _ hSne).trans yS10)))
  · exact below_st (below_st (below_st (below_st yb10 (p := ⟨w.heap.size + 1, 0, none⟩) (by show w0.heap.size ≤ w.heap.size + 1; omega) _) (p := ⟨w.heap.size + 1, 1, none⟩) (by show w0.heap.size ≤ w.heap.size + 1; omega) _) (p := ⟨w.heap.size + 1, 2, none⟩) (by show w0.heap.size ≤ w.heap.size + 1; omega) _) (p := ⟨w.heap.size + 1, 3, none⟩) (by show w0.heap.size ≤ w.heap.size + 1; omega) _
  · exact (heap_setCell_ne _ (w.heap.size + 1) 3 q _ (by omega)).trans ((heap_setCell_ne _ (w.heap.size + 1) 2 q _ (by omega)).trans ((heap_setCell_ne _ (w.heap.size + 1) 1 q _ (by omega)).trans ((heap_setCell_ne W10 (w.heap.size + 1) 0 q _ (by omega)).trans ((YO.out q h2 h3).trans (OLD.out q h1 hq)))))
  · have := lt_of_some kF
    omega
end Go.Proofs.YtpgpphmpnebafaaGreat.St

/- A Snap's step through the store; law18's awake, by walks. -/
namespace Go.Proofs.YtpgpphmpnebafaaGreat.St
open Go.RowKit Go.Proofs.YtpgpphmpnebafaaGreat.By Go.Proofs.YtpgpphmpnebafaaGreat.Mt Go.Proofs.YtpgpphmpnebafaaGreat.Fm Go.Proofs.YtpgpphmpnebafaaGreat.Lg Go.Proofs.YtpgpphmpnebafaaGreat.Cm
set_option linter.unusedSimpArgs false
set_option linter.unusedVariables false
set_option maxRecDepth 100000

def StepRes (w0 w : World) (S M m : Nat) (x : Ending) (w' : World) : Prop := x = .returned (.tuple #[.agg #[.int .i64 0, .string ⟨#[]⟩, .bool false, .int .i64 1], .bool true, .int .i64 0]) ∧ w'.cell? ⟨S, 0, none⟩ = some (.pointer (some ⟨M, 0, none⟩)) ∧ w'.cell? ⟨S, 10, none⟩ = some .nilIface ∧ Below w0.heap.size w0 w' ∧ ∀ q, q < w.heap.size → q ≠ S → q ≠ M → q ≠ m → w'.heap[q]? = w.heap[q]?
theorem meth_snap (n S : Nat) (w : World) : (method (n + 1) 144 (.agg #[.pointer (some ⟨S, 0, none⟩)]) "sapwood/store.step").run Tryz.prog w = .ok (232, .agg #[.pointer (some ⟨S, 0, none⟩)]) w := by kernel_rfl
set_option maxHeartbeats 4000000 in
theorem step_st (S M g m : Nat) (s c : Int) (arr : Array Value) (w : World) (hS : w.heap[S]? = some (.cells arr 70 (0, 0))) (a0 : arr[0]? = some (.pointer (some ⟨M, 0, none⟩))) (a10 : arr[10]? = some (snapV S)) (a18 : arr[18]? = some (.map (some m))) (a19 : arr[19]? = some (.int .i64 0)) (hmem : MemAt w M g (.pointer none) s c) (hm : w.heap[m]? = some (.map #[] 0)) (hne : S ≠ M ∧ S ≠ g ∧ S ≠ m ∧ m ≠ M ∧ m ≠ g) (w0 : World) (hb0 : Below w0.heap.size w0 w) (hSb : w0.heap.size ≤ S) (hMb : w0.heap.size ≤ M) (hmb : w0.heap.size ≤ m) :
    Calls Tryz.prog 25 #[.pointer (some ⟨S, 0, none⟩), .int .i64 0] w (StepRes w0 w S M m) := by
  have hSl := lt_of_some hS
  have hb00 := hb0
  have H := Lib.hid (fun X (hX : Below w.heap.size w X) => there_ok S ⟨M, 0, none⟩ X ((cell_at ((hX.block _ hSl).trans hS) 0).trans a0))
  have HP := Lib.hid (fun X (hX : Below w.heap.size w X) => pending_yes S ⟨M, 0, none⟩ 144 (.agg #[.pointer (some ⟨S, 0, none⟩)]) X ((cell_at ((hX.block _ hSl).trans hS) 0).trans a0) ((cell_at ((hX.block _ hSl).trans hS) 10).trans a10))
  have HSN := Lib.hid (fun X (hX : Below w.heap.size w X) => snap_step S M g m s c arr X ((hX.block _ hSl).trans hS) a0 a18 a19 ⟨(hX.block _ (lt_of_some hmem.1)).trans hmem.1, (hX.block _ (lt_of_some hmem.2.1)).trans hmem.2.1, hmem.2.2⟩ ((hX.block _ (lt_of_some hm)).trans hm) hne w0 (bl hb0 hX) hSb hMb hmb)
  have c10 : (w.alloc (.cells #[.int .i64 0, .string ⟨#[]⟩, .bool false, .int .i64 0] 72 (0, 0))).cell? ⟨S, 10, none⟩ = some (.iface 144 (.agg #[.pointer (some ⟨S, 0, none⟩)])) := (cell_at (((below_al (Below.refl _ w) _).block _ hSl).trans hS) 10).trans a10
  have hBA := below_al (Below.refl w.heap.size w) (.cells #[.int .i64 0, .string ⟨#[]⟩, .bool false, .int .i64 0] 72 (0, 0))
  have HB := Lib.hid hBA
  have hmeth := fun (n : Nat) => meth_snap n S
  have hme2 := hmeth 467
  clear hmeth
  go_enter Tryz.func25, Tryz.ntmps25
  go_wp2_with fail
  refine (H.out _ HB.out).mono ?_
  rintro x w1 ⟨rfl, rfl⟩
  go_wp2_with fail
  refine (HP.out _ HB.out).mono ?_
  rintro x w1 ⟨rfl, rfl⟩
  go_wp2_with fail
  refine (HSN.out _ HB.out).mono ?_
  rintro x w2 ⟨rfl, kS2, hb2, ho2, hz2⟩
  have hsz19 : 19 < arr.size := (Array.getElem?_eq_some_iff.1 a19).1
  have s0 : w2.cell? ⟨S, 0, none⟩ = some (.pointer (some ⟨M, 0, none⟩)) := (cell_at kS2 0).trans (by rw [Array.getElem?_setIfInBounds_ne (by omega)]; exact a0)
  have s10 : w2.cell? ⟨S, 10, none⟩ = some (.iface 144 (.agg #[.pointer (some ⟨S, 0, none⟩)])) := (cell_at kS2 10).trans (by rw [Array.getElem?_setIfInBounds_ne (by omega)]; exact a10)
  have sf := frozen_at kS2 10
  have kR2 := (ho2 w.heap.size (by rw [World.size_alloc]; omega) (by omega) (by have := lt_of_some hmem.1; omega) (by have := lt_of_some hm; omega)).trans (new_block w _)
  have e0 := cell_at kR2 0
  have e1 := cell_at kR2 1
  have e2 := cell_at kR2 2
  have e3 := cell_at kR2 3
  have ef0 := frozen_at kR2 0
  have ef1 := frozen_at kR2 1
  have ef2 := frozen_at kR2 2
  have ef3 := frozen_at kR2 3
  have hS2 := lt_of_some kS2
  have hR2 := lt_of_some kR2
  have HK2 := Lib.hid kS2
  have HO2 := Lib.hid (fun q (hq : q < w.heap.size) (h1 : q ≠ S) (h2 : q ≠ M) (h3 : q ≠ m) => (ho2 q (by rw [World.size_alloc]; omega) h1 h2 h3).trans ((below_al (Below.refl _ w) _).block q hq))
  have HR2 := Lib.hid kR2
  have HB2 := Lib.hid hb2
  clear kS2 hb2 ho2 kR2 hS hmem hm a18 a19 hb0 hMb hmb hsz19 c10 hme2
  rw [World.size_alloc] at hz2
  go_wp2_with fail
  have hRS : w.heap.size ≠ S := by omega
  have kF := heap_setCell_self _ w.heap.size 3 _ _ (.int .i64 1) (heap_setCell_self _ w.heap.size 2 _ _ (.bool false) (heap_setCell_self _ w.heap.size 1 _ _ (.string ⟨#[]⟩) (heap_setCell_self _ w.heap.size 0 _ _ (.int .i64 0) ((heap_setCell_ne w2 S 10 w.heap.size .nilIface hRS).trans HR2.out))))
  have kS := (heap_setCell_ne _ w.heap.size 3 S (.int .i64 1) (Ne.symm hRS)).trans ((heap_setCell_ne _ w.heap.size 2 S (.bool false) (Ne.symm hRS)).trans ((heap_setCell_ne _ w.heap.size 1 S (.string ⟨#[]⟩) (Ne.symm hRS)).trans ((heap_setCell_ne _ w.heap.size 0 S (.int .i64 0) (Ne.symm hRS)).trans (heap_setCell_self w2 S 10 _ _ .nilIface HK2.out))))
  have hz := hb00.size
  have kB : Below w0.heap.size w0 (((((w2.setCell ⟨S, 10, none⟩ .nilIface).setCell ⟨w.heap.size, 0, none⟩ (.int .i64 0)).setCell ⟨w.heap.size, 1, none⟩ (.string ⟨#[]⟩)).setCell ⟨w.heap.size, 2, none⟩ (.bool false)).setCell ⟨w.heap.size, 3, none⟩ (.int .i64 1)) := below_st (below_st (below_st (below_st (below_st HB2.out (p := ⟨S, 10, none⟩) hSb _) (p := ⟨w.heap.size, 0, none⟩) hz _) (p := ⟨w.heap.size, 1, none⟩) hz _) (p := ⟨w.heap.size, 2, none⟩) hz _) (p := ⟨w.heap.size, 3, none⟩) hz _
  have kO : ∀ q, q < w.heap.size → q ≠ S → q ≠ M → q ≠ m → (((((w2.setCell ⟨S, 10, none⟩ .nilIface).setCell ⟨w.heap.size, 0, none⟩ (.int .i64 0)).setCell ⟨w.heap.size, 1, none⟩ (.string ⟨#[]⟩)).setCell ⟨w.heap.size, 2, none⟩ (.bool false)).setCell ⟨w.heap.size, 3, none⟩ (.int .i64 1)).heap[q]? = w.heap[q]? := fun q hq h1 h2 h3 => (heap_setCell_ne _ w.heap.size 3 q _ (by omega)).trans ((heap_setCell_ne _ w.heap.size 2 q _ (by omega)).trans ((heap_setCell_ne _ w.heap.size 1 q _ (by omega)).trans ((heap_setCell_ne _ w.heap.size 0 q _ (by omega)).trans ((heap_setCell_ne w2 S 10 q _ h1).trans (HO2.out q hq h1 h2 h3)))))
  clear e0 e1 e2 e3 ef0 ef1 ef2 ef3 s0 s10 sf hS2 hR2
  revert kF kS kB kO
  generalize ((((w2.setCell ⟨S, 10, none⟩ .nilIface).setCell ⟨w.heap.size, 0, none⟩ (.int .i64 0)).setCell ⟨w.heap.size, 1, none⟩ (.string ⟨#[]⟩)).setCell ⟨w.heap.size, 2, none⟩ (.bool false)).setCell ⟨w.heap.size, 3, none⟩ (.int .i64 1) = w5
  intro kF kS kB kO
  have hal := below_al (Below.refl w5.heap.size w5) (.cells #[.int .i64 0, .string ⟨#[]⟩, .bool false, .int .i64 1] 72 (0, 0))
  have hsz5 : w.heap.size ≤ w5.heap.size := by have := lt_of_some kF; omega
  have kF' := (hal.block _ (lt_of_some kF)).trans kF
  have kS' := (hal.block _ (lt_of_some kS)).trans kS
  have r0 := cell_at kF' 0
  have r1 := cell_at kF' 1
  have r2 := cell_at kF' 2
  have r3 := cell_at kF' 3
  refine bodyPost_ret (v := .tuple #[.agg #[.int .i64 0, .string ⟨#[]⟩, .bool false, .int .i64 1], .bool true, .int .i64 0]) (by simp [results, Tryz.results25, go_sem, r0, r1, r2, r3]) rfl ⟨rfl, ?_, ?_, bl kB hal, fun q hq h1 h2 h3 => (hal.block q (Nat.lt_of_lt_of_le hq hsz5)).trans (kO q hq h1 h2 h3)⟩
  · refine (cell_at kS' 0).trans ?_
    rw [Array.getElem?_setIfInBounds_ne (by omega), Array.getElem?_setIfInBounds_ne (by omega)]
    exact a0
  · refine (cell_at kS' 10).trans (Array.getElem?_setIfInBounds_self_of_lt ?_)
    rw [Array.size_setIfInBounds]
    exact (Array.getElem?_eq_some_iff.1 a10).1
end Go.Proofs.YtpgpphmpnebafaaGreat.St

/- law18's awake, by walks. -/
namespace Go.Proofs.YtpgpphmpnebafaaGreat.St
open Go.RowKit Go.Proofs.YtpgpphmpnebafaaGreat.By Go.Proofs.YtpgpphmpnebafaaGreat.Mt Go.Proofs.YtpgpphmpnebafaaGreat.Fm Go.Proofs.YtpgpphmpnebafaaGreat.Lg Go.Proofs.YtpgpphmpnebafaaGreat.Cm
set_option linter.unusedSimpArgs false
set_option linter.unusedVariables false
set_option maxRecDepth 100000

def MadeS (w : World) (x : Ending) (w' : World) : Prop := ∃ (b S M g c m L p k : Nat) (A : Option Addr) (w1 : World), x = .returned (.tuple #[.pointer (some ⟨S, 0, none⟩), .pointer (some ⟨b, 0, none⟩)]) ∧ StAt w1 w' S M g c m b L p k A ∧ w1.heap.size ≤ S ∧ S ≠ M ∧ S ≠ g ∧ S ≠ c ∧ S ≠ m ∧ m ≠ M ∧ m ≠ g ∧ m ≠ c ∧ w1.heap.size ≤ M ∧ w1.heap.size ≤ m ∧ Below w.heap.size w w1
set_option maxHeartbeats 1000000 in
theorem made_any (w : World) : Calls Tryz.prog 61 #[.int .i64 9] w (MadeS w) := by
  have HF := Lib.hid (fun X => format_ok 9 X (by omega) (by omega))
  go_enter Tryz.func61, Tryz.ntmps61
  go_wp2_with fail
  refine (HF.out _).mono ?_
  rintro x w1 ⟨b, rfl, hd1, hb1⟩
  have HO := Lib.hid (open_st 9 b _ w1 hd1 (by omega) (by omega))
  have HB1 := Lib.hid hb1
  clear hd1 hb1
  go_wp2_with fail
  refine HO.out.mono ?_
  rintro x w2 ⟨S, M, g, c, m, L, p, k, A, rfl, hst, h1, h2, h3, h4, h5, h6, h7, h8, h9, h10⟩
  have HST := Lib.hid hst
  have HH := Lib.hid (And.intro h1 (And.intro h2 (And.intro h3 (And.intro h4 (And.intro h5 (And.intro h6 (And.intro h7 (And.intro h8 (And.intro h9 h10)))))))))
  clear hst h1 h2 h3 h4 h5 h6 h7 h8 h9 h10
  go_wp2_with fail
  go_ret2
  exact ⟨b, S, M, g, c, m, L, p, k, A, w1, rfl, HST.out, HH.out.1, HH.out.2.1, HH.out.2.2.1, HH.out.2.2.2.1, HH.out.2.2.2.2.1, HH.out.2.2.2.2.2.1, HH.out.2.2.2.2.2.2.1, HH.out.2.2.2.2.2.2.2.1, HH.out.2.2.2.2.2.2.2.2.1, HH.out.2.2.2.2.2.2.2.2.2, HB1.out⟩
set_option maxHeartbeats 2000000 in
theorem awake18_any (w : World) : Calls Tryz.prog 23 #[] w fun x w' => x = .returned (.bool true) ∧ Below w.heap.size w w' := by
  have HF := Lib.hid (fun X => made_any X)
  go_enter Tryz.func23, Tryz.ntmps23
  go_wp2_with fail
  refine (HF.out _).mono ?_
  rintro x w2 ⟨b, S, M, g, c, m, L, p, k, A, w1, rfl, ⟨arr, kS, hSA, km, kM, kc, hb12⟩, hS, n1, n2, n3, n4, n5, n6, n7, hM, hm, hb1⟩
  have hb2 := bl hb1 hb12
  have s0 := (cell_at kS 0).trans hSA.mem
  have s10 := (cell_at kS 10).trans (hSA.none 10 (by omega) (by omega))
  have HCA := Lib.hid (call_snap S ⟨M, 0, none⟩ w2 s0 s10 (frozen_at kS 10))
  have h0S := Nat.le_trans hb1.size hS
  have h0M := Nat.le_trans hb1.size hM
  have h0m := Nat.le_trans hb1.size hm
  have hal : ∀ o, ∃ arr', ((w2.setCell ⟨S, 10, none⟩ (snapV S)).alloc o).heap[S]? = some (.cells arr' 70 (0, 0)) ∧ arr'[0]? = some (.pointer (some ⟨M, 0, none⟩)) ∧ arr'[10]? = some (snapV S) ∧ arr'[18]? = some (.map (some m)) ∧ arr'[19]? = some (.int .i64 0) ∧ MemAt ((w2.setCell ⟨S, 10, none⟩ (snapV S)).alloc o) M g (.pointer none) (wrap64 (0 + 1)) 0 ∧ ((w2.setCell ⟨S, 10, none⟩ (snapV S)).alloc o).heap[m]? = some (.map #[] 0) ∧ Below w.heap.size w ((w2.setCell ⟨S, 10, none⟩ (snapV S)).alloc o) := by
    intro o
    have hx := below_al (Below.refl _ (w2.setCell ⟨S, 10, none⟩ (snapV S))) o
    have nS : ∀ q, q ≠ S → (w2.setCell ⟨S, 10, none⟩ (snapV S)).heap[q]? = w2.heap[q]? := fun q h => heap_setCell_ne w2 S 10 q _ h
    have up : ∀ {q : Nat} {v : Obj}, (w2.setCell ⟨S, 10, none⟩ (snapV S)).heap[q]? = some v → ((w2.setCell ⟨S, 10, none⟩ (snapV S)).alloc o).heap[q]? = some v := fun h => (hx.block _ (lt_of_some h)).trans h
    refine ⟨_, up (heap_setCell_self w2 S 10 _ _ (snapV S) kS), ?_, Array.getElem?_setIfInBounds_self_of_lt (by have := hSA.size; omega), ?_, ?_, ⟨up ((nS M (Ne.symm n1)).trans kM.1), up ((nS g (Ne.symm n2)).trans kM.2.1), kM.2.2⟩, up ((nS m (Ne.symm n4)).trans km), below_al (below_st hb2 (p := ⟨S, 10, none⟩) h0S _) o⟩
    · rw [Array.getElem?_setIfInBounds_ne (by omega)]; exact hSA.mem
    · rw [Array.getElem?_setIfInBounds_ne (by omega)]; exact hSA.map
    · rw [Array.getElem?_setIfInBounds_ne (by omega)]; exact hSA.last
  have HAL := Lib.hid hal
  have HNE := Lib.hid (And.intro n1 (And.intro n2 (And.intro n4 (And.intro n5 n6))))
  have HLE := Lib.hid (And.intro h0S (And.intro h0M h0m))
  clear kS hSA km kM kc hb12 hS n1 n2 n3 n4 n5 n6 n7 hM hm hb1 hb2 s0 s10 h0S h0M h0m hal
  go_wp2_with fail
  refine HCA.out.mono ?_
  rintro x w3 ⟨rfl, o, hw3⟩
  obtain ⟨arr', kS', a0, a10, a18, a19, kM', km', hb3⟩ := HAL.out o
  rw [hw3] at kS' kM' km' hb3
  have HPY := Lib.hid (pending_yes S ⟨M, 0, none⟩ 144 (.agg #[.pointer (some ⟨S, 0, none⟩)]) w3 ((cell_at kS' 0).trans a0) ((cell_at kS' 10).trans a10))
  have HST := Lib.hid (step_st S M g m _ _ arr' w3 kS' a0 a10 a18 a19 kM' km' HNE.out w hb3 HLE.out.1 HLE.out.2.1 HLE.out.2.2)
  clear kS' a0 a10 a18 a19 kM' km' hb3 hw3
  go_wp2_with fail
  refine HPY.out.mono ?_
  rintro x w9 ⟨rfl, rfl⟩
  go_wp2_with fail
  refine HST.out.mono ?_
  rintro x w4 ⟨rfl, s0, s10, hb4, _⟩
  have HPN := Lib.hid (fun X (hX : Below w4.heap.size w4 X) => pending_no S ⟨M, 0, none⟩ X ((hX.cell (p := ⟨S, 0, none⟩) (World.block_lt_of_cell? w4 ⟨S, 0, none⟩ s0)).trans s0) ((hX.cell (p := ⟨S, 10, none⟩) (World.block_lt_of_cell? w4 ⟨S, 10, none⟩ s10)).trans s10))
  have HB4 := Lib.hid hb4
  clear s0 s10 hb4
  go_wp2_with fail
  refine (HPN.out _ (by repeat (first | exact Below.refl _ _ | apply below_dr | apply below_dn | apply below_al))).mono ?_
  rintro x w9 ⟨rfl, rfl⟩
  go_wp2_with fail
  go_ret
  exact ⟨rfl, bl HB4.out (by repeat (first | exact Below.refl _ _ | apply below_dr | apply below_dn | apply below_al))⟩
end Go.Proofs.YtpgpphmpnebafaaGreat.St

/- A nil store, and the zero one, by walks. -/
namespace Go.Proofs.YtpgpphmpnebafaaGreat.St
open Go.RowKit Go.Proofs.YtpgpphmpnebafaaGreat.By Go.Proofs.YtpgpphmpnebafaaGreat.Mt Go.Proofs.YtpgpphmpnebafaaGreat.Fm Go.Proofs.YtpgpphmpnebafaaGreat.Lg Go.Proofs.YtpgpphmpnebafaaGreat.Cm
set_option linter.unusedSimpArgs false
set_option linter.unusedVariables false
set_option maxRecDepth 100000

/-- A nil store, or the zero one. -/
def Zs (w : World) (C : Option Addr) : Prop := C = none ∨ ∃ c, C = some ⟨c, 0, none⟩ ∧ w.heap[c]? = some (.cells #[.pointer none, .pointer none, .pointer none, .pointer none, .pointer none, .pointer none, .pointer none, .pointer none, .pointer none, .pointer none, .nilIface, .nilIface, .nilIface, .nilIface, .nilIface, .nilIface, .nilIface, .nilIface, .map none, .int .i64 0, .int .i64 0, .int .i64 0] 70 (0, 0))
theorem Zs.below {w w1 : World} {C : Option Addr} (h : Zs w C) (hb : Below w.heap.size w w1) : Zs w1 C := by
  rcases h with rfl | ⟨c, rfl, h⟩
  · exact .inl rfl
  · exact .inr ⟨c, rfl, (hb.block _ (lt_of_some h)).trans h⟩
theorem there_zs {C : Option Addr} {w : World} (h : Zs w C) (i : Int) : Calls Tryz.prog 62 #[.pointer C, .int .i64 i] w fun x w' => x = .returned (.bool false) ∧ w = w' := by
  rcases h with rfl | ⟨c, rfl, h⟩
  · skip
    go_enter Tryz.func62, Tryz.ntmps62
    go_wp2_with fail
    go_ret
    exact ⟨rfl, rfl⟩
  · have d0 := cell_at h 0
    clear h
    go_enter Tryz.func62, Tryz.ntmps62
    go_wp2_with fail
    go_ret
    exact ⟨rfl, rfl⟩
theorem run_lookNil (i : Int) (w : World) : (Instr.lookup 68 (.map none) (.int .i64 i) true).run Tryz.prog w = .ok (.tuple #[.pointer none, .bool false]) w := by
  first
  | kernel_rfl
  | (have hk : Tryz.prog.underlying 3 = some (.int .i64) := Tryz.underlying3
     have hf : Instr.findNow (.int .i64) (.int .i64 i) ([] : List MapEntry) 0 = some none := rfl
     have hc : (Instr.checkKey true 10000 3 (.int .i64 i)).run Tryz.prog w = .ok () w := MapKept.run_checkKey (k := .int .i64 i) hk (by simp [MapKept.IsKey]) true 9999
     simp [Instr.lookup, run_underlying Tryz.underlying68, hc, MapKept.run_findKey hk hf, Result.andThen, Tryz.zeroValue40])
theorem snapshot_zs {C : Option Addr} {w : World} (h : Zs w C) (i : Int) : Calls Tryz.prog 63 #[.pointer C, .int .i64 i] w fun x w' => x = .returned (.tuple #[.pointer none, .int .i64 12]) ∧ w = w' := by
  rcases h with rfl | ⟨c, rfl, h⟩
  · skip
    go_enter Tryz.func63, Tryz.ntmps63
    go_wp2_with fail
    go_ret2
    exact ⟨rfl, rfl⟩
  · have d18 := cell_at h 18
    clear h
    have hlk := run_lookNil i w
    go_enter Tryz.func63, Tryz.ntmps63
    go_wp2_with fail
    go_ret2
    exact ⟨rfl, rfl⟩
theorem pending_zs {C : Option Addr} {w : World} (h : Zs w C) (i : Int) : Calls Tryz.prog 30 #[.pointer C, .int .i64 i] w fun x w' => x = .returned (.bool false) ∧ w = w' := by
  have H := Lib.hid (there_zs h i)
  clear h
  go_enter Tryz.func30, Tryz.ntmps30
  go_wp2_with fail
  refine (H.out).mono ?_
  rintro x w9 ⟨rfl, rfl⟩
  go_wp2_with fail
  go_ret
  exact ⟨rfl, rfl⟩
theorem cursor_zs {C : Option Addr} {w : World} (h : Zs w C) (i : Int) : Calls Tryz.prog 27 #[.pointer C, .int .i64 i] w fun x w' => x = .returned (.tuple #[.pointer none, .int .i64 12]) ∧ w = w' := by
  have H := Lib.hid (snapshot_zs h i)
  clear h
  go_enter Tryz.func27, Tryz.ntmps27
  go_wp2_with fail
  refine (H.out).mono ?_
  rintro x w9 ⟨rfl, rfl⟩
  go_wp2_with fail
  go_ret2
  exact ⟨rfl, rfl⟩
theorem end_zs {C : Option Addr} {w : World} (h : Zs w C) (i : Int) : Calls Tryz.prog 31 #[.pointer C, .int .i64 i] w fun x w' => x = .returned (.int .i64 12) ∧ w = w' := by
  have H := Lib.hid (snapshot_zs h i)
  clear h
  go_enter Tryz.func31, Tryz.ntmps31
  go_wp2_with fail
  refine (H.out).mono ?_
  rintro x w9 ⟨rfl, rfl⟩
  go_wp2_with fail
  go_ret
  exact ⟨rfl, rfl⟩
theorem get_zs {C : Option Addr} {w : World} (h : Zs w C) (i : Int) (s : ByteArray) : Calls Tryz.prog 26 #[.pointer C, .int .i64 i, .string s] w fun x w' => x = .returned (.tuple #[.string ⟨#[]⟩, .bool false, .int .i64 12]) ∧ w = w' := by
  have H := Lib.hid (snapshot_zs h i)
  clear h
  go_enter Tryz.func26, Tryz.ntmps26
  go_wp2_with fail
  refine (H.out).mono ?_
  rintro x w9 ⟨rfl, rfl⟩
  go_wp2_with fail
  refine bodyPost_ret (v := .tuple #[.string ⟨#[]⟩, .bool false, .int .i64 12]) (by simp [results, Tryz.results26, go_sem]) rfl ?_
  exact ⟨rfl, rfl⟩
theorem call_zs {C : Option Addr} {w : World} (h : Zs w C) (i k : Int) (a b : ByteArray) : Calls Tryz.prog 29 #[.pointer C, .int .i64 i, .agg #[.int .i64 k, .string a, .string b]] w fun x w' => x = .returned (.int .i64 1) ∧ Below w.heap.size w w' := by
  have H := Lib.hid (fun X (hX : Below w.heap.size w X) => there_zs (h.below hX) i)
  clear h
  go_enter Tryz.func29, Tryz.ntmps29
  go_wp2_with fail
  refine (H.out _ (by repeat (first | exact Below.refl _ _ | assumption | apply below_dr | apply below_dn | apply below_al))).mono ?_
  rintro x w9 ⟨rfl, rfl⟩
  go_wp2_with fail
  go_ret
  exact ⟨rfl, (by repeat (first | exact Below.refl _ _ | assumption | apply below_dr | apply below_dn | apply below_al))⟩
end Go.Proofs.YtpgpphmpnebafaaGreat.St

/- The rest of a nil store; law18's few and StoreNil, by walks. -/
namespace Go.Proofs.YtpgpphmpnebafaaGreat.St
open Go.RowKit Go.Proofs.YtpgpphmpnebafaaGreat.By Go.Proofs.YtpgpphmpnebafaaGreat.Mt Go.Proofs.YtpgpphmpnebafaaGreat.Fm Go.Proofs.YtpgpphmpnebafaaGreat.Lg Go.Proofs.YtpgpphmpnebafaaGreat.Cm
set_option linter.unusedSimpArgs false
set_option linter.unusedVariables false
set_option maxRecDepth 100000

theorem step_zs {C : Option Addr} {w : World} (h : Zs w C) (i : Int) : Calls Tryz.prog 25 #[.pointer C, .int .i64 i] w fun x w' => x = .returned (.tuple #[.agg #[.int .i64 0, .string ⟨#[]⟩, .bool false, .int .i64 0], .bool false, .int .i64 1]) ∧ Below w.heap.size w w' := by
  have H := Lib.hid (fun X (hX : Below w.heap.size w X) => there_zs (h.below hX) i)
  clear h
  go_enter Tryz.func25, Tryz.ntmps25
  go_wp2_with fail
  refine (H.out _ (below_al (Below.refl _ _) _)).mono ?_
  rintro x w9 ⟨rfl, rfl⟩
  go_wp2_with fail
  have hb := new_block w (.cells #[.int .i64 0, .string ⟨#[]⟩, .bool false, .int .i64 0] 72 (0, 0))
  have r0 := cell_at hb 0
  have r1 := cell_at hb 1
  have r2 := cell_at hb 2
  have r3 := cell_at hb 3
  exact bodyPost_ret (v := .tuple #[.agg #[.int .i64 0, .string ⟨#[]⟩, .bool false, .int .i64 0], .bool false, .int .i64 1]) (by simp [results, Tryz.results25, go_sem, r0, r1, r2, r3]) rfl ⟨rfl, by repeat (first | exact Below.refl _ _ | apply below_dr | apply below_dn | apply below_al)⟩
theorem mstep_nil (w : World) : Calls Tryz.prog 102 #[.pointer none, .int .i64 0] w fun x w' => x = .returned (.int .i64 1) ∧ w = w' := by
  go_enter Tryz.func102, Tryz.ntmps102
  go_wp2_with fail
  go_ret
  exact ⟨rfl, rfl⟩
theorem load_nil (w : World) : Calls Tryz.prog 68 #[.pointer none, .int .i64 0] w fun x w' => x = .returned (.tuple #[.pointer none, .int .i64 1]) ∧ w = w' := by
  have H := Lib.hid (mstep_nil w)
  go_enter Tryz.func68, Tryz.ntmps68
  go_wp2_with fail
  refine H.out.mono ?_
  rintro x w9 ⟨rfl, rfl⟩
  go_wp2_with fail
  go_ret2
  exact ⟨rfl, rfl⟩
theorem tree_zs {C : Option Addr} {w : World} (h : Zs w C) : Calls Tryz.prog 32 #[.pointer C] w fun x w' => x = .returned (.pointer none) ∧ w = w' := by
  have H := Lib.hid (load_nil w)
  rcases h with rfl | ⟨c, rfl, h⟩
  · go_enter Tryz.func32, Tryz.ntmps32
    go_wp2_with fail
    go_ret
    exact ⟨rfl, rfl⟩
  · have d0 := cell_at h 0
    clear h
    go_enter Tryz.func32, Tryz.ntmps32
    go_wp2_with fail
    refine H.out.mono ?_
    rintro x w9 ⟨rfl, rfl⟩
    go_wp2_with fail
    go_ret
    exact ⟨rfl, rfl⟩
theorem committed_zs {C : Option Addr} {w : World} (h : Zs w C) : Calls Tryz.prog 28 #[.pointer C] w fun x w' => x = .returned (.tuple #[.pointer none, .int .i64 0]) ∧ Below w.heap.size w w' := by
  have HT := Lib.hid (fun X : World => tree_zc (C := none) (w := X) (.inl rfl))
  have HE := Lib.hid (fun X : World => epoch_zc (C := none) (w := X) (.inl rfl))
  rcases h with rfl | ⟨c, rfl, h⟩
  · go_enter Tryz.func28, Tryz.ntmps28
    go_wp2_with fail
    go_ret2
    exact ⟨rfl, by repeat (first | exact Below.refl _ _ | apply below_dr | apply below_dn | apply below_al)⟩
  · have d1 := cell_at h 1
    clear h
    go_enter Tryz.func28, Tryz.ntmps28
    go_wp2_with fail
    refine wp_region_held_drew (S := (fun X => X.cell? ⟨c, 1, none⟩ = some (.pointer none))) (by kernel_rfl) ((by first | assumption | exact d1)) (fun hHeld => ?_)
    try simp only [Act.put, List.setIfInBounds_toArray, List.set_cons_zero, List.set_cons_succ]
    refine wpAnyH_take (i := 0) (v := ?_) (by simp only [List.getElem?_toArray, List.getElem?_cons_succ, List.getElem?_cons_zero]; rfl) (by kernel_rfl) (by kernel_rfl) (by kernel_rfl) (by exact fun _ _ _ h => h) (Or.inl ⟨by rfl, ?_⟩) (by assumption) ?_
    rotate_left
    · intro w hSw; (try dsimp only at hSw); go_simp; try with_reducible rfl
    try simp only [Act.put, List.setIfInBounds_toArray, List.set_cons_zero, List.set_cons_succ]
    refine wpAnyH_take (i := 1) (v := ?_) (by simp only [List.getElem?_toArray, List.getElem?_cons_succ, List.getElem?_cons_zero]; rfl) (by kernel_rfl) (by kernel_rfl) (by kernel_rfl) (by exact fun _ _ _ h => h) (Or.inl ⟨by rfl, ?_⟩) (by assumption) ?_
    rotate_left
    · intro w hSw; (try dsimp only at hSw); go_simp; try with_reducible rfl
    try simp only [Act.put, List.setIfInBounds_toArray, List.set_cons_zero, List.set_cons_succ]
    refine wpAnyH_take (i := 2) (v := ?_) (by simp only [List.getElem?_toArray, List.getElem?_cons_succ, List.getElem?_cons_zero]; rfl) (by kernel_rfl) (by kernel_rfl) (by kernel_rfl) (by exact fun _ _ _ h => h) (Or.inl ⟨by rfl, ?_⟩) (by assumption) ?_
    rotate_left
    · intro w hSw; (try dsimp only at hSw); go_simp; try with_reducible rfl
    try simp only [Act.put, List.setIfInBounds_toArray, List.set_cons_zero, List.set_cons_succ]
    refine wpAnyH_take (i := 3) (v := ?_) (by simp only [List.getElem?_toArray, List.getElem?_cons_succ, List.getElem?_cons_zero]; rfl) (by kernel_rfl) (by kernel_rfl) (by kernel_rfl) (by exact fun _ _ _ h => h) (Or.inl ⟨by rfl, ?_⟩) (by assumption) ?_
    rotate_left
    · intro w hSw; (try dsimp only at hSw); go_simp; try with_reducible rfl
    try simp only [Act.put, List.setIfInBounds_toArray, List.set_cons_zero, List.set_cons_succ]
    refine wpAnyH_take (i := 5) (v := ?_) (by simp only [List.getElem?_toArray, List.getElem?_cons_succ, List.getElem?_cons_zero]; rfl) (by kernel_rfl) (by kernel_rfl) (by kernel_rfl) (by exact fun _ _ _ h => h) (Or.inl ⟨by rfl, ?_⟩) (by assumption) ?_
    rotate_left
    · intro w hSw; (try dsimp only at hSw); go_simp; try with_reducible rfl
    try simp only [Act.put, List.setIfInBounds_toArray, List.set_cons_zero, List.set_cons_succ]
    refine wpAnyH_take (i := 6) (v := ?_) (by simp only [List.getElem?_toArray, List.getElem?_cons_succ, List.getElem?_cons_zero]; rfl) (by kernel_rfl) (by kernel_rfl) (by kernel_rfl) (by exact fun _ _ _ h => h) (Or.inl ⟨by rfl, ?_⟩) (by assumption) ?_
    rotate_left
    · intro w hSw; (try dsimp only at hSw); go_simp; try with_reducible rfl
    try simp only [Act.put, List.setIfInBounds_toArray, List.set_cons_zero, List.set_cons_succ]
    refine wpAnyH_take (i := 7) (v := ?_) (by simp only [List.getElem?_toArray, List.getElem?_cons_succ, List.getElem?_cons_zero]; rfl) (by kernel_rfl) (by kernel_rfl) (by kernel_rfl) (by exact fun _ _ _ h => h) (Or.inl ⟨by rfl, ?_⟩) (by assumption) ?_
    rotate_left
    · intro w hSw; (try dsimp only at hSw); go_simp; try with_reducible rfl
    try simp only [Act.put, List.setIfInBounds_toArray, List.set_cons_zero, List.set_cons_succ]
    refine wpAnyH_take (i := 8) (v := ?_) (by simp only [List.getElem?_toArray, List.getElem?_cons_succ, List.getElem?_cons_zero]; rfl) (by kernel_rfl) (by kernel_rfl) (by kernel_rfl) (by exact fun _ _ _ h => h) (Or.inl ⟨by rfl, ?_⟩) (by assumption) ?_
    rotate_left
    · intro w hSw; (try dsimp only at hSw); go_simp; try with_reducible rfl
    try simp only [Act.put, List.setIfInBounds_toArray, List.set_cons_zero, List.set_cons_succ]
    refine wpAnyH_ready (rs := [4]) (by kernel_rfl) (by simp) ?_
    refine AllReadyH.cons (by simp only [List.getElem?_toArray, List.getElem?_cons_succ, List.getElem?_cons_zero]; rfl) (fun K hK => ?_) AllReadyH.nil
    go_simp
    refine (HT.out _).mono ?_; rintro x w9 ⟨rfl, rfl⟩
    try go_simp
    refine hK.out _ _ ((by first | assumption | exact d1)) (fun hHeld => ?_)
    clear hK K
    try simp only [Act.put, List.setIfInBounds_toArray, List.set_cons_zero, List.set_cons_succ]
    refine wpAnyH_ready (rs := [9]) (by kernel_rfl) (by simp) ?_
    refine AllReadyH.cons (by simp only [List.getElem?_toArray, List.getElem?_cons_succ, List.getElem?_cons_zero]; rfl) (fun K hK => ?_) AllReadyH.nil
    go_simp
    refine (HE.out _).mono ?_; rintro x w9 ⟨rfl, rfl⟩
    try go_simp
    refine hK.out _ _ ((by first | assumption | exact d1)) (fun hHeld => ?_)
    clear hK K
    try simp only [Act.put, List.setIfInBounds_toArray, List.set_cons_zero, List.set_cons_succ]
    refine wpAnyH_take (i := 10) (v := ?_) (by simp only [List.getElem?_toArray, List.getElem?_cons_succ, List.getElem?_cons_zero]; rfl) (by kernel_rfl) (by kernel_rfl) (by kernel_rfl) (by exact fun _ _ _ h => h) (Or.inl ⟨by rfl, ?_⟩) (by assumption) ?_
    rotate_left
    · intro w hSw; (try dsimp only at hSw); go_simp; try with_reducible rfl
    try simp only [Act.put, List.setIfInBounds_toArray, List.set_cons_zero, List.set_cons_succ]
    refine wpAnyH_take (i := 11) (v := ?_) (by simp only [List.getElem?_toArray, List.getElem?_cons_succ, List.getElem?_cons_zero]; rfl) (by kernel_rfl) (by kernel_rfl) (by kernel_rfl) (by exact fun _ _ _ h => h) (Or.inl ⟨by rfl, ?_⟩) (by assumption) ?_
    rotate_left
    · intro w hSw; (try dsimp only at hSw); go_simp; try with_reducible rfl
    try simp only [Act.put, List.setIfInBounds_toArray, List.set_cons_zero, List.set_cons_succ]
    refine wpAnyH_done (by kernel_rfl) ?_ _
    go_wp2_with fail
    go_ret2
    exact ⟨rfl, by repeat (first | exact Below.refl _ _ | apply below_dr | apply below_dn | apply below_al)⟩
set_option maxHeartbeats 1000000 in
theorem few_one (g c : Nat) (a b : ByteArray) (w : World) (c4 : w.cell? ⟨g, 4, none⟩ = some (.string a)) (c5 : w.cell? ⟨g, 5, none⟩ = some (.string b)) : Calls Tryz.prog 24 #[.slice (some ⟨g, 0, none⟩) 1 c] w fun x w' => x = .returned (.bool (decide (IntKind.i64.wrap ((a.size : Int) + (b.size : Int)) ≤ 2000))) ∧ Below w.heap.size w w' := by
  obtain ⟨v, hwp⟩ : ∃ v, IntKind.i64.wrap ((a.size : Int) + (b.size : Int)) = v := ⟨_, rfl⟩
  rw [hwp]
  by_cases h : v ≤ 2000
  · have t1 : decide ((2000 : Int) < v) = false := decide_eq_false (by omega)
    go_enter Tryz.func24, Tryz.ntmps24
    go_wp2_with fail
    refine wp_loop_rounds 2 ?_
    rw [rounds_succ]
    go_wp2_with fail
    go_region
    go_wp2_with fail
    rw [rounds_succ]
    go_wp2_with fail
    go_ret
    exact ⟨by simp [h], by repeat (first | exact Below.refl _ _ | apply below_dr | apply below_dn | apply below_al)⟩
  · have t1 : decide ((2000 : Int) < v) = true := decide_eq_true (by omega)
    go_enter Tryz.func24, Tryz.ntmps24
    go_wp2_with fail
    refine wp_loop_rounds 2 ?_
    rw [rounds_succ]
    go_wp2_with fail
    go_region
    go_wp2_with fail
    go_ret
    exact ⟨by simp [h], by repeat (first | exact Below.refl _ _ | apply below_dr | apply below_dn | apply below_al)⟩
end Go.Proofs.YtpgpphmpnebafaaGreat.St

/- law18's StoreNil, by a walk. -/
namespace Go.Proofs.YtpgpphmpnebafaaGreat.St
open Go.RowKit Go.Proofs.YtpgpphmpnebafaaGreat.By Go.Proofs.YtpgpphmpnebafaaGreat.Mt Go.Proofs.YtpgpphmpnebafaaGreat.Fm Go.Proofs.YtpgpphmpnebafaaGreat.Lg Go.Proofs.YtpgpphmpnebafaaGreat.Cm
set_option linter.unusedSimpArgs false
set_option linter.unusedVariables false
set_option maxRecDepth 100000

set_option maxHeartbeats 4000000 in
theorem storeNil_any (kd n who k : Int) (a b : ByteArray) (z : Bool) (w : World) : Calls Tryz.prog 5 #[.agg #[.int .i64 kd, .int .i64 n, .int .u8 who, .int .i64 k, .string a, .string b], .bool z] w fun x w' => x = .returned (.bool true) ∧ Below w.heap.size w w' := by
  have HAW := Lib.hid (fun X => awake18_any X)
  have HFW := Lib.hid (fun g c X c4 c5 => few_one g c a b X c4 c5)
  have HST := Lib.hid (fun (C : Option Addr) (X : World) (h : Zs X C) => step_zs h n)
  have HGT := Lib.hid (fun (C : Option Addr) (X : World) (h : Zs X C) => get_zs h n a)
  have HCU := Lib.hid (fun (C : Option Addr) (X : World) (h : Zs X C) => cursor_zs h n)
  have HCM := Lib.hid (fun (C : Option Addr) (X : World) (h : Zs X C) => committed_zs h)
  have HCL := Lib.hid (fun (C : Option Addr) (X : World) (h : Zs X C) => call_zs h n k a b)
  have HPD := Lib.hid (fun (C : Option Addr) (X : World) (h : Zs X C) => pending_zs h n)
  have HEN := Lib.hid (fun (C : Option Addr) (X : World) (h : Zs X C) => end_zs h n)
  have HTR := Lib.hid (fun (C : Option Addr) (X : World) (h : Zs X C) => tree_zs h)
  have kO := new_block w (.cells #[.int .i64 kd, .int .i64 n, .int .u8 who, .int .i64 k, .string a, .string b] 58 (0, 0))
  have hO := below_al (Below.refl w.heap.size w) (.cells #[.int .i64 kd, .int .i64 n, .int .u8 who, .int .i64 k, .string a, .string b] 58 (0, 0))
  have HO := Lib.hid (And.intro kO hO)
  clear kO hO
  go_enter Tryz.func5, Tryz.ntmps5
  go_wp2_with fail
  refine (HAW.out _).mono ?_
  rintro x w1 ⟨rfl, hb1⟩
  have K1 := Lib.hid ((hb1.block _ (lt_of_some HO.out.1)).trans HO.out.1)
  have B1 := Lib.hid (bl HO.out.2 hb1)
  clear hb1
  have o0 := cell_at K1.out 0
  have o1 := cell_at K1.out 1
  have o2 := cell_at K1.out 2
  have o3 := cell_at K1.out 3
  have o4 := cell_at K1.out 4
  have o5 := cell_at K1.out 5
  go_wp2_with fail
  have kx := new_block w1 (.cells #[.int .i64 kd, .int .i64 n, .int .u8 who, .int .i64 k, .string a, .string b] 58 (0, 0))
  have hx := below_al (Below.refl w1.heap.size w1) (.cells #[.int .i64 kd, .int .i64 n, .int .u8 who, .int .i64 k, .string a, .string b] 58 (0, 0))
  refine (HFW.out w1.heap.size 1 _ (cell_at kx 4) (cell_at kx 5)).mono ?_
  rintro x w2 ⟨rfl, hb2⟩
  have hb12 := bl hx hb2
  have K2 := Lib.hid ((hb12.block _ (lt_of_some K1.out)).trans K1.out)
  have B2 := Lib.hid (bl B1.out hb12)
  clear hb2 hb12 kx hx o0 o1 o2 o3 o4 o5
  by_cases hf : IntKind.i64.wrap ((a.size : Int) + (b.size : Int)) ≤ 2000
  · have t1 : decide (IntKind.i64.wrap ((a.size : Int) + (b.size : Int)) ≤ 2000) = true := decide_eq_true hf
    have HF := Lib.hid hf
    clear hf
    have o1 := cell_at K2.out 1
    cases z
    · go_wp2_with fail
      have KZ := K2
      have BZ := B2
      have HZ : Hid (Zs w2 none) := Lib.hid (.inl rfl)
      clear o1
      refine (HST.out _ _ HZ.out).mono ?_
      rintro x w3 ⟨rfl, hb3⟩
      have K3 := Lib.hid ((hb3.block _ (lt_of_some KZ.out)).trans KZ.out)
      have B3 := Lib.hid (bl BZ.out hb3)
      have Z3 := Lib.hid (HZ.out.below hb3)
      clear hb3
      have hl3 := lt_of_some K3.out
      have o1 := cell_at K3.out 1
      have o3 := cell_at K3.out 3
      have o4 := cell_at K3.out 4
      have o5 := cell_at K3.out 5
      go_wp2_with fail
      refine (HGT.out _ _ (Z3.out.below (by repeat (first | exact Below.refl _ _ | apply below_dr | apply below_dn | apply below_al)))).mono ?_
      rintro x w9 ⟨rfl, rfl⟩
      go_wp2_with fail
      refine (HCU.out _ _ (Z3.out.below (by repeat (first | exact Below.refl _ _ | apply below_dr | apply below_dn | apply below_al)))).mono ?_
      rintro x w9 ⟨rfl, rfl⟩
      go_wp2_with fail
      refine (HCM.out _ _ (Z3.out.below (by repeat (first | exact Below.refl _ _ | apply below_dr | apply below_dn | apply below_al)))).mono ?_
      rintro x w4 ⟨rfl, hb4⟩
      have hb34 := bl ((by repeat (first | exact Below.refl _ _ | apply below_dr | apply below_dn | apply below_al)) : Below w3.heap.size w3 _) hb4
      have K4 := Lib.hid ((hb34.block _ (lt_of_some K3.out)).trans K3.out)
      have B4 := Lib.hid (bl B3.out hb34)
      have Z4 := Lib.hid (Z3.out.below hb34)
      clear hb4 hb34 o1 o3 o4 o5
      have hl4 := lt_of_some K4.out
      have o1 := cell_at K4.out 1
      have o3 := cell_at K4.out 3
      have o4 := cell_at K4.out 4
      have o5 := cell_at K4.out 5
      go_wp2_with fail
      refine (HCL.out _ _ Z4.out).mono ?_
      rintro x w5 ⟨rfl, hb5⟩
      have K5 := Lib.hid ((hb5.block _ (lt_of_some K4.out)).trans K4.out)
      have B5 := Lib.hid (bl B4.out hb5)
      have Z5 := Lib.hid (Z4.out.below hb5)
      clear hb5 o1 o3 o4 o5
      have hl5 := lt_of_some K5.out
      have o1 := cell_at K5.out 1
      have o3 := cell_at K5.out 3
      have o4 := cell_at K5.out 4
      have o5 := cell_at K5.out 5
      go_wp2_with fail
      refine (HPD.out _ _ Z5.out).mono ?_
      rintro x w9 ⟨rfl, rfl⟩
      go_wp2_with fail
      refine (HEN.out _ _ Z5.out).mono ?_
      rintro x w9 ⟨rfl, rfl⟩
      go_wp2_with fail
      refine (HTR.out _ _ Z5.out).mono ?_
      rintro x w9 ⟨rfl, rfl⟩
      go_wp2_with fail
      go_ret
      exact ⟨rfl, B5.out⟩
    · have kz := new_block w2 (.cells #[.pointer none, .pointer none, .pointer none, .pointer none, .pointer none, .pointer none, .pointer none, .pointer none, .pointer none, .pointer none, .nilIface, .nilIface, .nilIface, .nilIface, .nilIface, .nilIface, .nilIface, .nilIface, .map none, .int .i64 0, .int .i64 0, .int .i64 0] 70 (0, 0))
      have hz := below_al (Below.refl w2.heap.size w2) (.cells #[.pointer none, .pointer none, .pointer none, .pointer none, .pointer none, .pointer none, .pointer none, .pointer none, .pointer none, .pointer none, .nilIface, .nilIface, .nilIface, .nilIface, .nilIface, .nilIface, .nilIface, .nilIface, .map none, .int .i64 0, .int .i64 0, .int .i64 0] 70 (0, 0))
      have KZ := Lib.hid ((hz.block _ (lt_of_some K2.out)).trans K2.out)
      have BZ := Lib.hid (bl B2.out hz)
      have HZ : Hid (Zs (w2.alloc (.cells #[.pointer none, .pointer none, .pointer none, .pointer none, .pointer none, .pointer none, .pointer none, .pointer none, .pointer none, .pointer none, .nilIface, .nilIface, .nilIface, .nilIface, .nilIface, .nilIface, .nilIface, .nilIface, .map none, .int .i64 0, .int .i64 0, .int .i64 0] 70 (0, 0))) (some ⟨w2.heap.size, 0, none⟩)) := Lib.hid (.inr ⟨_, rfl, kz⟩)
      clear kz hz o1
      have o1 := cell_at KZ.out 1
      go_wp2_with fail
      clear o1
      refine (HST.out _ _ HZ.out).mono ?_
      rintro x w3 ⟨rfl, hb3⟩
      have K3 := Lib.hid ((hb3.block _ (lt_of_some KZ.out)).trans KZ.out)
      have B3 := Lib.hid (bl BZ.out hb3)
      have Z3 := Lib.hid (HZ.out.below hb3)
      clear hb3
      have hl3 := lt_of_some K3.out
      have o1 := cell_at K3.out 1
      have o3 := cell_at K3.out 3
      have o4 := cell_at K3.out 4
      have o5 := cell_at K3.out 5
      go_wp2_with fail
      refine (HGT.out _ _ (Z3.out.below (by repeat (first | exact Below.refl _ _ | apply below_dr | apply below_dn | apply below_al)))).mono ?_
      rintro x w9 ⟨rfl, rfl⟩
      go_wp2_with fail
      refine (HCU.out _ _ (Z3.out.below (by repeat (first | exact Below.refl _ _ | apply below_dr | apply below_dn | apply below_al)))).mono ?_
      rintro x w9 ⟨rfl, rfl⟩
      go_wp2_with fail
      refine (HCM.out _ _ (Z3.out.below (by repeat (first | exact Below.refl _ _ | apply below_dr | apply below_dn | apply below_al)))).mono ?_
      rintro x w4 ⟨rfl, hb4⟩
      have hb34 := bl ((by repeat (first | exact Below.refl _ _ | apply below_dr | apply below_dn | apply below_al)) : Below w3.heap.size w3 _) hb4
      have K4 := Lib.hid ((hb34.block _ (lt_of_some K3.out)).trans K3.out)
      have B4 := Lib.hid (bl B3.out hb34)
      have Z4 := Lib.hid (Z3.out.below hb34)
      clear hb4 hb34 o1 o3 o4 o5
      have hl4 := lt_of_some K4.out
      have o1 := cell_at K4.out 1
      have o3 := cell_at K4.out 3
      have o4 := cell_at K4.out 4
      have o5 := cell_at K4.out 5
      go_wp2_with fail
      refine (HCL.out _ _ Z4.out).mono ?_
      rintro x w5 ⟨rfl, hb5⟩
      have K5 := Lib.hid ((hb5.block _ (lt_of_some K4.out)).trans K4.out)
      have B5 := Lib.hid (bl B4.out hb5)
      have Z5 := Lib.hid (Z4.out.below hb5)
      clear hb5 o1 o3 o4 o5
      have hl5 := lt_of_some K5.out
      have o1 := cell_at K5.out 1
      have o3 := cell_at K5.out 3
      have o4 := cell_at K5.out 4
      have o5 := cell_at K5.out 5
      go_wp2_with fail
      refine (HPD.out _ _ Z5.out).mono ?_
      rintro x w9 ⟨rfl, rfl⟩
      go_wp2_with fail
      refine (HEN.out _ _ Z5.out).mono ?_
      rintro x w9 ⟨rfl, rfl⟩
      go_wp2_with fail
      refine (HTR.out _ _ Z5.out).mono ?_
      rintro x w9 ⟨rfl, rfl⟩
      go_wp2_with fail
      go_ret
      exact ⟨rfl, B5.out⟩
  · have t1 : decide (IntKind.i64.wrap ((a.size : Int) + (b.size : Int)) ≤ 2000) = false := decide_eq_false hf
    go_wp2_with fail
    refine (HAW.out _).mono ?_
    rintro x w3 ⟨rfl, hb3⟩
    have B3 := Lib.hid (bl B2.out hb3)
    clear hb3
    go_wp2_with fail
    go_ret
    exact ⟨rfl, B3.out⟩
end Go.Proofs.YtpgpphmpnebafaaGreat.St

/- Arguments as the caller hands them in: their cells, read. -/
namespace Go.Proofs.YtpgpphmpnebafaaGreat.St
open Go.RowKit Go.Deep Go.ChangeShapes Go.WideShapes Go.Proofs.YtpgpphmpnebafaaGreat.By
set_option linter.unusedSimpArgs false
set_option linter.unusedVariables false
set_option maxRecDepth 100000

section
variable {H : Type} {enc : TypeId × Value → H} {w : World} {base : Nat} {spare : Nat → Bool} {held : Bool}
def fieldsOf : TypeDesc → List (TypeId × Nat)
  | .struct fs => fs.toList.map (fun (f : Field) => (f.type, f.offset))
  | _ => []
structure CallR where
  f0 : Int
  f1 : ByteArray
  f2 : ByteArray
def CallR.cells (o : CallR) : List Value := [.int .i64 o.f0, .string o.f1, .string o.f2]
def CallR.Ok (o : CallR) : Prop := (Lit.int .i64 o.f0).wf = true ∧ o.f1.size ≤ maxLen ∧ o.f2.size ≤ maxLen
set_option maxRecDepth 100000 in
theorem call_struct : (Tryz.prog.underlying 56).map fieldsOf = some [(3, 0), (9, 1), (9, 2)] := by kernel_rfl
theorem call_cells : Tryz.prog.cellsOf 56 = 3 ∧ Tryz.prog.cellsOf 3 = 1 ∧ Tryz.prog.cellsOf 9 = 1 := ⟨by kernel_rfl, by kernel_rfl, by kernel_rfl⟩
set_option maxRecDepth 100000 in
theorem open_call {n : Nat} {cs : List Value} {y : DataW H × List MemPlace} (hl : cs.length = 3) (h : DataW.trod enc Tryz.prog w base spare held n 56 cs = some y) :
    ∃ o : CallR, cs = o.cells ∧ o.Ok := by
  obtain ⟨fs, hfs⟩ : ∃ fs, Tryz.prog.underlying 56 = some (.struct fs) := ⟨_, Tryz.underlying56⟩
  have hs := call_struct
  rw [hfs] at hs
  obtain ⟨-, z0, z1⟩ := call_cells
  obtain ⟨xs, k, _, _, _, hxl, hf⟩ := DataW.trod_struct hfs h
  have hs' : fs.toList.map (fun (f : Field) => (f.type, f.offset)) = [(3, 0), (9, 1), (9, 2)] := Option.some.inj hs
  have hfl : fs.size = 3 := by have := congrArg List.length hs'; simpa using this
  have at' : ∀ (j : Nat) (t : TypeId) (o : Nat), ([(3, 0), (9, 1), (9, 2)] : List (TypeId × Nat))[j]? = some (t, o) → ∃ f : Field, fs[j]? = some f ∧ f.type = t ∧ f.offset = o := by
    intro j t o hj
    rw [← hs', List.getElem?_map] at hj
    cases hfj : fs.toList[j]? with
    | none => rw [hfj] at hj; cases hj
    | some f =>
      rw [hfj] at hj
      have : (f.type, f.offset) = (t, o) := Option.some.inj hj
      exact ⟨f, by rw [← Array.getElem?_toList]; exact hfj, congrArg Prod.fst this, congrArg Prod.snd this⟩
  have hx5 : xs.length = 3 := hxl.trans hfl
  match cs, hl, xs, hx5 with
  | [v0, v1, v2], _, [x0, x1, x2], _ =>
    have get : ∀ (j : Nat) (t : TypeId) (o : Nat), ([(3, 0), (9, 1), (9, 2)] : List (TypeId × Nat))[j]? = some (t, o) → DataW.trod enc Tryz.prog w base spare held k t (([v0, v1, v2].drop o).take (Tryz.prog.cellsOf t)) = [x0, x1, x2][j]? := by
      intro j t o hj
      obtain ⟨f, hf1, rfl, rfl⟩ := at' j t o hj
      exact hf j f hf1
    have g0 := get 0 _ _ rfl
    rw [z0] at g0
    simp only [List.drop_succ_cons, List.drop_zero, List.take_succ_cons, List.take_zero] at g0
    obtain ⟨m0, h0, -, w0⟩ := DataW.trod_int Tryz.underlying3 g0
    simp only [List.cons.injEq, and_true] at h0
    subst h0
    have g1 := get 1 _ _ rfl
    rw [z1] at g1
    simp only [List.drop_succ_cons, List.drop_zero, List.take_succ_cons, List.take_zero] at g1
    obtain ⟨m1, h1, -, w1⟩ := DataW.trod_string Tryz.underlying9 g1
    simp only [List.cons.injEq, and_true] at h1
    subst h1
    have g2 := get 2 _ _ rfl
    rw [z1] at g2
    simp only [List.drop_succ_cons, List.drop_zero, List.take_succ_cons, List.take_zero] at g2
    obtain ⟨m2, h2, -, w2⟩ := DataW.trod_string Tryz.underlying9 g2
    simp only [List.cons.injEq, and_true] at h2
    subst h2
    exact ⟨⟨m0, m1, m2⟩, rfl, ⟨w0, w1, w2⟩⟩
theorem open_call_val {v : Value} {b0 : Nat} {r : Reach} {fuel : Nat} {x : DataW H × List MemPlace} (hv : Value.okWide Tryz.prog w r b0 56 v) (h : DataW.trod enc Tryz.prog w base spare held fuel 56 v.cells.toList = some x) :
    ∃ o : CallR, v = .agg o.cells.toArray ∧ o.Ok := by
  obtain ⟨cs, rfl, hsz⟩ := okWide_struct Tryz.underlying56 hv
  rw [call_cells.1] at hsz
  obtain ⟨o, ho, hw⟩ := open_call (cs := cs.toList) (by simpa using hsz) h
  refine ⟨o, ?_, hw⟩
  congr 1
  rw [← ho]
structure OpR where
  f0 : Int
  f1 : Int
  f2 : Int
  f3 : Int
  f4 : ByteArray
  f5 : ByteArray
def OpR.cells (o : OpR) : List Value := [.int .i64 o.f0, .int .i64 o.f1, .int .u8 o.f2, .int .i64 o.f3, .string o.f4, .string o.f5]
def OpR.Ok (o : OpR) : Prop := (Lit.int .i64 o.f0).wf = true ∧ (Lit.int .i64 o.f1).wf = true ∧ (Lit.int .u8 o.f2).wf = true ∧ (Lit.int .i64 o.f3).wf = true ∧ o.f4.size ≤ maxLen ∧ o.f5.size ≤ maxLen
set_option maxRecDepth 100000 in
theorem op_struct : (Tryz.prog.underlying 58).map fieldsOf = some [(3, 0), (3, 1), (5, 2), (56, 3)] := by kernel_rfl
theorem op_cells : Tryz.prog.cellsOf 58 = 6 ∧ Tryz.prog.cellsOf 3 = 1 ∧ Tryz.prog.cellsOf 5 = 1 ∧ Tryz.prog.cellsOf 56 = 3 := ⟨by kernel_rfl, by kernel_rfl, by kernel_rfl, by kernel_rfl⟩
set_option maxRecDepth 100000 in
theorem open_op {n : Nat} {cs : List Value} {y : DataW H × List MemPlace} (hl : cs.length = 6) (h : DataW.trod enc Tryz.prog w base spare held n 58 cs = some y) :
    ∃ o : OpR, cs = o.cells ∧ o.Ok := by
  obtain ⟨fs, hfs⟩ : ∃ fs, Tryz.prog.underlying 58 = some (.struct fs) := ⟨_, Tryz.underlying58⟩
  have hs := op_struct
  rw [hfs] at hs
  obtain ⟨-, z0, z1, z2⟩ := op_cells
  obtain ⟨xs, k, _, _, _, hxl, hf⟩ := DataW.trod_struct hfs h
  have hs' : fs.toList.map (fun (f : Field) => (f.type, f.offset)) = [(3, 0), (3, 1), (5, 2), (56, 3)] := Option.some.inj hs
  have hfl : fs.size = 4 := by have := congrArg List.length hs'; simpa using this
  have at' : ∀ (j : Nat) (t : TypeId) (o : Nat), ([(3, 0), (3, 1), (5, 2), (56, 3)] : List (TypeId × Nat))[j]? = some (t, o) → ∃ f : Field, fs[j]? = some f ∧ f.type = t ∧ f.offset = o := by
    intro j t o hj
    rw [← hs', List.getElem?_map] at hj
    cases hfj : fs.toList[j]? with
    | none => rw [hfj] at hj; cases hj
    | some f =>
      rw [hfj] at hj
      have : (f.type, f.offset) = (t, o) := Option.some.inj hj
      exact ⟨f, by rw [← Array.getElem?_toList]; exact hfj, congrArg Prod.fst this, congrArg Prod.snd this⟩
  have hx5 : xs.length = 4 := hxl.trans hfl
  match cs, hl, xs, hx5 with
  | [v0, v1, v2, v3, v4, v5], _, [x0, x1, x2, x3], _ =>
    have get : ∀ (j : Nat) (t : TypeId) (o : Nat), ([(3, 0), (3, 1), (5, 2), (56, 3)] : List (TypeId × Nat))[j]? = some (t, o) → DataW.trod enc Tryz.prog w base spare held k t (([v0, v1, v2, v3, v4, v5].drop o).take (Tryz.prog.cellsOf t)) = [x0, x1, x2, x3][j]? := by
      intro j t o hj
      obtain ⟨f, hf1, rfl, rfl⟩ := at' j t o hj
      exact hf j f hf1
    have g0 := get 0 _ _ rfl
    rw [z0] at g0
    simp only [List.drop_succ_cons, List.drop_zero, List.take_succ_cons, List.take_zero] at g0
    obtain ⟨m0, h0, -, w0⟩ := DataW.trod_int Tryz.underlying3 g0
    simp only [List.cons.injEq, and_true] at h0
    subst h0
    have g1 := get 1 _ _ rfl
    rw [z0] at g1
    simp only [List.drop_succ_cons, List.drop_zero, List.take_succ_cons, List.take_zero] at g1
    obtain ⟨m1, h1, -, w1⟩ := DataW.trod_int Tryz.underlying3 g1
    simp only [List.cons.injEq, and_true] at h1
    subst h1
    have g2 := get 2 _ _ rfl
    rw [z1] at g2
    simp only [List.drop_succ_cons, List.drop_zero, List.take_succ_cons, List.take_zero] at g2
    obtain ⟨m2, h2, -, w2⟩ := DataW.trod_int Tryz.underlying5 g2
    simp only [List.cons.injEq, and_true] at h2
    subst h2
    have g3 := get 3 _ _ rfl
    rw [z2] at g3
    simp only [List.drop_succ_cons, List.drop_zero, List.take_succ_cons, List.take_zero] at g3
    obtain ⟨o3, h3, w3⟩ := open_call rfl g3
    unfold CallR.cells at h3
    simp only [List.cons.injEq, and_true] at h3
    obtain ⟨rfl, rfl, rfl⟩ := h3
    unfold CallR.Ok at w3
    obtain ⟨w3_0, w3_1, w3_2⟩ := w3
    exact ⟨⟨m0, m1, m2, o3.f0, o3.f1, o3.f2⟩, rfl, ⟨w0, w1, w2, w3_0, w3_1, w3_2⟩⟩
end
end Go.Proofs.YtpgpphmpnebafaaGreat.St
