/- A nil device, by walks; and a byte changed in bytes of one's own. -/
import Derived.Test.YtpgpphmpnebafaaGreatDlL
namespace Go.Proofs.YtpgpphmpnebafaaGreat.Dv
open Go.RowKit
set_option linter.unusedSimpArgs false
set_option linter.unusedVariables false
set_option maxRecDepth 100000

set_option maxHeartbeats 400000 in
theorem sync_nil (w : World) : Calls Tryz.prog 50 #[.pointer none] w fun e w' => e = .returned (.tuple #[]) ∧ w = w' := by
  go_enter Tryz.func50, Tryz.ntmps50
  go_wp2
  exact bodyPost_ret (v := .tuple #[]) (by simp [results, Tryz.f50, go_sem]) rfl ⟨rfl, rfl⟩
set_option maxHeartbeats 400000 in
theorem crash_nil (w : World) (keep torn part : Int) : Calls Tryz.prog 107 #[.pointer none, .int .u64 keep, .int .i64 torn, .int .i64 part] w fun e w' => e = .returned (.tuple #[]) ∧ w = w' := by
  go_enter Tryz.func107, Tryz.ntmps107
  go_wp2
  exact bodyPost_ret (v := .tuple #[]) (by simp [results, Tryz.f107, go_sem]) rfl ⟨rfl, rfl⟩
set_option maxHeartbeats 400000 in
theorem write_nil (w : World) (i : Int) (Ao : Option Addr) (n c : Nat) : Calls Tryz.prog 9 #[.pointer none, .int .i64 i, .slice Ao n c] w fun e w' => e = .returned (.int .i64 1) ∧ w = w' := by
  by_cases h0 : i < 0
  · have t0 : decide (i < 0) = true := decide_eq_true h0
    go_enter Tryz.func9, Tryz.ntmps9
    go_wp2
    go_ret
    exact ⟨rfl, rfl⟩
  · have t0 : decide (i < 0) = false := decide_eq_false h0
    have t1 : decide ((0 : Int) ≤ i) = true := decide_eq_true (by omega)
    go_enter Tryz.func9, Tryz.ntmps9
    go_wp2_with fail
    refine (pages_nil _).mono ?_
    rintro e w' ⟨rfl, rfl⟩
    go_wp2
    go_ret
    exact ⟨rfl, rfl⟩
set_option maxHeartbeats 400000 in
theorem bytes_nil (w : World) : Calls Tryz.prog 72 #[.pointer none] w fun e w' => e = .returned (.slice none 0 0) ∧ w = w' := by
  go_enter Tryz.func72, Tryz.ntmps72
  go_wp2_with fail
  refine (pages_nil _).mono ?_
  rintro e w' ⟨rfl, rfl⟩
  go_wp2_with fail
  refine wp_loop_rounds 1 ?_
  rw [rounds_succ]
  go_wp2
  go_ret
  exact ⟨rfl, rfl⟩
theorem OwnB.at {w : World} {base : Nat} {v : Value} {s : ByteArray} (h : OwnB w base v s) (i : Nat) (hi : i < s.size) :
    ∃ g c x, v = .slice (some ⟨g, 0, none⟩) s.size c ∧ base ≤ g ∧ g < w.heap.size ∧ s.size ≤ c ∧ w.cell? ⟨g, i, none⟩ = some (.int .u8 x) ∧ w.frozen? ⟨g, i, none⟩ = false := by
  obtain ⟨g, cap, cur, rfl, h1, h2, h5, h3, h6, h4⟩ := h
  have hj : (Lib.strCells s)[i]? = some (Value.int .u8 (((s.data.toList[i]'(by rw [← size_data]; exact hi)).toNat : Int))) := by
    unfold Lib.strCells
    rw [List.getElem?_map, List.getElem?_eq_getElem (by rw [← size_data]; exact hi)]; rfl
  rw [← h4, List.getElem?_take, if_pos hi, Array.getElem?_toList] at hj
  exact ⟨g, cap, _, rfl, h1, lt_of_some h3, h2, (cell_at h3 i).trans hj, frozen_at h3 i⟩
theorem OwnB.cell {w : World} {base g n c : Nat} {s : ByteArray} (h : OwnB w base (.slice (some ⟨g, 0, none⟩) n c) s) (i : Nat) (hi : i < s.size) :
    base ≤ g ∧ g < w.heap.size ∧ ∃ x, w.cell? ⟨g, i, none⟩ = some (.int .u8 x) ∧ w.frozen? ⟨g, i, none⟩ = false := by
  obtain ⟨g', c', x, hv, h1, h2, _, h3, h4⟩ := h.at i hi
  injection hv with hv
  injection hv with hv
  injection hv with hv
  subst hv
  exact ⟨h1, h2, x, h3, h4⟩
theorem OwnB.rds {w : World} {base g n c : Nat} {s : ByteArray} (h : OwnB w base (.slice (some ⟨g, 0, none⟩) n c) s) : RdB w (some ⟨g, 0, none⟩) s := by
  obtain ⟨A, c', hv, _, hr⟩ := h.rd
  injection hv with hv
  subst hv
  exact hr
theorem OwnB.shape {w : World} {base n : Nat} {v : Value} {s : ByteArray} (h : OwnB w base v s) (hn : s.size = n) : ∃ g c, v = .slice (some ⟨g, 0, none⟩) n c := by
  obtain ⟨g, cap, cur, rfl, _⟩ := h
  exact ⟨g, cap, by rw [hn]⟩
theorem Dev.poke {F : Nat → Prop} {b : Nat} {P : List ByteArray} {Q : List (Nat × ByteArray)} {w : World} (h : Dev w F b P Q) (g i : Nat) (u : Value) (hg : ¬ F g) : Dev (w.setCell ⟨g, i, none⟩ u) F b P Q :=
  h.move fun k hk _ => Below.heap_setCell w ⟨g, i, none⟩ u k (fun e => hg (by subst e; exact hk))
theorem op_boxed (w : World) (o : OpR) (t : TypeId) : OpAt (w.alloc (.cells #[.int .i64 o.kind, .int .i64 o.i, .int .i64 o.n, .int .u64 (o.keep : Int), .string o.b] t)) w.heap.size 0 o := by
  have h := new_block w (.cells #[.int .i64 o.kind, .int .i64 o.i, .int .i64 o.n, .int .u64 (o.keep : Int), .string o.b] t)
  exact ⟨cell_at h 0, cell_at h 1, cell_at h 2, cell_at h 3, cell_at h 4⟩
/-- The same, cell by cell, as a walk wants it. -/
theorem OpAt.five {w : World} {g : Nat} {o : OpR} (h : OpAt w g 0 o) : w.cell? ⟨g, 0, none⟩ = some (.int .i64 o.kind) ∧ w.cell? ⟨g, 1, none⟩ = some (.int .i64 o.i) ∧ w.cell? ⟨g, 2, none⟩ = some (.int .i64 o.n) ∧ w.cell? ⟨g, 3, none⟩ = some (.int .u64 (o.keep : Int)) ∧ w.cell? ⟨g, 4, none⟩ = some (.string o.b) :=
  ⟨h.kind, by simpa using h.i, by simpa using h.n, by simpa using h.keep, by simpa using h.b⟩
end Go.Proofs.YtpgpphmpnebafaaGreat.Dv
