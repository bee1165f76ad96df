/- Copies of bytes, and the short functions of a device, by walks. -/
import Derived.Test.YtpgpphmpnebafaaGreatDvW
namespace Go.Proofs.YtpgpphmpnebafaaGreat.Dv
open Go.RowKit
set_option linter.unusedSimpArgs false
set_option linter.unusedVariables false
set_option maxRecDepth 100000

/-- Bytes that are read at an address. -/
def RdB (w : World) (A : Option Addr) (s : ByteArray) : Prop := 0 < s.size → ∃ ad, A = some ad ∧ ∀ (j : Nat) (u : Value), (Lib.strCells s)[j]? = some u → w.cell? (ad.add j) = some u
/-- Bytes in a row of one's own, from block 'base' on. -/
def OwnB (w : World) (base : Nat) (v : Value) (s : ByteArray) : Prop :=
  ∃ g cap cur, v = .slice (some ⟨g, 0, none⟩) s.size cap ∧ base ≤ g ∧ s.size ≤ cap ∧ cap ≤ maxLen ∧ w.heap[g]? = some (.cells cur 5 (0, 0)) ∧ cur.size = cap ∧ cur.toList.take s.size = Lib.strCells s
theorem RdB.below {w w1 : World} {A : Option Addr} {s : ByteArray} (h : RdB w A s) (hb : Below w.heap.size w w1) : RdB w1 A s := fun hs => by
  obtain ⟨ad, hA, hc⟩ := h hs
  exact ⟨ad, hA, fun j u hj => by
    have := hc j u hj
    exact (hb.cell (World.block_lt_of_cell? w _ this)).trans this⟩
theorem add_plain (g j : Nat) : (⟨g, 0, none⟩ : Addr).add j = ⟨g, j, none⟩ := by unfold Addr.add; split <;> simp_all
theorem RdB.of_block {w : World} {g : Nat} {cur : Array Value} {t : TypeId} {s : ByteArray} (hg : w.heap[g]? = some (.cells cur t (0, 0))) (hc : cur.toList.take s.size = Lib.strCells s) : RdB w (some ⟨g, 0, none⟩) s := fun _ => by
  refine ⟨_, rfl, fun j u hj => ?_⟩
  rw [add_plain, cell_at hg]
  have h1 := (List.getElem?_eq_some_iff.1 hj).1
  rw [Lib.strCells_length] at h1
  rw [← hc, List.getElem?_take, if_pos h1] at hj
  simpa using hj
theorem OwnB.rd {w : World} {base : Nat} {v : Value} {s : ByteArray} (h : OwnB w base v s) : ∃ A c, v = .slice A s.size c ∧ s.size ≤ c ∧ RdB w A s := by
  obtain ⟨g, cap, cur, rfl, _, h2, _, h3, _, h4⟩ := h
  exact ⟨_, _, rfl, h2, RdB.of_block h3 h4⟩
theorem OwnB.own {w : World} {base : Nat} {v : Value} {s : ByteArray} (h : OwnB w base v s) : w.ownsRow base 5 1 v s.size (Lib.strCells s) := by
  obtain ⟨g, cap, cur, rfl, h1, h2, h5, h3, h6, h4⟩ := h
  exact ⟨by rw [Lib.strCells_length, Nat.mul_one], .inr ⟨g, cap, cur, rfl, h1, h3, h2, h5, by rw [h6, Nat.mul_one], by rw [Nat.mul_one]; exact h4⟩⟩
theorem ownB_of {w : World} {base : Nat} {v : Value} {s : ByteArray} {n : Nat} (h : w.ownsRow base 5 1 v n (Lib.strCells s)) (hv : v ≠ .slice none 0 0) : OwnB w base v s := by
  have hn : s.size = n := by have := h.1; rw [Lib.strCells_length] at this; omega
  subst hn
  rcases h.2 with ⟨h0, _⟩ | ⟨g, cap, cur, rfl, h1, h3, h2, h5, h6, h4⟩
  · exact absurd h0 hv
  · exact ⟨g, cap, cur, rfl, h1, h2, h5, h3, by rw [h6, Nat.mul_one], by rw [Nat.mul_one] at h4; exact h4⟩
theorem OwnB.below {w w1 : World} {base : Nat} {v : Value} {s : ByteArray} (h : OwnB w base v s) (hb : Below w.heap.size w w1) : OwnB w1 base v s := by
  obtain ⟨g, cap, cur, h0, h1, h2, h5, h3, h6, h4⟩ := h
  exact ⟨g, cap, cur, h0, h1, h2, h5, (hb.block g (lt_of_some h3)).trans h3, h6, h4⟩
theorem OwnB.lower {w : World} {base base' : Nat} {v : Value} {s : ByteArray} (h : OwnB w base v s) (hb : base' ≤ base) : OwnB w base' v s := by
  obtain ⟨g, cap, cur, h0, h1, h2⟩ := h
  exact ⟨g, cap, cur, h0, Nat.le_trans hb h1, h2⟩

set_option maxHeartbeats 400000 in
/-- slices.Clone of bytes. -/
theorem clone_any (A : Addr) (c : Nat) (s : ByteArray) (w : World) (hr : RdB w (some A) s) (hs : s.size ≤ 1000000) :
    Calls Tryz.prog 42 #[.slice (some A) s.size c] w fun e w' => ∃ v, e = .returned v ∧ OwnB w' w.heap.size v s ∧ Below w.heap.size w w' := by
  obtain ⟨i0, hi, hz0, hz1, hz2⟩ := info_parts infoByte
  have hnews : ∀ (j : Nat) (u : Value), (Lib.strCells s)[j]? = some u → w.cell? (A.add j) = some u := by
    intro j u hj
    have h1 := (List.getElem?_eq_some_iff.1 hj).1
    rw [Lib.strCells_length] at h1
    obtain ⟨ad, hA, hc⟩ := hr (by omega)
    injection hA with hA
    subst hA
    exact hc j u hj
  have HN := Lib.hid hnews
  clear hnews hr
  go_enter Tryz.func42, Tryz.ntmps42
  have heq := fun wx : World => Lib.run_eql_slice_nil (P := Tryz.prog) wx 22 5 (some A) s.size c 0 0 Tryz.underlying22
  go_wp2_with (at_builtin; refine wpList_append_own _ rfl _ _ 22 rfl w.heap.size 5 i0 (.int .u8 0) 1 1 Tryz.underlying22 hi hz0 hz1 hz2 rfl (by decide) (.slice (some ⟨w.heap.size, 0, none⟩) 0 0) 0 [] rfl ⟨rfl, .inr ⟨w.heap.size, 0, #[], rfl, Nat.le_refl _, new_block w _, Nat.le_refl _, by decide, rfl, rfl⟩⟩ A s.size c (Lib.strCells s) rfl (by rw [Lib.strCells_length, Nat.mul_one]) (fun j u hj => cell_alloc (HN.out j u hj) _) (Lib.strCells_oneCell s) (by unfold maxLen; omega) (by omega) (by simp) ?_; intro v1 w1 hown hgr hnil)
  go_ret
  refine ⟨v1, rfl, ownB_of (by simpa using hown) (fun e => ?_), ((Below.refl _ _).alloc (Nat.le_refl _) _).grown hgr (by simp) (fun k hk => ?_)⟩
  · have := hnil.1 e; simp at this
  · simp [Value.ownBlock] at hk; omega
section
variable {F : Nat → Prop} {b : Nat} {P : List ByteArray} {Q : List (Nat × ByteArray)} {w : World}
theorem own_slice {base e size n : Nat} {v : Value} {xs : List Value} (h : w.ownsRow base e size v n xs) : ∃ A c, v = .slice A n c ∧ n ≤ c := by
  rcases h.2 with ⟨rfl, rfl⟩ | ⟨g, cap, cur, rfl, _, _, h2, _⟩
  · exact ⟨_, _, rfl, Nat.le_refl _⟩
  · exact ⟨_, _, rfl, h2⟩
set_option maxHeartbeats 400000 in
theorem pages_any (hd : Dev w F b P Q) : Calls Tryz.prog 41 #[.pointer (some ⟨b, 0, none⟩)] w fun e w' => e = .returned (.int .i64 (P.length : Int)) ∧ w = w' := by
  obtain ⟨vp, vw, gs, hs, hd, hf⟩ := hd
  obtain ⟨A, c, rfl, hc⟩ := own_slice hd.rowP
  have hc0 := cell_at hd.blk 0
  have hsm := hd.small
  clear hd hf
  go_enter Tryz.func41, Tryz.ntmps41
  go_wp2
  go_ret
  exact ⟨rfl, rfl⟩
theorem pages_nil (w : World) : Calls Tryz.prog 41 #[.pointer none] w fun e w' => e = .returned (.int .i64 0) ∧ w = w' := by
  go_enter Tryz.func41, Tryz.ntmps41
  go_wp2
  go_ret
  exact ⟨rfl, rfl⟩
end
end Go.Proofs.YtpgpphmpnebafaaGreat.Dv
