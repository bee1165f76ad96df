/- General facts on memory and on bytes: what a change leaves; bytes that can be read; bytes in a row of one's own; bytes as a string, and a string as bytes. -/
import Derived.Test.YtpgpphmpnebafaaGreatProg
import Derived.WalkKit
import Derived.WalkSpells
import Derived.WalkLawsBesides
import Derived.Lib.Hide
import Derived.Lib.Strings
import Derived.Lib.AppendStr
import Derived.Laws.AppendOwn
import Derived.Laws.MakeOwn
import Derived.Laws.BytesArg
import Derived.OwnWalk
import Derived.Below
import Derived.KernelRfl
import Derived.Deep.Draws
import Derived.Lib.ConvBytes
namespace Go.Proofs.YtpgpphmpnebafaaGreat.By
open Go.RowKit
set_option linter.unusedSimpArgs false
set_option linter.unusedVariables false
set_option maxRecDepth 100000

theorem ba_ext {s t : ByteArray} (h : s.data.toList = t.data.toList) : s = t := ByteArray.ext (Array.toList_inj.1 h)
theorem size_data (s : ByteArray) : s.size = s.data.toList.length := by rw [Array.length_toList]; rfl
theorem ext_size (s : ByteArray) (a b : Nat) : (s.extract a b).size = min b s.size - a := by simp
theorem ext_all {s : ByteArray} {n : Nat} (h : s.size ≤ n) : s.extract 0 n = s := by
  apply ba_ext
  rw [Lib.extract_data, List.drop_zero, List.take_of_length_le (by rw [← size_data]; omega)]
theorem take_snoc {α : Type} (l : List α) (k : Nat) (x : α) (h : l[k]? = some x) : l.take (k + 1) = l.take k ++ [x] := by
  have hk := (List.getElem?_eq_some_iff.1 h).1
  rw [List.take_succ_eq_append_getElem hk]
  have : l[k] = x := by rw [List.getElem?_eq_getElem hk] at h; exact Option.some.inj h
  rw [this]
section
variable {F G : Nat → Prop} {w w1 w2 : World}
/-- Nothing that was there has changed but blocks of F. -/
structure Chg (F : Nat → Prop) (w w' : World) : Prop where
  os : w'.os = w.os
  tape : w'.tape = w.tape
  output : w'.output = w.output
  size : w.heap.size ≤ w'.heap.size
  block : ∀ k, k < w.heap.size → ¬ F k → w'.heap[k]? = w.heap[k]?
theorem Chg.refl (F : Nat → Prop) (w : World) : Chg F w w := ⟨rfl, rfl, rfl, Nat.le_refl _, fun _ _ _ => rfl⟩
theorem Chg.of_below (h : Below w.heap.size w w1) (F : Nat → Prop) : Chg F w w1 := ⟨h.os, h.tape, h.output, h.size, fun k hk _ => h.block k hk⟩
theorem Chg.of_grown {row : Option Nat} (h : w.grownBy w1 row) (hF : ∀ k, row = some k → F k) : Chg F w w1 := ⟨h.os, h.tape, h.output, h.size, fun k hk hn => h.block k hk (fun e => hn (hF k e.symm))⟩
theorem Chg.trans (h : Chg F w w1) (k : Chg G w1 w2) (hG : ∀ j, G j → F j ∨ w.heap.size ≤ j) : Chg F w w2 :=
  ⟨k.os.trans h.os, k.tape.trans h.tape, k.output.trans h.output, Nat.le_trans h.size k.size, fun j hj hn =>
    (k.block j (Nat.lt_of_lt_of_le hj h.size) (fun hg => by rcases hG j hg with a | a; exact hn a; omega)).trans (h.block j hj hn)⟩
theorem Chg.mono (h : Chg F w w1) (hG : ∀ j, F j → G j) : Chg G w w1 := ⟨h.os, h.tape, h.output, h.size, fun k hk hn => h.block k hk (fun a => hn (hG k a))⟩
theorem Chg.setCell (h : Chg F w w1) {p : Addr} (hp : F p.block ∨ w.heap.size ≤ p.block) (u : Value) : Chg F w (w1.setCell p u) :=
  ⟨h.os, h.tape, h.output, by simpa [World.setCell] using h.size, fun k hk hn => (Below.heap_setCell w1 p u k (fun e => by subst e; rcases hp with a | a; exact hn a; omega)).trans (h.block k hk hn)⟩
/-- Seen from an earlier world, ahead of all of F. -/
theorem Chg.below {B : Nat} {w0 : World} (h : Chg F w w1) (hb : Below B w0 w) (hF : ∀ k, F k → B ≤ k) (hB : B ≤ w.heap.size) : Below B w0 w1 :=
  hb.trans ⟨h.os, h.tape, h.output, h.size, fun k hk => h.block k (by omega) (fun a => by have := hF k a; omega)⟩
theorem below_al {w W : World} (h : Below w.heap.size w W) (o : Obj) : Below w.heap.size w (W.alloc o) := h.alloc h.size o
theorem below_dr {B : Nat} {w W : World} (h : Below B w W) : Below B w W.drew := ⟨h.os, h.tape, h.output, h.size, h.block⟩
theorem below_dn {B : Nat} {w W : World} (h : Below B w W) (n : Nat) : Below B w (W.drewN n) := ⟨h.os, h.tape, h.output, h.size, h.block⟩
theorem below_st {w W : World} (h : Below w.heap.size w W) {p : Addr} (hp : w.heap.size ≤ p.block) (u : Value) : Below w.heap.size w (W.setCell p u) := h.setCell hp u
theorem bl {a b c : World} (h : Below a.heap.size a b) (k : Below b.heap.size b c) : Below a.heap.size a c := h.trans (k.mono h.size)
theorem new_block (w : World) (X : Obj) : (w.alloc X).heap[w.heap.size]? = some X := by show (w.heap.push X)[w.heap.size]? = _; simp
theorem new_later {w W : World} {X : Obj} (h : Below (w.alloc X).heap.size (w.alloc X) W) : W.heap[w.heap.size]? = some X := (h.block _ (by simp)).trans (new_block w X)
theorem one_cell {W : World} {g : Nat} {v : Value} (h : W.cell? ⟨g, 0, none⟩ = some v) : ∀ (j : Nat) (u : Value), [v][j]? = some u → W.cell? ((⟨g, 0, none⟩ : Addr).add j) = some u := by
  intro j u hj
  have hj0 : j = 0 := by have := (List.getElem?_eq_some_iff.1 hj).1; simpa using this
  subst hj0
  have : v = u := by simpa using hj
  subst this
  exact h
theorem two_cells {W : World} {g : Nat} {v u : Value} (h : W.cell? ⟨g, 0, none⟩ = some v) (h1 : W.cell? ⟨g, 1, none⟩ = some u) : ∀ (j : Nat) (x : Value), [v, u][j]? = some x → W.cell? ((⟨g, 0, none⟩ : Addr).add j) = some x := by
  intro j x hj
  have hj2 : j < 2 := by have := (List.getElem?_eq_some_iff.1 hj).1; simpa using this
  have hjc : j = 0 ∨ j = 1 := by omega
  rcases hjc with rfl | rfl
  · have : v = x := by simpa using hj
    subst this; exact h
  · have : u = x := by simpa using hj
    subst this; exact h1
theorem lt_of_some {o : Obj} {k : Nat} (h : w.heap[k]? = some o) : k < w.heap.size := (Array.getElem?_eq_some_iff.1 h).1
theorem own_lt {base : Nat} {e : TypeId} {size n : Nat} {v : Value} {xs : List Value} (h : w.ownsRow base e size v n xs) (k : Nat) (hk : v.ownBlock = some k) : k < w.heap.size := by
  rcases h.2 with ⟨rfl, _⟩ | ⟨g, cap, cur, rfl, _, hh, _⟩
  · simp [Value.ownBlock] at hk
  · have : g = k := by simpa [Value.ownBlock] using hk
    subst this; exact lt_of_some hh
theorem own_move {base : Nat} {e : TypeId} {size n : Nat} {v : Value} {xs : List Value} (h : w.ownsRow base e size v n xs) (hm : ∀ k, v.ownBlock = some k → w1.heap[k]? = w.heap[k]?) : w1.ownsRow base e size v n xs := by
  obtain ⟨h1, h2⟩ := h
  refine ⟨h1, ?_⟩
  rcases h2 with h2 | ⟨g, cap, cur, rfl, hg, hh, r⟩
  · exact .inl h2
  · exact .inr ⟨g, cap, cur, rfl, hg, (hm g (by simp [Value.ownBlock])).trans hh, r⟩
theorem own_below {base : Nat} {e : TypeId} {size n : Nat} {v : Value} {xs : List Value} (h : w.ownsRow base e size v n xs) (hb : Below w.heap.size w w1) : w1.ownsRow base e size v n xs := own_move h fun k hk => hb.block k (own_lt h k hk)
theorem own_typed {base : Nat} {e : TypeId} {size n : Nat} {v : Value} {xs : List Value} (h : w.ownsRow base e size v n xs) (k : Nat) (hk : v.ownBlock = some k) : ∃ cells, w.heap[k]? = some (.cells cells e (0, 0)) := by
  rcases h.2 with ⟨rfl, _⟩ | ⟨g, cap, cur, rfl, _, hh, _⟩
  · simp [Value.ownBlock] at hk
  · have : g = k := by simpa [Value.ownBlock] using hk
    subst this; exact ⟨cur, hh⟩
/-- Rows of other kinds are other blocks. -/
theorem type_ne {k : Nat} {c c' : Array Value} {e e' : TypeId} (h : w.heap[k]? = some (.cells c e (0, 0))) (h' : w.heap[k]? = some (.cells c' e' (0, 0))) (hne : e ≠ e') : False := by
  rw [h] at h'; injection h' with h'; injection h' with _ h'; exact hne h'
end
theorem heap_setCell_self (w : World) (g i : Nat) (cs : Array Value) (t : TypeId) (u : Value) (h : w.heap[g]? = some (.cells cs t (0, 0))) : (w.setCell ⟨g, i, none⟩ u).heap[g]? = some (.cells (cs.setIfInBounds i u) t (0, 0)) := by
  simp only [World.setCell, Array.getElem?_modify, if_pos, h]
  simp
theorem heap_setCell_ne (w : World) (g i k : Nat) (u : Value) (h : k ≠ g) : (w.setCell ⟨g, i, none⟩ u).heap[k]? = w.heap[k]? := Below.heap_setCell w ⟨g, i, none⟩ u k h
theorem cell_alloc {w : World} {p : Addr} {v : Value} (h : w.cell? p = some v) (X : Obj) : (w.alloc X).cell? p = some v := by
  have := World.block_lt_of_cell? w p h
  exact (World.cell?_of_block (w := w) (Below.heap_alloc w X p.block this)).trans h
theorem own_setCell {w : World} {base : Nat} {e : TypeId} {size n : Nat} {v : Value} {xs : List Value} (h : w.ownsRow base e size v n xs) (g i : Nat) (u : Value) (hne : ∀ k, v.ownBlock = some k → k ≠ g) : (w.setCell ⟨g, i, none⟩ u).ownsRow base e size v n xs :=
  own_move h fun k hk => heap_setCell_ne w g i k u (hne k hk)
theorem infoByte : (Tryz.prog.info? 5).map (fun i => (i.zero, i.size, i.bytes)) = some (some (.int .u8 0), 1, 1) := by kernel_rfl
theorem cell_at {w : World} {g t : Nat} {cs : Array Value} (h : w.heap[g]? = some (.cells cs t (0, 0))) (i : Nat) : w.cell? ⟨g, i, none⟩ = cs[i]? := by
  simp [World.cell?, h]
theorem frozen_at {w : World} {g t : Nat} {cs : Array Value} (h : w.heap[g]? = some (.cells cs t (0, 0))) (i : Nat) : w.frozen? ⟨g, i, none⟩ = false := by
  simp [World.frozen?, h]
theorem add_plain2 (g off j : Nat) : (⟨g, off, none⟩ : Addr).add j = ⟨g, off + j, none⟩ := by unfold Addr.add; split <;> simp_all
/-- Bytes that are read at an address. -/
def RdB (w : World) (A : Option Addr) (s : ByteArray) : Prop := 0 < s.size → ∃ ad, A = some ad ∧ ∀ (j : Nat) (u : Value), (Lib.strCells s)[j]? = some u → w.cell? (ad.add j) = some u
/-- Bytes in a row of one's own, from block 'base' on. -/
def OwnB (w : World) (base : Nat) (v : Value) (s : ByteArray) : Prop :=
  ∃ g cap cur, v = .slice (some ⟨g, 0, none⟩) s.size cap ∧ base ≤ g ∧ s.size ≤ cap ∧ cap ≤ maxLen ∧ w.heap[g]? = some (.cells cur 5 (0, 0)) ∧ cur.size = cap ∧ cur.toList.take s.size = Lib.strCells s
theorem RdB.below {w w1 : World} {A : Option Addr} {s : ByteArray} (h : RdB w A s) (hb : Below w.heap.size w w1) : RdB w1 A s := fun hs => by
  obtain ⟨ad, hA, hc⟩ := h hs
  exact ⟨ad, hA, fun j u hj => by
    have := hc j u hj
    exact (hb.cell (World.block_lt_of_cell? w _ this)).trans this⟩
theorem add_plain (g j : Nat) : (⟨g, 0, none⟩ : Addr).add j = ⟨g, j, none⟩ := by unfold Addr.add; split <;> simp_all
theorem RdB.of_block {w : World} {g : Nat} {cur : Array Value} {t : TypeId} {s : ByteArray} (hg : w.heap[g]? = some (.cells cur t (0, 0))) (hc : cur.toList.take s.size = Lib.strCells s) : RdB w (some ⟨g, 0, none⟩) s := fun _ => by
  refine ⟨_, rfl, fun j u hj => ?_⟩
  rw [add_plain, cell_at hg]
  have h1 := (List.getElem?_eq_some_iff.1 hj).1
  rw [Lib.strCells_length] at h1
  rw [← hc, List.getElem?_take, if_pos h1] at hj
  simpa using hj
theorem OwnB.rd {w : World} {base : Nat} {v : Value} {s : ByteArray} (h : OwnB w base v s) : ∃ A c, v = .slice A s.size c ∧ s.size ≤ c ∧ RdB w A s := by
  obtain ⟨g, cap, cur, rfl, _, h2, _, h3, _, h4⟩ := h
  exact ⟨_, _, rfl, h2, RdB.of_block h3 h4⟩
theorem OwnB.own {w : World} {base : Nat} {v : Value} {s : ByteArray} (h : OwnB w base v s) : w.ownsRow base 5 1 v s.size (Lib.strCells s) := by
  obtain ⟨g, cap, cur, rfl, h1, h2, h5, h3, h6, h4⟩ := h
  exact ⟨by rw [Lib.strCells_length, Nat.mul_one], .inr ⟨g, cap, cur, rfl, h1, h3, h2, h5, by rw [h6, Nat.mul_one], by rw [Nat.mul_one]; exact h4⟩⟩
theorem ownB_of {w : World} {base : Nat} {v : Value} {s : ByteArray} {n : Nat} (h : w.ownsRow base 5 1 v n (Lib.strCells s)) (hv : v ≠ .slice none 0 0) : OwnB w base v s := by
  have hn : s.size = n := by have := h.1; rw [Lib.strCells_length] at this; omega
  subst hn
  rcases h.2 with ⟨h0, _⟩ | ⟨g, cap, cur, rfl, h1, h3, h2, h5, h6, h4⟩
  · exact absurd h0 hv
  · exact ⟨g, cap, cur, rfl, h1, h2, h5, h3, by rw [h6, Nat.mul_one], by rw [Nat.mul_one] at h4; exact h4⟩
theorem OwnB.below {w w1 : World} {base : Nat} {v : Value} {s : ByteArray} (h : OwnB w base v s) (hb : Below w.heap.size w w1) : OwnB w1 base v s := by
  obtain ⟨g, cap, cur, h0, h1, h2, h5, h3, h6, h4⟩ := h
  exact ⟨g, cap, cur, h0, h1, h2, h5, (hb.block g (lt_of_some h3)).trans h3, h6, h4⟩
theorem OwnB.lower {w : World} {base base' : Nat} {v : Value} {s : ByteArray} (h : OwnB w base v s) (hb : base' ≤ base) : OwnB w base' v s := by
  obtain ⟨g, cap, cur, h0, h1, h2⟩ := h
  exact ⟨g, cap, cur, h0, Nat.le_trans hb h1, h2⟩
set_option maxRecDepth 100000 in
set_option maxHeartbeats 400000 in
theorem clone_any (A : Addr) (c : Nat) (s : ByteArray) (w : World) (hr : RdB w (some A) s) (hs : s.size ≤ 1000000) :
    Calls Tryz.prog 42 #[.slice (some A) s.size c] w fun e w' => ∃ v, e = .returned v ∧ OwnB w' w.heap.size v s ∧ Below w.heap.size w w' := by
  obtain ⟨i0, hi, hz0, hz1, hz2⟩ := info_parts infoByte
  have hnews : ∀ (j : Nat) (u : Value), (Lib.strCells s)[j]? = some u → w.cell? (A.add j) = some u := by
    intro j u hj
    have h1 := (List.getElem?_eq_some_iff.1 hj).1
    rw [Lib.strCells_length] at h1
    obtain ⟨ad, hA, hc⟩ := hr (by omega)
    injection hA with hA
    subst hA
    exact hc j u hj
  have HN := Lib.hid hnews
  clear hnews hr
  go_enter Tryz.func42, Tryz.ntmps42
  have heq := fun wx : World => Lib.run_eql_slice_nil (P := Tryz.prog) wx 22 5 (some A) s.size c 0 0 Tryz.underlying22
  go_wp2_with (at_builtin; refine wpList_append_own _ rfl _ _ 22 rfl w.heap.size 5 i0 (.int .u8 0) 1 1 Tryz.underlying22 hi hz0 hz1 hz2 rfl (by decide) (.slice (some ⟨w.heap.size, 0, none⟩) 0 0) 0 [] rfl ⟨rfl, .inr ⟨w.heap.size, 0, #[], rfl, Nat.le_refl _, new_block w _, Nat.le_refl _, by decide, rfl, rfl⟩⟩ A s.size c (Lib.strCells s) rfl (by rw [Lib.strCells_length, Nat.mul_one]) (fun j u hj => cell_alloc (HN.out j u hj) _) (Lib.strCells_oneCell s) (by unfold maxLen; omega) (by omega) (by simp) ?_; intro v1 w1 hown hgr hnil)
  go_ret
  refine ⟨v1, rfl, ownB_of (by simpa using hown) (fun e => ?_), ((Below.refl _ _).alloc (Nat.le_refl _) _).grown hgr (by simp) (fun k hk => ?_)⟩
  · have := hnil.1 e; simp at this
  · simp [Value.ownBlock] at hk; omega
theorem own_slice {w : World} {base e size n : Nat} {v : Value} {xs : List Value} (h : w.ownsRow base e size v n xs) : ∃ A c, v = .slice A n c ∧ n ≤ c := by
  rcases h.2 with ⟨rfl, rfl⟩ | ⟨g, cap, cur, rfl, _, _, h2, _⟩
  · exact ⟨_, _, rfl, Nat.le_refl _⟩
  · exact ⟨_, _, rfl, h2⟩
theorem strOf (s : ByteArray) : strOfNums (s.data.toList.map fun b => (b.toNat : Int)) = s := by
  unfold strOfNums
  apply ba_ext
  rw [List.toList_toArray, List.map_map]
  have : ((fun n : Int => UInt8.ofNat n.toNat) ∘ fun b : UInt8 => (b.toNat : Int)) = id := by
    funext b; simp
  rw [this, List.map_id]
/-- string(b) -/
theorem conv_bytes {W : World} {A : Option Addr} {s : ByteArray} (h : RdB W A s) (hA : ∀ ad, A = some ad → ad.spot = none) (c : Nat) : (convert 22 9 (.slice A s.size c)).run Tryz.prog W = .ok (.string s) W := by
  cases A with
  | none =>
    have h0 : s.size = 0 := by
      by_cases hp : 0 < s.size
      · obtain ⟨ad, he, _⟩ := h hp; cases he
      · omega
    have hs : s = ByteArray.empty := by
      apply ba_ext
      have : s.data.toList.length = 0 := by rw [← size_data]; exact h0
      rw [List.length_eq_zero_iff.1 this]; rfl
    rw [hs]
    exact run_convert_bytes_nil W 22 5 Tryz.underlying22 Tryz.underlying5 _ c 9 Tryz.underlying9
  | some ad =>
    obtain ⟨b, o, sp⟩ := ad
    have hsp : sp = none := hA _ rfl
    subst hsp
    have := run_convert_bytes_arg (P := Tryz.prog) W 22 5 Tryz.underlying22 Tryz.underlying5 b o s.size c (s.data.toList.map fun b => (b.toNat : Int)) (by rw [List.length_map, ← size_data]) (fun i hi => by
      obtain ⟨ad, he, hc⟩ := h (by omega)
      injection he with he; subst he
      have hlen : i < s.data.toList.length := by rw [← size_data]; exact hi
      have := hc i (.int .u8 ((s.data.toList[i]).toNat : Int)) (by unfold Lib.strCells; rw [List.getElem?_map, List.getElem?_eq_getElem hlen]; rfl)
      rw [show (⟨b, o, none⟩ : Addr).add i = ⟨b, o + i, none⟩ from by unfold Addr.add; split <;> simp_all] at this
      rw [this, List.getD_eq_getElem?_getD, List.getElem?_map, List.getElem?_eq_getElem hlen]; rfl) 9 Tryz.underlying9
    rw [strOf] at this
    exact this
theorem own_conv {W : World} {base : Nat} {v : Value} {s : ByteArray} (h : W.ownsRow base 5 1 v s.size (Lib.strCells s)) : (convert 22 9 v).run Tryz.prog W = .ok (.string s) W := by
  rcases h.2 with ⟨hv, h0⟩ | ⟨g, cap, cur, hv, hg, hh, h2, h3, h4, h5⟩
  · rw [hv]
    have := conv_bytes (W := W) (A := none) (s := s) (fun hp => by omega) (fun _ h => by cases h) 0
    rw [h0] at this
    exact this
  · rw [hv]
    exact conv_bytes (RdB.of_block hh (by rw [Nat.mul_one] at h5; exact h5)) (fun ad h => by cases h; rfl) cap
theorem conv_in (w : World) (s : ByteArray) : ∃ c W, (convert 9 22 (.string s)).run Tryz.prog w = .ok (.slice (some ⟨w.heap.size, 0, none⟩) s.size c) W ∧ s.size ≤ c ∧ RdB W (some ⟨w.heap.size, 0, none⟩) s ∧ Below w.heap.size w W := by
  refine ⟨_, _, Lib.run_convert_string_bytes w _ _ 5 s Tryz.underlying9 Tryz.underlying22 Tryz.underlying5, ?_, ?_, ?_⟩
  · exact grownCap_ge w s.size 0 5
  · intro _
    refine ⟨_, rfl, fun j u hj => ?_⟩
    have h1 := (List.getElem?_eq_some_iff.1 hj).1
    rw [Lib.strCells_length] at h1
    rw [add_plain, Lib.bytesWorld_cell w _ s j h1]
    rw [← hj]
    unfold Lib.strCells
    rw [List.getElem?_map, List.getD_eq_getElem?_getD]
    have h2 : j < s.data.toList.length := by rw [← size_data]; exact h1
    rw [List.getElem?_eq_getElem h2]; rfl
  · exact ⟨rfl, rfl, rfl, by rw [Lib.bytesWorld_size]; omega, fun k hk => Lib.bytesWorld_at_old w _ s k hk⟩
theorem u8_nat {n : Int} (h : (Lit.int .u8 n).wf = true) : ∃ m : Nat, n = (m : Int) ∧ m < 256 := by
  have e0 : IntKind.u8.min = 0 := rfl
  have e1 : IntKind.u8.max = 255 := rfl
  simp only [Lit.wf, Bool.and_eq_true, decide_eq_true_eq, e0, e1] at h
  exact ⟨n.toNat, by omega, by omega⟩
theorem OwnB.chg {F : Nat → Prop} {w w1 : World} {base : Nat} {v : Value} {s : ByteArray} (h : OwnB w base v s) (hc : Chg F w w1) (hF : ∀ k, F k → k < base) : OwnB w1 base v s := by
  obtain ⟨g, cap, cur, rfl, hg, h1, h2, h3, h4, h5⟩ := h
  exact ⟨g, cap, cur, rfl, hg, h1, h2, (hc.block g (lt_of_some h3) (fun hf => by have := hF g hf; omega)).trans h3, h4, h5⟩
theorem OwnB.conv {w X : World} {base : Nat} {v : Value} {s : ByteArray} (h : OwnB w base v s) (hX : Below w.heap.size w X) : (convert 22 9 v).run Tryz.prog X = .ok (.string s) X := own_conv (own_below h.own hX)
theorem OwnB.at {w : World} {base : Nat} {v : Value} {s : ByteArray} (h : OwnB w base v s) (i : Nat) (hi : i < s.size) :
    ∃ g c x, v = .slice (some ⟨g, 0, none⟩) s.size c ∧ base ≤ g ∧ g < w.heap.size ∧ s.size ≤ c ∧ w.cell? ⟨g, i, none⟩ = some (.int .u8 x) ∧ w.frozen? ⟨g, i, none⟩ = false := by
  obtain ⟨g, cap, cur, rfl, h1, h2, h5, h3, h6, h4⟩ := h
  have hj : (Lib.strCells s)[i]? = some (Value.int .u8 (((s.data.toList[i]'(by rw [← size_data]; exact hi)).toNat : Int))) := by
    unfold Lib.strCells
    rw [List.getElem?_map, List.getElem?_eq_getElem (by rw [← size_data]; exact hi)]; rfl
  rw [← h4, List.getElem?_take, if_pos hi, Array.getElem?_toList] at hj
  exact ⟨g, cap, _, rfl, h1, lt_of_some h3, h2, (cell_at h3 i).trans hj, frozen_at h3 i⟩
theorem OwnB.cell {w : World} {base g n c : Nat} {s : ByteArray} (h : OwnB w base (.slice (some ⟨g, 0, none⟩) n c) s) (i : Nat) (hi : i < s.size) :
    base ≤ g ∧ g < w.heap.size ∧ ∃ x, w.cell? ⟨g, i, none⟩ = some (.int .u8 x) ∧ w.frozen? ⟨g, i, none⟩ = false := by
  obtain ⟨g', c', x, hv, h1, h2, _, h3, h4⟩ := h.at i hi
  injection hv with hv
  injection hv with hv
  injection hv with hv
  subst hv
  exact ⟨h1, h2, x, h3, h4⟩
theorem OwnB.rds {w : World} {base g n c : Nat} {s : ByteArray} (h : OwnB w base (.slice (some ⟨g, 0, none⟩) n c) s) : RdB w (some ⟨g, 0, none⟩) s := by
  obtain ⟨A, c', hv, _, hr⟩ := h.rd
  injection hv with hv
  subst hv
  exact hr
theorem OwnB.shape {w : World} {base n : Nat} {v : Value} {s : ByteArray} (h : OwnB w base v s) (hn : s.size = n) : ∃ g c, v = .slice (some ⟨g, 0, none⟩) n c := by
  obtain ⟨g, cap, cur, rfl, _⟩ := h
  exact ⟨g, cap, by rw [hn]⟩
theorem own_conv_nil (w : World) : (convert 22 9 (.slice none 0 0)).run Tryz.prog w = .ok (.string ByteArray.empty) w := own_conv (s := ByteArray.empty) (World.ownsRow_nil w 0 5 1)
theorem u64_nat {n : Int} (h : (Lit.int .u64 n).wf = true) : ∃ m : Nat, n = (m : Int) ∧ m < 18446744073709551616 := by
  have e0 : IntKind.u64.min = 0 := rfl
  have e1 : IntKind.u64.max = 18446744073709551615 := rfl
  simp only [Lit.wf, Bool.and_eq_true, decide_eq_true_eq, e0, e1] at h
  exact ⟨n.toNat, by omega, by omega⟩
end Go.Proofs.YtpgpphmpnebafaaGreat.By
