/- How a device of the program lies in memory: its block, the row of its pages, the row of its writes; what a store, a new block and an append leave of it. -/
import Derived.Test.YtpgpphmpnebafaaGreatDvP
import Derived.Test.YtpgpphmpnebafaaGreatProg
import Derived.Laws.AppendOwn
import Derived.OwnWalk
import Derived.Below
import Derived.Lib.AppendStr
import Derived.KernelRfl
import Derived.Deep.Draws
namespace Go.Proofs.YtpgpphmpnebafaaGreat.Dv
open Go.RowKit

/-- Nothing that was there has changed but blocks of F. -/
structure Chg (F : Nat → Prop) (w w' : World) : Prop where
  os : w'.os = w.os
  tape : w'.tape = w.tape
  output : w'.output = w.output
  size : w.heap.size ≤ w'.heap.size
  block : ∀ k, k < w.heap.size → ¬ F k → w'.heap[k]? = w.heap[k]?
section
variable {F G : Nat → Prop} {w w1 w2 : World}
theorem Chg.refl (F : Nat → Prop) (w : World) : Chg F w w := ⟨rfl, rfl, rfl, Nat.le_refl _, fun _ _ _ => rfl⟩
theorem Chg.of_below (h : Below w.heap.size w w1) (F : Nat → Prop) : Chg F w w1 := ⟨h.os, h.tape, h.output, h.size, fun k hk _ => h.block k hk⟩
theorem Chg.of_grown {row : Option Nat} (h : w.grownBy w1 row) (hF : ∀ k, row = some k → F k) : Chg F w w1 := ⟨h.os, h.tape, h.output, h.size, fun k hk hn => h.block k hk (fun e => hn (hF k e.symm))⟩
theorem Chg.trans (h : Chg F w w1) (k : Chg G w1 w2) (hG : ∀ j, G j → F j ∨ w.heap.size ≤ j) : Chg F w w2 :=
  ⟨k.os.trans h.os, k.tape.trans h.tape, k.output.trans h.output, Nat.le_trans h.size k.size, fun j hj hn =>
    (k.block j (Nat.lt_of_lt_of_le hj h.size) (fun hg => by rcases hG j hg with a | a; exact hn a; omega)).trans (h.block j hj hn)⟩
theorem Chg.mono (h : Chg F w w1) (hG : ∀ j, F j → G j) : Chg G w w1 := ⟨h.os, h.tape, h.output, h.size, fun k hk hn => h.block k hk (fun a => hn (hG k a))⟩
theorem Chg.setCell (h : Chg F w w1) {p : Addr} (hp : F p.block ∨ w.heap.size ≤ p.block) (u : Value) : Chg F w (w1.setCell p u) :=
  ⟨h.os, h.tape, h.output, by simpa [World.setCell] using h.size, fun k hk hn => (Below.heap_setCell w1 p u k (fun e => by subst e; rcases hp with a | a; exact hn a; omega)).trans (h.block k hk hn)⟩
/-- Seen from an earlier world, ahead of all of F. -/
theorem Chg.below {B : Nat} {w0 : World} (h : Chg F w w1) (hb : Below B w0 w) (hF : ∀ k, F k → B ≤ k) (hB : B ≤ w.heap.size) : Below B w0 w1 :=
  hb.trans ⟨h.os, h.tape, h.output, h.size, fun k hk => h.block k (by omega) (fun a => by have := hF k a; omega)⟩
end

theorem below_al {w W : World} (h : Below w.heap.size w W) (o : Obj) : Below w.heap.size w (W.alloc o) := h.alloc h.size o
theorem below_dr {B : Nat} {w W : World} (h : Below B w W) : Below B w W.drew := ⟨h.os, h.tape, h.output, h.size, h.block⟩
theorem below_dn {B : Nat} {w W : World} (h : Below B w W) (n : Nat) : Below B w (W.drewN n) := ⟨h.os, h.tape, h.output, h.size, h.block⟩
theorem below_st {w W : World} (h : Below w.heap.size w W) {p : Addr} (hp : w.heap.size ≤ p.block) (u : Value) : Below w.heap.size w (W.setCell p u) := h.setCell hp u
theorem bl {a b c : World} (h : Below a.heap.size a b) (k : Below b.heap.size b c) : Below a.heap.size a c := h.trans (k.mono h.size)
theorem new_block (w : World) (X : Obj) : (w.alloc X).heap[w.heap.size]? = some X := by show (w.heap.push X)[w.heap.size]? = _; simp
theorem new_later {w W : World} {X : Obj} (h : Below (w.alloc X).heap.size (w.alloc X) W) : W.heap[w.heap.size]? = some X := (h.block _ (by simp)).trans (new_block w X)
theorem one_cell {W : World} {g : Nat} {v : Value} (h : W.cell? ⟨g, 0, none⟩ = some v) : ∀ (j : Nat) (u : Value), [v][j]? = some u → W.cell? ((⟨g, 0, none⟩ : Addr).add j) = some u := by
  intro j u hj
  have hj0 : j = 0 := by have := (List.getElem?_eq_some_iff.1 hj).1; simpa using this
  subst hj0
  have : v = u := by simpa using hj
  subst this
  exact h
theorem two_cells {W : World} {g : Nat} {v u : Value} (h : W.cell? ⟨g, 0, none⟩ = some v) (h1 : W.cell? ⟨g, 1, none⟩ = some u) : ∀ (j : Nat) (x : Value), [v, u][j]? = some x → W.cell? ((⟨g, 0, none⟩ : Addr).add j) = some x := by
  intro j x hj
  have hj2 : j < 2 := by have := (List.getElem?_eq_some_iff.1 hj).1; simpa using this
  have hjc : j = 0 ∨ j = 1 := by omega
  rcases hjc with rfl | rfl
  · have : v = x := by simpa using hj
    subst this; exact h
  · have : u = x := by simpa using hj
    subst this; exact h1
/-- The value of a page whose bytes lie in block g. -/
def pageV (g : Nat) : Value := .slice (some ⟨g, 0, none⟩) 256 256
/-- The cells of a write, of the bytes in block h.1, of capacity h.2. -/
def wrV (q : Nat × ByteArray) (h : Nat × Nat) : List Value := [.int .i64 (q.1 : Int), .slice (some ⟨h.1, 0, none⟩) 256 h.2]
def qCells : List (Nat × ByteArray) → List (Nat × Nat) → List Value
  | q :: Q, h :: hs => wrV q h ++ qCells Q hs
  | _, _ => []
theorem qCells_snoc (q : Nat × ByteArray) (h : Nat × Nat) : ∀ (Q : List (Nat × ByteArray)) (hs : List (Nat × Nat)), Q.length = hs.length → qCells (Q ++ [q]) (hs ++ [h]) = qCells Q hs ++ wrV q h
  | [], [], _ => by simp [qCells]
  | [], _ :: _, e => by simp at e
  | _ :: _, [], e => by simp at e
  | _ :: Q, _ :: hs, e => by simp only [List.cons_append, qCells, qCells_snoc q h Q hs (by simpa using e), List.append_assoc]
theorem qCells_at (k : Nat) : ∀ (Q : List (Nat × ByteArray)) (hs : List (Nat × Nat)) q h, Q[k]? = some q → hs[k]? = some h → (qCells Q hs)[k * 2]? = some (.int .i64 (q.1 : Int)) ∧ (qCells Q hs)[k * 2 + 1]? = some (.slice (some ⟨h.1, 0, none⟩) 256 h.2) := by
  induction k with
  | zero =>
    intro Q hs q h hq hh
    cases Q <;> cases hs <;> simp at hq hh
    subst hq; subst hh
    exact ⟨rfl, rfl⟩
  | succ k ih =>
    intro Q hs q h hq hh
    cases Q with
    | nil => simp at hq
    | cons r Q =>
      cases hs with
      | nil => simp at hh
      | cons g hs =>
        have := ih Q hs q h (by simpa using hq) (by simpa using hh)
        rw [show (k + 1) * 2 = k * 2 + 2 from by omega]
        simpa [qCells, wrV] using this

structure DevAt (w : World) (b : Nat) (vp vw : Value) (P : List ByteArray) (Q : List (Nat × ByteArray)) (gs : List Nat) (hs : List (Nat × Nat)) : Prop where
  blk : w.heap[b]? = some (.cells #[vp, vw] 108 (0, 0))
  rowP : w.ownsRow 0 22 1 vp P.length (gs.map pageV)
  nodup : gs.Nodup
  page : ∀ (i g : Nat), gs[i]? = some g → ∃ s, P[i]? = some s ∧ s.size = 256 ∧ w.heap[g]? = some (.cells (Lib.strCells s).toArray 5 (0, 0))
  rowQ : w.ownsRow 0 111 2 vw Q.length (qCells Q hs)
  hlen : hs.length = Q.length
  wr : ∀ (k : Nat) (h : Nat × Nat), hs[k]? = some h → ∃ q, Q[k]? = some q ∧ q.1 < P.length ∧ q.2.size = 256 ∧ h.1 ∉ gs ∧ 256 ≤ h.2 ∧ ∃ cur, w.heap[h.1]? = some (.cells cur 5 (0, 0)) ∧ cur.toList.take 256 = Lib.strCells q.2
  small : P.length ≤ 512
/-- The blocks of a device. -/
def foot (b : Nat) (vp vw : Value) (gs : List Nat) (hs : List (Nat × Nat)) (k : Nat) : Prop := k = b ∨ vp.ownBlock = some k ∨ vw.ownBlock = some k ∨ k ∈ gs ∨ k ∈ hs.map (·.1)
/-- A device in block b, none of whose blocks is outside F. -/
def Dev (w : World) (F : Nat → Prop) (b : Nat) (P : List ByteArray) (Q : List (Nat × ByteArray)) : Prop :=
  ∃ vp vw gs hs, DevAt w b vp vw P Q gs hs ∧ ∀ k, foot b vp vw gs hs k → F k
section
variable {w w1 : World} {b : Nat} {vp vw : Value} {P : List ByteArray} {Q : List (Nat × ByteArray)} {gs : List Nat} {hs : List (Nat × Nat)} {F G : Nat → Prop}
theorem lt_of_some {o : Obj} {k : Nat} (h : w.heap[k]? = some o) : k < w.heap.size := (Array.getElem?_eq_some_iff.1 h).1
theorem own_lt {base : Nat} {e : TypeId} {size n : Nat} {v : Value} {xs : List Value} (h : w.ownsRow base e size v n xs) (k : Nat) (hk : v.ownBlock = some k) : k < w.heap.size := by
  rcases h.2 with ⟨rfl, _⟩ | ⟨g, cap, cur, rfl, _, hh, _⟩
  · simp [Value.ownBlock] at hk
  · have : g = k := by simpa [Value.ownBlock] using hk
    subst this; exact lt_of_some hh
theorem own_move {base : Nat} {e : TypeId} {size n : Nat} {v : Value} {xs : List Value} (h : w.ownsRow base e size v n xs) (hm : ∀ k, v.ownBlock = some k → w1.heap[k]? = w.heap[k]?) : w1.ownsRow base e size v n xs := by
  obtain ⟨h1, h2⟩ := h
  refine ⟨h1, ?_⟩
  rcases h2 with h2 | ⟨g, cap, cur, rfl, hg, hh, r⟩
  · exact .inl h2
  · exact .inr ⟨g, cap, cur, rfl, hg, (hm g (by simp [Value.ownBlock])).trans hh, r⟩
theorem own_below {base : Nat} {e : TypeId} {size n : Nat} {v : Value} {xs : List Value} (h : w.ownsRow base e size v n xs) (hb : Below w.heap.size w w1) : w1.ownsRow base e size v n xs := own_move h fun k hk => hb.block k (own_lt h k hk)
theorem own_typed {base : Nat} {e : TypeId} {size n : Nat} {v : Value} {xs : List Value} (h : w.ownsRow base e size v n xs) (k : Nat) (hk : v.ownBlock = some k) : ∃ cells, w.heap[k]? = some (.cells cells e (0, 0)) := by
  rcases h.2 with ⟨rfl, _⟩ | ⟨g, cap, cur, rfl, _, hh, _⟩
  · simp [Value.ownBlock] at hk
  · have : g = k := by simpa [Value.ownBlock] using hk
    subst this; exact ⟨cur, hh⟩
/-- Rows of other kinds are other blocks. -/
theorem type_ne {k : Nat} {c c' : Array Value} {e e' : TypeId} (h : w.heap[k]? = some (.cells c e (0, 0))) (h' : w.heap[k]? = some (.cells c' e' (0, 0))) (hne : e ≠ e') : False := by
  rw [h] at h'; injection h' with h'; injection h' with _ h'; exact hne h'
theorem DevAt.foot_lt (h : DevAt w b vp vw P Q gs hs) (k : Nat) (hk : foot b vp vw gs hs k) : k < w.heap.size := by
  rcases hk with rfl | hk | hk | hk | hk
  · exact lt_of_some h.blk
  · exact own_lt h.rowP k hk
  · exact own_lt h.rowQ k hk
  · obtain ⟨i, hi⟩ := List.getElem?_of_mem hk
    obtain ⟨s, _, _, hs⟩ := h.page i k hi
    exact lt_of_some hs
  · obtain ⟨x, hx, rfl⟩ := List.mem_map.1 hk
    obtain ⟨i, hi⟩ := List.getElem?_of_mem hx
    obtain ⟨q, _, _, _, _, _, cur, hc, _⟩ := h.wr i x hi
    exact lt_of_some hc
theorem DevAt.move (h : DevAt w b vp vw P Q gs hs) (hm : ∀ k, foot b vp vw gs hs k → w1.heap[k]? = w.heap[k]?) : DevAt w1 b vp vw P Q gs hs where
  blk := (hm b (.inl rfl)).trans h.blk
  rowP := own_move h.rowP fun k hk => hm k (.inr (.inl hk))
  nodup := h.nodup
  page := fun i g hg => by
    obtain ⟨s, h1, h2, h3⟩ := h.page i g hg
    exact ⟨s, h1, h2, (hm g (.inr (.inr (.inr (.inl (List.mem_of_getElem? hg)))))).trans h3⟩
  rowQ := own_move h.rowQ fun k hk => hm k (.inr (.inr (.inl hk)))
  hlen := h.hlen
  wr := fun k x hx => by
    obtain ⟨q, h1, h2, h3, h4, h5, cur, h6, h7⟩ := h.wr k x hx
    exact ⟨q, h1, h2, h3, h4, h5, cur, (hm x.1 (.inr (.inr (.inr (.inr (List.mem_map.2 ⟨x, List.mem_of_getElem? hx, rfl⟩)))))).trans h6, h7⟩
  small := h.small
theorem Dev.move (h : Dev w F b P Q) (hm : ∀ k, F k → k < w.heap.size → w1.heap[k]? = w.heap[k]?) : Dev w1 F b P Q := by
  obtain ⟨vp, vw, gs, hs, hd, hF⟩ := h
  exact ⟨vp, vw, gs, hs, hd.move fun k hk => hm k (hF k hk) (hd.foot_lt k hk), hF⟩
theorem Dev.mono (h : Dev w F b P Q) (hG : ∀ k, F k → G k) : Dev w G b P Q := by
  obtain ⟨vp, vw, gs, hs, hd, hF⟩ := h
  exact ⟨vp, vw, gs, hs, hd, fun k hk => hG k (hF k hk)⟩
theorem Dev.below (h : Dev w F b P Q) (hb : Below w.heap.size w w1) : Dev w1 F b P Q := h.move fun k _ hk => hb.block k hk
/-- Its blocks are there already. -/
theorem Dev.tight (h : Dev w F b P Q) : Dev w (fun k => F k ∧ k < w.heap.size) b P Q := by
  obtain ⟨vp, vw, gs, hs, hd, hF⟩ := h
  exact ⟨vp, vw, gs, hs, hd, fun k hk => ⟨hF k hk, hd.foot_lt k hk⟩⟩
/-- What another one's change leaves. -/
theorem Dev.other (h : Dev w F b P Q) (hc : Chg G w w1) (hd : ∀ k, F k → ¬ G k) : Dev w1 F b P Q := h.move fun k hF hk => hc.block k hk (hd k hF)
theorem Dev.sizes (h : Dev w F b P Q) : (∀ s ∈ P, s.size = 256) ∧ ∀ q ∈ Q, q.1 < P.length ∧ q.2.size = 256 := by
  obtain ⟨vp, vw, gs, hs, hd, hF⟩ := h
  have hgl : gs.length = P.length := by have := hd.rowP.1; simpa using this
  constructor
  · intro s hs
    obtain ⟨i, hi⟩ := List.getElem?_of_mem hs
    have hl := (List.getElem?_eq_some_iff.1 hi).1
    obtain ⟨s', h1, h2, _⟩ := hd.page i _ (List.getElem?_eq_getElem (by omega))
    rw [hi] at h1; injection h1 with h1; rw [h1]; exact h2
  · intro q hq
    obtain ⟨i, hi⟩ := List.getElem?_of_mem hq
    have hl := (List.getElem?_eq_some_iff.1 hi).1
    have hl2 := hd.hlen
    obtain ⟨q', h1, h2, h3, _⟩ := hd.wr i _ (List.getElem?_eq_getElem (by omega))
    rw [hi] at h1; injection h1 with h1; rw [h1]; exact ⟨h2, h3⟩
theorem Dev.small (h : Dev w F b P Q) : P.length ≤ 512 := by obtain ⟨_, _, _, _, hd, _⟩ := h; exact hd.small
end
end Go.Proofs.YtpgpphmpnebafaaGreat.Dv
