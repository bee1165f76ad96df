/- A script of calls as the caller hands it in: its cells, read; and the walk of the function that looks whether it is short. -/
import Derived.Test.YtpdhfnpnilpipaaDvF
import Derived.Deep.SlicePairs
namespace Go.Proofs.Ytpdhfnpnilpipaa.Dv
open Go.RowKit Go.Deep Go.ChangeShapes Go.WideShapes
set_option linter.unusedSimpArgs false
set_option linter.unusedVariables false

structure OpR where
  kind : Int
  i : Int
  n : Int
  keep : Nat
  b : ByteArray
structure OpW (o : OpR) : Prop where
  i0 : -9223372036854775808 ≤ o.i
  i1 : o.i ≤ 9223372036854775807
  n0 : -9223372036854775808 ≤ o.n
  n1 : o.n ≤ 9223372036854775807
  keep : o.keep < 18446744073709551616
  b : o.b.size ≤ maxLen
/-- The five cells of a call in block g, from off on. -/
structure OpAt (w : World) (g off : Nat) (o : OpR) : Prop where
  kind : w.cell? ⟨g, off, none⟩ = some (.int .i64 o.kind)
  i : w.cell? ⟨g, off + 1, none⟩ = some (.int .i64 o.i)
  n : w.cell? ⟨g, off + 2, none⟩ = some (.int .i64 o.n)
  keep : w.cell? ⟨g, off + 3, none⟩ = some (.int .u64 (o.keep : Int))
  b : w.cell? ⟨g, off + 4, none⟩ = some (.string o.b)
def OpsAt (w : World) (A : Option Addr) (l : List OpR) : Prop := ∀ k o, l[k]? = some o → ∃ g off, A = some ⟨g, off, none⟩ ∧ OpAt w g (off + k * 5) o
theorem OpAt.below {w w1 : World} {g off : Nat} {o : OpR} (h : OpAt w g off o) (hb : Below w.heap.size w w1) : OpAt w1 g off o where
  kind := (hb.cell (World.block_lt_of_cell? w _ h.kind)).trans h.kind
  i := (hb.cell (World.block_lt_of_cell? w _ h.i)).trans h.i
  n := (hb.cell (World.block_lt_of_cell? w _ h.n)).trans h.n
  keep := (hb.cell (World.block_lt_of_cell? w _ h.keep)).trans h.keep
  b := (hb.cell (World.block_lt_of_cell? w _ h.b)).trans h.b
theorem OpsAt.below {w w1 : World} {A : Option Addr} {l : List OpR} (h : OpsAt w A l) (hb : Below w.heap.size w w1) : OpsAt w1 A l := fun k o hk => by
  obtain ⟨g, off, hA, ho⟩ := h k o hk
  exact ⟨g, off, hA, ho.below hb⟩
theorem add_plain2 (g off j : Nat) : (⟨g, off, none⟩ : Addr).add j = ⟨g, off + j, none⟩ := by unfold Addr.add; split <;> simp_all
section
variable {H : Type} {enc : TypeId × Value → H} {w : World} {base : Nat} {spare : Nat → Bool} {held : Bool}
def fieldsOf : TypeDesc → List (TypeId × Nat)
  | .struct fs => fs.toList.map (fun (f : Field) => (f.type, f.offset))
  | _ => []
theorem ops_struct : (Try.prog.underlying 61).map fieldsOf = some [(3, 0), (3, 1), (3, 2), (55, 3), (9, 4)] := by kernel_rfl
theorem ops_cells : Try.prog.cellsOf 61 = 5 ∧ Try.prog.cellsOf 3 = 1 ∧ Try.prog.cellsOf 55 = 1 ∧ Try.prog.cellsOf 9 = 1 := ⟨by kernel_rfl, by kernel_rfl, by kernel_rfl, by kernel_rfl⟩
theorem open_op {n : Nat} {cs : List Value} {y : DataW H × List MemPlace} (hl : cs.length = 5) (h : DataW.trod enc Try.prog w base spare held n 61 cs = some y) :
    ∃ o : OpR, cs = [.int .i64 o.kind, .int .i64 o.i, .int .i64 o.n, .int .u64 (o.keep : Int), .string o.b] ∧ OpW o := by
  obtain ⟨fs, hfs⟩ : ∃ fs, Try.prog.underlying 61 = some (.struct fs) := ⟨_, Try.underlying61⟩
  have hs := ops_struct
  rw [hfs] at hs
  obtain ⟨-, c3, c55, c9⟩ := ops_cells
  obtain ⟨xs, k, _, _, _, hxl, hf⟩ := DataW.trod_struct hfs h
  have hs' : fs.toList.map (fun (f : Field) => (f.type, f.offset)) = [(3, 0), (3, 1), (3, 2), (55, 3), (9, 4)] := Option.some.inj hs
  have hfl : fs.size = 5 := by have := congrArg List.length hs'; simpa using this
  have at' : ∀ (j : Nat) (t : TypeId) (o : Nat), ([(3, 0), (3, 1), (3, 2), (55, 3), (9, 4)] : List (TypeId × Nat))[j]? = some (t, o) → ∃ f : Field, fs[j]? = some f ∧ f.type = t ∧ f.offset = o := by
    intro j t o hj
    rw [← hs', List.getElem?_map] at hj
    cases hfj : fs.toList[j]? with
    | none => rw [hfj] at hj; cases hj
    | some f =>
      rw [hfj] at hj
      have : (f.type, f.offset) = (t, o) := Option.some.inj hj
      exact ⟨f, by rw [← Array.getElem?_toList]; exact hfj, congrArg Prod.fst this, congrArg Prod.snd this⟩
  have hx5 : xs.length = 5 := hxl.trans hfl
  match cs, hl, xs, hx5 with
  | [v0, v1, v2, v3, v4], _, [x0, x1, x2, x3, x4], _ =>
    have get : ∀ (j : Nat) (t : TypeId) (o : Nat), ([(3, 0), (3, 1), (3, 2), (55, 3), (9, 4)] : List (TypeId × Nat))[j]? = some (t, o) → DataW.trod enc Try.prog w base spare held k t (([v0, v1, v2, v3, v4].drop o).take (Try.prog.cellsOf t)) = [x0, x1, x2, x3, x4][j]? := by
      intro j t o hj
      obtain ⟨f, hf1, rfl, rfl⟩ := at' j t o hj
      exact hf j f hf1
    have g0 := get 0 _ _ rfl
    have g1 := get 1 _ _ rfl
    have g2 := get 2 _ _ rfl
    have g3 := get 3 _ _ rfl
    have g4 := get 4 _ _ rfl
    rw [c3] at g0 g1 g2
    rw [c55] at g3
    rw [c9] at g4
    obtain ⟨m0, h0, -, w0⟩ := DataW.trod_int Try.underlying3 g0
    obtain ⟨m1, h1, -, w1⟩ := DataW.trod_int Try.underlying3 g1
    obtain ⟨m2, h2, -, w2⟩ := DataW.trod_int Try.underlying3 g2
    obtain ⟨m3, h3, -, w3⟩ := DataW.trod_int Try.underlying55 g3
    obtain ⟨s4, h4, -, w4⟩ := DataW.trod_string Try.underlying9 g4
    simp only [List.drop_succ_cons, List.drop_zero, List.take_succ_cons, List.take_zero, List.cons.injEq, and_true] at h0 h1 h2 h3 h4
    subst h0 h1 h2 h3 h4
    have e0 : IntKind.i64.min = -9223372036854775808 := rfl
    have e1 : IntKind.i64.max = 9223372036854775807 := rfl
    have e2 : IntKind.u64.min = 0 := rfl
    have e3 : IntKind.u64.max = 18446744073709551615 := rfl
    simp only [Lit.wf, Bool.and_eq_true, decide_eq_true_eq, e0, e1, e2, e3] at w1 w2 w3
    refine ⟨⟨m0, m1, m2, m3.toNat, s4⟩, ?_, ⟨w1.1, w1.2, w2.1, w2.2, by show m3.toNat < _; omega, w4⟩⟩
    have : ((m3.toNat : Nat) : Int) = m3 := Int.toNat_of_nonneg w3.1
    simp only [this]
theorem open_ops {fuel : Nat} {A : Option Addr} {len cap : Nat} {x : DataW H × List MemPlace} (h : DataW.trod enc Try.prog w base spare held fuel 57 [.slice A len cap] = some x) :
    ∃ l : List OpR, l.length = len ∧ len ≤ cap ∧ cap ≤ maxLen ∧ OpsAt w A l ∧ ∀ o ∈ l, OpW o := by
  rcases open_slice Try.underlying57 h with ⟨hc, _⟩ | ⟨a, len', cap', m, n, D, Pl, hc, _, hlc, hm, hmm, _, hx⟩
  · injection hc with hc _
    injection hc with h1 h2 h3
    subst h1 h2 h3
    exact ⟨[], rfl, Nat.le_refl _, Nat.zero_le _, fun k o hk => by simp at hk, fun o ho => by simp at ho⟩
  · injection hc with hc _
    injection hc with h1 h2 h3
    subst h1 h2 h3
    have hlm : len ≤ m := by rw [hmm]; split <;> omega
    obtain ⟨g, off, sp⟩ := a
    have hsp0 : 0 < len → sp = none := by
      intro h0l
      obtain ⟨cs', h1, h2⟩ := hx 0 (by omega)
      rw [ops_cells.1] at h1
      obtain ⟨_, hlen, hcell⟩ := World.cells?_some h1
      have h0 := hcell 0 (by omega)
      rw [List.getElem?_eq_getElem (by omega)] at h0
      simpa [Addr.add] using World.cell?_spot h0
    have each : ∀ i, i < len → sp = none ∧ ∃ o : OpR, OpAt w g (off + i * 5) o ∧ OpW o := by
      intro i hi
      obtain ⟨cs', h1, h2⟩ := hx i (by omega)
      rw [ops_cells.1] at h1
      obtain ⟨_, hlen, hcell⟩ := World.cells?_some h1
      obtain ⟨o, rfl, hw⟩ := open_op hlen h2
      have hsp := hsp0 (by omega)
      subst hsp
      refine ⟨rfl, o, ⟨?_, ?_, ?_, ?_, ?_⟩, hw⟩
      · have := hcell 0 (by omega); rw [add_plain2, add_plain2] at this; simpa using this
      · have := hcell 1 (by omega); rw [add_plain2, add_plain2] at this; simpa using this
      · have := hcell 2 (by omega); rw [add_plain2, add_plain2] at this; simpa using this
      · have := hcell 3 (by omega); rw [add_plain2, add_plain2] at this; simpa using this
      · have := hcell 4 (by omega); rw [add_plain2, add_plain2] at this; simpa using this
    obtain ⟨q, hq⟩ : ∃ q : Nat → OpR, ∀ i, i < len → sp = none ∧ OpAt w g (off + i * 5) (q i) ∧ OpW (q i) := ⟨fun i => if h : i < len then (each i h).2.choose else ⟨0, 0, 0, 0, ByteArray.empty⟩, fun i hi => by
      have := (each i hi).2.choose_spec
      refine ⟨(each i hi).1, ?_⟩
      simpa [hi] using this⟩
    refine ⟨(List.range len).map q, by simp, hlc, hm, fun k o hk => ?_, fun o ho => ?_⟩
    · have hk2 := (List.getElem?_eq_some_iff.1 hk).1
      have hkl : k < len := by simpa using hk2
      rw [List.getElem?_map, List.getElem?_range hkl] at hk
      have : q k = o := Option.some.inj hk
      subst this
      obtain ⟨rfl, h1, _⟩ := hq k hkl
      exact ⟨g, off, rfl, h1⟩
    · obtain ⟨i, hi, rfl⟩ := List.mem_map.1 ho
      exact (hq i (List.mem_range.1 hi)).2.2
theorem open_op_val {v : Value} {b0 : Nat} {r : Reach} {fuel : Nat} {x : DataW H × List MemPlace} (hv : Value.okWide Try.prog w r b0 61 v) (h : DataW.trod enc Try.prog w base spare held fuel 61 v.cells.toList = some x) :
    ∃ o : OpR, v = .agg #[.int .i64 o.kind, .int .i64 o.i, .int .i64 o.n, .int .u64 (o.keep : Int), .string o.b] ∧ OpW o := by
  obtain ⟨cs, rfl, hsz⟩ := okWide_struct Try.underlying61 hv
  rw [ops_cells.1] at hsz
  obtain ⟨o, ho, hw⟩ := open_op (cs := cs.toList) (by simpa using hsz) h
  refine ⟨o, ?_, hw⟩
  congr 1
  rw [← ho]
/-- The bytes that a caller hands in. -/
theorem open_bytes {fuel : Nat} {A : Option Addr} {len cap : Nat} {x : DataW H × List MemPlace} (h : DataW.trod enc Try.prog w base spare held fuel 39 [.slice A len cap] = some x) :
    ∃ l : List Nat, l.length = len ∧ len ≤ cap ∧ cap ≤ maxLen ∧ (∀ c ∈ l, c < 256) ∧ ∀ (k c : Nat), l[k]? = some c → ∃ g off, A = some ⟨g, off, none⟩ ∧ w.cell? ⟨g, off + k, none⟩ = some (.int .u8 (c : Int)) := by
  rcases open_slice Try.underlying39 h with ⟨hc, _⟩ | ⟨a, len', cap', m, n, D, Pl, hc, _, hlc, hm, hmm, _, hx⟩
  · injection hc with hc _
    injection hc with h1 h2 h3
    subst h1 h2 h3
    exact ⟨[], rfl, Nat.le_refl _, Nat.zero_le _, fun c hc => by simp at hc, fun k c hk => by simp at hk⟩
  · injection hc with hc _
    injection hc with h1 h2 h3
    subst h1 h2 h3
    have hlm : len ≤ m := by rw [hmm]; split <;> omega
    obtain ⟨g, off, sp⟩ := a
    have c5 : Try.prog.cellsOf 5 = 1 := by kernel_rfl
    have each0 : ∀ i, i < len → ∃ c : Nat, c < 256 ∧ w.cell? ((⟨g, off, sp⟩ : Addr).add i) = some (.int .u8 (c : Int)) := by
      intro i hi
      obtain ⟨cs', h1, h2⟩ := hx i (by omega)
      rw [c5, Nat.mul_one] at h1
      obtain ⟨z, rfl, -, hw⟩ := DataW.trod_int Try.underlying5 h2
      have e0 : IntKind.u8.min = 0 := rfl
      have e1 : IntKind.u8.max = 255 := rfl
      simp only [Lit.wf, Bool.and_eq_true, decide_eq_true_eq, e0, e1] at hw
      have hz : ((z.toNat : Nat) : Int) = z := Int.toNat_of_nonneg hw.1
      exact ⟨z.toNat, by omega, by rw [hz]; exact cell_of_cells?_one h1⟩
    have hsp0 : 0 < len → sp = none := by
      intro h0l
      obtain ⟨c, _, h0⟩ := each0 0 h0l
      simpa [Addr.add] using World.cell?_spot h0
    have each : ∀ i, i < len → sp = none ∧ ∃ c : Nat, c < 256 ∧ w.cell? ⟨g, off + i, none⟩ = some (.int .u8 (c : Int)) := by
      intro i hi
      have hsp := hsp0 (by omega)
      subst hsp
      obtain ⟨c, hc, h0⟩ := each0 i hi
      rw [add_plain2] at h0
      exact ⟨rfl, c, hc, h0⟩
    obtain ⟨q, hq⟩ : ∃ q : Nat → Nat, ∀ i, i < len → sp = none ∧ q i < 256 ∧ w.cell? ⟨g, off + i, none⟩ = some (.int .u8 (q i : Int)) := ⟨fun i => if h : i < len then (each i h).2.choose else 0, fun i hi => by
      have := (each i hi).2.choose_spec
      refine ⟨(each i hi).1, ?_⟩
      simpa [hi] using this⟩
    refine ⟨(List.range len).map q, by simp, hlc, hm, fun c hc => ?_, fun k c hk => ?_⟩
    · obtain ⟨i, hi, rfl⟩ := List.mem_map.1 hc
      exact (hq i (List.mem_range.1 hi)).2.1
    · have hk2 := (List.getElem?_eq_some_iff.1 hk).1
      have hkl : k < len := by simpa using hk2
      rw [List.getElem?_map, List.getElem?_range hkl] at hk
      have : q k = c := Option.some.inj hk
      subst this
      obtain ⟨rfl, _, h1⟩ := hq k hkl
      exact ⟨g, off, rfl, h1⟩
end
end Go.Proofs.Ytpdhfnpnilpipaa.Dv
