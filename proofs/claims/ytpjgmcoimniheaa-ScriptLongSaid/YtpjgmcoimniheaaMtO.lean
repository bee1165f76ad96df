/- A meta page as the caller hands it in, and a list of them: their cells, read. -/
import Derived.Test.YtpjgmcoimniheaaByA
import Derived.Deep.SlicePairs
namespace Go.Proofs.Ytpjgmcoimniheaa.Mt
open Go.RowKit Go.Deep Go.ChangeShapes Go.WideShapes Go.Proofs.Ytpjgmcoimniheaa.By
set_option linter.unusedSimpArgs false
set_option linter.unusedVariables false

/-- A whole number of Go's. -/
def I64 (n : Int) : Prop := -9223372036854775808 ≤ n ∧ n ≤ 9223372036854775807
def MetaAt (w : World) (g off : Nat) (o : Int × Int) : Prop := w.cell? ⟨g, off, none⟩ = some (.int .i64 o.1) ∧ w.cell? ⟨g, off + 1, none⟩ = some (.int .i64 o.2)
def MetasAt (w : World) (A : Option Addr) (l : List (Int × Int)) : Prop := ∀ (k : Nat) (o : Int × Int), l[k]? = some o → ∃ g off, A = some ⟨g, off, none⟩ ∧ MetaAt w g (off + k * 2) o
theorem MetasAt.below {w w1 : World} {A : Option Addr} {l : List (Int × Int)} (h : MetasAt w A l) (hb : Below w.heap.size w w1) : MetasAt w1 A l := fun k o hk => by
  obtain ⟨g, off, hA, h1, h2⟩ := h k o hk
  exact ⟨g, off, hA, (hb.cell (World.block_lt_of_cell? w _ h1)).trans h1, (hb.cell (World.block_lt_of_cell? w _ h2)).trans h2⟩
section
variable {H : Type} {enc : TypeId × Value → H} {w : World} {base : Nat} {spare : Nat → Bool} {held : Bool}
def fieldsOf : TypeDesc → List (TypeId × Nat)
  | .struct fs => fs.toList.map (fun (f : Field) => (f.type, f.offset))
  | _ => []
theorem meta_struct : (Try.prog.underlying 23).map fieldsOf = some [(3, 0), (3, 1)] := by kernel_rfl
theorem meta_cells : Try.prog.cellsOf 23 = 2 ∧ Try.prog.cellsOf 3 = 1 := ⟨by kernel_rfl, by kernel_rfl⟩
set_option maxRecDepth 100000 in
theorem open_meta {n : Nat} {cs : List Value} {y : DataW H × List MemPlace} (hl : cs.length = 2) (h : DataW.trod enc Try.prog w base spare held n 23 cs = some y) :
    ∃ o : Int × Int, cs = [.int .i64 o.1, .int .i64 o.2] ∧ I64 o.1 ∧ I64 o.2 := by
  obtain ⟨fs, hfs⟩ : ∃ fs, Try.prog.underlying 23 = some (.struct fs) := ⟨_, Try.underlying23⟩
  have hs := meta_struct
  rw [hfs] at hs
  obtain ⟨-, c3⟩ := meta_cells
  obtain ⟨xs, k, _, _, _, hxl, hf⟩ := DataW.trod_struct hfs h
  have hs' : fs.toList.map (fun (f : Field) => (f.type, f.offset)) = [(3, 0), (3, 1)] := Option.some.inj hs
  have hfl : fs.size = 2 := by have := congrArg List.length hs'; simpa using this
  have at' : ∀ (j : Nat) (t : TypeId) (o : Nat), ([(3, 0), (3, 1)] : List (TypeId × Nat))[j]? = some (t, o) → ∃ f : Field, fs[j]? = some f ∧ f.type = t ∧ f.offset = o := by
    intro j t o hj
    rw [← hs', List.getElem?_map] at hj
    cases hfj : fs.toList[j]? with
    | none => rw [hfj] at hj; cases hj
    | some f =>
      rw [hfj] at hj
      have : (f.type, f.offset) = (t, o) := Option.some.inj hj
      exact ⟨f, by rw [← Array.getElem?_toList]; exact hfj, congrArg Prod.fst this, congrArg Prod.snd this⟩
  have hx5 : xs.length = 2 := hxl.trans hfl
  match cs, hl, xs, hx5 with
  | [v0, v1], _, [x0, x1], _ =>
    have get : ∀ (j : Nat) (t : TypeId) (o : Nat), ([(3, 0), (3, 1)] : List (TypeId × Nat))[j]? = some (t, o) → DataW.trod enc Try.prog w base spare held k t (([v0, v1].drop o).take (Try.prog.cellsOf t)) = [x0, x1][j]? := by
      intro j t o hj
      obtain ⟨f, hf1, rfl, rfl⟩ := at' j t o hj
      exact hf j f hf1
    have g0 := get 0 _ _ rfl
    have g1 := get 1 _ _ rfl
    rw [c3] at g0 g1
    obtain ⟨m0, h0, -, w0⟩ := DataW.trod_int Try.underlying3 g0
    obtain ⟨m1, h1, -, w1⟩ := DataW.trod_int Try.underlying3 g1
    simp only [List.drop_succ_cons, List.drop_zero, List.take_succ_cons, List.take_zero, List.cons.injEq, and_true] at h0 h1
    subst h0 h1
    have e0 : IntKind.i64.min = -9223372036854775808 := rfl
    have e1 : IntKind.i64.max = 9223372036854775807 := rfl
    simp only [Lit.wf, Bool.and_eq_true, decide_eq_true_eq, e0, e1] at w0 w1
    exact ⟨(m0, m1), rfl, w0, w1⟩
set_option maxRecDepth 100000 in
theorem open_meta_val {v : Value} {b0 : Nat} {r : Reach} {fuel : Nat} {x : DataW H × List MemPlace} (hv : Value.okWide Try.prog w r b0 23 v) (h : DataW.trod enc Try.prog w base spare held fuel 23 v.cells.toList = some x) :
    ∃ o : Int × Int, v = .agg #[.int .i64 o.1, .int .i64 o.2] ∧ I64 o.1 ∧ I64 o.2 := by
  obtain ⟨cs, rfl, hsz⟩ := okWide_struct Try.underlying23 hv
  rw [meta_cells.1] at hsz
  obtain ⟨o, ho, hw⟩ := open_meta (cs := cs.toList) (by simpa using hsz) h
  refine ⟨o, ?_, hw⟩
  congr 1
  rw [← ho]
set_option maxRecDepth 100000 in
theorem open_metas {fuel : Nat} {A : Option Addr} {len cap : Nat} {x : DataW H × List MemPlace} (h : DataW.trod enc Try.prog w base spare held fuel 44 [.slice A len cap] = some x) :
    ∃ l : List (Int × Int), l.length = len ∧ len ≤ cap ∧ cap ≤ maxLen ∧ MetasAt w A l ∧ ∀ o ∈ l, I64 o.1 ∧ I64 o.2 := by
  rcases open_slice Try.underlying44 h with ⟨hc, _⟩ | ⟨a, len', cap', m, n, D, Pl, hc, _, hlc, hm, hmm, _, hx⟩
  · injection hc with hc _
    injection hc with h1 h2 h3
    subst h1 h2 h3
    exact ⟨[], rfl, Nat.le_refl _, Nat.zero_le _, fun k o hk => by simp at hk, fun o ho => by simp at ho⟩
  · injection hc with hc _
    injection hc with h1 h2 h3
    subst h1 h2 h3
    have hlm : len ≤ m := by rw [hmm]; split <;> omega
    obtain ⟨g, off, sp⟩ := a
    have hsp0 : 0 < len → sp = none := by
      intro h0l
      obtain ⟨cs', h1, h2⟩ := hx 0 (by omega)
      rw [meta_cells.1] at h1
      obtain ⟨_, hlen, hcell⟩ := World.cells?_some h1
      have h0 := hcell 0 (by omega)
      rw [List.getElem?_eq_getElem (by omega)] at h0
      simpa [Addr.add] using World.cell?_spot h0
    have each : ∀ i, i < len → sp = none ∧ ∃ o : Int × Int, MetaAt w g (off + i * 2) o ∧ I64 o.1 ∧ I64 o.2 := by
      intro i hi
      obtain ⟨cs', h1, h2⟩ := hx i (by omega)
      rw [meta_cells.1] at h1
      obtain ⟨_, hlen, hcell⟩ := World.cells?_some h1
      obtain ⟨o, rfl, hw⟩ := open_meta hlen h2
      have hsp := hsp0 (by omega)
      subst hsp
      refine ⟨rfl, o, ⟨?_, ?_⟩, hw⟩
      · have := hcell 0 (by omega); rw [add_plain2, add_plain2] at this; simpa using this
      · have := hcell 1 (by omega); rw [add_plain2, add_plain2] at this; simpa using this
    obtain ⟨q, hq⟩ : ∃ q : Nat → Int × Int, ∀ i, i < len → sp = none ∧ MetaAt w g (off + i * 2) (q i) ∧ I64 (q i).1 ∧ I64 (q i).2 := ⟨fun i => if h : i < len then (each i h).2.choose else (0, 0), fun i hi => by
      have := (each i hi).2.choose_spec
      refine ⟨(each i hi).1, ?_⟩
      simpa [hi] using this⟩
    refine ⟨(List.range len).map q, by simp, hlc, hm, fun k o hk => ?_, fun o ho => ?_⟩
    · have hk2 := (List.getElem?_eq_some_iff.1 hk).1
      have hkl : k < len := by simpa using hk2
      rw [List.getElem?_map, List.getElem?_range hkl] at hk
      have : q k = o := Option.some.inj hk
      subst this
      obtain ⟨rfl, h1, _⟩ := hq k hkl
      exact ⟨g, off, rfl, h1⟩
    · obtain ⟨i, hi, rfl⟩ := List.mem_map.1 ho
      exact (hq i (List.mem_range.1 hi)).2.2
end
end Go.Proofs.Ytpjgmcoimniheaa.Mt
