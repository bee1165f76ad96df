/- A script of calls as the caller hands it in: its cells, read; and the walk of the function that looks whether it is short. -/
import Derived.Test.YtpgpphmpnebafaaGreatDvF
import Derived.Deep.SlicePairs
namespace Go.Proofs.YtpgpphmpnebafaaGreat.Dv
open Go.RowKit Go.Deep Go.ChangeShapes Go.WideShapes
set_option linter.unusedSimpArgs false
set_option linter.unusedVariables false
set_option maxRecDepth 100000

structure OpR where
  kind : Int
  i : Int
  n : Int
  keep : Nat
  b : ByteArray
structure OpW (o : OpR) : Prop where
  i0 : -9223372036854775808 ≤ o.i
  i1 : o.i ≤ 9223372036854775807
  n0 : -9223372036854775808 ≤ o.n
  n1 : o.n ≤ 9223372036854775807
  keep : o.keep < 18446744073709551616
  b : o.b.size ≤ maxLen
/-- The five cells of a call in block g, from off on. -/
structure OpAt (w : World) (g off : Nat) (o : OpR) : Prop where
  kind : w.cell? ⟨g, off, none⟩ = some (.int .i64 o.kind)
  i : w.cell? ⟨g, off + 1, none⟩ = some (.int .i64 o.i)
  n : w.cell? ⟨g, off + 2, none⟩ = some (.int .i64 o.n)
  keep : w.cell? ⟨g, off + 3, none⟩ = some (.int .u64 (o.keep : Int))
  b : w.cell? ⟨g, off + 4, none⟩ = some (.string o.b)
def OpsAt (w : World) (A : Option Addr) (l : List OpR) : Prop := ∀ k o, l[k]? = some o → ∃ g off, A = some ⟨g, off, none⟩ ∧ OpAt w g (off + k * 5) o
theorem OpAt.below {w w1 : World} {g off : Nat} {o : OpR} (h : OpAt w g off o) (hb : Below w.heap.size w w1) : OpAt w1 g off o where
  kind := (hb.cell (World.block_lt_of_cell? w _ h.kind)).trans h.kind
  i := (hb.cell (World.block_lt_of_cell? w _ h.i)).trans h.i
  n := (hb.cell (World.block_lt_of_cell? w _ h.n)).trans h.n
  keep := (hb.cell (World.block_lt_of_cell? w _ h.keep)).trans h.keep
  b := (hb.cell (World.block_lt_of_cell? w _ h.b)).trans h.b
theorem OpsAt.below {w w1 : World} {A : Option Addr} {l : List OpR} (h : OpsAt w A l) (hb : Below w.heap.size w w1) : OpsAt w1 A l := fun k o hk => by
  obtain ⟨g, off, hA, ho⟩ := h k o hk
  exact ⟨g, off, hA, ho.below hb⟩
theorem add_plain2 (g off j : Nat) : (⟨g, off, none⟩ : Addr).add j = ⟨g, off + j, none⟩ := by unfold Addr.add; split <;> simp_all
section
variable {H : Type} {enc : TypeId × Value → H} {w : World} {base : Nat} {spare : Nat → Bool} {held : Bool}
def fieldsOf : TypeDesc → List (TypeId × Nat)
  | .struct fs => fs.toList.map (fun (f : Field) => (f.type, f.offset))
  | _ => []
/-- The bytes that a caller hands in. -/
theorem open_bytes {fuel : Nat} {A : Option Addr} {len cap : Nat} {x : DataW H × List MemPlace} (h : DataW.trod enc Tryz.prog w base spare held fuel 22 [.slice A len cap] = some x) :
    ∃ l : List Nat, l.length = len ∧ len ≤ cap ∧ cap ≤ maxLen ∧ (∀ c ∈ l, c < 256) ∧ ∀ (k c : Nat), l[k]? = some c → ∃ g off, A = some ⟨g, off, none⟩ ∧ w.cell? ⟨g, off + k, none⟩ = some (.int .u8 (c : Int)) := by
  rcases open_slice Tryz.underlying22 h with ⟨hc, _⟩ | ⟨a, len', cap', m, n, D, Pl, hc, _, hlc, hm, hmm, _, hx⟩
  · injection hc with hc _
    injection hc with h1 h2 h3
    subst h1 h2 h3
    exact ⟨[], rfl, Nat.le_refl _, Nat.zero_le _, fun c hc => by simp at hc, fun k c hk => by simp at hk⟩
  · injection hc with hc _
    injection hc with h1 h2 h3
    subst h1 h2 h3
    have hlm : len ≤ m := by rw [hmm]; split <;> omega
    obtain ⟨g, off, sp⟩ := a
    have c5 : Tryz.prog.cellsOf 5 = 1 := by kernel_rfl
    have each0 : ∀ i, i < len → ∃ c : Nat, c < 256 ∧ w.cell? ((⟨g, off, sp⟩ : Addr).add i) = some (.int .u8 (c : Int)) := by
      intro i hi
      obtain ⟨cs', h1, h2⟩ := hx i (by omega)
      rw [c5, Nat.mul_one] at h1
      obtain ⟨z, rfl, -, hw⟩ := DataW.trod_int Tryz.underlying5 h2
      have e0 : IntKind.u8.min = 0 := rfl
      have e1 : IntKind.u8.max = 255 := rfl
      simp only [Lit.wf, Bool.and_eq_true, decide_eq_true_eq, e0, e1] at hw
      have hz : ((z.toNat : Nat) : Int) = z := Int.toNat_of_nonneg hw.1
      exact ⟨z.toNat, by omega, by rw [hz]; exact cell_of_cells?_one h1⟩
    have hsp0 : 0 < len → sp = none := by
      intro h0l
      obtain ⟨c, _, h0⟩ := each0 0 h0l
      simpa [Addr.add] using World.cell?_spot h0
    have each : ∀ i, i < len → sp = none ∧ ∃ c : Nat, c < 256 ∧ w.cell? ⟨g, off + i, none⟩ = some (.int .u8 (c : Int)) := by
      intro i hi
      have hsp := hsp0 (by omega)
      subst hsp
      obtain ⟨c, hc, h0⟩ := each0 i hi
      rw [add_plain2] at h0
      exact ⟨rfl, c, hc, h0⟩
    obtain ⟨q, hq⟩ : ∃ q : Nat → Nat, ∀ i, i < len → sp = none ∧ q i < 256 ∧ w.cell? ⟨g, off + i, none⟩ = some (.int .u8 (q i : Int)) := ⟨fun i => if h : i < len then (each i h).2.choose else 0, fun i hi => by
      have := (each i hi).2.choose_spec
      refine ⟨(each i hi).1, ?_⟩
      simpa [hi] using this⟩
    refine ⟨(List.range len).map q, by simp, hlc, hm, fun c hc => ?_, fun k c hk => ?_⟩
    · obtain ⟨i, hi, rfl⟩ := List.mem_map.1 hc
      exact (hq i (List.mem_range.1 hi)).2.1
    · have hk2 := (List.getElem?_eq_some_iff.1 hk).1
      have hkl : k < len := by simpa using hk2
      rw [List.getElem?_map, List.getElem?_range hkl] at hk
      have : q k = c := Option.some.inj hk
      subst this
      obtain ⟨rfl, _, h1⟩ := hq k hkl
      exact ⟨g, off, rfl, h1⟩
end
end Go.Proofs.YtpgpphmpnebafaaGreat.Dv
