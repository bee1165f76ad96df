/- A meta page as the caller hands it in, and a list of them: their cells, read. -/
import Derived.Test.YtpgpphmpnebafaaGreatByA
import Derived.Deep.SlicePairs
namespace Go.Proofs.YtpgpphmpnebafaaGreat.Mt
open Go.RowKit Go.Deep Go.ChangeShapes Go.WideShapes Go.Proofs.YtpgpphmpnebafaaGreat.By
set_option linter.unusedSimpArgs false
set_option linter.unusedVariables false
set_option maxRecDepth 100000

/-- A whole number of Go's. -/
def I64 (n : Int) : Prop := -9223372036854775808 ≤ n ∧ n ≤ 9223372036854775807
def MetaAt (w : World) (g off : Nat) (o : Int × Int) : Prop := w.cell? ⟨g, off, none⟩ = some (.int .i64 o.1) ∧ w.cell? ⟨g, off + 1, none⟩ = some (.int .i64 o.2)
def MetasAt (w : World) (A : Option Addr) (l : List (Int × Int)) : Prop := ∀ (k : Nat) (o : Int × Int), l[k]? = some o → ∃ g off, A = some ⟨g, off, none⟩ ∧ MetaAt w g (off + k * 2) o
theorem MetasAt.below {w w1 : World} {A : Option Addr} {l : List (Int × Int)} (h : MetasAt w A l) (hb : Below w.heap.size w w1) : MetasAt w1 A l := fun k o hk => by
  obtain ⟨g, off, hA, h1, h2⟩ := h k o hk
  exact ⟨g, off, hA, (hb.cell (World.block_lt_of_cell? w _ h1)).trans h1, (hb.cell (World.block_lt_of_cell? w _ h2)).trans h2⟩
section
variable {H : Type} {enc : TypeId × Value → H} {w : World} {base : Nat} {spare : Nat → Bool} {held : Bool}
def fieldsOf : TypeDesc → List (TypeId × Nat)
  | .struct fs => fs.toList.map (fun (f : Field) => (f.type, f.offset))
  | _ => []
end
end Go.Proofs.YtpgpphmpnebafaaGreat.Mt
