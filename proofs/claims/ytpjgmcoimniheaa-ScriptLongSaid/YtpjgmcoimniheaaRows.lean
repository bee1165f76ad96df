/-
  No cell of these rows narrows 'for every input' (looked for: loops, veiled, ifaces, maps, wideKeys, modest, calm, conditions, laid).
  DERIVED. THE GIVEN ROWS OF THIS SEAT. 10 by the template 'for every input the law returns true; each argument reads behind the call as it read before'; 0 by the template 'total and deterministic' (their statements: YtpjgmcoimniheaaTotals.lean).
  GIVEN WITH THE SEED: the statements are not yours to turn. If you find one false, say at which input.
  Laid BY PROGRAM, IN A SANDBOX (cutbox-rows.mjs): the forced cells as the released guide's own fill.sh prints them over the translation eca804ac09abc0b2… (all of the seat's roots in one cut). By AI agents, Wed Nov 11 2026. No macro, syntax, notation, axiom, sorry.
-/
import Derived.Test.YtpjgmcoimniheaaChecked
import GoSem.Claim
import GoSem.ClaimJoined
import GoSem.ClaimMapViews
import Derived.JoinedTies
import Derived.KernelRfl
namespace Go.Proofs.Ytpjgmcoimniheaa
/- THE CELL 'sum', in the pinned program and in every row, IS THE sha256 OF THE DUMP (.gsa) THAT YtpjgmcoimniheaaProg.lean LOADS. Nothing in Lean hashes anything: it is a label: what it is worth is what the hold of that sum in a sandbox is worth. -/
noncomputable def Try.pinned : Pinned := { name := "ytpjgmcoimniheaa", sum := "eca804ac09abc0b2cbaacb3519c10243908b31a5bc310946b023373c8c4d2d4c", checked := Try.checked }
namespace Rows
def none {H : Type} : Left H := { results := [], args := [] }

/-- 'sapwoodlaw06.MetaRights': WHATEVER THE INPUT: true; the input reads as it did. -/
def metaRightsSpec : ChangeSpec := { name := "metaRights", fn := fun _ => fun
  | [d] => { results := [.lit (.bool true)], args := [d] }
  | _ => none }
def metaRightsRow : OpenClaim := { program := "ytpjgmcoimniheaa", sum := "eca804ac09abc0b2cbaacb3519c10243908b31a5bc310946b023373c8c4d2d4c", func := "sapwood/sapwoodlaw06.MetaRights", spec := "metaRights", apart := false }
def MetaRightsSaid : Prop := metaRightsRow.holds Try.pinned (OpenSpec.ofChange metaRightsSpec)

/-- ITS FALSE NEIGHBOUR: 'it returns false'. Refute it at one input. -/
def metaRightsWrong : ChangeSpec := { name := "metaRights", fn := fun _ => fun
  | [d] => { results := [.lit (.bool false)], args := [d] }
  | _ => none }
def MetaRightsWrongFalsely : Prop := metaRightsRow.holds Try.pinned (OpenSpec.ofChange metaRightsWrong)

/-- 'sapwoodlaw06.MetaBack': WHATEVER THE INPUT: true; the input reads as it did. -/
def metaBackSpec : ChangeSpec := { name := "metaBack", fn := fun _ => fun
  | [d1, d2] => { results := [.lit (.bool true)], args := [d1, d2] }
  | _ => none }
def metaBackRow : OpenClaim := { program := "ytpjgmcoimniheaa", sum := "eca804ac09abc0b2cbaacb3519c10243908b31a5bc310946b023373c8c4d2d4c", func := "sapwood/sapwoodlaw06.MetaBack", spec := "metaBack", apart := false }
def MetaBackSaid : Prop := metaBackRow.holds Try.pinned (OpenSpec.ofChange metaBackSpec)

/-- ITS FALSE NEIGHBOUR: 'it returns false'. Refute it at one input. -/
def metaBackWrong : ChangeSpec := { name := "metaBack", fn := fun _ => fun
  | [d1, d2] => { results := [.lit (.bool false)], args := [d1, d2] }
  | _ => none }
def MetaBackWrongFalsely : Prop := metaBackRow.holds Try.pinned (OpenSpec.ofChange metaBackWrong)

/-- 'sapwoodlaw06.MetaTorn': WHATEVER THE INPUT: true; the input reads as it did. -/
def metaTornSpec : ChangeSpec := { name := "metaTorn", fn := fun _ => fun
  | [d1, d2, d3] => { results := [.lit (.bool true)], args := [d1, d2, d3] }
  | _ => none }
def metaTornRow : OpenClaim := { program := "ytpjgmcoimniheaa", sum := "eca804ac09abc0b2cbaacb3519c10243908b31a5bc310946b023373c8c4d2d4c", func := "sapwood/sapwoodlaw06.MetaTorn", spec := "metaTorn", apart := false }
def MetaTornSaid : Prop := metaTornRow.holds Try.pinned (OpenSpec.ofChange metaTornSpec)

/-- ITS FALSE NEIGHBOUR: 'it returns false'. Refute it at one input. -/
def metaTornWrong : ChangeSpec := { name := "metaTorn", fn := fun _ => fun
  | [d1, d2, d3] => { results := [.lit (.bool false)], args := [d1, d2, d3] }
  | _ => none }
def MetaTornWrongFalsely : Prop := metaTornRow.holds Try.pinned (OpenSpec.ofChange metaTornWrong)

/-- 'sapwoodlaw06.MetaAgain': WHATEVER THE INPUT: true; the input reads as it did. -/
def metaAgainSpec : ChangeSpec := { name := "metaAgain", fn := fun _ => fun
  | [d1, d2, d3, d4, d5] => { results := [.lit (.bool true)], args := [d1, d2, d3, d4, d5] }
  | _ => none }
def metaAgainRow : OpenClaim := { program := "ytpjgmcoimniheaa", sum := "eca804ac09abc0b2cbaacb3519c10243908b31a5bc310946b023373c8c4d2d4c", func := "sapwood/sapwoodlaw06.MetaAgain", spec := "metaAgain", apart := false }
def MetaAgainSaid : Prop := metaAgainRow.holds Try.pinned (OpenSpec.ofChange metaAgainSpec)

/-- ITS FALSE NEIGHBOUR: 'it returns false'. Refute it at one input. -/
def metaAgainWrong : ChangeSpec := { name := "metaAgain", fn := fun _ => fun
  | [d1, d2, d3, d4, d5] => { results := [.lit (.bool false)], args := [d1, d2, d3, d4, d5] }
  | _ => none }
def MetaAgainWrongFalsely : Prop := metaAgainRow.holds Try.pinned (OpenSpec.ofChange metaAgainWrong)

/-- 'sapwoodlaw06.MetaTurned': WHATEVER THE INPUT: true; the input reads as it did. -/
def metaTurnedSpec : ChangeSpec := { name := "metaTurned", fn := fun _ => fun
  | [d1, d2, d3] => { results := [.lit (.bool true)], args := [d1, d2, d3] }
  | _ => none }
def metaTurnedRow : OpenClaim := { program := "ytpjgmcoimniheaa", sum := "eca804ac09abc0b2cbaacb3519c10243908b31a5bc310946b023373c8c4d2d4c", func := "sapwood/sapwoodlaw06.MetaTurned", spec := "metaTurned", apart := false }
def MetaTurnedSaid : Prop := metaTurnedRow.holds Try.pinned (OpenSpec.ofChange metaTurnedSpec)

/-- ITS FALSE NEIGHBOUR: 'it returns false'. Refute it at one input. -/
def metaTurnedWrong : ChangeSpec := { name := "metaTurned", fn := fun _ => fun
  | [d1, d2, d3] => { results := [.lit (.bool false)], args := [d1, d2, d3] }
  | _ => none }
def MetaTurnedWrongFalsely : Prop := metaTurnedRow.holds Try.pinned (OpenSpec.ofChange metaTurnedWrong)

/-- 'sapwoodlaw06.MetaNext': WHATEVER THE INPUT: true; the input reads as it did. -/
def metaNextSpec : ChangeSpec := { name := "metaNext", fn := fun _ => fun
  | [d1, d2] => { results := [.lit (.bool true)], args := [d1, d2] }
  | _ => none }
def metaNextRow : OpenClaim := { program := "ytpjgmcoimniheaa", sum := "eca804ac09abc0b2cbaacb3519c10243908b31a5bc310946b023373c8c4d2d4c", func := "sapwood/sapwoodlaw06.MetaNext", spec := "metaNext", apart := false }
def MetaNextSaid : Prop := metaNextRow.holds Try.pinned (OpenSpec.ofChange metaNextSpec)

/-- ITS FALSE NEIGHBOUR: 'it returns false'. Refute it at one input. -/
def metaNextWrong : ChangeSpec := { name := "metaNext", fn := fun _ => fun
  | [d1, d2] => { results := [.lit (.bool false)], args := [d1, d2] }
  | _ => none }
def MetaNextWrongFalsely : Prop := metaNextRow.holds Try.pinned (OpenSpec.ofChange metaNextWrong)

/-- 'sapwoodlaw06.MetaDecodes': WHATEVER THE INPUT: true; the input reads as it did. -/
def metaDecodesSpec : ChangeSpec := { name := "metaDecodes", fn := fun _ => fun
  | [d1, d2] => { results := [.lit (.bool true)], args := [d1, d2] }
  | _ => none }
def metaDecodesRow : OpenClaim := { program := "ytpjgmcoimniheaa", sum := "eca804ac09abc0b2cbaacb3519c10243908b31a5bc310946b023373c8c4d2d4c", func := "sapwood/sapwoodlaw06.MetaDecodes", spec := "metaDecodes", unfollowed := true, recurses := true, apart := false }
def MetaDecodesSaid : Prop := metaDecodesRow.holds Try.pinned (OpenSpec.ofChange metaDecodesSpec)

/-- ITS FALSE NEIGHBOUR: 'it returns false'. Refute it at one input. -/
def metaDecodesWrong : ChangeSpec := { name := "metaDecodes", fn := fun _ => fun
  | [d1, d2] => { results := [.lit (.bool false)], args := [d1, d2] }
  | _ => none }
def MetaDecodesWrongFalsely : Prop := metaDecodesRow.holds Try.pinned (OpenSpec.ofChange metaDecodesWrong)

/-- 'sapwoodlaw06.MetaPair': WHATEVER THE INPUT: true; the input reads as it did. -/
def metaPairSpec : ChangeSpec := { name := "metaPair", fn := fun _ => fun
  | [d1, d2] => { results := [.lit (.bool true)], args := [d1, d2] }
  | _ => none }
def metaPairRow : OpenClaim := { program := "ytpjgmcoimniheaa", sum := "eca804ac09abc0b2cbaacb3519c10243908b31a5bc310946b023373c8c4d2d4c", func := "sapwood/sapwoodlaw06.MetaPair", spec := "metaPair", unfollowed := true, recurses := true, apart := false }
def MetaPairSaid : Prop := metaPairRow.holds Try.pinned (OpenSpec.ofChange metaPairSpec)

/-- ITS FALSE NEIGHBOUR: 'it returns false'. Refute it at one input. -/
def metaPairWrong : ChangeSpec := { name := "metaPair", fn := fun _ => fun
  | [d1, d2] => { results := [.lit (.bool false)], args := [d1, d2] }
  | _ => none }
def MetaPairWrongFalsely : Prop := metaPairRow.holds Try.pinned (OpenSpec.ofChange metaPairWrong)

/-- 'sapwoodlaw21.ScriptDecodes': WHATEVER THE INPUT: true; the input reads as it did. -/
def scriptDecodesSpec : ChangeSpec := { name := "scriptDecodes", fn := fun _ => fun
  | [d] => { results := [.lit (.bool true)], args := [d] }
  | _ => none }
def scriptDecodesRow : OpenClaim := { program := "ytpjgmcoimniheaa", sum := "eca804ac09abc0b2cbaacb3519c10243908b31a5bc310946b023373c8c4d2d4c", func := "sapwood/sapwoodlaw21.ScriptDecodes", spec := "scriptDecodes", apart := false }
def ScriptDecodesSaid : Prop := scriptDecodesRow.holds Try.pinned (OpenSpec.ofChange scriptDecodesSpec)

/-- ITS FALSE NEIGHBOUR: 'it returns false'. Refute it at one input. -/
def scriptDecodesWrong : ChangeSpec := { name := "scriptDecodes", fn := fun _ => fun
  | [d] => { results := [.lit (.bool false)], args := [d] }
  | _ => none }
def ScriptDecodesWrongFalsely : Prop := scriptDecodesRow.holds Try.pinned (OpenSpec.ofChange scriptDecodesWrong)

/-- 'sapwoodlaw21.ScriptLong': WHATEVER THE INPUT: true; the input reads as it did. -/
def scriptLongSpec : ChangeSpec := { name := "scriptLong", fn := fun _ => fun
  | [d1, d2] => { results := [.lit (.bool true)], args := [d1, d2] }
  | _ => none }
def scriptLongRow : OpenClaim := { program := "ytpjgmcoimniheaa", sum := "eca804ac09abc0b2cbaacb3519c10243908b31a5bc310946b023373c8c4d2d4c", func := "sapwood/sapwoodlaw21.ScriptLong", spec := "scriptLong", apart := false }
def ScriptLongSaid : Prop := scriptLongRow.holds Try.pinned (OpenSpec.ofChange scriptLongSpec)

/-- ITS FALSE NEIGHBOUR: 'it returns false'. Refute it at one input. -/
def scriptLongWrong : ChangeSpec := { name := "scriptLong", fn := fun _ => fun
  | [d1, d2] => { results := [.lit (.bool false)], args := [d1, d2] }
  | _ => none }
def ScriptLongWrongFalsely : Prop := scriptLongRow.holds Try.pinned (OpenSpec.ofChange scriptLongWrong)

/- THE SECOND FORM. 'bulk': how many values and letters a reading holds, each counted each time it is reached (what is shared counts as often as it is met; a slice's spare places count too). A statement '..UptoSaid' is the law's where the arguments, and the package variables that the reading takes, are together of bulk at most 1048576: NARROWER than '..Said'. Prove '..Said' where nothing that the law and all that it calls make is longer than what came in: it says more and counts as full. Else prove '..UptoSaid'. A law counts once. -/
mutual
def uptoBulk {H : Type} : DataW H → Nat
  | .lit (.string bytes) => bytes.length + 1
  | .lit _ => 1
  | .nil => 1
  | .ptr d => uptoBulk d + 1
  | .slice elems spare => uptoBulkAll elems + uptoBulkAll spare + 1
  | .agg parts => uptoBulkAll parts + 1
  | .iface _ d => uptoBulk d + 1
  | .map entries => uptoBulkEntries entries + 1
  | .held _ => 1
def uptoBulkAll {H : Type} : List (DataW H) → Nat
  | [] => 0
  | d :: r => uptoBulk d + uptoBulkAll r
def uptoBulkEntries {H : Type} : List (Lit × DataW H) → Nat
  | [] => 0
  | x :: r => uptoBulkEntry x + uptoBulkEntries r
def uptoBulkEntry {H : Type} : Lit × DataW H → Nat
  | (.string bytes, d) => bytes.length + uptoBulk d + 1
  | (_, d) => uptoBulk d + 1
 end
def uptoSmall : (H : Type) → List (DataW H) → Bool := fun _ ds => decide (uptoBulkAll ds ≤ 1048576)
def OpenSpec.upto (s : _root_.Go.ChangeSpec) : _root_.Go.OpenSpec := { _root_.Go.OpenSpec.ofChange s with cond := some uptoSmall }

/-- 'sapwoodlaw06.MetaRights', WHERE WHAT IT READS IS OF BULK AT MOST 1048576: true; the input reads as it did. -/
def metaRightsUptoRow : OpenClaim := { program := "ytpjgmcoimniheaa", sum := "eca804ac09abc0b2cbaacb3519c10243908b31a5bc310946b023373c8c4d2d4c", func := "sapwood/sapwoodlaw06.MetaRights", spec := "metaRights", apart := false, narrowed := true }
def MetaRightsUptoSaid : Prop := metaRightsUptoRow.holds Try.pinned (OpenSpec.upto metaRightsSpec)

/-- 'sapwoodlaw06.MetaBack', WHERE WHAT IT READS IS OF BULK AT MOST 1048576: true; the input reads as it did. -/
def metaBackUptoRow : OpenClaim := { program := "ytpjgmcoimniheaa", sum := "eca804ac09abc0b2cbaacb3519c10243908b31a5bc310946b023373c8c4d2d4c", func := "sapwood/sapwoodlaw06.MetaBack", spec := "metaBack", apart := false, narrowed := true }
def MetaBackUptoSaid : Prop := metaBackUptoRow.holds Try.pinned (OpenSpec.upto metaBackSpec)

/-- 'sapwoodlaw06.MetaTorn', WHERE WHAT IT READS IS OF BULK AT MOST 1048576: true; the input reads as it did. -/
def metaTornUptoRow : OpenClaim := { program := "ytpjgmcoimniheaa", sum := "eca804ac09abc0b2cbaacb3519c10243908b31a5bc310946b023373c8c4d2d4c", func := "sapwood/sapwoodlaw06.MetaTorn", spec := "metaTorn", apart := false, narrowed := true }
def MetaTornUptoSaid : Prop := metaTornUptoRow.holds Try.pinned (OpenSpec.upto metaTornSpec)

/-- 'sapwoodlaw06.MetaAgain', WHERE WHAT IT READS IS OF BULK AT MOST 1048576: true; the input reads as it did. -/
def metaAgainUptoRow : OpenClaim := { program := "ytpjgmcoimniheaa", sum := "eca804ac09abc0b2cbaacb3519c10243908b31a5bc310946b023373c8c4d2d4c", func := "sapwood/sapwoodlaw06.MetaAgain", spec := "metaAgain", apart := false, narrowed := true }
def MetaAgainUptoSaid : Prop := metaAgainUptoRow.holds Try.pinned (OpenSpec.upto metaAgainSpec)

/-- 'sapwoodlaw06.MetaTurned', WHERE WHAT IT READS IS OF BULK AT MOST 1048576: true; the input reads as it did. -/
def metaTurnedUptoRow : OpenClaim := { program := "ytpjgmcoimniheaa", sum := "eca804ac09abc0b2cbaacb3519c10243908b31a5bc310946b023373c8c4d2d4c", func := "sapwood/sapwoodlaw06.MetaTurned", spec := "metaTurned", apart := false, narrowed := true }
def MetaTurnedUptoSaid : Prop := metaTurnedUptoRow.holds Try.pinned (OpenSpec.upto metaTurnedSpec)

/-- 'sapwoodlaw06.MetaNext', WHERE WHAT IT READS IS OF BULK AT MOST 1048576: true; the input reads as it did. -/
def metaNextUptoRow : OpenClaim := { program := "ytpjgmcoimniheaa", sum := "eca804ac09abc0b2cbaacb3519c10243908b31a5bc310946b023373c8c4d2d4c", func := "sapwood/sapwoodlaw06.MetaNext", spec := "metaNext", apart := false, narrowed := true }
def MetaNextUptoSaid : Prop := metaNextUptoRow.holds Try.pinned (OpenSpec.upto metaNextSpec)

/-- 'sapwoodlaw06.MetaDecodes', WHERE WHAT IT READS IS OF BULK AT MOST 1048576: true; the input reads as it did. -/
def metaDecodesUptoRow : OpenClaim := { program := "ytpjgmcoimniheaa", sum := "eca804ac09abc0b2cbaacb3519c10243908b31a5bc310946b023373c8c4d2d4c", func := "sapwood/sapwoodlaw06.MetaDecodes", spec := "metaDecodes", unfollowed := true, recurses := true, apart := false, narrowed := true }
def MetaDecodesUptoSaid : Prop := metaDecodesUptoRow.holds Try.pinned (OpenSpec.upto metaDecodesSpec)

/-- 'sapwoodlaw06.MetaPair', WHERE WHAT IT READS IS OF BULK AT MOST 1048576: true; the input reads as it did. -/
def metaPairUptoRow : OpenClaim := { program := "ytpjgmcoimniheaa", sum := "eca804ac09abc0b2cbaacb3519c10243908b31a5bc310946b023373c8c4d2d4c", func := "sapwood/sapwoodlaw06.MetaPair", spec := "metaPair", unfollowed := true, recurses := true, apart := false, narrowed := true }
def MetaPairUptoSaid : Prop := metaPairUptoRow.holds Try.pinned (OpenSpec.upto metaPairSpec)

/-- 'sapwoodlaw21.ScriptDecodes', WHERE WHAT IT READS IS OF BULK AT MOST 1048576: true; the input reads as it did. -/
def scriptDecodesUptoRow : OpenClaim := { program := "ytpjgmcoimniheaa", sum := "eca804ac09abc0b2cbaacb3519c10243908b31a5bc310946b023373c8c4d2d4c", func := "sapwood/sapwoodlaw21.ScriptDecodes", spec := "scriptDecodes", apart := false, narrowed := true }
def ScriptDecodesUptoSaid : Prop := scriptDecodesUptoRow.holds Try.pinned (OpenSpec.upto scriptDecodesSpec)

/-- 'sapwoodlaw21.ScriptLong', WHERE WHAT IT READS IS OF BULK AT MOST 1048576: true; the input reads as it did. -/
def scriptLongUptoRow : OpenClaim := { program := "ytpjgmcoimniheaa", sum := "eca804ac09abc0b2cbaacb3519c10243908b31a5bc310946b023373c8c4d2d4c", func := "sapwood/sapwoodlaw21.ScriptLong", spec := "scriptLong", apart := false, narrowed := true }
def ScriptLongUptoSaid : Prop := scriptLongUptoRow.holds Try.pinned (OpenSpec.upto scriptLongSpec)

end Rows
end Go.Proofs.Ytpjgmcoimniheaa
