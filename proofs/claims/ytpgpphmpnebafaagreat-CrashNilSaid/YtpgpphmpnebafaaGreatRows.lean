/-
  No cell of these rows narrows 'for every input' (looked for: loops, veiled, ifaces, maps, wideKeys, modest, calm, conditions, laid).
  DERIVED. THE GIVEN ROWS OF THIS SEAT. 4 by the template 'for every input the law returns true; each argument reads behind the call as it read before'; 0 by the template 'total and deterministic' (their statements: YtpgpphmpnebafaaGreatTotals.lean).
  GIVEN WITH THE SEED: the statements are not yours to turn. If you find one false, say at which input.
  Laid BY PROGRAM, IN A SANDBOX (cutbox-rows.mjs): the forced cells as the released guide's own fill.sh prints them over the translation a2a7a1751c2cdb1a… (all of the seat's roots in one cut). By AI agents, Wed Nov 11 2026. No macro, syntax, notation, axiom, sorry.
-/
import Derived.Test.YtpgpphmpnebafaaGreatChecked
import GoSem.Claim
import GoSem.ClaimJoined
import GoSem.ClaimMapViews
import Derived.JoinedTies
import Derived.KernelRfl
namespace Go.Proofs.YtpgpphmpnebafaaGreat
/- THE CELL 'sum', in the pinned program and in every row, IS THE sha256 OF THE DUMP (.gsa) THAT YtpgpphmpnebafaaGreatProg.lean LOADS. Nothing in Lean hashes anything: it is a label: what it is worth is what the hold of that sum in a sandbox is worth. -/
noncomputable def Tryz.pinned : Pinned := { name := "ytpgpphmpnebafaagreat", sum := "a2a7a1751c2cdb1a5b6fa0b3c85dbd9615c64f0aaa5938a26f8eb4cfd6cc4962", checked := Tryz.checked }
namespace Rows
def none {H : Type} : Left H := { results := [], args := [] }

/-- 'sapwoodlaw25.FsckNil': WHATEVER THE INPUT: true; the input reads as it did. -/
def fsckNilSpec : ChangeSpec := { name := "fsckNil", fn := fun _ => fun
  | [d1, d2] => { results := [.lit (.bool true)], args := [d1, d2] }
  | _ => none }
def fsckNilRow : OpenClaim := { program := "ytpgpphmpnebafaagreat", sum := "a2a7a1751c2cdb1a5b6fa0b3c85dbd9615c64f0aaa5938a26f8eb4cfd6cc4962", func := "sapwood/sapwoodlaw25.FsckNil", spec := "fsckNil", inPlace := ["internal/abi.NoEscape", "internal/bytealg.MakeNoZero"], unfollowed := true, recurses := true, apart := false }
def FsckNilSaid : Prop := fsckNilRow.holds Tryz.pinned (OpenSpec.ofChange fsckNilSpec)

/-- ITS FALSE NEIGHBOUR: 'it returns false'. Refute it at one input. -/
def fsckNilWrong : ChangeSpec := { name := "fsckNil", fn := fun _ => fun
  | [d1, d2] => { results := [.lit (.bool false)], args := [d1, d2] }
  | _ => none }
def FsckNilWrongFalsely : Prop := fsckNilRow.holds Tryz.pinned (OpenSpec.ofChange fsckNilWrong)

/-- 'sapwoodlaw17.CommitNil': WHATEVER THE INPUT: true; the input reads as it did. -/
def commitNilSpec : ChangeSpec := { name := "commitNil", fn := fun _ => fun
  | [d1, d2] => { results := [.lit (.bool true)], args := [d1, d2] }
  | _ => none }
def commitNilRow : OpenClaim := { program := "ytpgpphmpnebafaagreat", sum := "a2a7a1751c2cdb1a5b6fa0b3c85dbd9615c64f0aaa5938a26f8eb4cfd6cc4962", func := "sapwood/sapwoodlaw17.CommitNil", spec := "commitNil", inPlace := ["internal/abi.NoEscape", "internal/bytealg.MakeNoZero"], unfollowed := true, recurses := true, apart := false }
def CommitNilSaid : Prop := commitNilRow.holds Tryz.pinned (OpenSpec.ofChange commitNilSpec)

/-- ITS FALSE NEIGHBOUR: 'it returns false'. Refute it at one input. -/
def commitNilWrong : ChangeSpec := { name := "commitNil", fn := fun _ => fun
  | [d1, d2] => { results := [.lit (.bool false)], args := [d1, d2] }
  | _ => none }
def CommitNilWrongFalsely : Prop := commitNilRow.holds Tryz.pinned (OpenSpec.ofChange commitNilWrong)

/-- 'sapwoodlaw18.StoreNil': WHATEVER THE INPUT: true; the input reads as it did. -/
def storeNilSpec : ChangeSpec := { name := "storeNil", fn := fun _ => fun
  | [d1, d2] => { results := [.lit (.bool true)], args := [d1, d2] }
  | _ => none }
def storeNilRow : OpenClaim := { program := "ytpgpphmpnebafaagreat", sum := "a2a7a1751c2cdb1a5b6fa0b3c85dbd9615c64f0aaa5938a26f8eb4cfd6cc4962", func := "sapwood/sapwoodlaw18.StoreNil", spec := "storeNil", inPlace := ["internal/abi.NoEscape", "internal/bytealg.MakeNoZero"], unfollowed := true, recurses := true, apart := false }
def StoreNilSaid : Prop := storeNilRow.holds Tryz.pinned (OpenSpec.ofChange storeNilSpec)

/-- ITS FALSE NEIGHBOUR: 'it returns false'. Refute it at one input. -/
def storeNilWrong : ChangeSpec := { name := "storeNil", fn := fun _ => fun
  | [d1, d2] => { results := [.lit (.bool false)], args := [d1, d2] }
  | _ => none }
def StoreNilWrongFalsely : Prop := storeNilRow.holds Tryz.pinned (OpenSpec.ofChange storeNilWrong)

/-- 'sapwoodlaw19.CrashNil': WHATEVER THE INPUT: true; the input reads as it did. -/
def crashNilSpec : ChangeSpec := { name := "crashNil", fn := fun _ => fun
  | [d1, d2, d3] => { results := [.lit (.bool true)], args := [d1, d2, d3] }
  | _ => none }
def crashNilRow : OpenClaim := { program := "ytpgpphmpnebafaagreat", sum := "a2a7a1751c2cdb1a5b6fa0b3c85dbd9615c64f0aaa5938a26f8eb4cfd6cc4962", func := "sapwood/sapwoodlaw19.CrashNil", spec := "crashNil", inPlace := ["internal/abi.NoEscape", "internal/bytealg.MakeNoZero"], unfollowed := true, recurses := true, apart := false }
def CrashNilSaid : Prop := crashNilRow.holds Tryz.pinned (OpenSpec.ofChange crashNilSpec)

/-- ITS FALSE NEIGHBOUR: 'it returns false'. Refute it at one input. -/
def crashNilWrong : ChangeSpec := { name := "crashNil", fn := fun _ => fun
  | [d1, d2, d3] => { results := [.lit (.bool false)], args := [d1, d2, d3] }
  | _ => none }
def CrashNilWrongFalsely : Prop := crashNilRow.holds Tryz.pinned (OpenSpec.ofChange crashNilWrong)

/- THE SECOND FORM. 'bulk': how many values and letters a reading holds, each counted each time it is reached (what is shared counts as often as it is met; a slice's spare places count too). A statement '..UptoSaid' is the law's where the arguments, and the package variables that the reading takes, are together of bulk at most 1048576: NARROWER than '..Said'. Prove '..Said' where nothing that the law and all that it calls make is longer than what came in: it says more and counts as full. Else prove '..UptoSaid'. A law counts once. -/
mutual
def uptoBulk {H : Type} : DataW H → Nat
  | .lit (.string bytes) => bytes.length + 1
  | .lit _ => 1
  | .nil => 1
  | .ptr d => uptoBulk d + 1
  | .slice elems spare => uptoBulkAll elems + uptoBulkAll spare + 1
  | .agg parts => uptoBulkAll parts + 1
  | .iface _ d => uptoBulk d + 1
  | .map entries => uptoBulkEntries entries + 1
  | .held _ => 1
def uptoBulkAll {H : Type} : List (DataW H) → Nat
  | [] => 0
  | d :: r => uptoBulk d + uptoBulkAll r
def uptoBulkEntries {H : Type} : List (Lit × DataW H) → Nat
  | [] => 0
  | x :: r => uptoBulkEntry x + uptoBulkEntries r
def uptoBulkEntry {H : Type} : Lit × DataW H → Nat
  | (.string bytes, d) => bytes.length + uptoBulk d + 1
  | (_, d) => uptoBulk d + 1
 end
def uptoSmall : (H : Type) → List (DataW H) → Bool := fun _ ds => decide (uptoBulkAll ds ≤ 1048576)
def OpenSpec.upto (s : _root_.Go.ChangeSpec) : _root_.Go.OpenSpec := { _root_.Go.OpenSpec.ofChange s with cond := some uptoSmall }

/-- 'sapwoodlaw25.FsckNil', WHERE WHAT IT READS IS OF BULK AT MOST 1048576: true; the input reads as it did. -/
def fsckNilUptoRow : OpenClaim := { program := "ytpgpphmpnebafaagreat", sum := "a2a7a1751c2cdb1a5b6fa0b3c85dbd9615c64f0aaa5938a26f8eb4cfd6cc4962", func := "sapwood/sapwoodlaw25.FsckNil", spec := "fsckNil", inPlace := ["internal/abi.NoEscape", "internal/bytealg.MakeNoZero"], unfollowed := true, recurses := true, apart := false, narrowed := true }
def FsckNilUptoSaid : Prop := fsckNilUptoRow.holds Tryz.pinned (OpenSpec.upto fsckNilSpec)

/-- 'sapwoodlaw17.CommitNil', WHERE WHAT IT READS IS OF BULK AT MOST 1048576: true; the input reads as it did. -/
def commitNilUptoRow : OpenClaim := { program := "ytpgpphmpnebafaagreat", sum := "a2a7a1751c2cdb1a5b6fa0b3c85dbd9615c64f0aaa5938a26f8eb4cfd6cc4962", func := "sapwood/sapwoodlaw17.CommitNil", spec := "commitNil", inPlace := ["internal/abi.NoEscape", "internal/bytealg.MakeNoZero"], unfollowed := true, recurses := true, apart := false, narrowed := true }
def CommitNilUptoSaid : Prop := commitNilUptoRow.holds Tryz.pinned (OpenSpec.upto commitNilSpec)

/-- 'sapwoodlaw18.StoreNil', WHERE WHAT IT READS IS OF BULK AT MOST 1048576: true; the input reads as it did. -/
def storeNilUptoRow : OpenClaim := { program := "ytpgpphmpnebafaagreat", sum := "a2a7a1751c2cdb1a5b6fa0b3c85dbd9615c64f0aaa5938a26f8eb4cfd6cc4962", func := "sapwood/sapwoodlaw18.StoreNil", spec := "storeNil", inPlace := ["internal/abi.NoEscape", "internal/bytealg.MakeNoZero"], unfollowed := true, recurses := true, apart := false, narrowed := true }
def StoreNilUptoSaid : Prop := storeNilUptoRow.holds Tryz.pinned (OpenSpec.upto storeNilSpec)

/-- 'sapwoodlaw19.CrashNil', WHERE WHAT IT READS IS OF BULK AT MOST 1048576: true; the input reads as it did. -/
def crashNilUptoRow : OpenClaim := { program := "ytpgpphmpnebafaagreat", sum := "a2a7a1751c2cdb1a5b6fa0b3c85dbd9615c64f0aaa5938a26f8eb4cfd6cc4962", func := "sapwood/sapwoodlaw19.CrashNil", spec := "crashNil", inPlace := ["internal/abi.NoEscape", "internal/bytealg.MakeNoZero"], unfollowed := true, recurses := true, apart := false, narrowed := true }
def CrashNilUptoSaid : Prop := crashNilUptoRow.holds Tryz.pinned (OpenSpec.upto crashNilSpec)

end Rows
end Go.Proofs.YtpgpphmpnebafaaGreat
