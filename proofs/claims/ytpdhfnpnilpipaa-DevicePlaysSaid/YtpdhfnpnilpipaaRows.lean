/-
  No cell of these rows narrows 'for every input' (looked for: loops, veiled, ifaces, maps, wideKeys, modest, calm, conditions, laid).
  DERIVED. THE GIVEN ROWS OF THIS SEAT. 10 by the template 'for every input the law returns true; each argument reads behind the call as it read before'; 0 by the template 'total and deterministic' (their statements: YtpdhfnpnilpipaaTotals.lean).
  GIVEN WITH THE SEED: the statements are not yours to turn. If you find one false, say at which input.
  Laid BY PROGRAM, IN A SANDBOX (cutbox-rows.mjs): the forced cells as the released guide's own fill.sh prints them over the translation 211866f43ae8be27… (all of the seat's roots in one cut). By AI agents, Wed Nov 11 2026. No macro, syntax, notation, axiom, sorry.
-/
import Derived.Test.YtpdhfnpnilpipaaChecked
import GoSem.Claim
import GoSem.ClaimJoined
import GoSem.ClaimMapViews
import Derived.JoinedTies
import Derived.KernelRfl
namespace Go.Proofs.Ytpdhfnpnilpipaa
/- THE CELL 'sum', in the pinned program and in every row, IS THE sha256 OF THE DUMP (.gsa) THAT YtpdhfnpnilpipaaProg.lean LOADS. Nothing in Lean hashes anything: it is a label: what it is worth is what the hold of that sum in a sandbox is worth. -/
noncomputable def Try.pinned : Pinned := { name := "ytpdhfnpnilpipaa", sum := "211866f43ae8be279b9999a4c0808f5359fc0f0735a6a1aa948fefb19757dbc7", checked := Try.checked }
namespace Rows
def none {H : Type} : Left H := { results := [], args := [] }

/-- 'sapwoodlaw05.ChainSizes': WHATEVER THE INPUT: true; the input reads as it did. -/
def chainSizesSpec : ChangeSpec := { name := "chainSizes", fn := fun _ => fun
  | [d1, d2] => { results := [.lit (.bool true)], args := [d1, d2] }
  | _ => none }
def chainSizesRow : OpenClaim := { program := "ytpdhfnpnilpipaa", sum := "211866f43ae8be279b9999a4c0808f5359fc0f0735a6a1aa948fefb19757dbc7", func := "sapwood/sapwoodlaw05.ChainSizes", spec := "chainSizes", apart := false }
def ChainSizesSaid : Prop := chainSizesRow.holds Try.pinned (OpenSpec.ofChange chainSizesSpec)

/-- ITS FALSE NEIGHBOUR: 'it returns false'. Refute it at one input. -/
def chainSizesWrong : ChangeSpec := { name := "chainSizes", fn := fun _ => fun
  | [d1, d2] => { results := [.lit (.bool false)], args := [d1, d2] }
  | _ => none }
def ChainSizesWrongFalsely : Prop := chainSizesRow.holds Try.pinned (OpenSpec.ofChange chainSizesWrong)

/-- 'sapwoodlaw05.ChainCuts': WHATEVER THE INPUT: true; the input reads as it did. -/
def chainCutsSpec : ChangeSpec := { name := "chainCuts", fn := fun _ => fun
  | [d1, d2, d3] => { results := [.lit (.bool true)], args := [d1, d2, d3] }
  | _ => none }
def chainCutsRow : OpenClaim := { program := "ytpdhfnpnilpipaa", sum := "211866f43ae8be279b9999a4c0808f5359fc0f0735a6a1aa948fefb19757dbc7", func := "sapwood/sapwoodlaw05.ChainCuts", spec := "chainCuts", inPlace := ["internal/abi.NoEscape", "internal/bytealg.MakeNoZero"], apart := false }
def ChainCutsSaid : Prop := chainCutsRow.holds Try.pinned (OpenSpec.ofChange chainCutsSpec)

/-- ITS FALSE NEIGHBOUR: 'it returns false'. Refute it at one input. -/
def chainCutsWrong : ChangeSpec := { name := "chainCuts", fn := fun _ => fun
  | [d1, d2, d3] => { results := [.lit (.bool false)], args := [d1, d2, d3] }
  | _ => none }
def ChainCutsWrongFalsely : Prop := chainCutsRow.holds Try.pinned (OpenSpec.ofChange chainCutsWrong)

/-- 'sapwoodlaw05.ChainBack': WHATEVER THE INPUT: true; the input reads as it did. -/
def chainBackSpec : ChangeSpec := { name := "chainBack", fn := fun _ => fun
  | [d1, d2] => { results := [.lit (.bool true)], args := [d1, d2] }
  | _ => none }
def chainBackRow : OpenClaim := { program := "ytpdhfnpnilpipaa", sum := "211866f43ae8be279b9999a4c0808f5359fc0f0735a6a1aa948fefb19757dbc7", func := "sapwood/sapwoodlaw05.ChainBack", spec := "chainBack", inPlace := ["internal/abi.NoEscape", "internal/bytealg.MakeNoZero"], apart := false }
def ChainBackSaid : Prop := chainBackRow.holds Try.pinned (OpenSpec.ofChange chainBackSpec)

/-- ITS FALSE NEIGHBOUR: 'it returns false'. Refute it at one input. -/
def chainBackWrong : ChangeSpec := { name := "chainBack", fn := fun _ => fun
  | [d1, d2] => { results := [.lit (.bool false)], args := [d1, d2] }
  | _ => none }
def ChainBackWrongFalsely : Prop := chainBackRow.holds Try.pinned (OpenSpec.ofChange chainBackWrong)

/-- 'sapwoodlaw05.ChainPieces': WHATEVER THE INPUT: true; the input reads as it did. -/
def chainPiecesSpec : ChangeSpec := { name := "chainPieces", fn := fun _ => fun
  | [d1, d2, d3] => { results := [.lit (.bool true)], args := [d1, d2, d3] }
  | _ => none }
def chainPiecesRow : OpenClaim := { program := "ytpdhfnpnilpipaa", sum := "211866f43ae8be279b9999a4c0808f5359fc0f0735a6a1aa948fefb19757dbc7", func := "sapwood/sapwoodlaw05.ChainPieces", spec := "chainPieces", inPlace := ["internal/abi.NoEscape", "internal/bytealg.MakeNoZero"], apart := false }
def ChainPiecesSaid : Prop := chainPiecesRow.holds Try.pinned (OpenSpec.ofChange chainPiecesSpec)

/-- ITS FALSE NEIGHBOUR: 'it returns false'. Refute it at one input. -/
def chainPiecesWrong : ChangeSpec := { name := "chainPieces", fn := fun _ => fun
  | [d1, d2, d3] => { results := [.lit (.bool false)], args := [d1, d2, d3] }
  | _ => none }
def ChainPiecesWrongFalsely : Prop := chainPiecesRow.holds Try.pinned (OpenSpec.ofChange chainPiecesWrong)

/-- 'sapwoodlaw07.DeviceImages': WHATEVER THE INPUT: true; the input reads as it did. -/
def deviceImagesSpec : ChangeSpec := { name := "deviceImages", fn := fun _ => fun
  | [d1, d2] => { results := [.lit (.bool true)], args := [d1, d2] }
  | _ => none }
def deviceImagesRow : OpenClaim := { program := "ytpdhfnpnilpipaa", sum := "211866f43ae8be279b9999a4c0808f5359fc0f0735a6a1aa948fefb19757dbc7", func := "sapwood/sapwoodlaw07.DeviceImages", spec := "deviceImages", unfollowed := true, recurses := true, apart := false }
def DeviceImagesSaid : Prop := deviceImagesRow.holds Try.pinned (OpenSpec.ofChange deviceImagesSpec)

/-- ITS FALSE NEIGHBOUR: 'it returns false'. Refute it at one input. -/
def deviceImagesWrong : ChangeSpec := { name := "deviceImages", fn := fun _ => fun
  | [d1, d2] => { results := [.lit (.bool false)], args := [d1, d2] }
  | _ => none }
def DeviceImagesWrongFalsely : Prop := deviceImagesRow.holds Try.pinned (OpenSpec.ofChange deviceImagesWrong)

/-- 'sapwoodlaw07.DeviceLast': WHATEVER THE INPUT: true; the input reads as it did. -/
def deviceLastSpec : ChangeSpec := { name := "deviceLast", fn := fun _ => fun
  | [d1, d2, d3] => { results := [.lit (.bool true)], args := [d1, d2, d3] }
  | _ => none }
def deviceLastRow : OpenClaim := { program := "ytpdhfnpnilpipaa", sum := "211866f43ae8be279b9999a4c0808f5359fc0f0735a6a1aa948fefb19757dbc7", func := "sapwood/sapwoodlaw07.DeviceLast", spec := "deviceLast", unfollowed := true, recurses := true, apart := false }
def DeviceLastSaid : Prop := deviceLastRow.holds Try.pinned (OpenSpec.ofChange deviceLastSpec)

/-- ITS FALSE NEIGHBOUR: 'it returns false'. Refute it at one input. -/
def deviceLastWrong : ChangeSpec := { name := "deviceLast", fn := fun _ => fun
  | [d1, d2, d3] => { results := [.lit (.bool false)], args := [d1, d2, d3] }
  | _ => none }
def DeviceLastWrongFalsely : Prop := deviceLastRow.holds Try.pinned (OpenSpec.ofChange deviceLastWrong)

/-- 'sapwoodlaw07.DevicePlays': WHATEVER THE INPUT: true; the input reads as it did. -/
def devicePlaysSpec : ChangeSpec := { name := "devicePlays", fn := fun _ => fun
  | [d1, d2] => { results := [.lit (.bool true)], args := [d1, d2] }
  | _ => none }
def devicePlaysRow : OpenClaim := { program := "ytpdhfnpnilpipaa", sum := "211866f43ae8be279b9999a4c0808f5359fc0f0735a6a1aa948fefb19757dbc7", func := "sapwood/sapwoodlaw07.DevicePlays", spec := "devicePlays", unfollowed := true, recurses := true, apart := false }
def DevicePlaysSaid : Prop := devicePlaysRow.holds Try.pinned (OpenSpec.ofChange devicePlaysSpec)

/-- ITS FALSE NEIGHBOUR: 'it returns false'. Refute it at one input. -/
def devicePlaysWrong : ChangeSpec := { name := "devicePlays", fn := fun _ => fun
  | [d1, d2] => { results := [.lit (.bool false)], args := [d1, d2] }
  | _ => none }
def DevicePlaysWrongFalsely : Prop := devicePlaysRow.holds Try.pinned (OpenSpec.ofChange devicePlaysWrong)

/-- 'sapwoodlaw07.DeviceStays': WHATEVER THE INPUT: true; the input reads as it did. -/
def deviceStaysSpec : ChangeSpec := { name := "deviceStays", fn := fun _ => fun
  | [d1, d2, d3, d4] => { results := [.lit (.bool true)], args := [d1, d2, d3, d4] }
  | _ => none }
def deviceStaysRow : OpenClaim := { program := "ytpdhfnpnilpipaa", sum := "211866f43ae8be279b9999a4c0808f5359fc0f0735a6a1aa948fefb19757dbc7", func := "sapwood/sapwoodlaw07.DeviceStays", spec := "deviceStays", unfollowed := true, recurses := true, apart := false }
def DeviceStaysSaid : Prop := deviceStaysRow.holds Try.pinned (OpenSpec.ofChange deviceStaysSpec)

/-- ITS FALSE NEIGHBOUR: 'it returns false'. Refute it at one input. -/
def deviceStaysWrong : ChangeSpec := { name := "deviceStays", fn := fun _ => fun
  | [d1, d2, d3, d4] => { results := [.lit (.bool false)], args := [d1, d2, d3, d4] }
  | _ => none }
def DeviceStaysWrongFalsely : Prop := deviceStaysRow.holds Try.pinned (OpenSpec.ofChange deviceStaysWrong)

/-- 'sapwoodlaw07.DeviceKeeps': WHATEVER THE INPUT: true; the input reads as it did. -/
def deviceKeepsSpec : ChangeSpec := { name := "deviceKeeps", fn := fun _ => fun
  | [d1, d2, d3] => { results := [.lit (.bool true)], args := [d1, d2, d3] }
  | _ => none }
def deviceKeepsRow : OpenClaim := { program := "ytpdhfnpnilpipaa", sum := "211866f43ae8be279b9999a4c0808f5359fc0f0735a6a1aa948fefb19757dbc7", func := "sapwood/sapwoodlaw07.DeviceKeeps", spec := "deviceKeeps", unfollowed := true, recurses := true, apart := false }
def DeviceKeepsSaid : Prop := deviceKeepsRow.holds Try.pinned (OpenSpec.ofChange deviceKeepsSpec)

/-- ITS FALSE NEIGHBOUR: 'it returns false'. Refute it at one input. -/
def deviceKeepsWrong : ChangeSpec := { name := "deviceKeeps", fn := fun _ => fun
  | [d1, d2, d3] => { results := [.lit (.bool false)], args := [d1, d2, d3] }
  | _ => none }
def DeviceKeepsWrongFalsely : Prop := deviceKeepsRow.holds Try.pinned (OpenSpec.ofChange deviceKeepsWrong)

/-- 'sapwoodlaw07.DeviceAll': WHATEVER THE INPUT: true; the input reads as it did. -/
def deviceAllSpec : ChangeSpec := { name := "deviceAll", fn := fun _ => fun
  | [d1, d2] => { results := [.lit (.bool true)], args := [d1, d2] }
  | _ => none }
def deviceAllRow : OpenClaim := { program := "ytpdhfnpnilpipaa", sum := "211866f43ae8be279b9999a4c0808f5359fc0f0735a6a1aa948fefb19757dbc7", func := "sapwood/sapwoodlaw07.DeviceAll", spec := "deviceAll", unfollowed := true, recurses := true, apart := false }
def DeviceAllSaid : Prop := deviceAllRow.holds Try.pinned (OpenSpec.ofChange deviceAllSpec)

/-- ITS FALSE NEIGHBOUR: 'it returns false'. Refute it at one input. -/
def deviceAllWrong : ChangeSpec := { name := "deviceAll", fn := fun _ => fun
  | [d1, d2] => { results := [.lit (.bool false)], args := [d1, d2] }
  | _ => none }
def DeviceAllWrongFalsely : Prop := deviceAllRow.holds Try.pinned (OpenSpec.ofChange deviceAllWrong)

/- THE SECOND FORM. 'bulk': how many values and letters a reading holds, each counted each time it is reached (what is shared counts as often as it is met; a slice's spare places count too). A statement '..UptoSaid' is the law's where the arguments, and the package variables that the reading takes, are together of bulk at most 1048576: NARROWER than '..Said'. Prove '..Said' where nothing that the law and all that it calls make is longer than what came in: it says more and counts as full. Else prove '..UptoSaid'. A law counts once. -/
mutual
def uptoBulk {H : Type} : DataW H → Nat
  | .lit (.string bytes) => bytes.length + 1
  | .lit _ => 1
  | .nil => 1
  | .ptr d => uptoBulk d + 1
  | .slice elems spare => uptoBulkAll elems + uptoBulkAll spare + 1
  | .agg parts => uptoBulkAll parts + 1
  | .iface _ d => uptoBulk d + 1
  | .map entries => uptoBulkEntries entries + 1
  | .held _ => 1
def uptoBulkAll {H : Type} : List (DataW H) → Nat
  | [] => 0
  | d :: r => uptoBulk d + uptoBulkAll r
def uptoBulkEntries {H : Type} : List (Lit × DataW H) → Nat
  | [] => 0
  | x :: r => uptoBulkEntry x + uptoBulkEntries r
def uptoBulkEntry {H : Type} : Lit × DataW H → Nat
  | (.string bytes, d) => bytes.length + uptoBulk d + 1
  | (_, d) => uptoBulk d + 1
 end
def uptoSmall : (H : Type) → List (DataW H) → Bool := fun _ ds => decide (uptoBulkAll ds ≤ 1048576)
def OpenSpec.upto (s : _root_.Go.ChangeSpec) : _root_.Go.OpenSpec := { _root_.Go.OpenSpec.ofChange s with cond := some uptoSmall }

/-- 'sapwoodlaw05.ChainSizes', WHERE WHAT IT READS IS OF BULK AT MOST 1048576: true; the input reads as it did. -/
def chainSizesUptoRow : OpenClaim := { program := "ytpdhfnpnilpipaa", sum := "211866f43ae8be279b9999a4c0808f5359fc0f0735a6a1aa948fefb19757dbc7", func := "sapwood/sapwoodlaw05.ChainSizes", spec := "chainSizes", apart := false, narrowed := true }
def ChainSizesUptoSaid : Prop := chainSizesUptoRow.holds Try.pinned (OpenSpec.upto chainSizesSpec)

/-- 'sapwoodlaw05.ChainCuts', WHERE WHAT IT READS IS OF BULK AT MOST 1048576: true; the input reads as it did. -/
def chainCutsUptoRow : OpenClaim := { program := "ytpdhfnpnilpipaa", sum := "211866f43ae8be279b9999a4c0808f5359fc0f0735a6a1aa948fefb19757dbc7", func := "sapwood/sapwoodlaw05.ChainCuts", spec := "chainCuts", inPlace := ["internal/abi.NoEscape", "internal/bytealg.MakeNoZero"], apart := false, narrowed := true }
def ChainCutsUptoSaid : Prop := chainCutsUptoRow.holds Try.pinned (OpenSpec.upto chainCutsSpec)

/-- 'sapwoodlaw05.ChainBack', WHERE WHAT IT READS IS OF BULK AT MOST 1048576: true; the input reads as it did. -/
def chainBackUptoRow : OpenClaim := { program := "ytpdhfnpnilpipaa", sum := "211866f43ae8be279b9999a4c0808f5359fc0f0735a6a1aa948fefb19757dbc7", func := "sapwood/sapwoodlaw05.ChainBack", spec := "chainBack", inPlace := ["internal/abi.NoEscape", "internal/bytealg.MakeNoZero"], apart := false, narrowed := true }
def ChainBackUptoSaid : Prop := chainBackUptoRow.holds Try.pinned (OpenSpec.upto chainBackSpec)

/-- 'sapwoodlaw05.ChainPieces', WHERE WHAT IT READS IS OF BULK AT MOST 1048576: true; the input reads as it did. -/
def chainPiecesUptoRow : OpenClaim := { program := "ytpdhfnpnilpipaa", sum := "211866f43ae8be279b9999a4c0808f5359fc0f0735a6a1aa948fefb19757dbc7", func := "sapwood/sapwoodlaw05.ChainPieces", spec := "chainPieces", inPlace := ["internal/abi.NoEscape", "internal/bytealg.MakeNoZero"], apart := false, narrowed := true }
def ChainPiecesUptoSaid : Prop := chainPiecesUptoRow.holds Try.pinned (OpenSpec.upto chainPiecesSpec)

/-- 'sapwoodlaw07.DeviceImages', WHERE WHAT IT READS IS OF BULK AT MOST 1048576: true; the input reads as it did. -/
def deviceImagesUptoRow : OpenClaim := { program := "ytpdhfnpnilpipaa", sum := "211866f43ae8be279b9999a4c0808f5359fc0f0735a6a1aa948fefb19757dbc7", func := "sapwood/sapwoodlaw07.DeviceImages", spec := "deviceImages", unfollowed := true, recurses := true, apart := false, narrowed := true }
def DeviceImagesUptoSaid : Prop := deviceImagesUptoRow.holds Try.pinned (OpenSpec.upto deviceImagesSpec)

/-- 'sapwoodlaw07.DeviceLast', WHERE WHAT IT READS IS OF BULK AT MOST 1048576: true; the input reads as it did. -/
def deviceLastUptoRow : OpenClaim := { program := "ytpdhfnpnilpipaa", sum := "211866f43ae8be279b9999a4c0808f5359fc0f0735a6a1aa948fefb19757dbc7", func := "sapwood/sapwoodlaw07.DeviceLast", spec := "deviceLast", unfollowed := true, recurses := true, apart := false, narrowed := true }
def DeviceLastUptoSaid : Prop := deviceLastUptoRow.holds Try.pinned (OpenSpec.upto deviceLastSpec)

/-- 'sapwoodlaw07.DevicePlays', WHERE WHAT IT READS IS OF BULK AT MOST 1048576: true; the input reads as it did. -/
def devicePlaysUptoRow : OpenClaim := { program := "ytpdhfnpnilpipaa", sum := "211866f43ae8be279b9999a4c0808f5359fc0f0735a6a1aa948fefb19757dbc7", func := "sapwood/sapwoodlaw07.DevicePlays", spec := "devicePlays", unfollowed := true, recurses := true, apart := false, narrowed := true }
def DevicePlaysUptoSaid : Prop := devicePlaysUptoRow.holds Try.pinned (OpenSpec.upto devicePlaysSpec)

/-- 'sapwoodlaw07.DeviceStays', WHERE WHAT IT READS IS OF BULK AT MOST 1048576: true; the input reads as it did. -/
def deviceStaysUptoRow : OpenClaim := { program := "ytpdhfnpnilpipaa", sum := "211866f43ae8be279b9999a4c0808f5359fc0f0735a6a1aa948fefb19757dbc7", func := "sapwood/sapwoodlaw07.DeviceStays", spec := "deviceStays", unfollowed := true, recurses := true, apart := false, narrowed := true }
def DeviceStaysUptoSaid : Prop := deviceStaysUptoRow.holds Try.pinned (OpenSpec.upto deviceStaysSpec)

/-- 'sapwoodlaw07.DeviceKeeps', WHERE WHAT IT READS IS OF BULK AT MOST 1048576: true; the input reads as it did. -/
def deviceKeepsUptoRow : OpenClaim := { program := "ytpdhfnpnilpipaa", sum := "211866f43ae8be279b9999a4c0808f5359fc0f0735a6a1aa948fefb19757dbc7", func := "sapwood/sapwoodlaw07.DeviceKeeps", spec := "deviceKeeps", unfollowed := true, recurses := true, apart := false, narrowed := true }
def DeviceKeepsUptoSaid : Prop := deviceKeepsUptoRow.holds Try.pinned (OpenSpec.upto deviceKeepsSpec)

/-- 'sapwoodlaw07.DeviceAll', WHERE WHAT IT READS IS OF BULK AT MOST 1048576: true; the input reads as it did. -/
def deviceAllUptoRow : OpenClaim := { program := "ytpdhfnpnilpipaa", sum := "211866f43ae8be279b9999a4c0808f5359fc0f0735a6a1aa948fefb19757dbc7", func := "sapwood/sapwoodlaw07.DeviceAll", spec := "deviceAll", unfollowed := true, recurses := true, apart := false, narrowed := true }
def DeviceAllUptoSaid : Prop := deviceAllUptoRow.holds Try.pinned (OpenSpec.upto deviceAllSpec)

end Rows
end Go.Proofs.Ytpdhfnpnilpipaa
