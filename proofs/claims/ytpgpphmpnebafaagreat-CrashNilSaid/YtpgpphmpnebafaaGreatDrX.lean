/- The document's device, by walks: writes, reads, Sync. -/
import Derived.Test.YtpgpphmpnebafaaGreatDrW
namespace Go.Proofs.YtpgpphmpnebafaaGreat.Dv
open Go.RowKit
set_option linter.unusedSimpArgs false
set_option linter.unusedVariables false
set_option maxRecDepth 100000

section
variable {F : Nat → Prop} {b : Nat} {P : List ByteArray} {Q : List (Nat × ByteArray)} {w : World}
end
end Go.Proofs.YtpgpphmpnebafaaGreat.Dv
