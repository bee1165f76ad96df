/- The document's device, by walks: Sync. -/
import Derived.Test.YtpgpphmpnebafaaGreatDrX
import Derived.Test.YtpgpphmpnebafaaGreatDvG
import Derived.StillTailTactics
import Derived.BigRegion
namespace Go.Proofs.YtpgpphmpnebafaaGreat.Dv
open Go.RowKit
set_option linter.unusedSimpArgs false
set_option linter.unusedVariables false
set_option maxRecDepth 100000

section
variable {F : Nat → Prop} {b : Nat} {P : List ByteArray} {Q : List (Nat × ByteArray)} {w : World}
end
end Go.Proofs.YtpgpphmpnebafaaGreat.Dv
