/- The law of two meta pages in their slots, by a walk. -/
import Derived.Test.YtpgpphmpnebafaaGreatMsC
import Derived.Test.YtpgpphmpnebafaaGreatMtV
namespace Go.Proofs.YtpgpphmpnebafaaGreat.Mt
open Go.RowKit Go.Proofs.YtpgpphmpnebafaaGreat.By
set_option linter.unusedSimpArgs false
set_option linter.unusedVariables false
set_option maxRecDepth 100000

theorem one_enc {a b : Nat} (h : rightB a b = true) (k : Int) : one k (enc a b) = if (a : Int) % 2 = k then [((a : Int), (b : Int))] else [] := by
  unfold one
  rw [decV_enc h, decR_enc h]
  by_cases hk : (a : Int) % 2 = k
  · rw [if_pos hk, if_pos ⟨decOk_enc h, hk⟩]
  · rw [if_neg hk, if_neg (fun x => hk x.2)]
end Go.Proofs.YtpgpphmpnebafaaGreat.Mt
