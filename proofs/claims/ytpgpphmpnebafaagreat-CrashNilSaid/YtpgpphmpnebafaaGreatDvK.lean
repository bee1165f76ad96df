/- What a program that does nothing answers wrongly: the device is awake; by a walk. -/
import Derived.Test.YtpgpphmpnebafaaGreatDvF
import Derived.Test.YtpgpphmpnebafaaGreatDvD
namespace Go.Proofs.YtpgpphmpnebafaaGreat.Dv
open Go.RowKit
set_option linter.unusedSimpArgs false
set_option linter.unusedVariables false
set_option maxRecDepth 100000

theorem fullPage_first (c : Nat) (hc : c < 256) : (Lib.strCells (fullPage c))[0]? = some (.int .u8 (c : Int)) := by
  rw [fullPage_cells c hc, List.getElem?_replicate]; rfl
theorem rdB_first {W : World} {s : ByteArray} {ad : Addr} (h : RdB W (some ad) s) {v : Value} (hv : (Lib.strCells s)[0]? = some v) (hs : 0 < s.size) : W.cell? ad = some v := by
  obtain ⟨a, ha, hc⟩ := h hs
  injection ha with ha
  subst ha
  have := hc 0 v hv
  have h0 : ad.add 0 = ad := by unfold Addr.add; split <;> simp_all
  rwa [h0] at this
end Go.Proofs.YtpgpphmpnebafaaGreat.Dv
