/- The law of images: any bytes are the image of a device, as the document says; by a walk. -/
import Derived.Test.YtpgpphmpnebafaaGreatDvK
import Derived.Test.YtpgpphmpnebafaaGreatDvJ
import Derived.Lib.ConvBytes
import Derived.Deep.RegionHeld3
namespace Go.Proofs.YtpgpphmpnebafaaGreat.Dv
open Go.RowKit
set_option linter.unusedSimpArgs false
set_option linter.unusedVariables false
set_option maxRecDepth 100000

theorem conv_in (w : World) (s : ByteArray) : ∃ c W, (convert 9 22 (.string s)).run Tryz.prog w = .ok (.slice (some ⟨w.heap.size, 0, none⟩) s.size c) W ∧ s.size ≤ c ∧ RdB W (some ⟨w.heap.size, 0, none⟩) s ∧ Below w.heap.size w W := by
  refine ⟨_, _, Lib.run_convert_string_bytes w _ _ 5 s Tryz.underlying9 Tryz.underlying22 Tryz.underlying5, ?_, ?_, ?_⟩
  · exact grownCap_ge w s.size 0 5
  · intro _
    refine ⟨_, rfl, fun j u hj => ?_⟩
    have h1 := (List.getElem?_eq_some_iff.1 hj).1
    rw [Lib.strCells_length] at h1
    rw [add_plain, Lib.bytesWorld_cell w _ s j h1]
    rw [← hj]
    unfold Lib.strCells
    rw [List.getElem?_map, List.getD_eq_getElem?_getD]
    have h2 : j < s.data.toList.length := by rw [← size_data]; exact h1
    rw [List.getElem?_eq_getElem h2]; rfl
  · exact ⟨rfl, rfl, rfl, by rw [Lib.bytesWorld_size]; omega, fun k hk => Lib.bytesWorld_at_old w _ s k hk⟩
end Go.Proofs.YtpgpphmpnebafaaGreat.Dv
