/- A device with an image, by a walk. -/
import Derived.Test.YtpgpphmpnebafaaGreatDvR
import Derived.IntWalk
namespace Go.Proofs.YtpgpphmpnebafaaGreat.Dv
open Go.RowKit
set_option linter.unusedSimpArgs false
set_option linter.unusedVariables false
set_option maxRecDepth 100000

theorem img_cells (s : ByteArray) (k : Nat) : ((Lib.strCells s).drop (k * 256)).take 256 ++ (Lib.strCells zeroPage).drop (((Lib.strCells s).drop (k * 256)).take 256).length = Lib.strCells (imgPage s k) := by
  have h1 : (((Lib.strCells s).drop (k * 256)).take 256).length = (s.extract (k * 256) (k * 256 + 256)).size := by
    rw [List.length_take, List.length_drop, Lib.strCells_length, ext_size]; omega
  rw [h1]
  unfold imgPage Lib.strCells
  rw [ByteArray.data_append, Array.toList_append, Lib.extract_data, Lib.extract_data, List.map_append]
  congr 1
  · rw [List.map_take, List.map_drop]; congr 1; omega
  · rw [List.map_take, List.map_drop, List.take_of_length_le]
    rw [List.length_drop, List.length_map, ← size_data, zeroPage_size]
    exact Nat.le_refl _
theorem img_src {w W : World} {g m : Nat} {s : ByteArray} (h : RdB w (some ⟨g, 0, none⟩) s) (hm : m < s.size) (hb : Below w.heap.size w W) :
    ∀ (j : Nat) (v : Value), (((Lib.strCells s).drop m).take 256)[j]? = some v → W.cell? ((⟨g, m, none⟩ : Addr).add j) = some v := by
  obtain ⟨ad, hA, hcell⟩ := (h.below hb) (by omega)
  injection hA with hA; subst hA
  intro j v hj
  rw [List.getElem?_take] at hj
  split at hj
  · rw [List.getElem?_drop] at hj
    have := hcell (m + j) v hj
    rw [add_plain] at this
    rw [show (⟨g, m, none⟩ : Addr).add j = ⟨g, m + j, none⟩ from by unfold Addr.add; split <;> simp_all]
    exact this
  · simp at hj
theorem rep_zero (s : ByteArray) : List.replicate (imgLen s) zeroPage = imgTo s 0 := by unfold imgTo; simp
end Go.Proofs.YtpgpphmpnebafaaGreat.Dv
