/- A page of one byte, and what a program that does nothing answers wrongly, by walks. -/
import Derived.Test.YtpgpphmpnebafaaGreatDrB
import Derived.Test.YtpgpphmpnebafaaGreatDvS
namespace Go.Proofs.YtpgpphmpnebafaaGreat.Dv
open Go.RowKit
set_option linter.unusedSimpArgs false
set_option linter.unusedVariables false
set_option maxRecDepth 100000

def fullPage (c : Nat) : ByteArray := ⟨(List.replicate 256 (UInt8.ofNat c)).toArray⟩
theorem fullPage_size (c : Nat) : (fullPage c).size = 256 := by rw [size_data]; unfold fullPage; rw [List.toList_toArray, List.length_replicate]
theorem fullPage_cells (c : Nat) (h : c < 256) : Lib.strCells (fullPage c) = List.replicate 256 (Value.int .u8 (c : Int)) := by
  unfold Lib.strCells fullPage
  rw [List.toList_toArray, List.map_replicate]
  congr 2
  have : (UInt8.ofNat c).toNat = c := by rw [UInt8.toNat_ofNat']; omega
  rw [this]
def fullTo (c k : Nat) : List Value := List.replicate k (Value.int .u8 (c : Int)) ++ List.replicate (256 - k) (Value.int .u8 0)
theorem fullTo_next (c k : Nat) (h : k < 256) : (fullTo c k).toArray[k]? = some (.int .u8 0) ∧ (fullTo c k).toArray.setIfInBounds k (.int .u8 (c : Int)) = (fullTo c (k + 1)).toArray := by
  obtain ⟨m, hm⟩ : ∃ m, 256 - k = m + 1 := ⟨255 - k, by omega⟩
  have hm2 : 256 - (k + 1) = m := by omega
  unfold fullTo
  rw [hm, hm2, List.replicate_succ]
  constructor
  · rw [List.getElem?_toArray, List.getElem?_append_right (by rw [List.length_replicate]; exact Nat.le_refl _), List.length_replicate, Nat.sub_self]; rfl
  · rw [List.setIfInBounds_toArray, List.set_append_right _ _ (by rw [List.length_replicate]; exact Nat.le_refl _), List.length_replicate, Nat.sub_self, List.set_cons_zero, List.replicate_succ', List.append_assoc]; rfl
theorem fullTo_end (c : Nat) : fullTo c 256 = List.replicate 256 (Value.int .u8 (c : Int)) := by
  unfold fullTo
  rw [Nat.sub_self, List.replicate_zero, List.append_nil]
theorem fullTo_zero (c : Nat) : fullTo c 0 = zeroCells := by rw [zeroCells_eq]; rfl
end Go.Proofs.YtpgpphmpnebafaaGreat.Dv
