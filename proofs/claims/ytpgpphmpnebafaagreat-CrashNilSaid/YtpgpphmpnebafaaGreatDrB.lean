/- The document's device, by walks: all bytes; a device with an image. -/
import Derived.Test.YtpgpphmpnebafaaGreatDrZ
import Derived.Test.YtpgpphmpnebafaaGreatDvJ
namespace Go.Proofs.YtpgpphmpnebafaaGreat.Dv
open Go.RowKit
set_option linter.unusedSimpArgs false
set_option linter.unusedVariables false
set_option maxRecDepth 100000

section
variable {F : Nat → Prop} {b : Nat} {P : List ByteArray} {Q : List (Nat × ByteArray)} {w : World}
end
/-- What is left of an image behind k pages. -/
def imgRest (s : ByteArray) (k : Nat) : ByteArray := s.extract (min (k * 256) s.size) s.size
theorem imgRest_size (s : ByteArray) (k : Nat) : (imgRest s k).size = s.size - min (k * 256) s.size := by unfold imgRest; rw [ext_size]; omega
theorem imgRest_next (s : ByteArray) (k n : Nat) (hn : n = min (imgRest s k).size 256) : (imgRest s k).extract n (imgRest s k).size = imgRest s (k + 1) := by
  apply ba_ext
  have hz := imgRest_size s k
  have hd : (imgRest s k).data.toList = s.data.toList.drop (min (k * 256) s.size) := by
    unfold imgRest
    rw [Lib.extract_data, List.take_of_length_le (by rw [List.length_drop, ← size_data]; exact Nat.le_refl _)]
  have hd1 : (imgRest s (k + 1)).data.toList = s.data.toList.drop (min ((k + 1) * 256) s.size) := by
    unfold imgRest
    rw [Lib.extract_data, List.take_of_length_le (by rw [List.length_drop, ← size_data]; exact Nat.le_refl _)]
  rw [Lib.extract_data, hd1, hd, List.drop_drop]
  rw [List.take_of_length_le (by rw [List.length_drop, ← size_data]; omega)]
  congr 1
  omega
def zeros (m : Nat) : ByteArray := ⟨(List.replicate m (0 : UInt8)).toArray⟩
theorem zeros_size (m : Nat) : (zeros m).size = m := by rw [size_data]; unfold zeros; rw [List.toList_toArray, List.length_replicate]
theorem imgRest_page (s : ByteArray) (k n : Nat) (hk : k < imgLen s) (hn : n = min (imgRest s k).size 256) : (imgRest s k).extract 0 n ++ zeros (256 - n) = imgPage s k := by
  have hz := imgRest_size s k
  have hks : k * 256 < s.size := by unfold imgLen at hk; omega
  apply ba_ext
  unfold imgPage
  rw [ByteArray.data_append, Array.toList_append, ByteArray.data_append, Array.toList_append]
  have hd : (imgRest s k).data.toList = s.data.toList.drop (k * 256) := by
    unfold imgRest
    rw [Lib.extract_data, Nat.min_eq_left (by omega), List.take_of_length_le (by rw [List.length_drop, ← size_data]; exact Nat.le_refl _)]
  have hes : (s.extract (k * 256) (k * 256 + 256)).size = n := by rw [ext_size]; omega
  rw [hes, Lib.extract_data, Lib.extract_data, hd, List.drop_zero, Nat.sub_zero, Lib.extract_data]
  congr 1
  · by_cases h : n = 256
    · rw [h]; congr 1; omega
    · have : n = s.size - k * 256 := by omega
      rw [List.take_of_length_le (by rw [List.length_drop, ← size_data]; omega), List.take_of_length_le (by rw [List.length_drop, ← size_data]; omega)]
  · unfold zeros zeroPage
    rw [List.toList_toArray, List.toList_toArray, List.drop_replicate, List.take_replicate, Nat.min_self]
theorem run_makeZeros (m : Nat) (hm : m ≤ 256) (w : World) : (Instr.makeSlice 22 (.int .i64 (m : Int)) (.int .i64 (m : Int))).run Tryz.prog w = .ok (.slice (some ⟨w.heap.size, 0, none⟩) m m) (w.alloc (.cells (Lib.strCells (zeros m)).toArray 5)) := by
  obtain ⟨i0, hi, hz0, hz1, hz2⟩ := info_parts infoByte
  have := run_make (P := Tryz.prog) w 22 5 i0 (.int .u8 0) Tryz.underlying22 hi hz0 .i64 .i64 (m : Int) (m : Int) (by omega) (by omega) (by rw [hz2]; omega) (by omega)
  rw [hz1, Int.toNat_natCast, Nat.mul_one] at this
  rw [this]
  have e : madeCells (Value.int .u8 0).cells m = (Lib.strCells (zeros m)).toArray := by
    apply Array.toList_inj.1
    have h := toList_madeCells_one (.int .u8 0) m
    refine h.trans ?_
    unfold Lib.strCells zeros
    rw [List.toList_toArray, List.toList_toArray, List.map_replicate]; rfl
  rw [e]
theorem conv_zeros (wr : World) (m : Nat) : (convert 22 9 (.slice (some ⟨wr.heap.size, 0, none⟩) m m)).run Tryz.prog (wr.alloc (.cells (Lib.strCells (zeros m)).toArray 5)).drew = .ok (.string (zeros m)) (wr.alloc (.cells (Lib.strCells (zeros m)).toArray 5)).drew := by
  have := conv_bytes (W := (wr.alloc (.cells (Lib.strCells (zeros m)).toArray 5)).drew) (s := zeros m) (RdB.of_block (g := wr.heap.size) (new_later (below_dr (Below.refl _ _))) (by rw [List.take_of_length_le]; rw [zeros_size]; show (Lib.strCells (zeros m)).length ≤ m; rw [Lib.strCells_length, zeros_size]; exact Nat.le_refl _)) (fun ad h => by cases h; rfl) m
  rw [zeros_size] at this
  exact this
def strSize : Value → Nat
  | .string s => s.size
  | _ => 0
theorem ext_self (s : ByteArray) (n : Nat) : s.extract n n = ByteArray.empty := by
  apply ba_ext
  rw [Lib.extract_data, Nat.sub_self, List.take_zero]; rfl
theorem imgRest_zero (s : ByteArray) : imgRest s 0 = s := by
  apply ba_ext
  unfold imgRest
  rw [Lib.extract_data, Nat.zero_mul, Nat.zero_min, List.drop_zero, Nat.sub_zero, size_data, List.take_length]
end Go.Proofs.YtpgpphmpnebafaaGreat.Dv
