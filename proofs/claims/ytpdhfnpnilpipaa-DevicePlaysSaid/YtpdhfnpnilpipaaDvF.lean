/- A page of one byte, and what a program that does nothing answers wrongly, by walks. -/
import Derived.Test.YtpdhfnpnilpipaaDrB
import Derived.Test.YtpdhfnpnilpipaaDvS
namespace Go.Proofs.Ytpdhfnpnilpipaa.Dv
open Go.RowKit
set_option linter.unusedSimpArgs false
set_option linter.unusedVariables false

def fullPage (c : Nat) : ByteArray := ⟨(List.replicate 256 (UInt8.ofNat c)).toArray⟩
theorem fullPage_size (c : Nat) : (fullPage c).size = 256 := by rw [size_data]; unfold fullPage; rw [List.toList_toArray, List.length_replicate]
theorem fullPage_cells (c : Nat) (h : c < 256) : Lib.strCells (fullPage c) = List.replicate 256 (Value.int .u8 (c : Int)) := by
  unfold Lib.strCells fullPage
  rw [List.toList_toArray, List.map_replicate]
  congr 2
  have : (UInt8.ofNat c).toNat = c := by rw [UInt8.toNat_ofNat']; omega
  rw [this]
def fullTo (c k : Nat) : List Value := List.replicate k (Value.int .u8 (c : Int)) ++ List.replicate (256 - k) (Value.int .u8 0)
theorem fullTo_next (c k : Nat) (h : k < 256) : (fullTo c k).toArray[k]? = some (.int .u8 0) ∧ (fullTo c k).toArray.setIfInBounds k (.int .u8 (c : Int)) = (fullTo c (k + 1)).toArray := by
  obtain ⟨m, hm⟩ : ∃ m, 256 - k = m + 1 := ⟨255 - k, by omega⟩
  have hm2 : 256 - (k + 1) = m := by omega
  unfold fullTo
  rw [hm, hm2, List.replicate_succ]
  constructor
  · rw [List.getElem?_toArray, List.getElem?_append_right (by rw [List.length_replicate]; exact Nat.le_refl _), List.length_replicate, Nat.sub_self]; rfl
  · rw [List.setIfInBounds_toArray, List.set_append_right _ _ (by rw [List.length_replicate]; exact Nat.le_refl _), List.length_replicate, Nat.sub_self, List.set_cons_zero, List.replicate_succ', List.append_assoc]; rfl
theorem fullTo_end (c : Nat) : fullTo c 256 = List.replicate 256 (Value.int .u8 (c : Int)) := by
  unfold fullTo
  rw [Nat.sub_self, List.replicate_zero, List.append_nil]
theorem fullTo_zero (c : Nat) : fullTo c 0 = zeroCells := by rw [zeroCells_eq]; rfl
set_option maxRecDepth 100000 in
set_option maxHeartbeats 1000000 in
theorem full_any (c : Nat) (hc : c < 256) (w : World) : Calls Try.prog 30 #[.int .u8 (c : Int)] w fun e w' => ∃ v, e = .returned v ∧ OwnB w' w.heap.size v (fullPage c) ∧ Below w.heap.size w w' := by
  have hmk := run_makePage
  go_enter Try.func30, Try.ntmps30
  go_wp2_with fail
  go_loopw [8] (fun i wr => ∃ k : Nat, k ≤ 256 ∧ i = .int .i64 k ∧ wr.heap[w.heap.size]? = some (.cells (fullTo c k).toArray 5 (0, 0)) ∧ Below w.heap.size w wr) (fun i _ => 256 - (intOf i).toNat)
  case atStart =>
    refine ⟨0, Nat.zero_le _, rfl, ?_, (Below.refl _ _).alloc (Nat.le_refl _) _⟩
    rw [fullTo_zero]
    exact new_block _ _
  case round =>
    obtain ⟨k, hk, rfl, hb, hbw⟩ := hrel
    by_cases hlt : k < 256
    · have hcell := cell_at hb k
      rw [(fullTo_next c k hlt).1] at hcell
      have hfr := frozen_at hb k
      have hnx := (fullTo_next c k hlt).2
      have HB := Lib.hid hb
      have HN := Lib.hid hnx
      clear hb hnx
      have ht1 : decide ((k : Int) < 256) = true := by rw [decide_eq_true_eq]; omega
      have ht2 : decide (k < 256) = true := by rw [decide_eq_true_eq]; exact hlt
      go_wp2
      go_roundw
      case rel =>
        refine ⟨k + 1, by omega, by go_num, ?_, hbw.setCell (p := ⟨w.heap.size, k, none⟩) (Nat.le_refl _) _⟩
        rw [heap_setCell_self _ _ _ _ _ _ HB.out, HN.out]
      case measure => simp [intOf]; omega
    · have hk2 : fullTo c k = Lib.strCells (fullPage c) := by
        have : k = 256 := by omega
        rw [this, fullTo_end, fullPage_cells c hc]
      rw [hk2] at hb
      have HB := Lib.hid hb
      clear hk2 hb
      have ht1 : decide ((k : Int) < 256) = false := by rw [decide_eq_false_iff_not]; omega
      have ht2 : decide (k < 256) = false := by rw [decide_eq_false_iff_not]; exact hlt
      go_wp2
      go_ret
      refine ⟨.slice (some ⟨w.heap.size, 0, none⟩) 256 256, rfl, ⟨w.heap.size, 256, _, by rw [fullPage_size], Nat.le_refl _, by rw [fullPage_size]; exact Nat.le_refl _, by unfold maxLen; omega, HB.out, ?_, ?_⟩, hbw⟩
      · rw [List.size_toArray, Lib.strCells_length, fullPage_size]
      · rw [List.take_of_length_le (by rw [Lib.strCells_length, fullPage_size]; exact Nat.le_refl _)]
end Go.Proofs.Ytpdhfnpnilpipaa.Dv
