/- The document's device, by walks: a crash. -/
import Derived.Test.YtpgpphmpnebafaaGreatDrY
import Derived.Test.YtpgpphmpnebafaaGreatDvG
import Derived.StillTailTactics
import Derived.BigRegion
namespace Go.Proofs.YtpgpphmpnebafaaGreat.Dv
open Go.RowKit
set_option linter.unusedSimpArgs false
set_option linter.unusedVariables false
set_option maxRecDepth 100000

theorem frozen_alloc {w : World} {p : Addr} {v : Value} (hc : w.cell? p = some v) (h : w.frozen? p = false) (X : Obj) : (w.alloc X).frozen? p = false :=
  (World.frozen?_of_block (w := w) (Below.heap_alloc w X p.block (World.block_lt_of_cell? w p hc))).trans h
theorem chg_set {F : Nat → Prop} {w wr W : World} {gp : Nat} (hch : Chg F w wr) (hb : Below wr.heap.size wr W) (hF : F gp) (i : Nat) (u : Value) : Chg F w (W.setCell ⟨gp, i, none⟩ u) :=
  (hch.trans (Chg.of_below hb F) (fun j hj => .inl hj)).setCell (.inl hF) u
theorem chg_drew {F : Nat → Prop} {w W : World} (h : Chg F w W) : Chg F w W.drew := ⟨h.os, h.tape, h.output, h.size, h.block⟩
theorem patch_zero (a s : ByteArray) : patch a 0 s = s := by
  apply ba_ext
  unfold patch
  rw [ByteArray.data_append, Array.toList_append, Lib.extract_data, Lib.extract_data]
  simp only [List.take_zero, List.drop_zero, Nat.sub_zero, Nat.sub_self, List.nil_append]
  rw [size_data, List.take_length]
section
variable {F : Nat → Prop} {b : Nat} {P : List ByteArray} {Q : List (Nat × ByteArray)} {w : World}
theorem rkept_bits {keep : Nat} (k : Nat) : ((((keep : Int) / 2 ^ (k % 64)).tmod 2) == 0) = !(kept keep k) := by
  have he : ((keep : Int) / 2 ^ (k % 64)) = ((keep / 2 ^ (k % 64) : Nat) : Int) := by push_cast; rfl
  rw [he]
  unfold kept
  generalize keep / 2 ^ (k % 64) = m
  by_cases h : m % 2 = 1
  · rw [h, Int.tmod_eq_emod_of_nonneg (by omega), show ((m : Int) % 2) = 1 from by omega]; rfl
  · rw [show m % 2 = 0 from by omega, Int.tmod_eq_emod_of_nonneg (by omega), show ((m : Int) % 2) = 0 from by omega]; rfl
end
end Go.Proofs.YtpgpphmpnebafaaGreat.Dv
