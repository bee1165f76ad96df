/- The document's device, by walks: a new one; a write. -/
import Derived.Test.YtpgpphmpnebafaaGreatDrM
import Derived.Test.YtpgpphmpnebafaaGreatDvC
import Derived.Laws.BytesArg
namespace Go.Proofs.YtpgpphmpnebafaaGreat.Dv
open Go.RowKit
set_option linter.unusedSimpArgs false
set_option linter.unusedVariables false
set_option maxRecDepth 100000

theorem infoString : (Tryz.prog.info? 9).map (fun i => (i.zero, i.size, i.bytes)) = some (some (.string ByteArray.empty), 1, 16) := by kernel_rfl
theorem strOf (s : ByteArray) : strOfNums (s.data.toList.map fun b => (b.toNat : Int)) = s := by
  unfold strOfNums
  apply ba_ext
  rw [List.toList_toArray, List.map_map]
  have : ((fun n : Int => UInt8.ofNat n.toNat) ∘ fun b : UInt8 => (b.toNat : Int)) = id := by
    funext b; simp
  rw [this, List.map_id]
/-- string(b) -/
theorem conv_bytes {W : World} {A : Option Addr} {s : ByteArray} (h : RdB W A s) (hA : ∀ ad, A = some ad → ad.spot = none) (c : Nat) : (convert 22 9 (.slice A s.size c)).run Tryz.prog W = .ok (.string s) W := by
  cases A with
  | none =>
    have h0 : s.size = 0 := by
      by_cases hp : 0 < s.size
      · obtain ⟨ad, he, _⟩ := h hp; cases he
      · omega
    have hs : s = ByteArray.empty := by
      apply ba_ext
      have : s.data.toList.length = 0 := by rw [← size_data]; exact h0
      rw [List.length_eq_zero_iff.1 this]; rfl
    rw [hs]
    exact run_convert_bytes_nil W 22 5 Tryz.underlying22 Tryz.underlying5 _ c 9 Tryz.underlying9
  | some ad =>
    obtain ⟨b, o, sp⟩ := ad
    have hsp : sp = none := hA _ rfl
    subst hsp
    have := run_convert_bytes_arg (P := Tryz.prog) W 22 5 Tryz.underlying22 Tryz.underlying5 b o s.size c (s.data.toList.map fun b => (b.toNat : Int)) (by rw [List.length_map, ← size_data]) (fun i hi => by
      obtain ⟨ad, he, hc⟩ := h (by omega)
      injection he with he; subst he
      have hlen : i < s.data.toList.length := by rw [← size_data]; exact hi
      have := hc i (.int .u8 ((s.data.toList[i]).toNat : Int)) (by unfold Lib.strCells; rw [List.getElem?_map, List.getElem?_eq_getElem hlen]; rfl)
      rw [show (⟨b, o, none⟩ : Addr).add i = ⟨b, o + i, none⟩ from by unfold Addr.add; split <;> simp_all] at this
      rw [this, List.getD_eq_getElem?_getD, List.getElem?_map, List.getElem?_eq_getElem hlen]; rfl) 9 Tryz.underlying9
    rw [strOf] at this
    exact this
theorem own_conv {W : World} {base : Nat} {v : Value} {s : ByteArray} (h : W.ownsRow base 5 1 v s.size (Lib.strCells s)) : (convert 22 9 v).run Tryz.prog W = .ok (.string s) W := by
  rcases h.2 with ⟨hv, h0⟩ | ⟨g, cap, cur, hv, hg, hh, h2, h3, h4, h5⟩
  · rw [hv]
    have := conv_bytes (W := W) (A := none) (s := s) (fun hp => by omega) (fun _ h => by cases h) 0
    rw [h0] at this
    exact this
  · rw [hv]
    exact conv_bytes (RdB.of_block hh (by rw [Nat.mul_one] at h5; exact h5)) (fun ad h => by cases h; rfl) cap
theorem conv_zero (wr : World) : (convert 22 9 (.slice (some ⟨wr.heap.size, 0, none⟩) 256 256)).run Tryz.prog (wr.alloc (.cells zeroCells.toArray 5)).drew = .ok (.string zeroPage) (wr.alloc (.cells zeroCells.toArray 5)).drew := by
  have := conv_bytes (W := (wr.alloc (.cells zeroCells.toArray 5)).drew) (s := zeroPage) (RdB.of_block (g := wr.heap.size) (new_later (below_dr (Below.refl _ _))) (by rw [List.take_of_length_le]; rfl; rw [zeroPage_size]; show (Lib.strCells zeroPage).length ≤ 256; rw [Lib.strCells_length, zeroPage_size]; exact Nat.le_refl _)) (fun ad h => by cases h; rfl) 256
  rw [zeroPage_size] at this
  exact this
end Go.Proofs.YtpgpphmpnebafaaGreat.Dv
