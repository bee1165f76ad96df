/- Numbers as bytes behind others, by walks. -/
import Derived.Test.YtpgpphmpnebafaaGreatByA
import Derived.Test.YtpgpphmpnebafaaGreatMtC
import Derived.Laws.AppendOwnNone
import Derived.Outline
namespace Go.Proofs.YtpgpphmpnebafaaGreat.Mt
open Go.RowKit Go.Proofs.YtpgpphmpnebafaaGreat.By
set_option linter.unusedSimpArgs false
set_option linter.unusedVariables false
set_option maxRecDepth 100000

def ofNats (l : List Nat) : ByteArray := ⟨(l.map UInt8.ofNat).toArray⟩
def nats (s : ByteArray) : List Nat := s.data.toList.map UInt8.toNat
theorem ofNats_data (l : List Nat) : (ofNats l).data.toList = l.map UInt8.ofNat := by unfold ofNats; rw [List.toList_toArray]
theorem ofNats_size (l : List Nat) : (ofNats l).size = l.length := by rw [size_data, ofNats_data, List.length_map]
theorem nats_ofNats (l : List Nat) (h : ∀ c ∈ l, c < 256) : nats (ofNats l) = l := by
  unfold nats
  rw [ofNats_data, List.map_map]
  have : ∀ c ∈ l, (UInt8.toNat ∘ UInt8.ofNat) c = c := fun c hc => by have := h c hc; simp; omega
  rw [List.map_congr_left this, List.map_id']
theorem ofNats_nats (s : ByteArray) : ofNats (nats s) = s := by
  apply ba_ext
  rw [ofNats_data]
  unfold nats
  rw [List.map_map]
  have : (UInt8.ofNat ∘ UInt8.toNat) = id := by funext b; simp
  rw [this, List.map_id]
theorem nats_lt (s : ByteArray) : ∀ c ∈ nats s, c < 256 := by
  intro c hc
  unfold nats at hc
  obtain ⟨b, _, rfl⟩ := List.mem_map.1 hc
  exact b.toNat_lt
theorem nats_length (s : ByteArray) : (nats s).length = s.size := by unfold nats; rw [List.length_map, ← size_data]
theorem nats_append (s t : ByteArray) : nats (s ++ t) = nats s ++ nats t := by unfold nats; rw [ByteArray.data_append, Array.toList_append, List.map_append]
theorem ofNats_append (l m : List Nat) : ofNats (l ++ m) = ofNats l ++ ofNats m := by
  apply ba_ext
  rw [ByteArray.data_append, Array.toList_append, ofNats_data, ofNats_data, ofNats_data, List.map_append]
theorem cells_nats (s : ByteArray) : Lib.strCells s = (nats s).map fun c => .int .u8 (c : Int) := by unfold Lib.strCells nats; rw [List.map_map]; rfl
theorem cells_append (s t : ByteArray) : Lib.strCells (s ++ t) = Lib.strCells s ++ Lib.strCells t := by
  unfold Lib.strCells; rw [ByteArray.data_append, Array.toList_append, List.map_append]
theorem cells_ofNats (l : List Nat) (h : ∀ c ∈ l, c < 256) : Lib.strCells (ofNats l) = l.map fun c => .int .u8 (c : Int) := by rw [cells_nats, nats_ofNats l h]
theorem RdB.none_empty {w : World} {s : ByteArray} (h : RdB w none s) : s = ByteArray.empty := by
  have h0 : s.size = 0 := by
    by_cases hp : 0 < s.size
    · obtain ⟨ad, he, _⟩ := h hp; cases he
    · omega
  apply ba_ext
  have : s.data.toList.length = 0 := by rw [← size_data]; exact h0
  rw [List.length_eq_zero_iff.1 this]; rfl
/-- A number as four bytes, and as two. -/
def be4 (n : Nat) : List Nat := [n / 16777216 % 256, n / 65536 % 256, n / 256 % 256, n % 256]
def be2 (n : Nat) : List Nat := [n / 256 % 256, n % 256]
theorem be4_lt (n : Nat) : ∀ c ∈ be4 n, c < 256 := by intro c hc; unfold be4 at hc; simp at hc; omega
theorem be2_lt (n : Nat) : ∀ c ∈ be2 n, c < 256 := by intro c hc; unfold be2 at hc; simp at hc; omega
theorem grown_none {w w1 : World} (h : w.grownBy w1 none) : Below w.heap.size w w1 := ⟨h.os, h.tape, h.output, h.size, fun k hk => h.block k hk (fun e => by cases e)⟩
/-- The head of fix.put: a row of one's own with room for what is to come, and the bytes that came. -/
theorem row_snoc {W : World} {base : Nat} {v : Value} {s : ByteArray} {n c : Nat} (h : W.ownsRow base 5 1 v n (Lib.strCells s ++ [.int .u8 (c : Int)])) (hc : c < 256) : W.ownsRow base 5 1 v (s ++ ofNats [c]).size (Lib.strCells (s ++ ofNats [c])) := by
  have e : Lib.strCells (s ++ ofNats [c]) = Lib.strCells s ++ [.int .u8 (c : Int)] := by rw [cells_append, cells_ofNats [c] (by simpa using hc)]; rfl
  rw [e]
  have hn : (s ++ ofNats [c]).size = n := by
    have := h.1
    rw [List.length_append, Lib.strCells_length] at this
    rw [ByteArray.size_append, ofNats_size]
    simp at this ⊢; omega
  rw [hn]; exact h
end Go.Proofs.YtpgpphmpnebafaaGreat.Mt
