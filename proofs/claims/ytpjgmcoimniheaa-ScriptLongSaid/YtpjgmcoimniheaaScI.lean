/- What both Decodes of a script answer for a string; law21's awake, by a walk. -/
import Derived.Test.YtpjgmcoimniheaaScH
namespace Go.Proofs.Ytpjgmcoimniheaa.Sc
open Go.RowKit Go.Proofs.Ytpjgmcoimniheaa.By Go.Proofs.Ytpjgmcoimniheaa.Mt
set_option linter.unusedSimpArgs false
set_option linter.unusedVariables false

/-- The bytes that count. -/
def cutN (b : ByteArray) : List Nat := (nats b).take 4096
theorem nats_extract (b : ByteArray) (n : Nat) : nats (b.extract 0 n) = (nats b).take n := by
  unfold nats
  rw [Lib.extract_data, List.drop_zero, List.map_take]; rfl
theorem decode_str (g c : Nat) (b : ByteArray) (w : World) (hr : RdB w (some ⟨g, 0, none⟩) b) (hbc : b.size ≤ c) (hcm : c ≤ maxLen) (hg : g < w.heap.size) :
    Calls Try.prog 29 #[.slice (some ⟨g, 0, none⟩) b.size c] w (DecR w (cutN b)) := by
  have hcs : ∀ (j x : Nat), (nats b)[j]? = some x → w.cell? ⟨g, 0 + j, none⟩ = some (.int .u8 (x : Int)) := by
    intro j x hj
    have hlt := (List.getElem?_eq_some_iff.1 hj).1
    rw [nats_length] at hlt
    obtain ⟨ad, hA, hc⟩ := hr (by omega)
    injection hA with hA
    subst hA
    have := hc j (.int .u8 (x : Int)) (by rw [cells_nats, List.getElem?_map, hj]; rfl)
    rwa [add_plain2] at this
  have hcut : ∀ (j x : Nat), (cutN b)[j]? = some x → w.cell? ⟨g, 0 + j, none⟩ = some (.int .u8 (x : Int)) := by
    intro j x hj
    unfold cutN at hj
    rw [List.getElem?_take] at hj
    split at hj
    · exact hcs j x hj
    · cases hj
  have h256 : ∀ x ∈ cutN b, x < 256 := fun x hx => nats_lt b x (List.mem_of_mem_take hx)
  have hlen : (cutN b).length = min b.size 4096 := by unfold cutN; rw [List.length_take, nats_length, Nat.min_comm]
  by_cases h : b.size ≤ 4096
  · have := decode_small g 0 c (cutN b) w (by omega) (by omega) hcm hcut h256 hg
    rwa [show (cutN b).length = b.size from by omega] at this
  · exact decode_big g 0 c (cutN b) w b.size (by omega) (by omega) hbc hcm hcut h256 hg
theorem rdecode_str (b : ByteArray) (w : World) : Calls Try.prog 30 #[.string b] w (DecR w (cutN b)) := by
  by_cases h : b.size ≤ 4096
  · have := rdecode_small b w h b rfl
    rwa [show nats b = cutN b from by unfold cutN; rw [List.take_of_length_le (by rw [nats_length]; exact h)]] at this
  · have := rdecode_big b w (by omega) _ rfl
    rwa [nats_extract] at this
theorem decF_le : ∀ (n : Nat) (l : List Nat), (decF n l).length ≤ l.length
  | 0, l => Nat.zero_le _
  | n + 1, l => by
    unfold decF
    by_cases h0 : l = []
    · rw [if_pos h0]; exact Nat.zero_le _
    · have hp : 0 < l.length := List.length_pos_iff.2 h0
      have ht : l.tail.length = l.length - 1 := List.length_tail
      rw [if_neg h0]
      by_cases hk : hd l < 1 ∨ 5 < hd l
      · rw [if_pos hk]; have := decF_le n l.tail; omega
      · rw [if_neg hk]
        have he := entryR_le (hd l) l.tail false
        by_cases ho : (entryR (hd l) l.tail false).o = true
        · rw [if_pos ho]; exact Nat.zero_le _
        · rw [if_neg ho, List.length_cons]; have := decF_le n (entryR (hd l) l.tail false).l; omega
theorem steps_le (b : ByteArray) : (decA (cutN b).tail).length ≤ 4096 := by
  have h1 := decF_le (cutN b).tail.length (cutN b).tail
  have h2 : (cutN b).length ≤ 4096 := by unfold cutN; rw [List.length_take]; omega
  have h3 : (cutN b).tail.length = (cutN b).length - 1 := List.length_tail
  show (decF _ _).length ≤ _
  omega
theorem conv_in_cap (w : World) (s : ByteArray) (hs : s.size ≤ 1000000) : ∃ c W, (convert 9 25 (.string s)).run Try.prog w = .ok (.slice (some ⟨w.heap.size, 0, none⟩) s.size c) W ∧ s.size ≤ c ∧ c ≤ maxLen ∧ RdB W (some ⟨w.heap.size, 0, none⟩) s ∧ Below w.heap.size w W ∧ w.heap.size < W.heap.size := by
  refine ⟨_, _, Lib.run_convert_string_bytes w _ _ 5 s Try.underlying9 Try.underlying25 Try.underlying5, ?_, ?_, ?_, ?_, ?_⟩
  · exact grownCap_ge w s.size 0 5
  · exact grownCap_le_maxLen w s.size 0 5 (by unfold maxLen; omega)
  · intro _
    refine ⟨_, rfl, fun j u hj => ?_⟩
    have h1 := (List.getElem?_eq_some_iff.1 hj).1
    rw [Lib.strCells_length] at h1
    rw [add_plain, Lib.bytesWorld_cell w _ s j h1]
    rw [← hj]
    unfold Lib.strCells
    rw [List.getElem?_map, List.getD_eq_getElem?_getD]
    have h2 : j < s.data.toList.length := by rw [← size_data]; exact h1
    rw [List.getElem?_eq_getElem h2]; rfl
  · exact ⟨rfl, rfl, rfl, by rw [Lib.bytesWorld_size]; omega, fun k hk => Lib.bytesWorld_at_old w _ s k hk⟩
  · rw [Lib.bytesWorld_size]; omega
set_option maxRecDepth 100000 in
set_option maxHeartbeats 2000000 in
theorem awake_any (w : World) : Calls Try.prog 28 #[] w fun x w' => x = .returned (.bool true) ∧ Below w.heap.size w w' := by
  have hbl := new_block w (.cells #[.int .u8 4, .int .u8 2, .int .u8 9, .int .u8 5, .int .u8 3] 5 (0, 0))
  have H1 := decode_small w.heap.size 0 5 [4, 2, 9, 5, 3] (w.alloc (.cells #[.int .u8 4, .int .u8 2, .int .u8 9, .int .u8 5, .int .u8 3] 5 (0, 0))) (by decide) (by decide) (by unfold maxLen; decide) (by
    intro j x hj
    rw [Nat.zero_add, cell_at hbl]
    match j, hj with
    | 0, hj => obtain rfl : 4 = x := by simpa using hj
               rfl
    | 1, hj => obtain rfl : 2 = x := by simpa using hj
               rfl
    | 2, hj => obtain rfl : 9 = x := by simpa using hj
               rfl
    | 3, hj => obtain rfl : 5 = x := by simpa using hj
               rfl
    | 4, hj => obtain rfl : 3 = x := by simpa using hj
               rfl
    | n + 5, hj => simp at hj) (by decide) (by rw [World.size_alloc]; omega)
  have hdec : decA ([4, 2, 9, 5, 3] : List Nat).tail = [⟨2, 1, 0, [], [], 0, 0, 0⟩, ⟨5, 3, 0, [], [], 0, 0, 0⟩] := rfl
  have H1 := Lib.hid H1
  have HD := Lib.hid hdec
  clear hdec hbl
  go_enter Try.func28, Try.ntmps28
  go_wp2_with fail
  refine H1.out.mono ?_
  rintro x w1 ⟨A, c, rfl, hst, hb⟩
  rw [HD.out] at hst ⊢
  obtain ⟨g, rfl, hc⟩ := hst 0 _ rfl
  obtain ⟨g', hgg, hc'⟩ := hst 1 _ rfl
  injection hgg with hgg
  injection hgg with hgg _ _
  subst hgg
  have e0 : w1.cell? ⟨g, 0, none⟩ = some (.int .i64 2) := hc 0 _ rfl
  have e1 : w1.cell? ⟨g, 1, none⟩ = some (.int .i64 1) := hc 1 _ rfl
  have e9 : w1.cell? ⟨g, 9, none⟩ = some (.int .i64 3) := hc' 1 _ rfl
  have HB := Lib.hid (box_below hb)
  clear hst hc hc' hb
  go_wp2_with fail
  go_ret
  exact ⟨rfl, HB.out⟩
end Go.Proofs.Ytpjgmcoimniheaa.Sc
