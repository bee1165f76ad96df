/- The law that any bytes are the pages and the steps that the document says: by a walk. -/
import Derived.Test.YtpjgmcoimniheaaScI
namespace Go.Proofs.Ytpjgmcoimniheaa.Sc
open Go.RowKit Go.Proofs.Ytpjgmcoimniheaa.By Go.Proofs.Ytpjgmcoimniheaa.Mt
set_option linter.unusedSimpArgs false
set_option linter.unusedVariables false

set_option maxRecDepth 100000 in
set_option maxHeartbeats 2000000 in
theorem decodes_long (b : ByteArray) (w : World) (h : 10000 < b.size) : Calls Try.prog 11 #[.string b] w fun x w' => x = .returned (.bool true) ∧ Below w.heap.size w w' := by
  have t : decide (10000 < b.size) = true := decide_eq_true h
  have ti : decide ((10000 : Int) < (b.size : Int)) = true := decide_eq_true (by omega)
  go_enter Try.func11, Try.ntmps11
  go_wp2_with fail
  refine (awake_any _).mono ?_
  rintro x w1 ⟨rfl, hb1⟩
  go_wp2_with fail
  refine (awake_any _).mono ?_
  rintro x w2 ⟨rfl, hb2⟩
  go_wp2_with fail
  go_ret
  exact ⟨rfl, bl hb1 hb2⟩
set_option maxRecDepth 100000 in
set_option maxHeartbeats 2000000 in
theorem decodes_short (b : ByteArray) (w : World) (h : ¬ 10000 < b.size) : Calls Try.prog 11 #[.string b] w fun x w' => x = .returned (.bool true) ∧ Below w.heap.size w w' := by
  have t : decide (10000 < b.size) = false := decide_eq_false h
  have ti : decide ((10000 : Int) < (b.size : Int)) = false := decide_eq_false (by omega)
  have HR := Lib.hid (fun X => rdecode_str b X)
  go_enter Try.func11, Try.ntmps11
  go_wp2_with fail
  refine (awake_any _).mono ?_
  rintro x w1 ⟨rfl, hb1⟩
  obtain ⟨c2, W2, hcv, hbc, hcm, hrd, hbW, hltW⟩ := conv_in_cap w1 b (by omega)
  have HB2 := Lib.hid (bl hb1 hbW)
  have HD := Lib.hid (decode_str w1.heap.size c2 b W2 hrd hbc hcm hltW)
  clear hb1 hbW hrd hbc hcm hltW
  go_wp2_with fail
  refine HD.out.mono ?_
  rintro x w3 ⟨A3, c3, rfl, hst3, hb3⟩
  have HB3 := Lib.hid (bl HB2.out hb3)
  have HS3 := Lib.hid hst3
  clear hb3 hst3 hcv HD
  go_wp2_with fail
  refine (HR.out _).mono ?_
  rintro x w4 ⟨A4, c4, rfl, hst4, hb4⟩
  have HB4 := Lib.hid (bl HB3.out hb4)
  have HS3 := Lib.hid (HS3.out.below hb4)
  have HS4 := Lib.hid hst4
  clear hb4 hst4
  have hL := steps_le b
  generalize decA (cutN b).tail = L at hL HS3 HS4 ⊢
  generalize pagesA (cutN b) = P
  go_wp2_with fail
  go_loopw [39] (fun i wr => ∃ j : Nat, j ≤ (L).length ∧ i = .int .i64 (j : Int) ∧ Below w4.heap.size w4 wr) (fun i _ => (L).length - (intOf i).toNat)
  case atStart => exact ⟨0, Nat.zero_le _, rfl, Below.refl _ _⟩
  case round =>
    obtain ⟨j, hj, rfl, hbw⟩ := hrel
    by_cases hlt : j < (L).length
    · have u1 : decide (j < (L).length) = true := decide_eq_true hlt
      have u2 : decide ((j : Int) < ((L).length : Int)) = true := decide_eq_true (by omega)
      have i1 : (0 : Int) ≤ (j : Int) := by omega
      have i2 : (j : Int) < ((L).length : Int) := by omega
      obtain ⟨s, hs⟩ : ∃ s, (L)[j]? = some s := ⟨_, List.getElem?_eq_getElem hlt⟩
      obtain ⟨g1, rfl, h1⟩ := HS3.out j s hs
      obtain ⟨g2, rfl, h2⟩ := HS4.out j s hs
      have c0 : wr.cell? ⟨g1, j * 8, none⟩ = some (.int .i64 (s.kind : Int)) := (hbw.cell (World.block_lt_of_cell? _ _ (h1 0 _ rfl))).trans (h1 0 _ rfl)
      have c1 : wr.cell? ⟨g1, j * 8 + 1, none⟩ = some (.int .i64 (s.who : Int)) := (hbw.cell (World.block_lt_of_cell? _ _ (h1 1 _ rfl))).trans (h1 1 _ rfl)
      have c2 : wr.cell? ⟨g1, j * 8 + 2, none⟩ = some (.int .i64 (s.xk : Int)) := (hbw.cell (World.block_lt_of_cell? _ _ (h1 2 _ rfl))).trans (h1 2 _ rfl)
      have c3 : wr.cell? ⟨g1, j * 8 + 3, none⟩ = some (.string (ofNats s.key)) := (hbw.cell (World.block_lt_of_cell? _ _ (h1 3 _ rfl))).trans (h1 3 _ rfl)
      have c4 : wr.cell? ⟨g1, j * 8 + 4, none⟩ = some (.string (ofNats s.val)) := (hbw.cell (World.block_lt_of_cell? _ _ (h1 4 _ rfl))).trans (h1 4 _ rfl)
      have c5 : wr.cell? ⟨g1, j * 8 + 5, none⟩ = some (.int .u64 (s.keep : Int)) := (hbw.cell (World.block_lt_of_cell? _ _ (h1 5 _ rfl))).trans (h1 5 _ rfl)
      have c6 : wr.cell? ⟨g1, j * 8 + 6, none⟩ = some (.int .i64 (s.torn : Int)) := (hbw.cell (World.block_lt_of_cell? _ _ (h1 6 _ rfl))).trans (h1 6 _ rfl)
      have c7 : wr.cell? ⟨g1, j * 8 + 7, none⟩ = some (.int .i64 (s.part : Int)) := (hbw.cell (World.block_lt_of_cell? _ _ (h1 7 _ rfl))).trans (h1 7 _ rfl)
      have d0 : wr.cell? ⟨g2, j * 8, none⟩ = some (.int .i64 (s.kind : Int)) := (hbw.cell (World.block_lt_of_cell? _ _ (h2 0 _ rfl))).trans (h2 0 _ rfl)
      have d1 : wr.cell? ⟨g2, j * 8 + 1, none⟩ = some (.int .i64 (s.who : Int)) := (hbw.cell (World.block_lt_of_cell? _ _ (h2 1 _ rfl))).trans (h2 1 _ rfl)
      have d2 : wr.cell? ⟨g2, j * 8 + 2, none⟩ = some (.int .i64 (s.xk : Int)) := (hbw.cell (World.block_lt_of_cell? _ _ (h2 2 _ rfl))).trans (h2 2 _ rfl)
      have d3 : wr.cell? ⟨g2, j * 8 + 3, none⟩ = some (.string (ofNats s.key)) := (hbw.cell (World.block_lt_of_cell? _ _ (h2 3 _ rfl))).trans (h2 3 _ rfl)
      have d4 : wr.cell? ⟨g2, j * 8 + 4, none⟩ = some (.string (ofNats s.val)) := (hbw.cell (World.block_lt_of_cell? _ _ (h2 4 _ rfl))).trans (h2 4 _ rfl)
      have d5 : wr.cell? ⟨g2, j * 8 + 5, none⟩ = some (.int .u64 (s.keep : Int)) := (hbw.cell (World.block_lt_of_cell? _ _ (h2 5 _ rfl))).trans (h2 5 _ rfl)
      have d6 : wr.cell? ⟨g2, j * 8 + 6, none⟩ = some (.int .i64 (s.torn : Int)) := (hbw.cell (World.block_lt_of_cell? _ _ (h2 6 _ rfl))).trans (h2 6 _ rfl)
      have d7 : wr.cell? ⟨g2, j * 8 + 7, none⟩ = some (.int .i64 (s.part : Int)) := (hbw.cell (World.block_lt_of_cell? _ _ (h2 7 _ rfl))).trans (h2 7 _ rfl)
      have HW := Lib.hid hbw
      clear h1 h2 hs hbw
      go_wp2_with fail
      go_quiet (fail)
      go_wp2_with fail
      go_roundw
      case rel => exact ⟨j + 1, by omega, by go_num, below_dn HW.out _⟩
      case measure => simp [intOf]; omega
    · have u1 : decide (j < (L).length) = false := decide_eq_false hlt
      have u2 : decide ((j : Int) < ((L).length : Int)) = false := decide_eq_false (by omega)
      go_wp2_with fail
      go_ret
      exact ⟨rfl, bl HB4.out hbw⟩
theorem decodes_any (b : ByteArray) (w : World) : Calls Try.prog 11 #[.string b] w fun x w' => x = .returned (.bool true) ∧ Below w.heap.size w w' := by
  by_cases h : 10000 < b.size
  · exact decodes_long b w h
  · exact decodes_short b w h
end Go.Proofs.Ytpjgmcoimniheaa.Sc
