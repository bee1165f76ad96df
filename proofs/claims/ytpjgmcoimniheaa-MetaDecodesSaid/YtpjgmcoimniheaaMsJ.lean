/- The law that any bytes are the meta page that the document says, or none, and of any two the newest are those that it says: by a walk. -/
import Derived.Test.YtpjgmcoimniheaaMsI
import Derived.Test.YtpjgmcoimniheaaMtV
namespace Go.Proofs.Ytpjgmcoimniheaa.Mt
open Go.RowKit Go.Proofs.Ytpjgmcoimniheaa.By
set_option linter.unusedSimpArgs false
set_option linter.unusedVariables false

open Classical in
theorem dec_two {w w' : World} {s : ByteArray} {x : Ending} (h : DecPost w s x w') : x = .returned (.tuple #[.agg #[.int .i64 (if decOk s then (decV s : Int) else 0), .int .i64 (if decOk s then (decR s : Int) else 0)], .int .i64 (if decOk s then 0 else 3)]) ∧ Below w.heap.size w w' := by
  obtain ⟨hy, hn, hb⟩ := h
  by_cases hok : decOk s
  · rw [if_pos hok, if_pos hok, if_pos hok]; exact ⟨hy hok, hb⟩
  · rw [if_neg hok, if_neg hok, if_neg hok]; exact ⟨hn hok, hb⟩
theorem dec_num (s : ByteArray) : ∃ v r e : Int, ∀ (w w' : World) (x : Ending), DecPost w s x w' → x = .returned (.tuple #[.agg #[.int .i64 v, .int .i64 r], .int .i64 e]) ∧ Below w.heap.size w w' := ⟨_, _, _, fun w w' x h => dec_two h⟩
theorem box1 {w w1 : World} {g t : Nat} {cs : Array Value} (h : w.heap[g]? = some (.cells cs t (0, 0))) (hb : Below w.heap.size w w1) : w1.heap[g]? = some (.cells cs t (0, 0)) := (hb.block g (lt_of_some h)).trans h
set_option maxRecDepth 100000 in
set_option maxHeartbeats 2000000 in
theorem mdec_long (sa sb : ByteArray) (w : World) (h : 2000 < sa.size ∨ 2000 < sb.size) :
    Calls Try.prog 9 #[.string sa, .string sb] w fun x w' => x = .returned (.bool true) ∧ Below w.heap.size w w' := by
  by_cases ha : 2000 < sa.size
  · have t : decide (2000 < sa.size) = true := decide_eq_true ha
    have ti : decide ((2000 : Int) < (sa.size : Int)) = true := decide_eq_true (by omega)
    clear h
    go_enter Try.func9, Try.ntmps9
    go_wp2_with fail
    refine (awake_any _).mono ?_
    rintro x w1 ⟨rfl, hb1⟩
    go_wp2_with fail
    refine (awake_any _).mono ?_
    rintro x w2 ⟨rfl, hb2⟩
    go_wp2_with fail
    go_ret
    exact ⟨rfl, bl hb1 hb2⟩
  · have hb : 2000 < sb.size := h.resolve_left ha
    have t : decide (2000 < sa.size) = false := decide_eq_false ha
    have ti : decide ((2000 : Int) < (sa.size : Int)) = false := decide_eq_false (by omega)
    have u : decide (2000 < sb.size) = true := decide_eq_true hb
    have ui : decide ((2000 : Int) < (sb.size : Int)) = true := decide_eq_true (by omega)
    clear h
    go_enter Try.func9, Try.ntmps9
    go_wp2_with fail
    refine (awake_any _).mono ?_
    rintro x w1 ⟨rfl, hb1⟩
    go_wp2_with fail
    refine (awake_any _).mono ?_
    rintro x w2 ⟨rfl, hb2⟩
    go_wp2_with fail
    go_ret
    exact ⟨rfl, bl hb1 hb2⟩
set_option maxRecDepth 100000 in
set_option maxHeartbeats 2000000 in
theorem mdec_short (sa sb : ByteArray) (w : World) (ha : ¬ 2000 < sa.size) (hb : ¬ 2000 < sb.size) :
    Calls Try.prog 9 #[.string sa, .string sb] w fun x w' => x = .returned (.bool true) ∧ Below w.heap.size w w' := by
  have t : decide (2000 < sa.size) = false := decide_eq_false ha
  have ti : decide ((2000 : Int) < (sa.size : Int)) = false := decide_eq_false (by omega)
  have u : decide (2000 < sb.size) = false := decide_eq_false hb
  have ui : decide ((2000 : Int) < (sb.size : Int)) = false := decide_eq_false (by omega)
  obtain ⟨v, r, e, hdec⟩ := dec_num sa
  have HDEC := Lib.hid hdec
  have HRN := Lib.hid (fun X => rnewest_any sa sb X (by omega) (by omega))
  have HRD := Lib.hid (fun X => rdecode_any sa X (by omega))
  have hlen : (sorted (both sa sb 2)).length ≤ 2 := by rw [sorted_length]; exact both_few sa sb 2
  have HL := Lib.hid hlen
  have HSZ := Lib.hid (And.intro ha hb)
  clear hdec ha hb hlen
  go_enter Try.func9, Try.ntmps9
  go_wp2_with fail
  refine (awake_any _).mono ?_
  rintro x w1 ⟨rfl, hb1⟩
  obtain ⟨c1, W1, hcv1, -, hrd1, hbW1⟩ := conv_in w1 sa
  have HB1 := Lib.hid (bl hb1 hbW1)
  have HD1 := Lib.hid (decode_any _ c1 sa W1 hrd1 (by have := HSZ.out; omega) (fun h => by cases h) (fun ad h => by cases h; rfl))
  clear hb1 hbW1 hrd1
  go_wp2_with fail
  refine HD1.out.mono ?_
  intro x w2 hd
  obtain ⟨rfl, hb2⟩ := HDEC.out _ _ _ hd
  have HB2 := Lib.hid (bl HB1.out hb2)
  clear hb2 hd hcv1 HD1
  go_wp2_with fail
  refine (HRD.out _).mono ?_
  intro x w3 hd
  obtain ⟨rfl, hb3⟩ := HDEC.out _ _ _ hd
  have hA := new_later hb3
  have hlt3 := lt_of_some hA
  have HB3 := Lib.hid (bl HB2.out (box_below hb3))
  have hA4 := box1 hA (below_al (Below.refl _ w3) (.cells #[.int .i64 v, .int .i64 r] 23 (0, 0)))
  have a0 := cell_at hA4 0
  have a1 := cell_at hA4 1
  have HB4 := Lib.hid (below_al HB3.out (.cells #[.int .i64 v, .int .i64 r] 23 (0, 0)))
  obtain ⟨c5, W5, hcv5, -, hrd5, hb5⟩ := conv_in (w3.alloc (.cells #[.int .i64 v, .int .i64 r] 23 (0, 0))) sa
  obtain ⟨c6, W6, hcv6, -, hrd6, hb6⟩ := conv_in W5 sb
  have HB6 := Lib.hid (bl HB4.out (bl hb5 hb6))
  have hN := newest_any _ _ c5 c6 sa sb W6 (hrd5.below hb6) hrd6 (by have := HSZ.out; omega) (by have := HSZ.out; omega) (fun h => by cases h) (fun h => by cases h) (fun ad h => by cases h; rfl) (fun ad h => by cases h; rfl)
  rw [World.size_alloc] at hN
  have HN := Lib.hid hN
  clear hN hA hA4 hb3 hd hrd5 hrd6 hb5 hb6
  go_wp2_with fail
  refine HN.out.mono ?_
  rintro x w7 ⟨A7, c7, rfl, hm7, hlc7, hcm7, hb7⟩
  have HLI := Lib.hid (list_any A7 _ c7 w7 hm7 HL.out)
  have HB7 := Lib.hid (bl HB6.out hb7)
  clear hm7 hlc7 hcm7 hb7 HN
  go_wp2_with fail
  refine HLI.out.mono ?_
  rintro x w8 ⟨A8, c8, rfl, hm8, hb8⟩
  have HB8 := Lib.hid (bl HB7.out hb8)
  have HM8 := Lib.hid hm8
  clear hm8 hb8 HLI
  go_wp2_with fail
  refine (HRN.out _).mono ?_
  intro x w9 hn
  obtain ⟨A9, c9, rfl, hm9, hb9⟩ := hn
  have HSA := Lib.hid (same_any A8 A9 c8 c9 _ w9 (HM8.out.below hb9) hm9 HL.out)
  have HB9 := Lib.hid (bl HB8.out hb9)
  clear hm9 hb9
  go_wp2_with fail
  refine HSA.out.mono ?_
  rintro x w10 ⟨rfl, hb10⟩
  have HB10 := Lib.hid (bl HB9.out hb10)
  clear hb10
  go_wp2_with fail
  go_ret
  exact ⟨rfl, HB10.out⟩
theorem mdec_any (sa sb : ByteArray) (w : World) : Calls Try.prog 9 #[.string sa, .string sb] w fun x w' => x = .returned (.bool true) ∧ Below w.heap.size w w' := by
  by_cases ha : 2000 < sa.size
  · exact mdec_long sa sb w (.inl ha)
  · by_cases hb : 2000 < sb.size
    · exact mdec_long sa sb w (.inr hb)
    · exact mdec_short sa sb w ha hb
end Go.Proofs.Ytpjgmcoimniheaa.Mt
