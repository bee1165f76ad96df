/- The law of meta pages back: a meta page's bytes are decoded as it, and bytes that are decoded are just that page's; by a walk. -/
import Derived.Test.YtpjgmcoimniheaaMtF
namespace Go.Proofs.Ytpjgmcoimniheaa.Mt
open Go.RowKit Go.Proofs.Ytpjgmcoimniheaa.By
set_option linter.unusedSimpArgs false
set_option linter.unusedVariables false

theorem decode_nil (w : World) : Calls Try.prog 20 #[.slice none 0 0] w fun x w' => x = .returned (.tuple #[.agg #[.int .i64 0, .int .i64 0], .int .i64 3]) ∧ Below w.heap.size w w' :=
  (decode_any none 0 ByteArray.empty w (fun h => absurd h (by decide)) (by decide) (fun _ => rfl) (fun ad h => by cases h)).mono fun x w' h => ⟨h.2.1 empty_no, h.2.2⟩
set_option maxRecDepth 100000 in
set_option maxHeartbeats 1000000 in
theorem back_any (e r : Int) (b : ByteArray) (w : World) (hb : b.size ≤ 140737488351232) :
    Calls Try.prog 4 #[.agg #[.int .i64 e, .int .i64 r], .string b] w fun x w' => x = .returned (.bool true) ∧ Below w.heap.size w w' := by
  by_cases hlong : 2000 < b.size
  · have t : decide (2000 < b.size) = true := decide_eq_true hlong
    have ti : decide ((2000 : Int) < (b.size : Int)) = true := decide_eq_true (by omega)
    go_enter Try.func4, Try.ntmps4
    go_wp2_with fail
    refine (awake_any _).mono ?_
    rintro x w1 ⟨rfl, hb1⟩
    go_wp2_with fail
    refine (awake_any _).mono ?_
    rintro x w2 ⟨rfl, hb2⟩
    go_wp2_with fail
    go_ret
    exact ⟨rfl, bl (box_below hb1) hb2⟩
  have t : decide (2000 < b.size) = false := decide_eq_false hlong
  have ti : decide ((2000 : Int) < (b.size : Int)) = false := decide_eq_false (by omega)
  have hd : ∀ (X W : World) (c : Nat), RdB W (some ⟨X.heap.size, 0, none⟩) b → Calls Try.prog 20 #[.slice (some ⟨X.heap.size, 0, none⟩) b.size c] W (DecPost W b) := fun X W c h => decode_any _ c b W h (by omega) (fun h => by cases h) (fun ad h => by cases h; rfl)
  have HD := Lib.hid hd
  clear hd
  cases hr : rightB e r with
  | true =>
    obtain ⟨e, r, rfl, rfl⟩ := right_nat hr
    have HE := Lib.hid (fun X => encode_ok e r X hr)
    have HDE := Lib.hid (fun (g c : Nat) (X : World) (h : RdB X (some ⟨g, 0, none⟩) (enc e r)) => decode_enc hr g c X h)
    clear hr
    go_enter Try.func4, Try.ntmps4
    go_wp2_with fail
    refine (awake_any _).mono ?_
    rintro x w1 ⟨rfl, hb1⟩
    obtain ⟨hc0, hc1⟩ := box_cell hb1
    have HB1 := Lib.hid (box_below hb1)
    clear hb1
    go_wp2_with fail
    refine (HE.out _).mono ?_
    rintro x w2 ⟨v, rfl, hv, hb2⟩
    obtain ⟨g, c, rfl⟩ := hv.shape (enc_size e r)
    have hdd := HDE.out g c w2 hv.rds
    go_wp2_with fail
    refine hdd.mono ?_
    rintro x w3 ⟨rfl, hb3⟩
    have hb13 := bl hb2 hb3
    have hc03 := (hb13.cell (World.block_lt_of_cell? w1 _ hc0)).trans hc0
    have hc13 := (hb13.cell (World.block_lt_of_cell? w1 _ hc1)).trans hc1
    have HB3 := Lib.hid (bl HB1.out hb13)
    clear hv hdd hb2 hb3 hb13 hc0 hc1
    have hA0 := fun X => cell_alloc hc03 X
    have hA1 := fun X => cell_alloc hc13 X
    obtain ⟨cb, W, hcv, hcc, hrd, hbW⟩ := conv_in (w3.alloc (.cells #[.int .i64 (e : Int), .int .i64 (r : Int)] 29)) b
    have hdb := HD.out _ W cb hrd
    rw [World.size_alloc] at hdb
    have HBW := Lib.hid (bl HB3.out (box_below hbW))
    clear hbW hcc
    go_wp2_with fail
    refine hdb.mono ?_
    rintro x w5 ⟨hyes, hno, hb5⟩
    by_cases hok : decOk b
    · have hx := hyes hok
      subst hx
      have hrt := hok.2.1
      have HE2 := Lib.hid (fun X => encode_ok (decV b) (decR b) X hrt)
      have HEQ := Lib.hid hok.2.2
      have HB5 := Lib.hid (bl HBW.out hb5)
      clear hyes hno hok hrt hb5 hdb hrd hcv
      go_wp2_with fail
      refine (HE2.out _).mono ?_
      rintro x w6 ⟨v6, rfl, hv6, hb6⟩
      rw [HEQ.out] at hv6
      have hcv6 := hv6.conv (Below.refl _ _)
      have HB6 := Lib.hid (bl HB5.out (box_below hb6))
      clear hv6 hb6
      go_wp2_with fail
      go_ret
      exact ⟨rfl, HB6.out⟩
    · have hx := hno hok
      subst hx
      have HB5 := Lib.hid (bl HBW.out hb5)
      clear hyes hno hok hb5 hdb hrd hcv
      go_wp2_with fail
      go_ret
      exact ⟨rfl, below_al HB5.out _⟩
  | false =>
    have HE := Lib.hid (fun X => encode_bad e r X hr)
    clear hr
    go_enter Try.func4, Try.ntmps4
    go_wp2_with fail
    refine (awake_any _).mono ?_
    rintro x w1 ⟨rfl, hb1⟩
    obtain ⟨hc0, hc1⟩ := box_cell hb1
    have HB1 := Lib.hid (box_below hb1)
    clear hb1
    go_wp2_with fail
    refine (HE.out _).mono ?_
    rintro x w2 ⟨rfl, hb2⟩
    go_wp2_with fail
    refine (decode_nil _).mono ?_
    rintro x w3 ⟨rfl, hb3⟩
    have HB3 := Lib.hid (bl HB1.out (bl hb2 hb3))
    clear hb2 hb3 hc0 hc1
    obtain ⟨cb, W, hcv, hcc, hrd, hbW⟩ := conv_in (w3.alloc (.cells #[.int .i64 0, .int .i64 0] 29)) b
    have hdb := HD.out _ W cb hrd
    rw [World.size_alloc] at hdb
    have HBW := Lib.hid (bl HB3.out (box_below hbW))
    clear hbW hcc
    go_wp2_with fail
    refine hdb.mono ?_
    rintro x w5 ⟨hyes, hno, hb5⟩
    by_cases hok : decOk b
    · have hx := hyes hok
      subst hx
      have hrt := hok.2.1
      have HE2 := Lib.hid (fun X => encode_ok (decV b) (decR b) X hrt)
      have HEQ := Lib.hid hok.2.2
      have HB5 := Lib.hid (bl HBW.out hb5)
      clear hyes hno hok hrt hb5 hdb hrd hcv
      go_wp2_with fail
      refine (HE2.out _).mono ?_
      rintro x w6 ⟨v6, rfl, hv6, hb6⟩
      rw [HEQ.out] at hv6
      have hcv6 := hv6.conv (Below.refl _ _)
      have HB6 := Lib.hid (bl HB5.out (box_below hb6))
      clear hv6 hb6
      go_wp2_with fail
      go_ret
      exact ⟨rfl, HB6.out⟩
    · have hx := hno hok
      subst hx
      have HB5 := Lib.hid (bl HBW.out hb5)
      clear hyes hno hok hb5 hdb hrd hcv
      go_wp2_with fail
      go_ret
      exact ⟨rfl, below_al HB5.out _⟩
end Go.Proofs.Ytpjgmcoimniheaa.Mt
