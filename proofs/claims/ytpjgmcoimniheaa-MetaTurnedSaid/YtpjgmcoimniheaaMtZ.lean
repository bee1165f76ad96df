/- The law of turned bits: a meta page in which bits within 32 side by side are turned is none; by a walk. -/
import Derived.Test.YtpjgmcoimniheaaMtY
namespace Go.Proofs.Ytpjgmcoimniheaa.Mt
open Go.RowKit Go.Proofs.Ytpjgmcoimniheaa.By
set_option linter.unusedSimpArgs false
set_option linter.unusedVariables false

theorem bit_test (t n : Nat) (ht : t < 4294967296) : (bits BinOp.and IntKind.u32 ((t : Int) / 2 ^ n) 1 == 1) = t.testBit n := by
  have he : ((t : Int) / 2 ^ n) = ((t / 2 ^ n : Nat) : Int) := by push_cast; rfl
  have hle : t / 2 ^ n ≤ t := Nat.div_le_self _ _
  rw [he, and_one_u32 _ (by omega), Nat.testBit_eq_decide_div_mod_eq]
  by_cases h : t / 2 ^ n % 2 = 1
  · rw [h, decide_eq_true rfl]; rfl
  · rw [decide_eq_false h, beq_eq_false_iff_ne]; omega
theorem xor_mask (B p : Nat) (hB : B < 256) : bits BinOp.xor IntKind.u8 (B : Int) ((128 : Int) / 2 ^ (p % 8)) = ((B ^^^ (128 / 2 ^ (p % 8)) : Nat) : Int) := by
  have he : ((128 : Int) / 2 ^ (p % 8)) = ((128 / 2 ^ (p % 8) : Nat) : Int) := by push_cast; rfl
  rw [he, xor_u8 B _ hB (mask_lt p)]
set_option maxRecDepth 100000 in
set_option maxHeartbeats 2000000 in
theorem turned_any (e r : Int) (at' t : Nat) (w : World) (hat : at' < 18446744073709551616) (ht : t < 4294967296) :
    Calls Try.prog 7 #[.agg #[.int .i64 e, .int .i64 r], .int .u64 (at' : Int), .int .u32 (t : Int)] w fun x w' => x = .returned (.bool true) ∧ Below w.heap.size w w' := by
  have HR1 := Lib.hid (fun X => rright_any e r X)
  cases hr1 : rightB e r with
  | false =>
    rw [hr1] at HR1
    go_enter Try.func7, Try.ntmps7
    go_wp2_with fail
    refine (awake_any _).mono ?_
    rintro x w1 ⟨rfl, hb1⟩
    obtain ⟨c0, c1⟩ := box_cell hb1
    have HB1 := Lib.hid (box_below hb1)
    clear hb1
    go_wp2_with fail
    refine (HR1.out _).mono ?_
    rintro x w2 ⟨rfl, hb2⟩
    go_wp2_with fail
    refine (awake_any _).mono ?_
    rintro x w3 ⟨rfl, hb3⟩
    go_wp2_with fail
    go_ret
    exact ⟨rfl, bl (bl HB1.out hb2) hb3⟩
  | true =>
    rw [hr1] at HR1
    by_cases h0 : t = 0
    · have t1 : ((t : Int) == 0) = true := by rw [beq_iff_eq]; omega
      have t2 : (t == 0) = true := by rw [beq_iff_eq]; exact h0
      clear h0
      go_enter Try.func7, Try.ntmps7
      go_wp2_with fail
      refine (awake_any _).mono ?_
      rintro x w1 ⟨rfl, hb1⟩
      obtain ⟨c0, c1⟩ := box_cell hb1
      have HB1 := Lib.hid (box_below hb1)
      clear hb1
      go_wp2_with fail
      refine (HR1.out _).mono ?_
      rintro x w2 ⟨rfl, hb2⟩
      go_wp2_with fail
      refine (awake_any _).mono ?_
      rintro x w3 ⟨rfl, hb3⟩
      go_wp2_with fail
      go_ret
      exact ⟨rfl, bl (bl HB1.out hb2) hb3⟩
    have t1 : ((t : Int) == 0) = false := by rw [beq_eq_false_iff_ne]; omega
    have t2 : (t == 0) = false := by rw [beq_eq_false_iff_ne]; exact h0
    obtain ⟨e, r, rfl, rfl⟩ := right_nat hr1
    have HE := Lib.hid (fun X => encode_ok e r X hr1)
    obtain ⟨k, hk⟩ : ∃ k, k = at' % 2017 := ⟨_, rfl⟩
    have hrem : (at' : Int) % 2017 = (k : Int) := by omega
    have hk2 : k ≤ 2016 := by omega
    have HLAW : Hid (¬ decOk (ofNats (flipTo (encN e r) k t 32))) := Lib.hid (turned_law (q := k / 8) hr1 (flipTo_lt (encN_lt e r) k t 32) (fun i hi => flipTo_out _ k t 32 i (Nat.le_refl _) hi) (flipTo_ne _ k t (encN_length e r) hk2 ht h0))
    clear hr1 hk h0
    go_enter Try.func7, Try.ntmps7
    go_wp2_with fail
    refine (awake_any _).mono ?_
    rintro x w1 ⟨rfl, hb1⟩
    obtain ⟨c0, c1⟩ := box_cell hb1
    have HB1 := Lib.hid (box_below hb1)
    clear hb1
    go_wp2_with fail
    refine (HR1.out _).mono ?_
    rintro x w2 ⟨rfl, hb2⟩
    have d0 := (hb2.cell (World.block_lt_of_cell? w1 _ c0)).trans c0
    have d1 := (hb2.cell (World.block_lt_of_cell? w1 _ c1)).trans c1
    have HB2 := Lib.hid (bl HB1.out hb2)
    clear hb2 c0 c1
    go_wp2_with fail
    refine (HE.out _).mono ?_
    rintro x w3 ⟨v3, rfl, hv3, hb3⟩
    obtain ⟨g, c, rfl⟩ := hv3.shape (enc_size e r)
    rw [enc_eq] at hv3
    have hgl := own_block hv3
    have HV := Lib.hid (show OwnB w3 w2.heap.size (.slice (some ⟨g, 0, none⟩) 256 c) (ofNats (flipTo (encN e r) k t 0)) from hv3)
    have HB3 := Lib.hid (bl HB2.out hb3)
    obtain ⟨hg2, -, -⟩ := hgl
    have hw2s := HB2.out.size
    clear hv3 hb3 d0 d1
    go_wp2_with fail
    go_loopw [10] (fun i wr => ∃ j : Nat, j ≤ 32 ∧ i = .int .i64 j ∧ OwnB wr w2.heap.size (.slice (some ⟨g, 0, none⟩) 256 c) (ofNats (flipTo (encN e r) k t j)) ∧ Below w.heap.size w wr) (fun i _ => 32 - (intOf i).toNat)
    case atStart => exact ⟨0, Nat.zero_le _, rfl, HV.out, HB3.out⟩
    case round =>
      obtain ⟨j, hj, rfl, hv, hbw⟩ := hrel
      by_cases hlt : j < 32
      · have u1 : decide (j < 32) = true := decide_eq_true hlt
        have u2 : decide ((j : Int) < 32) = true := decide_eq_true (by omega)
        have hlen : (flipTo (encN e r) k t j).length = 256 := by rw [flipTo_length, encN_length]
        have hall := flipTo_lt (encN_lt e r) k t j
        obtain ⟨L, hL⟩ : ∃ L, L = flipTo (encN e r) k t j := ⟨_, rfl⟩
        rw [← hL] at hv hlen hall
        have hi : (k + j) / 8 < L.length := by omega
        obtain ⟨hc, hf⟩ := own_byte hv hall ((k + j) / 8) hi
        have hbt := bit_test t (31 - j) ht
        have HV1 := Lib.hid hv
        have HBW := Lib.hid hbw
        have HL := Lib.hid hL
        have HALL := Lib.hid hall
        have hgetlt : L.getD ((k + j) / 8) 0 < 256 := by rw [List.getD_eq_getElem?_getD, List.getElem?_eq_getElem hi]; exact hall _ (List.getElem_mem hi)
        obtain ⟨B, hB⟩ : ∃ B, B = L.getD ((k + j) / 8) 0 := ⟨_, rfl⟩
        rw [← hB] at hc hgetlt
        cases hb : t.testBit (31 - j) with
        | true =>
          rw [hb] at hbt
          have hx := xor_mask B (k + j) hgetlt
          have hN256 : B ^^^ (128 / 2 ^ ((k + j) % 8)) < 256 := Nat.xor_lt_two_pow (n := 8) hgetlt (mask_lt _)
          have hnx : flipTo (encN e r) k t (j + 1) = L.set ((k + j) / 8) (B ^^^ (128 / 2 ^ ((k + j) % 8))) := by
            rw [hB, hL]
            show (if t.testBit (31 - j) then flip1 (flipTo (encN e r) k t j) (k + j) else flipTo (encN e r) k t j) = _
            rw [hb, if_pos rfl]; rfl
          obtain ⟨N, hN⟩ : ∃ N, N = B ^^^ (128 / 2 ^ ((k + j) % 8)) := ⟨_, rfl⟩
          rw [← hN] at hx hN256 hnx
          have HS := Lib.hid (own_set hv hall ((k + j) / 8) N hi hN256)
          have HNX := Lib.hid hnx
          have HB1 := Lib.hid (hbw.setCell (p := ⟨g, (k + j) / 8, none⟩) (Nat.le_trans hw2s hg2) (.int .u8 (N : Int)))
          clear hv hbw hL hall hlen hnx hN hB hb
          go_wp2_with fail
          go_roundw
          case rel => exact ⟨j + 1, by omega, by go_num, by rw [HNX.out]; exact HS.out, HB1.out⟩
          case measure => simp [intOf]; omega
        | false =>
          rw [hb] at hbt
          have hnx : flipTo (encN e r) k t (j + 1) = L := by
            rw [hL]
            show (if t.testBit (31 - j) then flip1 (flipTo (encN e r) k t j) (k + j) else flipTo (encN e r) k t j) = _
            rw [hb, if_neg (by decide)]
          have HNX := Lib.hid hnx
          clear hv hbw hL hall hlen hnx hB hb
          go_wp2_with fail
          go_roundw
          case rel => exact ⟨j + 1, by omega, by go_num, by rw [HNX.out]; exact HV1.out, HBW.out⟩
          case measure => simp [intOf]; omega
      · have hj32 : j = 32 := by omega
        subst hj32
        have hsz : (ofNats (flipTo (encN e r) k t 32)).size = 256 := by rw [ofNats_size, flipTo_length, encN_length]
        have hdec := decode_any (some ⟨g, 0, none⟩) c (ofNats (flipTo (encN e r) k t 32)) wr hv.rds (by rw [hsz]; decide) (fun h => by cases h) (fun ad h => by cases h; rfl)
        rw [hsz] at hdec
        have HBW := Lib.hid hbw
        clear hv hbw hsz
        go_wp2_with fail
        refine hdec.mono ?_
        rintro x w7 ⟨-, hno, hb7⟩
        have hx := hno HLAW.out
        subst hx
        have HB7 := Lib.hid (bl HBW.out hb7)
        clear hno hb7 hdec
        go_wp2_with fail
        go_ret
        exact ⟨rfl, below_al HB7.out _⟩
theorem turned_row (o : Int × Int) (a t : Int) (w : World) (wa : (Lit.int .u64 a).wf = true) (wt : (Lit.int .u32 t).wf = true) :
    Calls Try.prog 7 #[.agg #[.int .i64 o.1, .int .i64 o.2], .int .u64 a, .int .u32 t] w fun x w' => x = .returned (.bool true) ∧ Below w.heap.size w w' := by
  obtain ⟨a, rfl, ha⟩ := u64_nat wa
  obtain ⟨t, rfl, ht⟩ := u32_nat wt
  exact turned_any _ _ a t w ha ht
end Go.Proofs.Ytpjgmcoimniheaa.Mt
