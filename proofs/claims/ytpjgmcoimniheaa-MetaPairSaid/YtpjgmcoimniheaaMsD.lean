/- The law of two meta pages in their slots, by a walk. -/
import Derived.Test.YtpjgmcoimniheaaMsC
import Derived.Test.YtpjgmcoimniheaaMtV
namespace Go.Proofs.Ytpjgmcoimniheaa.Mt
open Go.RowKit Go.Proofs.Ytpjgmcoimniheaa.By
set_option linter.unusedSimpArgs false
set_option linter.unusedVariables false

theorem one_enc {a b : Nat} (h : rightB a b = true) (k : Int) : one k (enc a b) = if (a : Int) % 2 = k then [((a : Int), (b : Int))] else [] := by
  unfold one
  rw [decV_enc h, decR_enc h]
  by_cases hk : (a : Int) % 2 = k
  · rw [if_pos hk, if_pos ⟨decOk_enc h, hk⟩]
  · rw [if_neg hk, if_neg (fun x => hk x.2)]
set_option maxRecDepth 100000 in
set_option maxHeartbeats 2000000 in
theorem pair_any (a b c d : Int) (w : World) :
    Calls Try.prog 10 #[.agg #[.int .i64 a, .int .i64 b], .agg #[.int .i64 c, .int .i64 d]] w fun x w' => x = .returned (.bool true) ∧ Below w.heap.size w w' := by
  have HR1 := Lib.hid (fun X => rright_any a b X)
  have HR2 := Lib.hid (fun X => rright_any c d X)
  cases hr1 : rightB a b with
  | false =>
    rw [hr1] at HR1
    go_enter Try.func10, Try.ntmps10
    go_wp2_with fail
    refine (awake_any _).mono ?_
    rintro x w1 ⟨rfl, hb1⟩
    obtain ⟨c00, c01, c10, c11⟩ := box2_cells hb1
    have HB1 := Lib.hid (box_below (box_below hb1))
    clear hb1
    go_wp2_with fail
    refine (HR1.out _).mono ?_
    rintro x w2 ⟨rfl, hb2⟩
    go_wp2_with fail
    refine (awake_any _).mono ?_
    rintro x w9 ⟨rfl, hb9⟩
    go_wp2_with fail
    go_ret
    exact ⟨rfl, bl (bl HB1.out hb2) hb9⟩
  | true =>
    cases hr2 : rightB c d with
    | false =>
      rw [hr1] at HR1
      rw [hr2] at HR2
      go_enter Try.func10, Try.ntmps10
      go_wp2_with fail
      refine (awake_any _).mono ?_
      rintro x w1 ⟨rfl, hb1⟩
      obtain ⟨c00, c01, c10, c11⟩ := box2_cells hb1
      have HB1 := Lib.hid (box_below (box_below hb1))
      clear hb1
      go_wp2_with fail
      refine (HR1.out _).mono ?_
      rintro x w2 ⟨rfl, hb2⟩
      obtain ⟨d00, d01, d10, d11⟩ := cells4_below ⟨c00, c01, c10, c11⟩ hb2
      have HBX := Lib.hid (bl HB1.out hb2)
      clear c00 c01 c10 c11
      go_wp2_with fail
      refine (HR2.out _).mono ?_
      rintro x w3 ⟨rfl, hb3⟩
      go_wp2_with fail
      refine (awake_any _).mono ?_
      rintro x w9 ⟨rfl, hb9⟩
      go_wp2_with fail
      go_ret
      exact ⟨rfl, bl (bl HBX.out hb3) hb9⟩
    | true =>
      rw [hr1] at HR1
      rw [hr2] at HR2
      obtain ⟨a, b, rfl, rfl⟩ := right_nat hr1
      obtain ⟨c, d, rfl, rfl⟩ := right_nat hr2
      by_cases ha : (a : Int) % 2 = 0
      rotate_left
      · have m1 : Int.tmod (a : Int) 2 = 1 := by rw [Int.tmod_eq_emod_of_nonneg (by omega)]; omega
        have m2 : (a : Int) % 2 = 1 := by omega
        go_enter Try.func10, Try.ntmps10
        go_wp2_with fail
        refine (awake_any _).mono ?_
        rintro x w1 ⟨rfl, hb1⟩
        obtain ⟨c00, c01, c10, c11⟩ := box2_cells hb1
        have HB1 := Lib.hid (box_below (box_below hb1))
        clear hb1
        go_wp2_with fail
        refine (HR1.out _).mono ?_
        rintro x w2 ⟨rfl, hb2⟩
        obtain ⟨d00, d01, d10, d11⟩ := cells4_below ⟨c00, c01, c10, c11⟩ hb2
        have HBX := Lib.hid (bl HB1.out hb2)
        clear c00 c01 c10 c11
        go_wp2_with fail
        refine (HR2.out _).mono ?_
        rintro x w3 ⟨rfl, hb3⟩
        obtain ⟨e00, e01, e10, e11⟩ := cells4_below ⟨d00, d01, d10, d11⟩ hb3
        have HB3 := Lib.hid (bl HBX.out hb3)
        clear d00 d01 d10 d11 hb3 hb2
        go_wp2_with fail
        refine (awake_any _).mono ?_
        rintro x w9 ⟨rfl, hb9⟩
        go_wp2_with fail
        go_ret
        exact ⟨rfl, bl HB3.out hb9⟩
      have m1 : Int.tmod (a : Int) 2 = 0 := by rw [Int.tmod_eq_emod_of_nonneg (by omega)]; omega
      by_cases hc : (c : Int) % 2 = 1
      rotate_left
      · have m2 : Int.tmod (c : Int) 2 = 0 := by rw [Int.tmod_eq_emod_of_nonneg (by omega)]; omega
        have m3 : (c : Int) % 2 = 0 := by omega
        go_enter Try.func10, Try.ntmps10
        go_wp2_with fail
        refine (awake_any _).mono ?_
        rintro x w1 ⟨rfl, hb1⟩
        obtain ⟨c00, c01, c10, c11⟩ := box2_cells hb1
        have HB1 := Lib.hid (box_below (box_below hb1))
        clear hb1
        go_wp2_with fail
        refine (HR1.out _).mono ?_
        rintro x w2 ⟨rfl, hb2⟩
        obtain ⟨d00, d01, d10, d11⟩ := cells4_below ⟨c00, c01, c10, c11⟩ hb2
        have HBX := Lib.hid (bl HB1.out hb2)
        clear c00 c01 c10 c11
        go_wp2_with fail
        refine (HR2.out _).mono ?_
        rintro x w3 ⟨rfl, hb3⟩
        obtain ⟨e00, e01, e10, e11⟩ := cells4_below ⟨d00, d01, d10, d11⟩ hb3
        have HB3 := Lib.hid (bl HBX.out hb3)
        clear d00 d01 d10 d11 hb3 hb2
        go_wp2_with fail
        refine (awake_any _).mono ?_
        rintro x w9 ⟨rfl, hb9⟩
        go_wp2_with fail
        go_ret
        exact ⟨rfl, bl HB3.out hb9⟩
      have m2 : Int.tmod (c : Int) 2 = 1 := by rw [Int.tmod_eq_emod_of_nonneg (by omega)]; omega
      have HE1 := Lib.hid (fun X => encode_ok a b X hr1)
      have HE2 := Lib.hid (fun X => encode_ok c d X hr2)
      have hboth : both (enc a b) (enc c d) 2 = [((a : Int), (b : Int)), ((c : Int), (d : Int))] := by
        show one 0 (enc a b) ++ one 1 (enc c d) = _
        rw [one_enc hr1, one_enc hr2, if_pos ha, if_pos hc]; rfl
      have hnone : both (enc c d) (enc a b) 2 = [] := by
        show one 0 (enc c d) ++ one 1 (enc a b) = _
        rw [one_enc hr1, one_enc hr2, if_neg (by omega), if_neg (by omega)]; rfl
      have HBOTH := Lib.hid hboth
      have HNONE := Lib.hid hnone
      have hs1 := enc_size a b
      have hs2 := enc_size c d
      have HS := Lib.hid (And.intro hs1 hs2)
      clear hboth hnone hr1 hr2 hs1 hs2
      go_enter Try.func10, Try.ntmps10
      go_wp2_with fail
      refine (awake_any _).mono ?_
      rintro x w1 ⟨rfl, hb1⟩
      obtain ⟨c00, c01, c10, c11⟩ := box2_cells hb1
      have HB1 := Lib.hid (box_below (box_below hb1))
      clear hb1
      go_wp2_with fail
      refine (HR1.out _).mono ?_
      rintro x w2 ⟨rfl, hb2⟩
      obtain ⟨d00, d01, d10, d11⟩ := cells4_below ⟨c00, c01, c10, c11⟩ hb2
      have HBX := Lib.hid (bl HB1.out hb2)
      clear c00 c01 c10 c11
      go_wp2_with fail
      refine (HR2.out _).mono ?_
      rintro x w3 ⟨rfl, hb3⟩
      obtain ⟨e00, e01, e10, e11⟩ := cells4_below ⟨d00, d01, d10, d11⟩ hb3
      have HB3 := Lib.hid (bl HBX.out hb3)
      clear d00 d01 d10 d11 hb3 hb2
      go_wp2_with fail
      refine (HE1.out _).mono ?_
      rintro x w4 ⟨v4, rfl, hv4, hb4⟩
      obtain ⟨g4, c4, rfl⟩ := hv4.shape (HS.out.1)
      obtain ⟨e00, e01, e10, e11⟩ := cells4_below ⟨e00, e01, e10, e11⟩ hb4
      have HB4 := Lib.hid (bl HB3.out hb4)
      have HV4 := Lib.hid hv4.rds
      clear hb4 hv4
      go_wp2_with fail
      refine (HE2.out _).mono ?_
      rintro x w5 ⟨v5, rfl, hv5, hb5⟩
      obtain ⟨g5, c5, rfl⟩ := hv5.shape (HS.out.2)
      obtain ⟨e00, e01, e10, e11⟩ := cells4_below ⟨e00, e01, e10, e11⟩ hb5
      have HB5 := Lib.hid (bl HB4.out hb5)
      have HV4 := Lib.hid (HV4.out.below hb5)
      have HV5 := Lib.hid hv5.rds
      have HN1 := newest_any (some ⟨g4, 0, none⟩) (some ⟨g5, 0, none⟩) c4 c5 (enc a b) (enc c d) w5 HV4.out HV5.out (by rw [HS.out.1]; omega) (by rw [HS.out.2]; omega) (by simp) (by simp) (by intro ad h; injection h with h; subst h; rfl) (by intro ad h; injection h with h; subst h; rfl)
      rw [HS.out.1, HS.out.2] at HN1
      have HN1 := Lib.hid HN1
      clear hb5 hv5
      go_wp2_with fail
      refine HN1.out.mono ?_
      rintro x w6 ⟨A6, c6, rfl, hm, hlc, hcm, hb6⟩
      obtain ⟨e00, e01, e10, e11⟩ := cells4_below ⟨e00, e01, e10, e11⟩ hb6
      have HB6 := Lib.hid (bl HB5.out hb6)
      have HN2 := newest_any (some ⟨g5, 0, none⟩) (some ⟨g4, 0, none⟩) c5 c4 (enc c d) (enc a b) w6 (HV5.out.below hb6) (HV4.out.below hb6) (by rw [HS.out.2]; omega) (by rw [HS.out.1]; omega) (by simp) (by simp) (by intro ad h; injection h with h; subst h; rfl) (by intro ad h; injection h with h; subst h; rfl)
      rw [HS.out.1, HS.out.2, HNONE.out] at HN2
      have HN2 := Lib.hid HN2
      have HM := Lib.hid hm
      have HLC := Lib.hid hlc
      clear hb6 hm hlc hcm
      go_wp2_with fail
      refine HN2.out.mono ?_
      rintro x w7 ⟨A7, c7, rfl, -, -, -, hb7⟩
      obtain ⟨e00, e01, e10, e11⟩ := cells4_below ⟨e00, e01, e10, e11⟩ hb7
      have HB7 := Lib.hid (bl HB6.out hb7)
      have hm := HM.out
      have hlc := HLC.out
      have hboth := HBOTH.out
      clear HN1 HN2 HE1 HE2 HR1 HR2 HV4 HV5 HM HLC HBOTH HNONE
      by_cases hlt : a < c
      · skip
        have hs : sorted (both (enc a b) (enc c d) 2) = [((c : Int), (d : Int)), ((a : Int), (b : Int))] := by rw [hboth]; exact if_pos (by dsimp only; omega)
        rw [hs] at hm hlc
        obtain ⟨g, off, rfl, hq00, hq01⟩ := hm 0 _ rfl
        obtain ⟨g', off', hgg, hq10, hq11⟩ := hm 1 _ rfl
        injection hgg with hgg
        injection hgg with hg1 hg2
        subst hg1
        subst hg2
        dsimp only at hq00 hq01 hq10 hq11
        rw [Nat.zero_mul, Nat.add_zero] at hq00 hq01
        rw [Nat.one_mul] at hq10 hq11
        have q00 := (hb7.cell (World.block_lt_of_cell? w6 _ hq00)).trans hq00
        have q01 := (hb7.cell (World.block_lt_of_cell? w6 _ hq01)).trans hq01
        have q10 := (hb7.cell (World.block_lt_of_cell? w6 _ hq10)).trans hq10
        have q11 := (hb7.cell (World.block_lt_of_cell? w6 _ hq11)).trans hq11
        have q11' : w7.cell? ⟨g, off + 3, none⟩ = _ := q11
        rw [hs]
        clear hm hq00 hq01 hq10 hq11 hb7 hboth hs hlc
        have y1 : decide ((a : Int) < (c : Int)) = true := decide_eq_true (by omega)
        have y2 : decide (a < c) = true := decide_eq_true (by omega)
        have y3 : decide ((a : Int) = (c : Int)) = false := decide_eq_false (by omega)
        have y4 : ((a : Int) == (c : Int)) = false := by simp; omega
        have y5 : decide ((c : Int) = (a : Int)) = false := decide_eq_false (by omega)
        have y6 : ((c : Int) == (a : Int)) = false := by simp; omega
        have y7 : decide (a = c) = false := decide_eq_false (by omega)
        have y8 : (a == c) = false := by simp; omega
        have y9 : decide (c = a) = false := decide_eq_false (by omega)
        have y10 : (c == a) = false := by simp; omega
        go_wp2_with fail
        go_quiet (fail)
        go_wp2_with fail
        go_ret
        exact ⟨rfl, below_dn HB7.out _⟩
      · have hgt : c < a := by omega
        have hs : sorted (both (enc a b) (enc c d) 2) = [((a : Int), (b : Int)), ((c : Int), (d : Int))] := by rw [hboth]; exact if_neg (by dsimp only; omega)
        rw [hs] at hm hlc
        obtain ⟨g, off, rfl, hq00, hq01⟩ := hm 0 _ rfl
        obtain ⟨g', off', hgg, hq10, hq11⟩ := hm 1 _ rfl
        injection hgg with hgg
        injection hgg with hg1 hg2
        subst hg1
        subst hg2
        dsimp only at hq00 hq01 hq10 hq11
        rw [Nat.zero_mul, Nat.add_zero] at hq00 hq01
        rw [Nat.one_mul] at hq10 hq11
        have q00 := (hb7.cell (World.block_lt_of_cell? w6 _ hq00)).trans hq00
        have q01 := (hb7.cell (World.block_lt_of_cell? w6 _ hq01)).trans hq01
        have q10 := (hb7.cell (World.block_lt_of_cell? w6 _ hq10)).trans hq10
        have q11 := (hb7.cell (World.block_lt_of_cell? w6 _ hq11)).trans hq11
        have q11' : w7.cell? ⟨g, off + 3, none⟩ = _ := q11
        rw [hs]
        clear hm hq00 hq01 hq10 hq11 hb7 hboth hs hlc
        have y1 : decide ((c : Int) < (a : Int)) = true := decide_eq_true (by omega)
        have y2 : decide (c < a) = true := decide_eq_true (by omega)
        have y3 : decide ((a : Int) = (c : Int)) = false := decide_eq_false (by omega)
        have y4 : ((a : Int) == (c : Int)) = false := by simp; omega
        have y5 : decide ((c : Int) = (a : Int)) = false := decide_eq_false (by omega)
        have y6 : ((c : Int) == (a : Int)) = false := by simp; omega
        have y7 : decide (a = c) = false := decide_eq_false (by omega)
        have y8 : (a == c) = false := by simp; omega
        have y9 : decide (c = a) = false := decide_eq_false (by omega)
        have y10 : (c == a) = false := by simp; omega
        go_wp2_with fail
        go_quiet (fail)
        go_wp2_with fail
        go_ret
        exact ⟨rfl, below_dn HB7.out _⟩
theorem pair_row (o0 o1 : Int × Int) (w : World) : Calls Try.prog 10 #[.agg #[.int .i64 o0.1, .int .i64 o0.2], .agg #[.int .i64 o1.1, .int .i64 o1.2]] w fun x w' => x = .returned (.bool true) ∧ Below w.heap.size w w' := pair_any _ _ _ _ w
end Go.Proofs.Ytpjgmcoimniheaa.Mt
