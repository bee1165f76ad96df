/- The law of all or nothing: with all kept, and none torn, a crash is as a sync; with none kept it is as if nothing had been written; by a walk. -/
import Derived.Test.YtpdhfnpnilpipaaDvV
import Derived.Test.YtpdhfnpnilpipaaDlL
namespace Go.Proofs.Ytpdhfnpnilpipaa.Dv
open Go.RowKit
set_option linter.unusedSimpArgs false
set_option linter.unusedVariables false

def AllRel (w1 : World) (a b c k : Nat) (wr : World) : Prop := ∃ P Q P2 Q2, Dev3 wr w1.heap.size wr.heap.size wr.heap.size wr.heap.size a P Q b P Q c P2 Q2 ∧ P.length = 8 ∧ Q.length ≤ k ∧ P2.length = 8 ∧ Q2.length ≤ k ∧ Below w1.heap.size w1 wr
theorem all_rel {w1 wr : World} {a b c k : Nat} {P P2 : List ByteArray} {Q Q2 : List (Nat × ByteArray)} (h : Dev3 wr w1.heap.size wr.heap.size wr.heap.size wr.heap.size a P Q b P Q c P2 Q2) (hb : Below w1.heap.size w1 wr) (h1 : P.length = 8) (h2 : Q.length ≤ k) (h3 : P2.length = 8) (h4 : Q2.length ≤ k) : AllRel w1 a b c k wr :=
  ⟨P, Q, P2, Q2, h, h1, h2, h3, h4, hb⟩
theorem q_snoc {Q : List (Nat × ByteArray)} {q : Nat × ByteArray} {k : Nat} (h : Q.length ≤ k) : (Q ++ [q]).length ≤ k + 1 := by rw [List.length_append, List.length_singleton]; omega
theorem q_more {Q : List (Nat × ByteArray)} {k : Nat} (h : Q.length ≤ k) : Q.length ≤ k + 1 := by omega
set_option maxRecDepth 100000 in
set_option maxHeartbeats 4000000 in
theorem all_any (A : Option Addr) (l : List OpR) (cap : Nat) (part : Int) (w : World) (ha : OpsAt w A l) (hw : ∀ o ∈ l, OpW o) (hl : l.length ≤ cap) (hcm : cap ≤ maxLen) :
    Calls Try.prog 12 #[.slice A l.length cap, .int .i64 part] w fun e w' => e = .returned (.bool true) ∧ Below w.heap.size w w' := by
  have hfa := fun X (hX : Below w.heap.size w X) => few_any A l cap X (ha.below hX) hw hl hcm
  unfold maxLen at hcm
  cases hfew : few l with
  | false =>
    rw [hfew] at hfa
    go_enter Try.func12, Try.ntmps12
    go_wp2_with fail
    refine (awake_any _).mono ?_
    rintro e w1 ⟨rfl, hb1⟩
    go_wp2_with fail
    refine (hfa _ hb1).mono ?_
    rintro e w2 ⟨rfl, rfl⟩
    go_wp2_with fail
    refine (awake_any _).mono ?_
    rintro e w3 ⟨rfl, hb3⟩
    go_wp2_with fail
    go_ret
    exact ⟨rfl, bl hb1 hb3⟩
  | true =>
    rw [hfew] at hfa
    have hfw := few_of l hfew
    have hlen := hfw.1
    have hcl : (List.replicate (clamp 8) zeroPage).length = 8 := by rw [List.length_replicate]; rfl
    obtain ⟨P0, hP0⟩ : ∃ P0, P0 = List.replicate (clamp 8) zeroPage := ⟨_, rfl⟩
    rw [← hP0] at hcl
    go_enter Try.func12, Try.ntmps12
    go_wp2_with fail
    refine (awake_any _).mono ?_
    rintro e w1 ⟨rfl, hb1⟩
    go_wp2_with fail
    refine (hfa _ hb1).mono ?_
    rintro e w2 ⟨rfl, rfl⟩
    go_wp2_with fail
    refine (new_any 8 _).mono ?_
    rintro e w2 ⟨a, rfl, hd2, hb2⟩
    rw [← hP0] at hd2
    go_wp2_with fail
    refine (new_any 8 _).mono ?_
    rintro e w3 ⟨b, rfl, hd3, hb3⟩
    rw [← hP0] at hd3
    go_wp2_with fail
    refine (new_any 8 _).mono ?_
    rintro e w4 ⟨c, rfl, hd4, hb4⟩
    rw [← hP0] at hd4
    have HD0 := Lib.hid (dev3_new hd2 hd3 hd4 hb2 hb3 hb4)
    have HW0 := Lib.hid (bl (bl hb2 hb3) hb4)
    have HB1 := Lib.hid hb1
    have HA := Lib.hid ha
    have HCL := Lib.hid hcl
    clear hP0 hd2 hd3 hd4 hb2 hb3 hb4 hb1 ha hfa hfw hw hfew hcl
    go_wp2_with fail
    go_loopw [39] (fun u wr => ∃ k : Nat, k ≤ l.length ∧ u = .int .i64 k ∧ AllRel w1 a b c k wr) (fun u _ => l.length - (intOf u).toNat)
    case atStart => exact ⟨0, Nat.zero_le _, rfl, _, _, _, _, HD0.out, HCL.out, Nat.zero_le _, HCL.out, Nat.zero_le _, HW0.out⟩
    case round =>
      obtain ⟨k, hk, rfl, P, Q, P2, Q2, h3, hlp, hql, hlc, hqc, hbw⟩ := hrel
      by_cases hlt : k < l.length
      · have ht1 : decide (k < l.length) = true := decide_eq_true hlt
        have ht2 : decide ((k : Int) < (l.length : Int)) = true := decide_eq_true (by omega)
        obtain ⟨o, ho⟩ : ∃ o, l[k]? = some o := ⟨_, List.getElem?_eq_getElem hlt⟩
        obtain ⟨g, off, rfl, hat⟩ := HA.out k o ho
        have hand := and_seven o.i
        have hbyte := wrap_byte o.n
        have hj7 := j7_lt o.i
        obtain ⟨p, hp⟩ : ∃ p, p = j7 o.i := ⟨_, rfl⟩
        have hp8 : p < 8 := by omega
        rw [← hp] at hand
        clear hp hj7
        have hcK := (hat.below (bl HB1.out hbw)).kind
        have HLP := Lib.hid hlp
        have HLC := Lib.hid hlc
        have HK := Lib.hid hql
        have HKC := Lib.hid hqc
        have HQ := Lib.hid (show Q.length ≤ 1000000 by omega)
        have HQC := Lib.hid (show Q2.length ≤ 1000000 by omega)
        have H3 := Lib.hid h3
        have HW := Lib.hid hbw
        clear ho hlp hlc hql hqc h3 hbw
        by_cases hkd : o.kind = 3
        · have hk1 : (o.kind == 3) = true := beq_iff_eq.2 hkd
          clear hkd
          have hsz := HW.out.size
          obtain ⟨Fa, hda, hFa, hna⟩ := H3.out.use (by omega) (Nat.le_refl _) (Nat.le_refl _)
          have hsa := sync_any hda HQ.out
          go_wp2_with fail
          refine hsa.mono ?_
          rintro e w2 ⟨rfl, hd2, hch2⟩
          have h32 := (hna w2 _ _ (hd2.mono (fun k hk => .inl hk)) hch2).rot
          have hb12 := hch2.below HW.out (fun k hk => (hFa k hk).1) hsz
          have hs2 := hch2.size
          obtain ⟨Fb, hdb, hFb, hnb⟩ := h32.use (by omega) (by omega) (Nat.le_refl _)
          have hsb := sync_any hdb HQ.out
          have HX := Lib.hid hb12
          have HN := (Lib.hid (⟨hs2, hsz⟩ : _ ∧ _))
          clear hda hd2 hch2 hsa hna h32 hb12 hs2 hsz
          go_wp2_with fail
          refine hsb.mono ?_
          rintro e w3 ⟨rfl, hd3, hch3⟩
          have h33 := (hnb w3 _ _ (hd3.mono (fun k hk => .inl hk)) hch3).rot
          have hb13 := hch3.below HX.out (fun k hk => (hFb k hk).1) HX.out.size
          have hs3 := hch3.size
          obtain ⟨Fc, hdc, hFc, hnc⟩ := h33.use (by have := HN.out; omega) (by have := HN.out; omega) (Nat.le_refl _)
          have hsc := sync_any hdc HQC.out
          have HY := Lib.hid hb13
          have HM := (Lib.hid hs3)
          clear hdb hd3 hch3 hsb hnb h33 hb13 hs3
          go_wp2_with fail
          refine hsc.mono ?_
          rintro e w4 ⟨rfl, hd4, hch4⟩
          have hs4 := hch4.size
          have h34 := (hnc w4 _ _ (hd4.mono (fun k hk => .inl hk)) hch4).rot.raise (T := w4.heap.size) (by have := HN.out; have := HM.out; omega) (by have := HN.out; have := HM.out; omega) (Nat.le_refl _)
          have hb14 := hch4.below HY.out (fun k hk => (hFc k hk).1) HY.out.size
          have H3S := Lib.hid h34
          have HWS := Lib.hid hb14
          have HLPS := Lib.hid ((dSync_length Q P).trans HLP.out)
          have HLCS := Lib.hid ((dSync_length Q2 P2).trans HLC.out)
          have HKS := Lib.hid (show ([] : List (Nat × ByteArray)).length ≤ k from Nat.zero_le _)
          have HKCS := HKS
          have HQS := Lib.hid (show ([] : List (Nat × ByteArray)).length ≤ 1000000 from Nat.zero_le _)
          have HQCS := HQS
          clear hdc hd4 hch4 hsc hnc h34 hb14 hs4 H3 HW HLP HLC HK HKC HQ HQC HX HY HN HM hcK Fa Fb Fc hFa hFb hFc
          have hcN := (hat.below (bl HB1.out HWS.out)).n
          go_wp2_with fail
          refine (full_any (c8 o.n) (c8_lt _) _).mono ?_
          rintro e w5 ⟨v5, rfl, hv5, hb5⟩
          have hb15 := bl HWS.out hb5
          have hs5 := hb5.size
          have hs15 := HWS.out.size
          have h35 := H3S.out.below hb5
          obtain ⟨Fa, hda, hFa, hna⟩ := h35.use (by omega) (by omega) (by omega)
          obtain ⟨A5, c5, e5, hc5, hr5⟩ := hv5.rd
          subst e5
          obtain ⟨ad5, rfl, -⟩ := hr5 (by rw [fullPage_size]; decide)
          have hwa := write_ok hda p (by rw [HLPS.out]; exact hp8) ad5 c5 (fullPage (c8 o.n)) (fullPage_size _) hr5 HQS.out
          rw [fullPage_size] at hwa
          have hcI5 := (hat.below (bl HB1.out hb15)).i
          have HX := (Lib.hid (⟨hb15, hs5, hs15⟩ : _ ∧ _ ∧ _))
          clear hb15 hs5 hs15 hb5 h35 hcN
          go_wp2_with fail
          refine hwa.mono ?_
          rintro e w6 ⟨rfl, hd6, hch6⟩
          have h36 := (hna w6 _ _ hd6 hch6).rot
          have hb16 := hch6.below HX.out.1 (fun k hk => (hFa k hk).1) HX.out.1.size
          have hs6 := hch6.size
          have hv6 := hv5.chg hch6 (fun k hk => (hFa k hk).2)
          obtain ⟨Fb, hdb, hFb, hnb⟩ := h36.use (by have := HX.out; omega) (by have := HX.out; omega) (Nat.le_refl _)
          obtain ⟨A6, c6, e6, hc6, hr6⟩ := hv6.rd
          injection e6 with e6 e7 e8
          subst e6 e8
          have hwb := write_ok hdb p (by rw [HLPS.out]; exact hp8) ad5 c5 (fullPage (c8 o.n)) (fullPage_size _) hr6 HQS.out
          rw [fullPage_size] at hwb
          have hcI6 := (hat.below (bl HB1.out hb16)).i
          have HY := (Lib.hid (⟨hb16, hs6⟩ : _ ∧ _))
          clear hwa hd6 hch6 h36 hb16 hs6 hna hda hcI5 e7 hr5
          go_wp2_with fail
          refine hwb.mono ?_
          rintro e w7 ⟨rfl, hd7, hch7⟩
          have h37 := (hnb w7 _ _ hd7 hch7).rot
          have hb17 := hch7.below HY.out.1 (fun k hk => (hFb k hk).1) HY.out.1.size
          have hs7 := hch7.size
          have hv7 := hv6.chg hch7 (fun k hk => (hFb k hk).2)
          have hcI7 := (hat.below (bl HB1.out hb17)).i
          clear hwb hd7 hch7 hnb hdb hcI6 hr6
          by_cases hhalf : k < l.length / 2
          · have hh1 : decide (k < l.length / 2) = true := decide_eq_true hhalf
            have hh2 : decide ((k : Int) < (l.length : Int) / 2) = true := decide_eq_true (by omega)
            obtain ⟨Fc, hdc, hFc, hnc⟩ := h37.use (by have := HX.out; have := HY.out; omega) (by have := HX.out; have := HY.out; omega) (by omega)
            obtain ⟨A7, c7, e7, hc7, hr7⟩ := hv7.rd
            injection e7 with e7 e8 e9
            subst e7 e9
            have hwc := write_ok hdc p (by rw [HLCS.out]; exact hp8) ad5 c5 (fullPage (c8 o.n)) (fullPage_size _) hr7 HQCS.out
            rw [fullPage_size] at hwc
            have HZ := (Lib.hid (⟨hb17, hs7⟩ : _ ∧ _))
            clear hb17 hs7 h37 e8
            go_wp2_with fail
            refine hwc.mono ?_
            rintro e w8 ⟨rfl, hd8, hch8⟩
            have hs8 := hch8.size
            have h38 := (hnc w8 _ _ hd8 hch8).rot.raise (T := w8.heap.size) (by have := HX.out; have := HY.out; have := HZ.out; omega) (by have := HX.out; have := HY.out; have := HZ.out; omega) (by have := HX.out; have := HY.out; have := HZ.out; omega)
            have hb18 := hch8.below HZ.out.1 (fun k hk => (hFc k hk).1) HZ.out.1.size
            have H38 := Lib.hid h38
            have HB18 := Lib.hid hb18
            clear hwc hd8 hch8 hs8 h38 hb18 hnc hdc hcI7 hr7
            go_wp2_with fail
            go_roundw
            case rel => exact ⟨k + 1, by omega, by go_num, all_rel H38.out HB18.out HLPS.out (q_snoc HKS.out) HLCS.out (q_snoc HKCS.out)⟩
            case measure => simp [intOf]; omega
          · have hh1 : decide (k < l.length / 2) = false := decide_eq_false hhalf
            have hh2 : decide ((k : Int) < (l.length : Int) / 2) = false := decide_eq_false (by omega)
            have h38 := h37.rot.raise (T := w7.heap.size) (by have := HX.out; have := HY.out; omega) (by have := HX.out; have := HY.out; omega) (by have := HX.out; have := HY.out; omega)
            have H38 := Lib.hid h38
            have HB18 := Lib.hid hb17
            clear h38 hb17 h37 hcI7
            go_wp2_with fail
            go_roundw
            case rel => exact ⟨k + 1, by omega, by go_num, all_rel H38.out HB18.out HLPS.out (q_snoc HKS.out) HLCS.out (q_more HKCS.out)⟩
            case measure => simp [intOf]; omega
        · have hk1 : (o.kind == 3) = false := by rw [beq_eq_false_iff_ne]; exact hkd
          clear hkd
          have hcN := (hat.below (bl HB1.out HW.out)).n
          go_wp2_with fail
          refine (full_any (c8 o.n) (c8_lt _) _).mono ?_
          rintro e w5 ⟨v5, rfl, hv5, hb5⟩
          have hb15 := bl HW.out hb5
          have hs5 := hb5.size
          have hs15 := HW.out.size
          have h35 := H3.out.below hb5
          obtain ⟨Fa, hda, hFa, hna⟩ := h35.use (by omega) (by omega) (by omega)
          obtain ⟨A5, c5, e5, hc5, hr5⟩ := hv5.rd
          subst e5
          obtain ⟨ad5, rfl, -⟩ := hr5 (by rw [fullPage_size]; decide)
          have hwa := write_ok hda p (by rw [HLP.out]; exact hp8) ad5 c5 (fullPage (c8 o.n)) (fullPage_size _) hr5 HQ.out
          rw [fullPage_size] at hwa
          have hcI5 := (hat.below (bl HB1.out hb15)).i
          have HX := (Lib.hid (⟨hb15, hs5, hs15⟩ : _ ∧ _ ∧ _))
          clear hb15 hs5 hs15 hb5 h35 hcN
          go_wp2_with fail
          refine hwa.mono ?_
          rintro e w6 ⟨rfl, hd6, hch6⟩
          have h36 := (hna w6 _ _ hd6 hch6).rot
          have hb16 := hch6.below HX.out.1 (fun k hk => (hFa k hk).1) HX.out.1.size
          have hs6 := hch6.size
          have hv6 := hv5.chg hch6 (fun k hk => (hFa k hk).2)
          obtain ⟨Fb, hdb, hFb, hnb⟩ := h36.use (by have := HX.out; omega) (by have := HX.out; omega) (Nat.le_refl _)
          obtain ⟨A6, c6, e6, hc6, hr6⟩ := hv6.rd
          injection e6 with e6 e7 e8
          subst e6 e8
          have hwb := write_ok hdb p (by rw [HLP.out]; exact hp8) ad5 c5 (fullPage (c8 o.n)) (fullPage_size _) hr6 HQ.out
          rw [fullPage_size] at hwb
          have hcI6 := (hat.below (bl HB1.out hb16)).i
          have HY := (Lib.hid (⟨hb16, hs6⟩ : _ ∧ _))
          clear hwa hd6 hch6 h36 hb16 hs6 hna hda hcI5 e7 hr5
          go_wp2_with fail
          refine hwb.mono ?_
          rintro e w7 ⟨rfl, hd7, hch7⟩
          have h37 := (hnb w7 _ _ hd7 hch7).rot
          have hb17 := hch7.below HY.out.1 (fun k hk => (hFb k hk).1) HY.out.1.size
          have hs7 := hch7.size
          have hv7 := hv6.chg hch7 (fun k hk => (hFb k hk).2)
          have hcI7 := (hat.below (bl HB1.out hb17)).i
          clear hwb hd7 hch7 hnb hdb hcI6 hr6
          by_cases hhalf : k < l.length / 2
          · have hh1 : decide (k < l.length / 2) = true := decide_eq_true hhalf
            have hh2 : decide ((k : Int) < (l.length : Int) / 2) = true := decide_eq_true (by omega)
            obtain ⟨Fc, hdc, hFc, hnc⟩ := h37.use (by have := HX.out; have := HY.out; omega) (by have := HX.out; have := HY.out; omega) (by omega)
            obtain ⟨A7, c7, e7, hc7, hr7⟩ := hv7.rd
            injection e7 with e7 e8 e9
            subst e7 e9
            have hwc := write_ok hdc p (by rw [HLC.out]; exact hp8) ad5 c5 (fullPage (c8 o.n)) (fullPage_size _) hr7 HQC.out
            rw [fullPage_size] at hwc
            have HZ := (Lib.hid (⟨hb17, hs7⟩ : _ ∧ _))
            clear hb17 hs7 h37 e8
            go_wp2_with fail
            refine hwc.mono ?_
            rintro e w8 ⟨rfl, hd8, hch8⟩
            have hs8 := hch8.size
            have h38 := (hnc w8 _ _ hd8 hch8).rot.raise (T := w8.heap.size) (by have := HX.out; have := HY.out; have := HZ.out; omega) (by have := HX.out; have := HY.out; have := HZ.out; omega) (by have := HX.out; have := HY.out; have := HZ.out; omega)
            have hb18 := hch8.below HZ.out.1 (fun k hk => (hFc k hk).1) HZ.out.1.size
            have H38 := Lib.hid h38
            have HB18 := Lib.hid hb18
            clear hwc hd8 hch8 hs8 h38 hb18 hnc hdc hcI7 hr7
            go_wp2_with fail
            go_roundw
            case rel => exact ⟨k + 1, by omega, by go_num, all_rel H38.out HB18.out HLP.out (q_snoc HK.out) HLC.out (q_snoc HKC.out)⟩
            case measure => simp [intOf]; omega
          · have hh1 : decide (k < l.length / 2) = false := decide_eq_false hhalf
            have hh2 : decide ((k : Int) < (l.length : Int) / 2) = false := decide_eq_false (by omega)
            have h38 := h37.rot.raise (T := w7.heap.size) (by have := HX.out; have := HY.out; omega) (by have := HX.out; have := HY.out; omega) (by have := HX.out; have := HY.out; omega)
            have H38 := Lib.hid h38
            have HB18 := Lib.hid hb17
            clear h38 hb17 h37 hcI7
            go_wp2_with fail
            go_roundw
            case rel => exact ⟨k + 1, by omega, by go_num, all_rel H38.out HB18.out HLP.out (q_snoc HK.out) HLC.out (q_more HKC.out)⟩
            case measure => simp [intOf]; omega
      · have ht1 : decide (k < l.length) = false := decide_eq_false hlt
        have ht2 : decide ((k : Int) < (l.length : Int)) = false := decide_eq_false (by omega)
        have hdiv : (l.length : Int) / 2 = ((l.length / 2 : Nat) : Int) := by omega
        have hsz := hbw.size
        obtain ⟨Fc, hdc, hFc, -⟩ := h3.rot.rot.use hsz (Nat.le_refl _) (Nat.le_refl _)
        have hbyc := bytes_any hdc (by omega)
        obtain ⟨fast, hfast⟩ : ∃ fast, fast = joinP (dSync P2 Q2) := ⟨_, rfl⟩
        have hfs : fast.size = 8 * 256 := by rw [hfast, joinP_size (dSync_sizes Q2 P2 hdc.sizes.1 (fun q hq => (hdc.sizes.2 q hq).2)), dSync_length, hlc]
        rw [← hfast] at hbyc
        have HFS := Lib.hid hfs
        have H3 := Lib.hid h3
        have HW := Lib.hid hbw
        have HLP := Lib.hid hlp
        have HLC := Lib.hid hlc
        have HK := Lib.hid (show Q.length ≤ 1000000 by omega)
        have HQC0 := Lib.hid (show Q2.length ≤ l.length by omega)
        clear hfast hfs h3 hlp hlc hql hqc hdc hFc hsz hbw
        go_wp2_with fail
        refine hbyc.mono ?_
        rintro e wz ⟨vz, rfl, hoz, hbz⟩
        have hcvz := own_conv hoz
        have HD0 := Lib.hid (H3.out.below hbz).rot.rot
        have HW0 := Lib.hid (bl HW.out hbz)
        have HTS := Lib.hid (show wr.heap.size ≤ wz.heap.size ∧ wr.heap.size ≤ wz.heap.size from ⟨hbz.size, hbz.size⟩)
        obtain ⟨Ta, hTa⟩ : ∃ Ta, Ta = wr.heap.size := ⟨_, rfl⟩
        rw [← hTa] at HD0 HTS
        clear hTa hbyc hbz H3 HW
        have HDIV := Lib.hid (show (Value.int .i64 ((l.length : Int) / 2)) = .int .i64 ((l.length / 2 : Nat) : Int) by rw [hdiv])
        clear hdiv
        go_wp2_with fail
        go_loopw [11] (fun u wr => ∃ k : Nat, k ≤ l.length ∧ u = .int .i64 k ∧ ∃ Tz Q2, Dev3 wr w1.heap.size Tz Ta Ta c P2 Q2 a P Q b P Q ∧ Tz ≤ wr.heap.size ∧ Q2.length ≤ l.length + k ∧ Below w1.heap.size w1 wr ∧ wz.heap.size ≤ wr.heap.size) (fun u _ => l.length - (intOf u).toNat)
        case atStart => exact ⟨l.length / 2, by omega, HDIV.out, _, _, HD0.out, HTS.out.1, by have := HQC0.out; omega, HW0.out, Nat.le_refl _⟩
        case round =>
          obtain ⟨k, hk, rfl, Tz, Q3, h3, hTz, hq3, hbw, hws⟩ := hrel
          by_cases hlt : k < l.length
          · have ht1 : decide (k < l.length) = true := decide_eq_true hlt
            have ht2 : decide ((k : Int) < (l.length : Int)) = true := decide_eq_true (by omega)
            obtain ⟨o, ho⟩ : ∃ o, l[k]? = some o := ⟨_, List.getElem?_eq_getElem hlt⟩
            obtain ⟨g, off, rfl, hat⟩ := HA.out k o ho
            have hand := and_seven o.i
            have hbyte := wrap_byte o.n
            have hj7 := j7_lt o.i
            obtain ⟨p, hp⟩ : ∃ p, p = j7 o.i := ⟨_, rfl⟩
            have hp8 : p < 8 := by omega
            rw [← hp] at hand
            clear hp hj7
            have hcI := fun X (hX : Below w1.heap.size w1 X) => (hat.below (bl HB1.out hX)).i
            have hcN := fun X (hX : Below w1.heap.size w1 X) => (hat.below (bl HB1.out hX)).n
            have HQ := Lib.hid (show Q3.length ≤ 1000000 by omega)
            have HQ3 := Lib.hid hq3
            have HD := Lib.hid h3
            have HW := Lib.hid hbw
            have HWS := Lib.hid hws
            clear ho hat h3 hbw hq3 hws
            go_wp2_with fail
            refine wp_region_held_drew (S := (fun X => Below w1.heap.size w1 X)) (by kernel_rfl) (((by repeat (first | exact Below.refl _ _ | assumption | apply below_dr | apply below_dn | apply below_al)) : Below w1.heap.size w1 _)) (fun hHeld => ?_)
            try simp only [Act.put, List.setIfInBounds_toArray, List.set_cons_zero, List.set_cons_succ]
            refine wpAnyH_take (i := 0) (v := ?_) (by simp only [List.getElem?_toArray, List.getElem?_cons_succ, List.getElem?_cons_zero]; rfl) (by kernel_rfl) (by kernel_rfl) (by kernel_rfl) (by exact fun _ _ _ h => h) (Or.inl ⟨by rfl, ?_⟩) (by assumption) ?_
            rotate_left
            · intro w hSw; (try dsimp only at hSw); go_simp; try with_reducible rfl
            try simp only [Act.put, List.setIfInBounds_toArray, List.set_cons_zero, List.set_cons_succ]
            refine wpAnyH_take (i := 1) (v := ?_) (by simp only [List.getElem?_toArray, List.getElem?_cons_succ, List.getElem?_cons_zero]; rfl) (by kernel_rfl) (by kernel_rfl) (by kernel_rfl) (by exact fun _ _ _ h => h) (Or.inl ⟨by rfl, ?_⟩) (by assumption) ?_
            rotate_left
            · intro w hSw; (try dsimp only at hSw); go_simp; try with_reducible rfl
            try simp only [Act.put, List.setIfInBounds_toArray, List.set_cons_zero, List.set_cons_succ]
            refine wpAnyH_take (i := 2) (v := ?_) (by simp only [List.getElem?_toArray, List.getElem?_cons_succ, List.getElem?_cons_zero]; rfl) (by kernel_rfl) (by kernel_rfl) (by kernel_rfl) (by exact fun _ _ _ h => h) (Or.inl ⟨by rfl, ?_⟩) (by assumption) ?_
            rotate_left
            · intro w hSw; (try dsimp only at hSw); go_simp; try with_reducible rfl
            try simp only [Act.put, List.setIfInBounds_toArray, List.set_cons_zero, List.set_cons_succ]
            refine wpAnyH_take (i := 3) (v := ?_) (by simp only [List.getElem?_toArray, List.getElem?_cons_succ, List.getElem?_cons_zero]; rfl) (by kernel_rfl) (by kernel_rfl) (by kernel_rfl) (by exact fun _ _ _ h => h) (Or.inl ⟨by rfl, ?_⟩) (by assumption) ?_
            rotate_left
            · intro w hSw; (try dsimp only at hSw); go_simp; try with_reducible rfl
            try simp only [Act.put, List.setIfInBounds_toArray, List.set_cons_zero, List.set_cons_succ]
            refine wpAnyH_take (i := 4) (v := ?_) (by simp only [List.getElem?_toArray, List.getElem?_cons_succ, List.getElem?_cons_zero]; rfl) (by kernel_rfl) (by kernel_rfl) (by kernel_rfl) (by exact fun _ _ _ h => h) (Or.inl ⟨by rfl, ?_⟩) (by assumption) ?_
            rotate_left
            · intro w hSw; (try dsimp only at hSw); go_simp; try with_reducible rfl
            try simp only [Act.put, List.setIfInBounds_toArray, List.set_cons_zero, List.set_cons_succ]
            refine wpAnyH_take (i := 5) (v := ?_) (by simp only [List.getElem?_toArray, List.getElem?_cons_succ, List.getElem?_cons_zero]; rfl) (by kernel_rfl) (by kernel_rfl) (by kernel_rfl) (by exact fun _ _ _ h => h) (Or.inl ⟨by rfl, ?_⟩) (by assumption) ?_
            rotate_left
            · intro w hSw; (try dsimp only at hSw); go_simp; try with_reducible rfl
            try simp only [Act.put, List.setIfInBounds_toArray, List.set_cons_zero, List.set_cons_succ]
            refine wpAnyH_take (i := 6) (v := ?_) (by simp only [List.getElem?_toArray, List.getElem?_cons_succ, List.getElem?_cons_zero]; rfl) (by kernel_rfl) (by kernel_rfl) (by kernel_rfl) (by exact fun _ _ _ h => h) (Or.inl ⟨by rfl, ?_⟩) (by assumption) ?_
            rotate_left
            · intro w hSw; (try dsimp only at hSw); go_simp; try with_reducible rfl
            try simp only [Act.put, List.setIfInBounds_toArray, List.set_cons_zero, List.set_cons_succ]
            refine wpAnyH_take (i := 7) (v := ?_) (by simp only [List.getElem?_toArray, List.getElem?_cons_succ, List.getElem?_cons_zero]; rfl) (by kernel_rfl) (by kernel_rfl) (by kernel_rfl) (by exact fun _ _ _ h => h) (Or.inl ⟨by rfl, ?_⟩) (by assumption) ?_
            rotate_left
            · intro w hSw; (try dsimp only at hSw); go_simp; try with_reducible rfl
            try simp only [Act.put, List.setIfInBounds_toArray, List.set_cons_zero, List.set_cons_succ]
            refine wpAnyH_take (i := 8) (v := ?_) (by simp only [List.getElem?_toArray, List.getElem?_cons_succ, List.getElem?_cons_zero]; rfl) (by kernel_rfl) (by kernel_rfl) (by kernel_rfl) (by exact fun _ _ _ h => h) (Or.inl ⟨by rfl, ?_⟩) (by assumption) ?_
            rotate_left
            · intro w hSw; (try dsimp only at hSw); go_simp; try with_reducible rfl
            try simp only [Act.put, List.setIfInBounds_toArray, List.set_cons_zero, List.set_cons_succ]
            refine wpAnyH_take (i := 9) (v := ?_) (by simp only [List.getElem?_toArray, List.getElem?_cons_succ, List.getElem?_cons_zero]; rfl) (by kernel_rfl) (by kernel_rfl) (by kernel_rfl) (by exact fun _ _ _ h => h) (Or.inl ⟨by rfl, ?_⟩) (by assumption) ?_
            rotate_left
            · intro w hSw; (try dsimp only at hSw); go_simp; try with_reducible rfl
            try simp only [Act.put, List.setIfInBounds_toArray, List.set_cons_zero, List.set_cons_succ]
            refine wpAnyH_take (i := 10) (v := ?_) (by simp only [List.getElem?_toArray, List.getElem?_cons_succ, List.getElem?_cons_zero]; rfl) (by kernel_rfl) (by kernel_rfl) (by kernel_rfl) (by exact fun _ _ _ h => h) (Or.inl ⟨by rfl, ?_⟩) (by assumption) ?_
            rotate_left
            · intro w hSw; (try dsimp only at hSw); go_simp; try with_reducible rfl
            try simp only [Act.put, List.setIfInBounds_toArray, List.set_cons_zero, List.set_cons_succ]
            refine wpAnyH_take (i := 11) (v := ?_) (by simp only [List.getElem?_toArray, List.getElem?_cons_succ, List.getElem?_cons_zero]; rfl) (by kernel_rfl) (by kernel_rfl) (by kernel_rfl) (by exact fun _ _ _ h => h) (Or.inl ⟨by rfl, ?_⟩) (by assumption) ?_
            rotate_left
            · intro w hSw; (try dsimp only at hSw); go_simp; try with_reducible rfl
            try simp only [Act.put, List.setIfInBounds_toArray, List.set_cons_zero, List.set_cons_succ]
            refine wpAnyH_take (i := 12) (v := ?_) (by simp only [List.getElem?_toArray, List.getElem?_cons_succ, List.getElem?_cons_zero]; rfl) (by kernel_rfl) (by kernel_rfl) (by kernel_rfl) (by exact fun _ _ _ h => h) (Or.inl ⟨by rfl, ?_⟩) (by assumption) ?_
            rotate_left
            · intro w hSw; (try dsimp only at hSw); go_simp; try with_reducible rfl
            try simp only [Act.put, List.setIfInBounds_toArray, List.set_cons_zero, List.set_cons_succ]
            refine wpAnyH_ready (rs := [13]) (by kernel_rfl) (by simp) ?_
            refine AllReadyH.cons (by simp only [List.getElem?_toArray, List.getElem?_cons_succ, List.getElem?_cons_zero]; rfl) (fun K hK => ?_) AllReadyH.nil
            go_simp
            refine (full_any (c8 o.n) (c8_lt _) _).mono ?_; rintro e w5 ⟨v5, rfl, hv5, hb5⟩; have hb15 : Below w1.heap.size w1 w5 := bl HW.out (bl (below_dr (Below.refl _ _)) hb5); have h3W := HD.out.below (bl (below_dr (Below.refl _ _)) hb5); have hs15 := hb15.size; have hTs := HTS.out; have hsr : wr.heap.size ≤ w5.heap.size := hb5.size; have hsw := HWS.out; obtain ⟨Fc, hdc, hFc, hnc⟩ := h3W.use hs15 (Nat.le_trans hTs.1 (Nat.le_trans hsw hsr)) (Nat.le_trans hTs.2 (Nat.le_trans hsw hsr)); obtain ⟨A5, c5, rfl, hc5, hr5⟩ := hv5.rd; obtain ⟨ad5, rfl, -⟩ := hr5 (by rw [fullPage_size]; decide); have hw := write_ok hdc p (by rw [HLC.out]; exact hp8) ad5 c5 (fullPage (c8 o.n)) (fullPage_size _) hr5 HQ.out; rw [fullPage_size] at hw hc5
            try go_simp
            refine hK.out _ _ (((by repeat (first | exact Below.refl _ _ | assumption | apply below_dr | apply below_dn | apply below_al)) : Below w1.heap.size w1 _)) (fun hHeld => ?_)
            clear hK K
            try simp only [Act.put, List.setIfInBounds_toArray, List.set_cons_zero, List.set_cons_succ]
            refine wpAnyH_ready (rs := [14]) (by kernel_rfl) (by simp) ?_
            refine AllReadyH.cons (by simp only [List.getElem?_toArray, List.getElem?_cons_succ, List.getElem?_cons_zero]; rfl) (fun K hK => ?_) AllReadyH.nil
            go_simp
            refine hw.mono ?_; rintro e w6 ⟨rfl, hd6, hch6⟩; have h36 := hnc w6 _ _ hd6 hch6; have hb16 : Below w1.heap.size w1 w6 := hch6.below hb15 (fun k hk => (hFc k hk).1) hb15.size; have hs6 := Nat.le_trans hsw (Nat.le_trans hsr hch6.size)
            try go_simp
            refine hK.out _ _ (((by repeat (first | exact Below.refl _ _ | assumption | apply below_dr | apply below_dn | apply below_al)) : Below w1.heap.size w1 _)) (fun hHeld => ?_)
            clear hK K
            try simp only [Act.put, List.setIfInBounds_toArray, List.set_cons_zero, List.set_cons_succ]
            refine wpAnyH_done (by kernel_rfl) ?_ _
            have HD6 := Lib.hid h36
            have HS6 := Lib.hid hs6
            have HB6 := Lib.hid hb16
            clear hd6 hch6 hw hr5 hv5 h3W hnc hdc h36 hs6 hsw hsr hTs hs15 hb16
            go_wp2_with fail
            go_roundw
            case rel => exact ⟨k + 1, by omega, by go_num, _, _, HD6.out, Nat.le_refl _, by rw [List.length_append, List.length_singleton]; have := HQ3.out; omega, HB6.out, HS6.out⟩
            case measure => simp [intOf]; omega
          · have ht1 : decide (k < l.length) = false := decide_eq_false hlt
            have ht2 : decide ((k : Int) < (l.length : Int)) = false := decide_eq_false (by omega)
            have hTs := HTS.out
            have hsz := hbw.size
            obtain ⟨Fa, hda, hFa, -⟩ := h3.rot.use hsz (Nat.le_trans hTs.1 hws) hTz
            have hbya := bytes_any hda HK.out
            obtain ⟨all, hall⟩ : ∃ all, all = joinP (dSync P Q) := ⟨_, rfl⟩
            rw [← hall] at hbya
            have hsame : dCrash 18446744073709551615 (-1) part 0 P Q = dSync P Q := dCrash_all part Q 0 P hda.sizes.1 hda.sizes.2
            have HALL := Lib.hid hall
            have HCR := Lib.hid hsame
            have H3 := Lib.hid h3
            have HW := Lib.hid hbw
            have HS := Lib.hid hws
            have HZ := Lib.hid hTz
            clear hall hsame h3 hbw hws hTz hda hFa hTs hsz
            go_wp2_with fail
            refine hbya.mono ?_
            rintro e wa ⟨va, rfl, hoa, hba⟩
            have hcva := own_conv hoa
            have h3a := (H3.out.below hba).rot
            have hbwa := bl HW.out hba
            obtain ⟨Fa, hda, hFa, hna⟩ := h3a.use hbwa.size (Nat.le_trans HTS.out.1 (Nat.le_trans HS.out hba.size)) (Nat.le_trans HZ.out hba.size)
            have hsa := sync_any hda HK.out
            have HBA1 := Lib.hid hbwa
            have HBA2 := Lib.hid hba.size
            clear hbya hoa h3a hda hbwa hba
            go_wp2_with fail
            refine hsa.mono ?_
            rintro e ws ⟨rfl, hds, hchs⟩
            have h3s := (hna ws _ _ (hds.mono (fun k hk => .inl hk)) hchs).rot
            have hbs := hchs.below HBA1.out (fun k hk => (hFa k hk).1) HBA1.out.size
            have hss := hchs.size
            obtain ⟨Fb, hdb, hFb, hnb⟩ := h3s.use hbs.size (Nat.le_trans HZ.out (Nat.le_trans HBA2.out hss)) (Nat.le_refl _)
            have hcb : Calls Try.prog 33 #[.pointer (some ⟨b, 0, none⟩), .int .u64 18446744073709551615, .int .i64 (-1), .int .i64 part] _ _ := crash_any hdb HK.out 18446744073709551615 (by decide) (-1) part
            rw [HCR.out] at hcb
            have HBS := Lib.hid hbs
            clear hsa hds hchs hna h3s hdb hbs hss
            go_wp2_with fail
            refine hcb.mono ?_
            rintro e wc ⟨rfl, hdc, hchc⟩
            have h3c := hnb wc _ _ (hdc.mono (fun k hk => .inl hk)) hchc
            have hbc := hchc.below HBS.out (fun k hk => (hFb k hk).1) HBS.out.size
            obtain ⟨F1, F2, F3, kb, -, ka, -⟩ := h3c
            have hyb : ∀ X, Below wc.heap.size wc X → _ := fun X hX => bytes_any (kb.below hX) (by decide)
            have hya : ∀ X, Below wc.heap.size wc X → _ := fun X hX => bytes_any (ka.below hX) (by decide)
            have hz1 : joinP (dSync (dSync P Q) []) = all := HALL.out.symm
            rw [hz1] at hya hyb
            have hfs1 := HFS.out
            obtain ⟨cd, wd, hcv, hcc, hrd, hbd⟩ := conv_in wc fast
            have HBA := Lib.hid (fun X hX => hya X (bl hbd hX))
            have HBB := Lib.hid (fun X hX => hyb X (bl hbd hX))
            have HBD := Lib.hid (bl (bl HB1.out hbc) hbd)
            have himgl : (imgPages fast).length = 8 := by unfold imgPages imgLen; rw [List.length_map, List.length_range, hfs1]
            have HLD := Lib.hid himgl
            have HIMG := Lib.hid (img_whole fast 8 hfs1)
            have hfle : fast.size ≤ 131072 := by omega
            clear hz1 hya hyb kb ka hcb hdc hchc hnb hbc hbd himgl hfs1
            go_wp2_with fail
            refine (image_ok _ fast cd wd hfle hcc hrd).mono ?_
            rintro e wd0 ⟨d, rfl, hdd, hbd⟩
            have HD0 := Lib.hid hdd
            have HW0 := Lib.hid hbd
            clear hdd hbd hcv hcc hrd
            go_wp2_with fail
            go_loopw [143] (fun u wr => ∃ k : Nat, k ≤ l.length ∧ u = .int .i64 k ∧ ∃ Q4, Dev wr (fun k => wd.heap.size ≤ k) d (imgPages fast) Q4 ∧ Q4.length ≤ k ∧ Below wd.heap.size wd wr) (fun u _ => l.length - (intOf u).toNat)
            case atStart => exact ⟨0, Nat.zero_le _, rfl, [], HD0.out, Nat.zero_le _, HW0.out⟩
            case round =>
              obtain ⟨k, hk, rfl, Q4, hd, hq4, hbw⟩ := hrel
              by_cases hlt : k < l.length
              · have ht1 : decide (k < l.length) = true := decide_eq_true hlt
                have ht2 : decide ((k : Int) < (l.length : Int)) = true := decide_eq_true (by omega)
                obtain ⟨o, ho⟩ : ∃ o, l[k]? = some o := ⟨_, List.getElem?_eq_getElem hlt⟩
                obtain ⟨g, off, rfl, hat⟩ := HA.out k o ho
                have hand := and_seven o.i
                have hbyte := wrap_byte o.n
                have hj7 := j7_lt o.i
                obtain ⟨p, hp⟩ : ∃ p, p = j7 o.i := ⟨_, rfl⟩
                have hp8 : p < 8 := by omega
                rw [← hp] at hand
                clear hp hj7
                have hcI := fun X (hX : Below wd.heap.size wd X) => (hat.below (bl HBD.out hX)).i
                have hcN := fun X (hX : Below wd.heap.size wd X) => (hat.below (bl HBD.out hX)).n
                have HQ := Lib.hid (show Q4.length ≤ 1000000 by omega)
                have HQ4 := Lib.hid hq4
                have HD := Lib.hid hd
                have HW := Lib.hid hbw
                clear ho hat hd hbw hq4
                go_wp2_with fail
                refine wp_region_held_drew (S := (fun X => Below wd.heap.size wd X)) (by kernel_rfl) (((by repeat (first | exact Below.refl _ _ | assumption | apply below_dr | apply below_dn | apply below_al)) : Below wd.heap.size wd _)) (fun hHeld => ?_)
                try simp only [Act.put, List.setIfInBounds_toArray, List.set_cons_zero, List.set_cons_succ]
                refine wpAnyH_take (i := 0) (v := ?_) (by simp only [List.getElem?_toArray, List.getElem?_cons_succ, List.getElem?_cons_zero]; rfl) (by kernel_rfl) (by kernel_rfl) (by kernel_rfl) (by exact fun _ _ _ h => h) (Or.inl ⟨by rfl, ?_⟩) (by assumption) ?_
                rotate_left
                · intro w hSw; (try dsimp only at hSw); go_simp; try with_reducible rfl
                try simp only [Act.put, List.setIfInBounds_toArray, List.set_cons_zero, List.set_cons_succ]
                refine wpAnyH_take (i := 1) (v := ?_) (by simp only [List.getElem?_toArray, List.getElem?_cons_succ, List.getElem?_cons_zero]; rfl) (by kernel_rfl) (by kernel_rfl) (by kernel_rfl) (by exact fun _ _ _ h => h) (Or.inl ⟨by rfl, ?_⟩) (by assumption) ?_
                rotate_left
                · intro w hSw; (try dsimp only at hSw); go_simp; try with_reducible rfl
                try simp only [Act.put, List.setIfInBounds_toArray, List.set_cons_zero, List.set_cons_succ]
                refine wpAnyH_take (i := 2) (v := ?_) (by simp only [List.getElem?_toArray, List.getElem?_cons_succ, List.getElem?_cons_zero]; rfl) (by kernel_rfl) (by kernel_rfl) (by kernel_rfl) (by exact fun _ _ _ h => h) (Or.inl ⟨by rfl, ?_⟩) (by assumption) ?_
                rotate_left
                · intro w hSw; (try dsimp only at hSw); go_simp; try with_reducible rfl
                try simp only [Act.put, List.setIfInBounds_toArray, List.set_cons_zero, List.set_cons_succ]
                refine wpAnyH_take (i := 3) (v := ?_) (by simp only [List.getElem?_toArray, List.getElem?_cons_succ, List.getElem?_cons_zero]; rfl) (by kernel_rfl) (by kernel_rfl) (by kernel_rfl) (by exact fun _ _ _ h => h) (Or.inl ⟨by rfl, ?_⟩) (by assumption) ?_
                rotate_left
                · intro w hSw; (try dsimp only at hSw); go_simp; try with_reducible rfl
                try simp only [Act.put, List.setIfInBounds_toArray, List.set_cons_zero, List.set_cons_succ]
                refine wpAnyH_take (i := 4) (v := ?_) (by simp only [List.getElem?_toArray, List.getElem?_cons_succ, List.getElem?_cons_zero]; rfl) (by kernel_rfl) (by kernel_rfl) (by kernel_rfl) (by exact fun _ _ _ h => h) (Or.inl ⟨by rfl, ?_⟩) (by assumption) ?_
                rotate_left
                · intro w hSw; (try dsimp only at hSw); go_simp; try with_reducible rfl
                try simp only [Act.put, List.setIfInBounds_toArray, List.set_cons_zero, List.set_cons_succ]
                refine wpAnyH_take (i := 5) (v := ?_) (by simp only [List.getElem?_toArray, List.getElem?_cons_succ, List.getElem?_cons_zero]; rfl) (by kernel_rfl) (by kernel_rfl) (by kernel_rfl) (by exact fun _ _ _ h => h) (Or.inl ⟨by rfl, ?_⟩) (by assumption) ?_
                rotate_left
                · intro w hSw; (try dsimp only at hSw); go_simp; try with_reducible rfl
                try simp only [Act.put, List.setIfInBounds_toArray, List.set_cons_zero, List.set_cons_succ]
                refine wpAnyH_take (i := 6) (v := ?_) (by simp only [List.getElem?_toArray, List.getElem?_cons_succ, List.getElem?_cons_zero]; rfl) (by kernel_rfl) (by kernel_rfl) (by kernel_rfl) (by exact fun _ _ _ h => h) (Or.inl ⟨by rfl, ?_⟩) (by assumption) ?_
                rotate_left
                · intro w hSw; (try dsimp only at hSw); go_simp; try with_reducible rfl
                try simp only [Act.put, List.setIfInBounds_toArray, List.set_cons_zero, List.set_cons_succ]
                refine wpAnyH_take (i := 7) (v := ?_) (by simp only [List.getElem?_toArray, List.getElem?_cons_succ, List.getElem?_cons_zero]; rfl) (by kernel_rfl) (by kernel_rfl) (by kernel_rfl) (by exact fun _ _ _ h => h) (Or.inl ⟨by rfl, ?_⟩) (by assumption) ?_
                rotate_left
                · intro w hSw; (try dsimp only at hSw); go_simp; try with_reducible rfl
                try simp only [Act.put, List.setIfInBounds_toArray, List.set_cons_zero, List.set_cons_succ]
                refine wpAnyH_take (i := 8) (v := ?_) (by simp only [List.getElem?_toArray, List.getElem?_cons_succ, List.getElem?_cons_zero]; rfl) (by kernel_rfl) (by kernel_rfl) (by kernel_rfl) (by exact fun _ _ _ h => h) (Or.inl ⟨by rfl, ?_⟩) (by assumption) ?_
                rotate_left
                · intro w hSw; (try dsimp only at hSw); go_simp; try with_reducible rfl
                try simp only [Act.put, List.setIfInBounds_toArray, List.set_cons_zero, List.set_cons_succ]
                refine wpAnyH_take (i := 9) (v := ?_) (by simp only [List.getElem?_toArray, List.getElem?_cons_succ, List.getElem?_cons_zero]; rfl) (by kernel_rfl) (by kernel_rfl) (by kernel_rfl) (by exact fun _ _ _ h => h) (Or.inl ⟨by rfl, ?_⟩) (by assumption) ?_
                rotate_left
                · intro w hSw; (try dsimp only at hSw); go_simp; try with_reducible rfl
                try simp only [Act.put, List.setIfInBounds_toArray, List.set_cons_zero, List.set_cons_succ]
                refine wpAnyH_take (i := 10) (v := ?_) (by simp only [List.getElem?_toArray, List.getElem?_cons_succ, List.getElem?_cons_zero]; rfl) (by kernel_rfl) (by kernel_rfl) (by kernel_rfl) (by exact fun _ _ _ h => h) (Or.inl ⟨by rfl, ?_⟩) (by assumption) ?_
                rotate_left
                · intro w hSw; (try dsimp only at hSw); go_simp; try with_reducible rfl
                try simp only [Act.put, List.setIfInBounds_toArray, List.set_cons_zero, List.set_cons_succ]
                refine wpAnyH_take (i := 11) (v := ?_) (by simp only [List.getElem?_toArray, List.getElem?_cons_succ, List.getElem?_cons_zero]; rfl) (by kernel_rfl) (by kernel_rfl) (by kernel_rfl) (by exact fun _ _ _ h => h) (Or.inl ⟨by rfl, ?_⟩) (by assumption) ?_
                rotate_left
                · intro w hSw; (try dsimp only at hSw); go_simp; try with_reducible rfl
                try simp only [Act.put, List.setIfInBounds_toArray, List.set_cons_zero, List.set_cons_succ]
                refine wpAnyH_take (i := 12) (v := ?_) (by simp only [List.getElem?_toArray, List.getElem?_cons_succ, List.getElem?_cons_zero]; rfl) (by kernel_rfl) (by kernel_rfl) (by kernel_rfl) (by exact fun _ _ _ h => h) (Or.inl ⟨by rfl, ?_⟩) (by assumption) ?_
                rotate_left
                · intro w hSw; (try dsimp only at hSw); go_simp; try with_reducible rfl
                try simp only [Act.put, List.setIfInBounds_toArray, List.set_cons_zero, List.set_cons_succ]
                refine wpAnyH_ready (rs := [13]) (by kernel_rfl) (by simp) ?_
                refine AllReadyH.cons (by simp only [List.getElem?_toArray, List.getElem?_cons_succ, List.getElem?_cons_zero]; rfl) (fun K hK => ?_) AllReadyH.nil
                go_simp
                refine (full_any (c8 o.n) (c8_lt _) _).mono ?_; rintro e w5 ⟨v5, rfl, hv5, hb5⟩; have hb15 : Below wd.heap.size wd w5 := bl HW.out (bl (below_dr (Below.refl _ _)) hb5); have hdW := HD.out.below (bl (below_dr (Below.refl _ _)) hb5); obtain ⟨A5, c5, rfl, hc5, hr5⟩ := hv5.rd; obtain ⟨ad5, rfl, -⟩ := hr5 (by rw [fullPage_size]; decide); have hw := write_ok hdW p (by rw [HLD.out]; exact hp8) ad5 c5 (fullPage (c8 o.n)) (fullPage_size _) hr5 HQ.out; rw [fullPage_size] at hw hc5
                try go_simp
                refine hK.out _ _ (((by repeat (first | exact Below.refl _ _ | assumption | apply below_dr | apply below_dn | apply below_al)) : Below wd.heap.size wd _)) (fun hHeld => ?_)
                clear hK K
                try simp only [Act.put, List.setIfInBounds_toArray, List.set_cons_zero, List.set_cons_succ]
                refine wpAnyH_ready (rs := [14]) (by kernel_rfl) (by simp) ?_
                refine AllReadyH.cons (by simp only [List.getElem?_toArray, List.getElem?_cons_succ, List.getElem?_cons_zero]; rfl) (fun K hK => ?_) AllReadyH.nil
                go_simp
                refine hw.mono ?_; rintro e w6 ⟨rfl, hd6, hch6⟩; have hb16 : Below wd.heap.size wd w6 := hch6.below hb15 (fun k hk => hk) hb15.size
                try go_simp
                refine hK.out _ _ (((by repeat (first | exact Below.refl _ _ | assumption | apply below_dr | apply below_dn | apply below_al)) : Below wd.heap.size wd _)) (fun hHeld => ?_)
                clear hK K
                try simp only [Act.put, List.setIfInBounds_toArray, List.set_cons_zero, List.set_cons_succ]
                refine wpAnyH_done (by kernel_rfl) ?_ _
                have HD6 := Lib.hid (hd6.mono (G := fun k => wd.heap.size ≤ k) (fun k hk => hk.elim id (fun h => Nat.le_trans hb15.size h)))
                have HB6 := Lib.hid hb16
                clear hd6 hch6 hw hr5 hv5 hdW hb16
                go_wp2_with fail
                go_roundw
                case rel => exact ⟨k + 1, by omega, by go_num, _, HD6.out, by rw [List.length_append, List.length_singleton]; have := HQ4.out; omega, HB6.out⟩
                case measure => simp [intOf]; omega
              · have ht1 : decide (k < l.length) = false := decide_eq_false hlt
                have ht2 : decide ((k : Int) < (l.length : Int)) = false := decide_eq_false (by omega)
                have hcr : Calls Try.prog 33 #[.pointer (some ⟨d, 0, none⟩), .int .u64 0, .int .i64 0, .int .i64 part] _ _ := crash_any hd (by omega) 0 (by decide) 0 part
                rw [dCrash_no] at hcr
                have HW := Lib.hid hbw
                clear hd hbw
                go_wp2_with fail
                refine hcr.mono ?_
                rintro e w9 ⟨rfl, hd9, hch9⟩
                have hb9 := hch9.below HW.out (fun k hk => hk) HW.out.size
                have hbyd : ∀ X, Below w9.heap.size w9 X → _ := fun X hX => bytes_any (hd9.below hX) (by decide)
                have hbya : ∀ X, Below w9.heap.size w9 X → _ := fun X hX => HBA.out X (bl hb9 hX)
                have hbyb : ∀ X, Below w9.heap.size w9 X → _ := fun X hX => HBB.out X (bl hb9 hX)
                have hz : joinP (dSync (imgPages fast) []) = fast := HIMG.out
                rw [hz] at hbyd
                have HF9 := Lib.hid (bl HBD.out hb9)
                have HA9 := Lib.hid hbya
                have HB9 := Lib.hid hbyb
                have HD9 := Lib.hid hbyd
                clear hcr hd9 hch9 hb9 hz hbyd hbya hbyb
                go_wp2_with fail
                refine (HA9.out _ (Below.refl _ _)).mono ?_
                rintro e w10 ⟨v10, rfl, ho10, hb10⟩
                have hcv10 := own_conv ho10
                go_wp2_with fail
                refine (HB9.out _ (by repeat (first | exact hb10 | apply below_dr | apply below_dn | apply below_al))).mono ?_
                rintro e w11 ⟨v11, rfl, ho11, hb11⟩
                have hcv11 := own_conv ho11
                have hb911 := bl hb10 hb11
                clear ho10 hcv10
                go_wp2_with fail
                refine (HD9.out _ (by repeat (first | exact hb911 | apply below_dr | apply below_dn | apply below_al))).mono ?_
                rintro e w12 ⟨v12, rfl, ho12, hb12⟩
                have hcv12 := own_conv ho12
                clear ho11 hcv11
                go_wp2_with fail
                go_ret
                exact ⟨rfl, bl HF9.out (bl hb911 hb12)⟩
end Go.Proofs.Ytpdhfnpnilpipaa.Dv
