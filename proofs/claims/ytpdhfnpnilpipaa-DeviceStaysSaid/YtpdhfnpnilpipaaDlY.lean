/- The law of what stays: what is synced stays, whatever crashes come, if nothing is written on it; by a walk. -/
import Derived.Test.YtpdhfnpnilpipaaDvQ
import Derived.Test.YtpdhfnpnilpipaaDlL
namespace Go.Proofs.Ytpdhfnpnilpipaa.Dv
open Go.RowKit
set_option linter.unusedSimpArgs false
set_option linter.unusedVariables false

set_option maxRecDepth 100000 in
set_option maxHeartbeats 2000000 in
theorem stays_any (A : Option Addr) (l : List OpR) (cap : Nat) (keep : Nat) (torn part : Int) (w : World) (hkeep : keep < 18446744073709551616) (ha : OpsAt w A l) (hw : ∀ o ∈ l, OpW o) (hl : l.length ≤ cap) (hcm : cap ≤ maxLen) :
    Calls Try.prog 10 #[.slice A l.length cap, .int .u64 (keep : Int), .int .i64 torn, .int .i64 part] w fun e w' => e = .returned (.bool true) ∧ Below w.heap.size w w' := by
  have hfa := fun X (hX : Below w.heap.size w X) => few_any A l cap X (ha.below hX) hw hl hcm
  unfold maxLen at hcm
  cases hfew : few l with
  | false =>
    rw [hfew] at hfa
    go_enter Try.func10, Try.ntmps10
    go_wp2_with fail
    refine (awake_any _).mono ?_
    rintro e w1 ⟨rfl, hb1⟩
    go_wp2_with fail
    refine (hfa _ hb1).mono ?_
    rintro e w2 ⟨rfl, rfl⟩
    go_wp2_with fail
    refine (awake_any _).mono ?_
    rintro e w3 ⟨rfl, hb3⟩
    go_wp2_with fail
    go_ret
    exact ⟨rfl, bl hb1 hb3⟩
  | true =>
    rw [hfew] at hfa
    have hfw := few_of l hfew
    have hlen := hfw.1
    have hcl : (List.replicate (clamp 16) zeroPage).length = 16 := by rw [List.length_replicate]; rfl
    obtain ⟨P0, hP0⟩ : ∃ P0, P0 = List.replicate (clamp 16) zeroPage := ⟨_, rfl⟩
    rw [← hP0] at hcl
    go_enter Try.func10, Try.ntmps10
    go_wp2_with fail
    refine (awake_any _).mono ?_
    rintro e w1 ⟨rfl, hb1⟩
    go_wp2_with fail
    refine (hfa _ hb1).mono ?_
    rintro e w2 ⟨rfl, rfl⟩
    go_wp2_with fail
    refine (new_any 16 _).mono ?_
    rintro e w3 ⟨b, rfl, hd3, hb3⟩
    rw [← hP0] at hd3
    have hd3' : Dev w3 (fun k => w1.heap.size ≤ k) b P0 (opsW 0 (l.take 0)) := hd3
    have HD0 := Lib.hid hd3'
    have HW0 := Lib.hid hb3
    have HB1 := Lib.hid hb1
    have HA := Lib.hid ha
    have HLP := Lib.hid hcl
    clear hP0 hd3 hd3' hb3 hb1 ha hfa hfw hw hfew
    go_wp2_with fail
    go_loopw [27] (fun u wr => ∃ k : Nat, k ≤ l.length ∧ u = .int .i64 k ∧ Dev wr (fun k => w1.heap.size ≤ k) b P0 (opsW 0 (l.take k)) ∧ Below w1.heap.size w1 wr) (fun u _ => l.length - (intOf u).toNat)
    case atStart => exact ⟨0, Nat.zero_le _, rfl, HD0.out, HW0.out⟩
    case round =>
      obtain ⟨k, hk, rfl, hd, hbw⟩ := hrel
      by_cases hlt : k < l.length
      · have ht1 : decide (k < l.length) = true := decide_eq_true hlt
        have ht2 : decide ((k : Int) < (l.length : Int)) = true := decide_eq_true (by omega)
        obtain ⟨o, ho⟩ : ∃ o, l[k]? = some o := ⟨_, List.getElem?_eq_getElem hlt⟩
        obtain ⟨g, off, rfl, hat⟩ := HA.out k o ho
        have hcA := fun X (hX : Below w1.heap.size w1 X) => (hat.below (bl HB1.out hX)).kind
        have hcI := fun X (hX : Below w1.heap.size w1 X) => (hat.below (bl HB1.out hX)).i
        have hcN := fun X (hX : Below w1.heap.size w1 X) => (hat.below (bl HB1.out hX)).n
        have hcK := hcA _ hbw
        have hand := and_seven o.i
        have hbyte := wrap_byte o.n
        have hj7 := j7_lt o.i
        obtain ⟨p, hp⟩ : ∃ p, p = 0 + j7 o.i := ⟨_, rfl⟩
        have hp24 : p < 16 := by omega
        rw [show j7 o.i = p from by omega] at hand
        have HP := Lib.hid hp
        clear hp hj7
        have hnx : opsW 0 (l.take (k + 1)) = opsW 0 (l.take k) ++ opW 0 o := by rw [take_snoc l k o ho, opsW_snoc]
        have hql : (opsW 0 (l.take k)).length ≤ 1000000 := by have := opsW_length 0 (l.take k); rw [List.length_take] at this; omega
        have HNX := Lib.hid hnx
        have HQ := Lib.hid hql
        have HD := Lib.hid hd
        have HW := Lib.hid hbw
        clear ho hat hcA hnx hql hd hbw
        by_cases hkd : o.kind = 1
        · have hk1 : (o.kind == 1) = true := beq_iff_eq.2 hkd
          have HK := Lib.hid hkd
          clear hkd
          go_wp2_with fail
          refine wp_region_held_drew (S := (fun X => Below w1.heap.size w1 X)) (by kernel_rfl) (((by repeat (first | exact Below.refl _ _ | assumption | apply below_dr | apply below_dn | apply below_al)) : Below w1.heap.size w1 _)) (fun hHeld => ?_)
          try simp only [Act.put, List.setIfInBounds_toArray, List.set_cons_zero, List.set_cons_succ]
          refine wpAnyH_take (i := 0) (v := ?_) (by simp only [List.getElem?_toArray, List.getElem?_cons_succ, List.getElem?_cons_zero]; rfl) (by kernel_rfl) (by kernel_rfl) (by kernel_rfl) (by exact fun _ _ _ h => h) (Or.inl ⟨by rfl, ?_⟩) (by assumption) ?_
          rotate_left
          · intro w hSw; (try dsimp only at hSw); go_simp; try with_reducible rfl
          try simp only [Act.put, List.setIfInBounds_toArray, List.set_cons_zero, List.set_cons_succ]
          refine wpAnyH_take (i := 1) (v := ?_) (by simp only [List.getElem?_toArray, List.getElem?_cons_succ, List.getElem?_cons_zero]; rfl) (by kernel_rfl) (by kernel_rfl) (by kernel_rfl) (by exact fun _ _ _ h => h) (Or.inl ⟨by rfl, ?_⟩) (by assumption) ?_
          rotate_left
          · intro w hSw; (try dsimp only at hSw); go_simp; try with_reducible rfl
          try simp only [Act.put, List.setIfInBounds_toArray, List.set_cons_zero, List.set_cons_succ]
          refine wpAnyH_take (i := 2) (v := ?_) (by simp only [List.getElem?_toArray, List.getElem?_cons_succ, List.getElem?_cons_zero]; rfl) (by kernel_rfl) (by kernel_rfl) (by kernel_rfl) (by exact fun _ _ _ h => h) (Or.inl ⟨by rfl, ?_⟩) (by assumption) ?_
          rotate_left
          · intro w hSw; (try dsimp only at hSw); go_simp; try with_reducible rfl
          try simp only [Act.put, List.setIfInBounds_toArray, List.set_cons_zero, List.set_cons_succ]
          refine wpAnyH_take (i := 3) (v := ?_) (by simp only [List.getElem?_toArray, List.getElem?_cons_succ, List.getElem?_cons_zero]; rfl) (by kernel_rfl) (by kernel_rfl) (by kernel_rfl) (by exact fun _ _ _ h => h) (Or.inl ⟨by rfl, ?_⟩) (by assumption) ?_
          rotate_left
          · intro w hSw; (try dsimp only at hSw); go_simp; try with_reducible rfl
          try simp only [Act.put, List.setIfInBounds_toArray, List.set_cons_zero, List.set_cons_succ]
          refine wpAnyH_take (i := 4) (v := ?_) (by simp only [List.getElem?_toArray, List.getElem?_cons_succ, List.getElem?_cons_zero]; rfl) (by kernel_rfl) (by kernel_rfl) (by kernel_rfl) (by exact fun _ _ _ h => h) (Or.inl ⟨by rfl, ?_⟩) (by assumption) ?_
          rotate_left
          · intro w hSw; (try dsimp only at hSw); go_simp; try with_reducible rfl
          try simp only [Act.put, List.setIfInBounds_toArray, List.set_cons_zero, List.set_cons_succ]
          refine wpAnyH_take (i := 5) (v := ?_) (by simp only [List.getElem?_toArray, List.getElem?_cons_succ, List.getElem?_cons_zero]; rfl) (by kernel_rfl) (by kernel_rfl) (by kernel_rfl) (by exact fun _ _ _ h => h) (Or.inl ⟨by rfl, ?_⟩) (by assumption) ?_
          rotate_left
          · intro w hSw; (try dsimp only at hSw); go_simp; try with_reducible rfl
          try simp only [Act.put, List.setIfInBounds_toArray, List.set_cons_zero, List.set_cons_succ]
          refine wpAnyH_take (i := 6) (v := ?_) (by simp only [List.getElem?_toArray, List.getElem?_cons_succ, List.getElem?_cons_zero]; rfl) (by kernel_rfl) (by kernel_rfl) (by kernel_rfl) (by exact fun _ _ _ h => h) (Or.inl ⟨by rfl, ?_⟩) (by assumption) ?_
          rotate_left
          · intro w hSw; (try dsimp only at hSw); go_simp; try with_reducible rfl
          try simp only [Act.put, List.setIfInBounds_toArray, List.set_cons_zero, List.set_cons_succ]
          refine wpAnyH_take (i := 7) (v := ?_) (by simp only [List.getElem?_toArray, List.getElem?_cons_succ, List.getElem?_cons_zero]; rfl) (by kernel_rfl) (by kernel_rfl) (by kernel_rfl) (by exact fun _ _ _ h => h) (Or.inl ⟨by rfl, ?_⟩) (by assumption) ?_
          rotate_left
          · intro w hSw; (try dsimp only at hSw); go_simp; try with_reducible rfl
          try simp only [Act.put, List.setIfInBounds_toArray, List.set_cons_zero, List.set_cons_succ]
          refine wpAnyH_take (i := 8) (v := ?_) (by simp only [List.getElem?_toArray, List.getElem?_cons_succ, List.getElem?_cons_zero]; rfl) (by kernel_rfl) (by kernel_rfl) (by kernel_rfl) (by exact fun _ _ _ h => h) (Or.inl ⟨by rfl, ?_⟩) (by assumption) ?_
          rotate_left
          · intro w hSw; (try dsimp only at hSw); go_simp; try with_reducible rfl
          try simp only [Act.put, List.setIfInBounds_toArray, List.set_cons_zero, List.set_cons_succ]
          refine wpAnyH_take (i := 9) (v := ?_) (by simp only [List.getElem?_toArray, List.getElem?_cons_succ, List.getElem?_cons_zero]; rfl) (by kernel_rfl) (by kernel_rfl) (by kernel_rfl) (by exact fun _ _ _ h => h) (Or.inl ⟨by rfl, ?_⟩) (by assumption) ?_
          rotate_left
          · intro w hSw; (try dsimp only at hSw); go_simp; try with_reducible rfl
          try simp only [Act.put, List.setIfInBounds_toArray, List.set_cons_zero, List.set_cons_succ]
          refine wpAnyH_take (i := 10) (v := ?_) (by simp only [List.getElem?_toArray, List.getElem?_cons_succ, List.getElem?_cons_zero]; rfl) (by kernel_rfl) (by kernel_rfl) (by kernel_rfl) (by exact fun _ _ _ h => h) (Or.inl ⟨by rfl, ?_⟩) (by assumption) ?_
          rotate_left
          · intro w hSw; (try dsimp only at hSw); go_simp; try with_reducible rfl
          try simp only [Act.put, List.setIfInBounds_toArray, List.set_cons_zero, List.set_cons_succ]
          refine wpAnyH_take (i := 11) (v := ?_) (by simp only [List.getElem?_toArray, List.getElem?_cons_succ, List.getElem?_cons_zero]; rfl) (by kernel_rfl) (by kernel_rfl) (by kernel_rfl) (by exact fun _ _ _ h => h) (Or.inl ⟨by rfl, ?_⟩) (by assumption) ?_
          rotate_left
          · intro w hSw; (try dsimp only at hSw); go_simp; try with_reducible rfl
          try simp only [Act.put, List.setIfInBounds_toArray, List.set_cons_zero, List.set_cons_succ]
          refine wpAnyH_take (i := 12) (v := ?_) (by simp only [List.getElem?_toArray, List.getElem?_cons_succ, List.getElem?_cons_zero]; rfl) (by kernel_rfl) (by kernel_rfl) (by kernel_rfl) (by exact fun _ _ _ h => h) (Or.inl ⟨by rfl, ?_⟩) (by assumption) ?_
          rotate_left
          · intro w hSw; (try dsimp only at hSw); go_simp; try with_reducible rfl
          try simp only [Act.put, List.setIfInBounds_toArray, List.set_cons_zero, List.set_cons_succ]
          refine wpAnyH_ready (rs := [13]) (by kernel_rfl) (by simp) ?_
          refine AllReadyH.cons (by simp only [List.getElem?_toArray, List.getElem?_cons_succ, List.getElem?_cons_zero]; rfl) (fun K hK => ?_) AllReadyH.nil
          go_simp
          refine (full_any (c8 o.n) (c8_lt _) _).mono ?_; rintro e w5 ⟨v5, rfl, hv5, hb5⟩; have hb15 : Below w1.heap.size w1 w5 := bl HW.out (bl (below_dr (Below.refl _ _)) hb5); have hdW := HD.out.below (bl (below_dr (Below.refl _ _)) hb5); obtain ⟨A5, c5, rfl, hc5, hr5⟩ := hv5.rd; obtain ⟨ad5, rfl, -⟩ := hr5 (by rw [fullPage_size]; decide); have hw := write_ok hdW p (by rw [HLP.out]; exact hp24) ad5 c5 (fullPage (c8 o.n)) (fullPage_size _) hr5 HQ.out; rw [fullPage_size] at hw hc5
          try go_simp
          refine hK.out _ _ (((by repeat (first | exact Below.refl _ _ | assumption | apply below_dr | apply below_dn | apply below_al)) : Below w1.heap.size w1 _)) (fun hHeld => ?_)
          clear hK K
          try simp only [Act.put, List.setIfInBounds_toArray, List.set_cons_zero, List.set_cons_succ]
          refine wpAnyH_ready (rs := [14]) (by kernel_rfl) (by simp) ?_
          refine AllReadyH.cons (by simp only [List.getElem?_toArray, List.getElem?_cons_succ, List.getElem?_cons_zero]; rfl) (fun K hK => ?_) AllReadyH.nil
          go_simp
          refine hw.mono ?_; rintro e w6 ⟨rfl, hd6, hch6⟩; have hb16 : Below w1.heap.size w1 w6 := hch6.below hb15 (fun k hk => hk) hb15.size
          try go_simp
          refine hK.out _ _ (((by repeat (first | exact Below.refl _ _ | assumption | apply below_dr | apply below_dn | apply below_al)) : Below w1.heap.size w1 _)) (fun hHeld => ?_)
          clear hK K
          try simp only [Act.put, List.setIfInBounds_toArray, List.set_cons_zero, List.set_cons_succ]
          refine wpAnyH_done (by kernel_rfl) ?_ _
          have hd6' : Dev w6 (fun k => w1.heap.size ≤ k) b P0 (opsW 0 (l.take (k + 1))) := by
            rw [HNX.out]
            unfold opW
            rw [if_pos HK.out, ← HP.out]
            exact hd6.mono (fun k hk => hk.elim id (fun h => Nat.le_trans hb15.size h))
          have HD6 := Lib.hid hd6'
          clear hd6 hd6' hch6 hw hr5 hv5 hdW
          go_wp2_with fail
          go_roundw
          case rel => exact ⟨k + 1, by omega, by go_num, HD6.out, hb16⟩
          case measure => simp [intOf]; omega
        · have hk1 : (o.kind == 1) = false := by rw [beq_eq_false_iff_ne]; exact hkd
          have HK := Lib.hid hkd
          clear hkd
          go_wp2_with fail
          go_roundw
          case rel =>
            refine ⟨k + 1, by omega, by go_num, ?_, HW.out⟩
            rw [HNX.out]
            unfold opW
            rw [if_neg HK.out, List.append_nil]
            exact HD.out
          case measure => simp [intOf]; omega
      · have ht1 : decide (k < l.length) = false := decide_eq_false hlt
        have ht2 : decide ((k : Int) < (l.length : Int)) = false := decide_eq_false (by omega)
        rw [List.take_of_length_le (by omega)] at hd
        have hql : (opsW 0 l).length ≤ 1000000 := by have := opsW_length 0 l; omega
        have hsy := sync_any hd hql
        have HW := Lib.hid hbw
        clear hd hbw
        go_wp2_with fail
        refine hsy.mono ?_
        rintro e w7 ⟨rfl, hd7, hch7⟩
        have hb17 : Below w1.heap.size w1 w7 := hch7.below HW.out (fun k hk => hk) HW.out.size
        have hsz := hd7.sizes.1
        have hsw := joinP_size hsz
        have hl7 : (dSync P0 (opsW 0 l)).length = 16 := by rw [dSync_length, hcl]
        rw [hl7] at hsw
        have hby := bytes_any hd7 (by decide)
        have HSZ := Lib.hid hsz
        have HSW := Lib.hid hsw
        clear hsz hsw hch7 hsy hql
        go_wp2_with fail
        refine hby.mono ?_
        rintro e w8 ⟨v8, rfl, ho8, hb8⟩
        have hcv8 := own_conv ho8
        have HD0 := Lib.hid (hd7.below hb8)
        have HLP := Lib.hid hl7
        have HW0 := Lib.hid (bl hb17 hb8)
        clear hd7 hl7 hby hb17 hb8
        go_wp2_with fail
        go_loopw [59] (fun u wr => ∃ k : Nat, k ≤ l.length ∧ u = .int .i64 k ∧ Dev wr (fun k => w1.heap.size ≤ k) b (dSync P0 (opsW 0 l)) (opsW 8 (l.take k)) ∧ Below w1.heap.size w1 wr) (fun u _ => l.length - (intOf u).toNat)
        case atStart => exact ⟨0, Nat.zero_le _, rfl, HD0.out, HW0.out⟩
        case round =>
          obtain ⟨k, hk, rfl, hd, hbw⟩ := hrel
          by_cases hlt : k < l.length
          · have ht1 : decide (k < l.length) = true := decide_eq_true hlt
            have ht2 : decide ((k : Int) < (l.length : Int)) = true := decide_eq_true (by omega)
            obtain ⟨o, ho⟩ : ∃ o, l[k]? = some o := ⟨_, List.getElem?_eq_getElem hlt⟩
            obtain ⟨g, off, rfl, hat⟩ := HA.out k o ho
            have hcA := fun X (hX : Below w1.heap.size w1 X) => (hat.below (bl HB1.out hX)).kind
            have hcI := fun X (hX : Below w1.heap.size w1 X) => (hat.below (bl HB1.out hX)).i
            have hcN := fun X (hX : Below w1.heap.size w1 X) => (hat.below (bl HB1.out hX)).n
            have hcK := hcA _ hbw
            have hand := and_seven o.i
            have hbyte := wrap_byte o.n
            have hj7 := j7_lt o.i
            obtain ⟨p, hp⟩ : ∃ p, p = 8 + j7 o.i := ⟨_, rfl⟩
            have hp24 : p < 16 := by omega
            have hsum : IntKind.i64.wrap (8 + (j7 o.i : Int)) = (p : Int) := by rw [IntWalk.i64_in _ (by omega)]; omega
            have HP := Lib.hid hp
            clear hp hj7
            have hnx : opsW 8 (l.take (k + 1)) = opsW 8 (l.take k) ++ opW 8 o := by rw [take_snoc l k o ho, opsW_snoc]
            have hql : (opsW 8 (l.take k)).length ≤ 1000000 := by have := opsW_length 8 (l.take k); rw [List.length_take] at this; omega
            have HNX := Lib.hid hnx
            have HQ := Lib.hid hql
            have HD := Lib.hid hd
            have HW := Lib.hid hbw
            clear ho hat hcA hnx hql hd hbw
            by_cases hkd : o.kind = 1
            · have hk1 : (o.kind == 1) = true := beq_iff_eq.2 hkd
              have HK := Lib.hid hkd
              clear hkd
              go_wp2_with fail
              refine wp_region_held_drew (S := (fun X => Below w1.heap.size w1 X)) (by kernel_rfl) (((by repeat (first | exact Below.refl _ _ | assumption | apply below_dr | apply below_dn | apply below_al)) : Below w1.heap.size w1 _)) (fun hHeld => ?_)
              try simp only [Act.put, List.setIfInBounds_toArray, List.set_cons_zero, List.set_cons_succ]
              refine wpAnyH_take (i := 0) (v := ?_) (by simp only [List.getElem?_toArray, List.getElem?_cons_succ, List.getElem?_cons_zero]; rfl) (by kernel_rfl) (by kernel_rfl) (by kernel_rfl) (by exact fun _ _ _ h => h) (Or.inl ⟨by rfl, ?_⟩) (by assumption) ?_
              rotate_left
              · intro w hSw; (try dsimp only at hSw); go_simp; try with_reducible rfl
              try simp only [Act.put, List.setIfInBounds_toArray, List.set_cons_zero, List.set_cons_succ]
              refine wpAnyH_take (i := 1) (v := ?_) (by simp only [List.getElem?_toArray, List.getElem?_cons_succ, List.getElem?_cons_zero]; rfl) (by kernel_rfl) (by kernel_rfl) (by kernel_rfl) (by exact fun _ _ _ h => h) (Or.inl ⟨by rfl, ?_⟩) (by assumption) ?_
              rotate_left
              · intro w hSw; (try dsimp only at hSw); go_simp; try with_reducible rfl
              try simp only [Act.put, List.setIfInBounds_toArray, List.set_cons_zero, List.set_cons_succ]
              refine wpAnyH_take (i := 2) (v := ?_) (by simp only [List.getElem?_toArray, List.getElem?_cons_succ, List.getElem?_cons_zero]; rfl) (by kernel_rfl) (by kernel_rfl) (by kernel_rfl) (by exact fun _ _ _ h => h) (Or.inl ⟨by rfl, ?_⟩) (by assumption) ?_
              rotate_left
              · intro w hSw; (try dsimp only at hSw); go_simp; try with_reducible rfl
              try simp only [Act.put, List.setIfInBounds_toArray, List.set_cons_zero, List.set_cons_succ]
              refine wpAnyH_take (i := 3) (v := ?_) (by simp only [List.getElem?_toArray, List.getElem?_cons_succ, List.getElem?_cons_zero]; rfl) (by kernel_rfl) (by kernel_rfl) (by kernel_rfl) (by exact fun _ _ _ h => h) (Or.inl ⟨by rfl, ?_⟩) (by assumption) ?_
              rotate_left
              · intro w hSw; (try dsimp only at hSw); go_simp; try with_reducible rfl
              try simp only [Act.put, List.setIfInBounds_toArray, List.set_cons_zero, List.set_cons_succ]
              refine wpAnyH_take (i := 4) (v := ?_) (by simp only [List.getElem?_toArray, List.getElem?_cons_succ, List.getElem?_cons_zero]; rfl) (by kernel_rfl) (by kernel_rfl) (by kernel_rfl) (by exact fun _ _ _ h => h) (Or.inl ⟨by rfl, ?_⟩) (by assumption) ?_
              rotate_left
              · intro w hSw; (try dsimp only at hSw); go_simp; try with_reducible rfl
              try simp only [Act.put, List.setIfInBounds_toArray, List.set_cons_zero, List.set_cons_succ]
              refine wpAnyH_take (i := 5) (v := ?_) (by simp only [List.getElem?_toArray, List.getElem?_cons_succ, List.getElem?_cons_zero]; rfl) (by kernel_rfl) (by kernel_rfl) (by kernel_rfl) (by exact fun _ _ _ h => h) (Or.inl ⟨by rfl, ?_⟩) (by assumption) ?_
              rotate_left
              · intro w hSw; (try dsimp only at hSw); go_simp; try with_reducible rfl
              try simp only [Act.put, List.setIfInBounds_toArray, List.set_cons_zero, List.set_cons_succ]
              refine wpAnyH_take (i := 6) (v := ?_) (by simp only [List.getElem?_toArray, List.getElem?_cons_succ, List.getElem?_cons_zero]; rfl) (by kernel_rfl) (by kernel_rfl) (by kernel_rfl) (by exact fun _ _ _ h => h) (Or.inl ⟨by rfl, ?_⟩) (by assumption) ?_
              rotate_left
              · intro w hSw; (try dsimp only at hSw); go_simp; try with_reducible rfl
              try simp only [Act.put, List.setIfInBounds_toArray, List.set_cons_zero, List.set_cons_succ]
              refine wpAnyH_take (i := 7) (v := ?_) (by simp only [List.getElem?_toArray, List.getElem?_cons_succ, List.getElem?_cons_zero]; rfl) (by kernel_rfl) (by kernel_rfl) (by kernel_rfl) (by exact fun _ _ _ h => h) (Or.inl ⟨by rfl, ?_⟩) (by assumption) ?_
              rotate_left
              · intro w hSw; (try dsimp only at hSw); go_simp; try with_reducible rfl
              try simp only [Act.put, List.setIfInBounds_toArray, List.set_cons_zero, List.set_cons_succ]
              refine wpAnyH_take (i := 8) (v := ?_) (by simp only [List.getElem?_toArray, List.getElem?_cons_succ, List.getElem?_cons_zero]; rfl) (by kernel_rfl) (by kernel_rfl) (by kernel_rfl) (by exact fun _ _ _ h => h) (Or.inl ⟨by rfl, ?_⟩) (by assumption) ?_
              rotate_left
              · intro w hSw; (try dsimp only at hSw); go_simp; try with_reducible rfl
              try simp only [Act.put, List.setIfInBounds_toArray, List.set_cons_zero, List.set_cons_succ]
              refine wpAnyH_take (i := 9) (v := ?_) (by simp only [List.getElem?_toArray, List.getElem?_cons_succ, List.getElem?_cons_zero]; rfl) (by kernel_rfl) (by kernel_rfl) (by kernel_rfl) (by exact fun _ _ _ h => h) (Or.inl ⟨by rfl, ?_⟩) (by assumption) ?_
              rotate_left
              · intro w hSw; (try dsimp only at hSw); go_simp; try with_reducible rfl
              try simp only [Act.put, List.setIfInBounds_toArray, List.set_cons_zero, List.set_cons_succ]
              refine wpAnyH_take (i := 10) (v := ?_) (by simp only [List.getElem?_toArray, List.getElem?_cons_succ, List.getElem?_cons_zero]; rfl) (by kernel_rfl) (by kernel_rfl) (by kernel_rfl) (by exact fun _ _ _ h => h) (Or.inl ⟨by rfl, ?_⟩) (by assumption) ?_
              rotate_left
              · intro w hSw; (try dsimp only at hSw); go_simp; try with_reducible rfl
              try simp only [Act.put, List.setIfInBounds_toArray, List.set_cons_zero, List.set_cons_succ]
              refine wpAnyH_take (i := 11) (v := ?_) (by simp only [List.getElem?_toArray, List.getElem?_cons_succ, List.getElem?_cons_zero]; rfl) (by kernel_rfl) (by kernel_rfl) (by kernel_rfl) (by exact fun _ _ _ h => h) (Or.inl ⟨by rfl, ?_⟩) (by assumption) ?_
              rotate_left
              · intro w hSw; (try dsimp only at hSw); go_simp; try with_reducible rfl
              try simp only [Act.put, List.setIfInBounds_toArray, List.set_cons_zero, List.set_cons_succ]
              refine wpAnyH_take (i := 12) (v := ?_) (by simp only [List.getElem?_toArray, List.getElem?_cons_succ, List.getElem?_cons_zero]; rfl) (by kernel_rfl) (by kernel_rfl) (by kernel_rfl) (by exact fun _ _ _ h => h) (Or.inl ⟨by rfl, ?_⟩) (by assumption) ?_
              rotate_left
              · intro w hSw; (try dsimp only at hSw); go_simp; try with_reducible rfl
              try simp only [Act.put, List.setIfInBounds_toArray, List.set_cons_zero, List.set_cons_succ]
              refine wpAnyH_take (i := 13) (v := ?_) (by simp only [List.getElem?_toArray, List.getElem?_cons_succ, List.getElem?_cons_zero]; rfl) (by kernel_rfl) (by kernel_rfl) (by kernel_rfl) (by exact fun _ _ _ h => h) (Or.inl ⟨by rfl, ?_⟩) (by assumption) ?_
              rotate_left
              · intro w hSw; (try dsimp only at hSw); go_simp; try with_reducible rfl
              try simp only [Act.put, List.setIfInBounds_toArray, List.set_cons_zero, List.set_cons_succ]
              refine wpAnyH_ready (rs := [14]) (by kernel_rfl) (by simp) ?_
              refine AllReadyH.cons (by simp only [List.getElem?_toArray, List.getElem?_cons_succ, List.getElem?_cons_zero]; rfl) (fun K hK => ?_) AllReadyH.nil
              go_simp
              refine (full_any (c8 o.n) (c8_lt _) _).mono ?_; rintro e w5 ⟨v5, rfl, hv5, hb5⟩; have hb15 : Below w1.heap.size w1 w5 := bl HW.out (bl (below_dr (Below.refl _ _)) hb5); have hdW := HD.out.below (bl (below_dr (Below.refl _ _)) hb5); obtain ⟨A5, c5, rfl, hc5, hr5⟩ := hv5.rd; obtain ⟨ad5, rfl, -⟩ := hr5 (by rw [fullPage_size]; decide); have hw := write_ok hdW p (by rw [HLP.out]; exact hp24) ad5 c5 (fullPage (c8 o.n)) (fullPage_size _) hr5 HQ.out; rw [fullPage_size] at hw hc5
              try go_simp
              refine hK.out _ _ (((by repeat (first | exact Below.refl _ _ | assumption | apply below_dr | apply below_dn | apply below_al)) : Below w1.heap.size w1 _)) (fun hHeld => ?_)
              clear hK K
              try simp only [Act.put, List.setIfInBounds_toArray, List.set_cons_zero, List.set_cons_succ]
              refine wpAnyH_ready (rs := [15]) (by kernel_rfl) (by simp) ?_
              refine AllReadyH.cons (by simp only [List.getElem?_toArray, List.getElem?_cons_succ, List.getElem?_cons_zero]; rfl) (fun K hK => ?_) AllReadyH.nil
              go_simp
              refine hw.mono ?_; rintro e w6 ⟨rfl, hd6, hch6⟩; have hb16 : Below w1.heap.size w1 w6 := hch6.below hb15 (fun k hk => hk) hb15.size
              try go_simp
              refine hK.out _ _ (((by repeat (first | exact Below.refl _ _ | assumption | apply below_dr | apply below_dn | apply below_al)) : Below w1.heap.size w1 _)) (fun hHeld => ?_)
              clear hK K
              try simp only [Act.put, List.setIfInBounds_toArray, List.set_cons_zero, List.set_cons_succ]
              refine wpAnyH_done (by kernel_rfl) ?_ _
              have hd6' : Dev w6 (fun k => w1.heap.size ≤ k) b (dSync P0 (opsW 0 l)) (opsW 8 (l.take (k + 1))) := by
                rw [HNX.out]
                unfold opW
                rw [if_pos HK.out, ← HP.out]
                exact hd6.mono (fun k hk => hk.elim id (fun h => Nat.le_trans hb15.size h))
              have HD6 := Lib.hid hd6'
              clear hd6 hd6' hch6 hw hr5 hv5 hdW
              go_wp2_with fail
              go_roundw
              case rel => exact ⟨k + 1, by omega, by go_num, HD6.out, hb16⟩
              case measure => simp [intOf]; omega
            · have hk1 : (o.kind == 1) = false := by rw [beq_eq_false_iff_ne]; exact hkd
              have HK := Lib.hid hkd
              clear hkd
              go_wp2_with fail
              go_roundw
              case rel =>
                refine ⟨k + 1, by omega, by go_num, ?_, HW.out⟩
                rw [HNX.out]
                unfold opW
                rw [if_neg HK.out, List.append_nil]
                exact HD.out
              case measure => simp [intOf]; omega
          · have ht1 : decide (k < l.length) = false := decide_eq_false hlt
            have ht2 : decide ((k : Int) < (l.length : Int)) = false := decide_eq_false (by omega)
            rw [List.take_of_length_le (by omega)] at hd
            have hql : (opsW 8 l).length ≤ 1000000 := by have := opsW_length 8 l; omega
            have hcr : Calls Try.prog 33 #[.pointer (some ⟨b, 0, none⟩), .int .u64 (keep : Int), .int .i64 torn, .int .i64 part] _ _ := crash_any hd hql keep hkeep torn part
            have HW := Lib.hid hbw
            clear hd hbw
            go_wp2_with fail
            refine hcr.mono ?_
            rintro e w9 ⟨rfl, hd9, hch9⟩
            have hb19 : Below w1.heap.size w1 w9 := hch9.below HW.out (fun k hk => hk) HW.out.size
            have hl9 : (dCrash keep torn part 0 (dSync P0 (opsW 0 l)) (opsW 8 l)).length = 16 := by rw [dCrash_length, dSync_length, hcl]
            have hby9 := bytes_any hd9 (by decide)
            have hwt9 := fun X (hX : Below w9.heap.size w9 X) => waiting_any (hd9.below hX) (by decide)
            have hsz9 := hd9.sizes.1
            have hfst := joinP_first _ 8 (by rw [hl9]; decide) hsz9
            rw [dCrash_take keep torn part 8 _ 0 _ (opsW_high 8 l), ← joinP_first _ 8 (by rw [dSync_length, hcl]; decide) HSZ.out] at hfst
            have hsize9 := joinP_size hsz9
            rw [hl9] at hsize9
            obtain ⟨isS, hisS⟩ : ∃ isS, isS = joinP (dSync (dCrash keep torn part 0 (dSync P0 (opsW 0 l)) (opsW 8 l)) []) := ⟨_, rfl⟩
            rw [← hisS] at hby9
            have hisS2 : isS = joinP (dCrash keep torn part 0 (dSync P0 (opsW 0 l)) (opsW 8 l)) := hisS
            rw [← hisS2] at hfst hsize9
            obtain ⟨wasS, hwasS⟩ : ∃ wasS, wasS = joinP (dSync (dSync P0 (opsW 0 l)) []) := ⟨_, rfl⟩
            have hwasS2 : wasS = joinP (dSync P0 (opsW 0 l)) := hwasS
            rw [← hwasS2] at hfst
            have hsizeW : wasS.size = 16 * 256 := by rw [hwasS2]; exact HSW.out
            rw [← hwasS]
            have HB9 := Lib.hid (bl HB1.out hb19)
            clear hisS hisS2 hwasS hwasS2 hsz9 hd9 hch9 hcr hql hl9 hb19
            go_wp2_with fail
            refine hby9.mono ?_
            rintro e w10 ⟨v10, rfl, ho10, hb10⟩
            have hcv10 := own_conv ho10
            have hwt10 := fun X (hX : Below w10.heap.size w10 X) => hwt9 X (bl hb10 hX)
            have HF := Lib.hid (bl HB9.out hb10)
            have z1 : isS.size = 4096 := hsize9
            have z2 : wasS.size = 4096 := hsizeW
            have z3 : isS.extract 0 2048 = wasS.extract 0 2048 := hfst
            clear hsize9 hsizeW hfst
            clear hwt9 hby9 hb10
            go_wp2_with fail
            refine wp_region_held_drew (S := (fun X => Below w10.heap.size w10 X)) (by kernel_rfl) (((by repeat (first | exact Below.refl _ _ | assumption | apply below_dr | apply below_dn | apply below_al)) : Below w10.heap.size w10 _)) (fun hHeld => ?_)
            try simp only [Act.put, List.setIfInBounds_toArray, List.set_cons_zero, List.set_cons_succ]
            refine wpAnyH_take (i := 0) (v := ?_) (by simp only [List.getElem?_toArray, List.getElem?_cons_succ, List.getElem?_cons_zero]; rfl) (by kernel_rfl) (by kernel_rfl) (by kernel_rfl) (by exact fun _ _ _ h => h) (Or.inl ⟨by rfl, ?_⟩) (by assumption) ?_
            rotate_left
            · intro w hSw; (try dsimp only at hSw); go_simp; try with_reducible rfl
            try simp only [Act.put, List.setIfInBounds_toArray, List.set_cons_zero, List.set_cons_succ]
            refine wpAnyH_take (i := 1) (v := ?_) (by simp only [List.getElem?_toArray, List.getElem?_cons_succ, List.getElem?_cons_zero]; rfl) (by kernel_rfl) (by kernel_rfl) (by kernel_rfl) (by exact fun _ _ _ h => h) (Or.inl ⟨by rfl, ?_⟩) (by assumption) ?_
            rotate_left
            · intro w hSw; (try dsimp only at hSw); go_simp; try with_reducible rfl
            try simp only [Act.put, List.setIfInBounds_toArray, List.set_cons_zero, List.set_cons_succ]
            refine wpAnyH_take (i := 2) (v := ?_) (by simp only [List.getElem?_toArray, List.getElem?_cons_succ, List.getElem?_cons_zero]; rfl) (by kernel_rfl) (by kernel_rfl) (by kernel_rfl) (by exact fun _ _ _ h => h) (Or.inl ⟨by rfl, ?_⟩) (by assumption) ?_
            rotate_left
            · intro w hSw; (try dsimp only at hSw); go_simp; try with_reducible rfl
            try simp only [Act.put, List.setIfInBounds_toArray, List.set_cons_zero, List.set_cons_succ]
            refine wpAnyH_take (i := 3) (v := ?_) (by simp only [List.getElem?_toArray, List.getElem?_cons_succ, List.getElem?_cons_zero]; rfl) (by kernel_rfl) (by kernel_rfl) (by kernel_rfl) (by exact fun _ _ _ h => h) (Or.inl ⟨by rfl, ?_⟩) (by assumption) ?_
            rotate_left
            · intro w hSw; (try dsimp only at hSw); go_simp; try with_reducible rfl
            try simp only [Act.put, List.setIfInBounds_toArray, List.set_cons_zero, List.set_cons_succ]
            refine wpAnyH_take (i := 4) (v := ?_) (by simp only [List.getElem?_toArray, List.getElem?_cons_succ, List.getElem?_cons_zero]; rfl) (by kernel_rfl) (by kernel_rfl) (by kernel_rfl) (by exact fun _ _ _ h => h) (Or.inl ⟨by rfl, ?_⟩) (by assumption) ?_
            rotate_left
            · intro w hSw; (try dsimp only at hSw); go_simp; try with_reducible rfl
            try simp only [Act.put, List.setIfInBounds_toArray, List.set_cons_zero, List.set_cons_succ]
            refine wpAnyH_take (i := 5) (v := ?_) (by simp only [List.getElem?_toArray, List.getElem?_cons_succ, List.getElem?_cons_zero]; rfl) (by kernel_rfl) (by kernel_rfl) (by kernel_rfl) (by exact fun _ _ _ h => h) (Or.inl ⟨by rfl, ?_⟩) (by assumption) ?_
            rotate_left
            · intro w hSw; (try dsimp only at hSw); go_simp; try with_reducible rfl
            try simp only [Act.put, List.setIfInBounds_toArray, List.set_cons_zero, List.set_cons_succ]
            refine wpAnyH_take (i := 6) (v := ?_) (by simp only [List.getElem?_toArray, List.getElem?_cons_succ, List.getElem?_cons_zero]; rfl) (by kernel_rfl) (by kernel_rfl) (by kernel_rfl) (by exact fun _ _ _ h => h) (Or.inl ⟨by rfl, ?_⟩) (by assumption) ?_
            rotate_left
            · intro w hSw; (try dsimp only at hSw); go_simp; try with_reducible rfl
            try simp only [Act.put, List.setIfInBounds_toArray, List.set_cons_zero, List.set_cons_succ]
            refine wpAnyH_take (i := 7) (v := ?_) (by simp only [List.getElem?_toArray, List.getElem?_cons_succ, List.getElem?_cons_zero]; rfl) (by kernel_rfl) (by kernel_rfl) (by kernel_rfl) (by exact fun _ _ _ h => h) (Or.inl ⟨by rfl, ?_⟩) (by assumption) ?_
            rotate_left
            · intro w hSw; (try dsimp only at hSw); go_simp; try with_reducible rfl
            try simp only [Act.put, List.setIfInBounds_toArray, List.set_cons_zero, List.set_cons_succ]
            refine wpAnyH_take (i := 8) (v := ?_) (by simp only [List.getElem?_toArray, List.getElem?_cons_succ, List.getElem?_cons_zero]; rfl) (by kernel_rfl) (by kernel_rfl) (by kernel_rfl) (by exact fun _ _ _ h => h) (Or.inl ⟨by rfl, ?_⟩) (by assumption) ?_
            rotate_left
            · intro w hSw; (try dsimp only at hSw); go_simp; try with_reducible rfl
            try simp only [Act.put, List.setIfInBounds_toArray, List.set_cons_zero, List.set_cons_succ]
            refine wpAnyH_take (i := 9) (v := ?_) (by simp only [List.getElem?_toArray, List.getElem?_cons_succ, List.getElem?_cons_zero]; rfl) (by kernel_rfl) (by kernel_rfl) (by kernel_rfl) (by exact fun _ _ _ h => h) (Or.inl ⟨by rfl, ?_⟩) (by assumption) ?_
            rotate_left
            · intro w hSw; (try dsimp only at hSw); go_simp; try with_reducible rfl
            try simp only [Act.put, List.setIfInBounds_toArray, List.set_cons_zero, List.set_cons_succ]
            refine wpAnyH_take (i := 10) (v := ?_) (by simp only [List.getElem?_toArray, List.getElem?_cons_succ, List.getElem?_cons_zero]; rfl) (by kernel_rfl) (by kernel_rfl) (by kernel_rfl) (by exact fun _ _ _ h => h) (Or.inl ⟨by rfl, ?_⟩) (by assumption) ?_
            rotate_left
            · intro w hSw; (try dsimp only at hSw); go_simp; try with_reducible rfl
            try simp only [Act.put, List.setIfInBounds_toArray, List.set_cons_zero, List.set_cons_succ]
            refine wpAnyH_take (i := 11) (v := ?_) (by simp only [List.getElem?_toArray, List.getElem?_cons_succ, List.getElem?_cons_zero]; rfl) (by kernel_rfl) (by kernel_rfl) (by kernel_rfl) (by exact fun _ _ _ h => h) (Or.inl ⟨by rfl, ?_⟩) (by assumption) ?_
            rotate_left
            · intro w hSw; (try dsimp only at hSw); go_simp; try with_reducible rfl
            try simp only [Act.put, List.setIfInBounds_toArray, List.set_cons_zero, List.set_cons_succ]
            refine wpAnyH_take (i := 12) (v := ?_) (by simp only [List.getElem?_toArray, List.getElem?_cons_succ, List.getElem?_cons_zero]; rfl) (by kernel_rfl) (by kernel_rfl) (by kernel_rfl) (by exact fun _ _ _ h => h) (Or.inl ⟨by rfl, ?_⟩) (by assumption) ?_
            rotate_left
            · intro w hSw; (try dsimp only at hSw); go_simp; try with_reducible rfl
            try simp only [Act.put, List.setIfInBounds_toArray, List.set_cons_zero, List.set_cons_succ]
            refine wpAnyH_take (i := 13) (v := ?_) (by simp only [List.getElem?_toArray, List.getElem?_cons_succ, List.getElem?_cons_zero]; rfl) (by kernel_rfl) (by kernel_rfl) (by kernel_rfl) (by exact fun _ _ _ h => h) (Or.inl ⟨by rfl, ?_⟩) (by assumption) ?_
            rotate_left
            · intro w hSw; (try dsimp only at hSw); go_simp; try with_reducible rfl
            try simp only [Act.put, List.setIfInBounds_toArray, List.set_cons_zero, List.set_cons_succ]
            refine wpAnyH_ready (rs := [14]) (by kernel_rfl) (by simp) ?_
            refine AllReadyH.cons (by simp only [List.getElem?_toArray, List.getElem?_cons_succ, List.getElem?_cons_zero]; rfl) (fun K hK => ?_) AllReadyH.nil
            go_simp
            refine (hwt10 _ (by repeat (first | exact Below.refl _ _ | assumption | apply below_dr | apply below_dn | apply below_al))).mono ?_; rintro e w11 ⟨rfl, rfl⟩
            try go_simp
            refine hK.out _ _ (((by repeat (first | exact Below.refl _ _ | assumption | apply below_dr | apply below_dn | apply below_al)) : Below w10.heap.size w10 _)) (fun hHeld => ?_)
            clear hK K
            try simp only [Act.put, List.setIfInBounds_toArray, List.set_cons_zero, List.set_cons_succ]
            refine wpAnyH_take (i := 15) (v := ?_) (by simp only [List.getElem?_toArray, List.getElem?_cons_succ, List.getElem?_cons_zero]; rfl) (by kernel_rfl) (by kernel_rfl) (by kernel_rfl) (by exact fun _ _ _ h => h) (Or.inl ⟨by rfl, ?_⟩) (by assumption) ?_
            rotate_left
            · intro w hSw; (try dsimp only at hSw); go_simp; try with_reducible rfl
            try simp only [Act.put, List.setIfInBounds_toArray, List.set_cons_zero, List.set_cons_succ]
            refine wpAnyH_take (i := 16) (v := ?_) (by simp only [List.getElem?_toArray, List.getElem?_cons_succ, List.getElem?_cons_zero]; rfl) (by kernel_rfl) (by kernel_rfl) (by kernel_rfl) (by exact fun _ _ _ h => h) (Or.inl ⟨by rfl, ?_⟩) (by assumption) ?_
            rotate_left
            · intro w hSw; (try dsimp only at hSw); go_simp; try with_reducible rfl
            try simp only [Act.put, List.setIfInBounds_toArray, List.set_cons_zero, List.set_cons_succ]
            refine wpAnyH_take (i := 17) (v := ?_) (by simp only [List.getElem?_toArray, List.getElem?_cons_succ, List.getElem?_cons_zero]; rfl) (by kernel_rfl) (by kernel_rfl) (by kernel_rfl) (by exact fun _ _ _ h => h) (Or.inl ⟨by rfl, ?_⟩) (by assumption) ?_
            rotate_left
            · intro w hSw; (try dsimp only at hSw); go_simp; try with_reducible rfl
            try simp only [Act.put, List.setIfInBounds_toArray, List.set_cons_zero, List.set_cons_succ]
            refine wpAnyH_done (by kernel_rfl) ?_ _
            go_wp2_with fail
            go_ret
            exact ⟨rfl, bl HF.out (by repeat (first | exact Below.refl _ _ | assumption | apply below_dr | apply below_dn | apply below_al))⟩
theorem stays_row (A : Option Addr) (l : List OpR) (cap : Nat) (keep torn part : Int) (w : World) (wk : (Lit.int .u64 keep).wf = true) (hl : l.length ≤ cap) (hcm : cap ≤ maxLen) (ha : OpsAt w A l) (hw : ∀ o ∈ l, OpW o) :
    Calls Try.prog 10 #[.slice A l.length cap, .int .u64 keep, .int .i64 torn, .int .i64 part] w fun e w' => e = .returned (.bool true) ∧ Below w.heap.size w w' := by
  obtain ⟨keep, rfl, hk⟩ := u64_nat wk
  exact stays_any A l cap keep torn part w hk ha hw hl hcm
end Go.Proofs.Ytpdhfnpnilpipaa.Dv
