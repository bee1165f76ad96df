/- The law of plays: whatever is written, read, synced and cut off, each answer is the document's, and so are all bytes; by a walk. -/
import Derived.Test.YtpdhfnpnilpipaaDvH
import Derived.Test.YtpdhfnpnilpipaaDvQ
namespace Go.Proofs.Ytpdhfnpnilpipaa.Dv
open Go.RowKit
set_option linter.unusedSimpArgs false
set_option linter.unusedVariables false

set_option maxRecDepth 100000 in
set_option maxHeartbeats 4000000 in
theorem plays_any (p : Nat) (A : Option Addr) (l : List OpR) (cap : Nat) (w : World) (hp : p < 256) (ha : OpsAt w A l) (hw : ∀ o ∈ l, OpW o) (hl : l.length ≤ cap) (hcm : cap ≤ maxLen) :
    Calls Try.prog 9 #[.int .u8 (p : Int), .slice A l.length cap] w fun e w' => e = .returned (.bool true) ∧ Below w.heap.size w w' := by
  have hfa := fun X (hX : Below w.heap.size w X) => few_any A l cap X (ha.below hX) hw hl hcm
  unfold maxLen at hcm
  have tok : True := trivial
  obtain ⟨n, hn⟩ : ∃ n, n = p % 20 := ⟨_, rfl⟩
  have hrem : (p : Int) % 20 = (n : Int) := by omega
  have hn20 : n < 20 := by omega
  clear hn
  cases hfew : few l with
  | false =>
    rw [hfew] at hfa
    go_enter Try.func9, Try.ntmps9
    go_wp2_with fail
    refine (awake_any _).mono ?_
    rintro e w1 ⟨rfl, hb1⟩
    go_wp2_with fail
    refine (hfa _ hb1).mono ?_
    rintro e w2 ⟨rfl, rfl⟩
    go_wp2_with fail
    refine (awake_any _).mono ?_
    rintro e w3 ⟨rfl, hb3⟩
    go_wp2_with fail
    go_ret
    exact ⟨rfl, bl hb1 hb3⟩
  | true =>
    rw [hfew] at hfa
    have hfw := few_of l hfew
    have hlen := hfw.1
    clear hfw hfew
    go_enter Try.func9, Try.ntmps9
    go_wp2_with fail
    refine (awake_any _).mono ?_
    rintro e w1 ⟨rfl, hb1⟩
    go_wp2_with fail
    refine (hfa _ hb1).mono ?_
    rintro e w2 ⟨rfl, rfl⟩
    go_wp2_with fail
    refine (new_any (n : Int) _).mono ?_
    rintro e w2 ⟨a, rfl, hd2, hb2⟩
    go_wp2_with fail
    refine (rnew_any (n : Int) _).mono ?_
    rintro e w3 ⟨r, rfl, hd3, hb3⟩
    have hpg := pages_any (hd2.below hb3)
    have hcl : (List.replicate (clamp (n : Int)) zeroPage).length = n := by rw [List.length_replicate]; unfold clamp; omega
    rw [hcl] at hpg
    have HT0 := Lib.hid (twin_new hd2 hd3 hb2 hb3)
    have HCL := Lib.hid hcl
    have HW0 := Lib.hid (bl hb2 hb3)
    have HB1 := Lib.hid hb1
    have HA := Lib.hid ha
    have HOW := Lib.hid hw
    clear hd2 hd3 hb2 hb3 hb1 ha hw hfa hcl
    go_wp2_with fail
    refine hpg.mono ?_
    rintro e w4 ⟨rfl, rfl⟩
    clear hpg
    go_wp2_with fail
    go_loopw [39] (fun u wr => ∃ k : Nat, k ≤ l.length ∧ u = .int .i64 k ∧ PlayRel w1 a r n k wr) (fun u _ => l.length - (intOf u).toNat)
    case atStart => exact ⟨0, Nat.zero_le _, rfl, _, _, HT0.out, HCL.out, Nat.zero_le _, HW0.out⟩
    case round =>
      obtain ⟨k, hk, rfl, P, Q, tw, hlp, hlq, hbw⟩ := hrel
      by_cases hlt : k < l.length
      · have ht1 : decide (k < l.length) = true := decide_eq_true hlt
        have ht2 : decide ((k : Int) < (l.length : Int)) = true := decide_eq_true (by omega)
        obtain ⟨o, ho⟩ : ∃ o, l[k]? = some o := ⟨_, List.getElem?_eq_getElem hlt⟩
        obtain ⟨g, off, rfl, hat⟩ := HA.out k o ho
        have how := HOW.out o (List.mem_of_getElem? ho)
        have hokeep := how.keep
        have hob : o.b.size ≤ 9223372036854775807 := how.b
        have hat' := hat.below (bl HB1.out hbw)
        obtain ⟨f1, f2, f3, f4, f5⟩ := hat'
        obtain ⟨kd, oi, on, okp, obs⟩ := o
        dsimp only at f1 f2 f3 f4 f5 hokeep hob
        obtain ⟨wb, hwb⟩ : ∃ wb, wb = wr.alloc (.cells #[.int .i64 kd, .int .i64 oi, .int .i64 on, .int .u64 (okp : Int), .string obs] 61) := ⟨_, rfl⟩
        have hbB := below_al (Below.refl wr.heap.size wr) (.cells #[.int .i64 kd, .int .i64 oi, .int .i64 on, .int .u64 (okp : Int), .string obs] 61)
        have hbox := (op_boxed wr ⟨kd, oi, on, okp, obs⟩ 61).five
        have hsbx : wr.heap.size < (wr.alloc (.cells #[.int .i64 kd, .int .i64 oi, .int .i64 on, .int .u64 (okp : Int), .string obs] 61)).heap.size := by rw [World.size_alloc]; omega
        dsimp only at hbox
        rw [← hwb] at hbB hbox hsbx
        have HC := Lib.hid hbox
        have HSBX := Lib.hid hsbx
        have HP := Lib.hid hlp
        have HQK := Lib.hid hlq
        have HQ := Lib.hid (show Q.length ≤ 1000000 by omega)
        have TB := Lib.hid (tw.below hbB)
        have HW1B := Lib.hid (bl hbw hbB)
        clear ho hat hbox hsbx hlp hlq tw hbw how
        by_cases hkd : kd = 1
        · have hk1 : (kd == 1) = true := beq_iff_eq.2 hkd
          have hk2 : (kd == 2) = false := by rw [beq_eq_false_iff_ne]; omega
          have hk3 : (kd == 3) = false := by rw [beq_eq_false_iff_ne]; omega
          have hk4 : (kd == 4) = false := by rw [beq_eq_false_iff_ne]; omega
          clear hkd
          have hall : ∀ X : World, X.heap[wr.heap.size]? = wb.heap[wr.heap.size]? → X.cell? ⟨wr.heap.size, 1, none⟩ = some (.int .i64 oi) ∧ X.cell? ⟨wr.heap.size, 4, none⟩ = some (.string obs) := fun X hX => ⟨(World.cell?_of_block hX).trans HC.out.2.1, (World.cell?_of_block hX).trans HC.out.2.2.2.2⟩
          have hcI := fun X hX => (hall X hX).1
          have hcB := fun X hX => (hall X hX).2
          clear hall
          by_cases hgood : 0 ≤ oi ∧ oi < n ∧ obs.size = 256
          · obtain ⟨hg0, hg1, hsz⟩ := hgood
            have HSZ := Lib.hid hsz
            clear hsz
            obtain ⟨i, rfl⟩ : ∃ i : Nat, oi = (i : Int) := ⟨Int.toNat oi, by omega⟩
            go_wp2_with fail
            rw [← hwb]
            clear hwb
            have hin : i < n := by omega
            have hsb := hbB.size
            obtain ⟨cb, wc, hcv, hcc, hrc, hbc0⟩ := conv_in wb.drew obs
            have hbc : Below wb.heap.size wb wc := bl (below_dr (Below.refl _ _)) hbc0
            have hb1c := bl HW1B.out hbc
            have twc := TB.out.below hbc
            obtain ⟨Fa, hda, hFa, hna⟩ := twc.useA hb1c.size (Nat.le_trans hsb hbc.size)
            have hwa := write_ok hda i (by rw [HP.out]; exact hin) _ cb obs HSZ.out hrc HQ.out
            have hxc : wc.heap[wr.heap.size]? = wb.heap[wr.heap.size]? := hbc.block _ HSBX.out
            have HSB : Hid (wr.heap.size < wb.heap.size) := Lib.hid HSBX.out
            clear twc hda hbc0 hcc hrc hbB
            refine wp_region_held_drew (S := (fun X => X.heap[wr.heap.size]? = wb.heap[wr.heap.size]?)) (by kernel_rfl) (rfl) (fun hHeld => ?_)
            try simp only [Act.put, List.setIfInBounds_toArray, List.set_cons_zero, List.set_cons_succ]
            refine wpAnyH_take (i := 0) (v := ?_) (by simp only [List.getElem?_toArray, List.getElem?_cons_succ, List.getElem?_cons_zero]; rfl) (by kernel_rfl) (by kernel_rfl) (by kernel_rfl) (by exact fun _ _ _ h => h) (Or.inl ⟨by rfl, ?_⟩) (by assumption) ?_
            rotate_left
            · intro w hSw; (try dsimp only at hSw); go_simp; try with_reducible rfl
            try simp only [Act.put, List.setIfInBounds_toArray, List.set_cons_zero, List.set_cons_succ]
            refine wpAnyH_take (i := 1) (v := ?_) (by simp only [List.getElem?_toArray, List.getElem?_cons_succ, List.getElem?_cons_zero]; rfl) (by kernel_rfl) (by kernel_rfl) (by kernel_rfl) (by exact fun _ _ _ h => h) (Or.inl ⟨by rfl, ?_⟩) (by assumption) ?_
            rotate_left
            · intro w hSw; (try dsimp only at hSw); go_simp; try with_reducible rfl
            try simp only [Act.put, List.setIfInBounds_toArray, List.set_cons_zero, List.set_cons_succ]
            refine wpAnyH_take (i := 2) (v := ?_) (by simp only [List.getElem?_toArray, List.getElem?_cons_succ, List.getElem?_cons_zero]; rfl) (by kernel_rfl) (by kernel_rfl) (by kernel_rfl) (by exact fun _ _ _ h => h) (Or.inl ⟨by rfl, ?_⟩) (by assumption) ?_
            rotate_left
            · intro w hSw; (try dsimp only at hSw); go_simp; try with_reducible rfl
            try simp only [Act.put, List.setIfInBounds_toArray, List.set_cons_zero, List.set_cons_succ]
            refine wpAnyH_take (i := 3) (v := ?_) (by simp only [List.getElem?_toArray, List.getElem?_cons_succ, List.getElem?_cons_zero]; rfl) (by kernel_rfl) (by kernel_rfl) (by kernel_rfl) (by exact fun _ _ _ h => h) (Or.inl ⟨by rfl, ?_⟩) (by assumption) ?_
            rotate_left
            · intro w hSw; (try dsimp only at hSw); go_simp; try with_reducible rfl
            try simp only [Act.put, List.setIfInBounds_toArray, List.set_cons_zero, List.set_cons_succ]
            refine wpAnyH_take (i := 4) (v := ?_) (by simp only [List.getElem?_toArray, List.getElem?_cons_succ, List.getElem?_cons_zero]; rfl) (by kernel_rfl) (by kernel_rfl) (by kernel_rfl) (by exact fun _ _ _ h => h) (Or.inl ⟨by rfl, ?_⟩) (by assumption) ?_
            rotate_left
            · intro w hSw; (try dsimp only at hSw); go_simp; try with_reducible rfl
            try simp only [Act.put, List.setIfInBounds_toArray, List.set_cons_zero, List.set_cons_succ]
            refine wpAnyH_take (i := 7) (v := ?_) (by simp only [List.getElem?_toArray, List.getElem?_cons_succ, List.getElem?_cons_zero]; rfl) (by kernel_rfl) (by kernel_rfl) (by kernel_rfl) (by exact fun _ _ _ h => h) (Or.inl ⟨by rfl, ?_⟩) (by assumption) ?_
            rotate_left
            · intro w hSw; (try dsimp only at hSw); go_simp; try with_reducible rfl
            try simp only [Act.put, List.setIfInBounds_toArray, List.set_cons_zero, List.set_cons_succ]
            refine wpAnyH_take (i := 8) (v := ?_) (by simp only [List.getElem?_toArray, List.getElem?_cons_succ, List.getElem?_cons_zero]; rfl) (by kernel_rfl) (by kernel_rfl) (by kernel_rfl) (by exact fun _ _ _ h => h) (Or.inl ⟨by rfl, ?_⟩) (by assumption) ?_
            rotate_left
            · intro w hSw; (try dsimp only at hSw); go_simp; try with_reducible rfl
            try simp only [Act.put, List.setIfInBounds_toArray, List.set_cons_zero, List.set_cons_succ]
            refine wpAnyH_take (i := 9) (v := ?_) (by simp only [List.getElem?_toArray, List.getElem?_cons_succ, List.getElem?_cons_zero]; rfl) (by kernel_rfl) (by kernel_rfl) (by kernel_rfl) (by exact fun _ _ _ h => h) (Or.inl ⟨by rfl, ?_⟩) (by assumption) ?_
            rotate_left
            · intro w hSw; (try dsimp only at hSw); go_simp; try with_reducible rfl
            try simp only [Act.put, List.setIfInBounds_toArray, List.set_cons_zero, List.set_cons_succ]
            refine wpAnyH_take (i := 10) (v := ?_) (by simp only [List.getElem?_toArray, List.getElem?_cons_succ, List.getElem?_cons_zero]; rfl) (by kernel_rfl) (by kernel_rfl) (by kernel_rfl) (by exact fun _ _ _ h => h) (Or.inl ⟨by rfl, ?_⟩) (by assumption) ?_
            rotate_left
            · intro w hSw; (try dsimp only at hSw); go_simp; try with_reducible rfl
            try simp only [Act.put, List.setIfInBounds_toArray, List.set_cons_zero, List.set_cons_succ]
            refine wpAnyH_take (i := 11) (v := ?_) (by simp only [List.getElem?_toArray, List.getElem?_cons_succ, List.getElem?_cons_zero]; rfl) (by kernel_rfl) (by kernel_rfl) (by kernel_rfl) (by exact fun _ _ _ h => h) (Or.inl ⟨by rfl, ?_⟩) (by assumption) ?_
            rotate_left
            · intro w hSw; (try dsimp only at hSw); go_simp; try with_reducible rfl
            try simp only [Act.put, List.setIfInBounds_toArray, List.set_cons_zero, List.set_cons_succ]
            refine wpAnyH_ready (rs := [5]) (by kernel_rfl) (by simp) ?_
            refine AllReadyH.cons (by simp only [List.getElem?_toArray, List.getElem?_cons_succ, List.getElem?_cons_zero]; rfl) (fun K hK => ?_) AllReadyH.nil
            go_simp
            try rfl
            try go_simp
            refine hK.out _ _ ((by first | rfl | assumption)) (fun hHeld => ?_)
            clear hK K
            try simp only [Act.put, List.setIfInBounds_toArray, List.set_cons_zero, List.set_cons_succ]
            refine wpAnyH_ready (rs := [6]) (by kernel_rfl) (by simp) ?_
            refine AllReadyH.cons (by simp only [List.getElem?_toArray, List.getElem?_cons_succ, List.getElem?_cons_zero]; rfl) (fun K hK => ?_) AllReadyH.nil
            go_simp
            refine hwa.mono ?_; rintro e w6 ⟨rfl, hd6, hch6⟩; have tw6 := hna w6 _ _ hd6 hch6; have hb16 := hch6.below hb1c (fun k hk => (hFa k hk).1) hb1c.size; have hx6 : w6.heap[wr.heap.size]? = wb.heap[wr.heap.size]? := (hch6.block _ (Nat.lt_of_lt_of_le HSB.out hbc.size) (fun hf => by have := (hFa _ hf).2; omega)).trans (hbc.block _ HSB.out); have hs6 := hch6.size; obtain ⟨Fr, hdr, hFr, hnr⟩ := tw6.useR hb16.size (Nat.le_refl _); have hwr := rwrite_ok hdr i (by rw [HP.out]; exact hin) obs HSZ.out HQ.out
            try go_simp
            refine hK.out _ _ ((by first | rfl | assumption)) (fun hHeld => ?_)
            clear hK K
            try simp only [Act.put, List.setIfInBounds_toArray, List.set_cons_zero, List.set_cons_succ]
            refine wpAnyH_ready (rs := [12]) (by kernel_rfl) (by simp) ?_
            refine AllReadyH.cons (by simp only [List.getElem?_toArray, List.getElem?_cons_succ, List.getElem?_cons_zero]; rfl) (fun K hK => ?_) AllReadyH.nil
            go_simp
            refine hwr.mono ?_; rintro e w7 ⟨rfl, hd7, hch7⟩; have tw7 := hnr w7 _ _ hd7 hch7; have hb17 := hch7.below hb16 (fun k hk => (hFr k hk).1) hb16.size; have hx7 : w7.heap[wr.heap.size]? = wb.heap[wr.heap.size]? := (hch7.block _ (Nat.lt_of_lt_of_le HSB.out (Nat.le_trans hbc.size hs6)) (fun hf => by have := (hFr _ hf).2; omega)).trans hx6
            try go_simp
            refine hK.out _ _ ((by first | rfl | assumption)) (fun hHeld => ?_)
            clear hK K
            try simp only [Act.put, List.setIfInBounds_toArray, List.set_cons_zero, List.set_cons_succ]
            refine wpAnyH_take (i := 13) (v := ?_) (by simp only [List.getElem?_toArray, List.getElem?_cons_succ, List.getElem?_cons_zero]; rfl) (by kernel_rfl) (by kernel_rfl) (by kernel_rfl) (by exact fun _ _ _ h => h) (Or.inl ⟨by rfl, ?_⟩) (by assumption) ?_
            rotate_left
            · intro w hSw; (try dsimp only at hSw); go_simp; try with_reducible rfl
            try simp only [Act.put, List.setIfInBounds_toArray, List.set_cons_zero, List.set_cons_succ]
            refine wpAnyH_done (by kernel_rfl) ?_ _
            have TW := Lib.hid tw7
            have HBX := Lib.hid hb17
            have HPX := HP
            have HQX := Lib.hid (show (Q ++ [(i, obs)]).length ≤ k + 1 by rw [List.length_append, List.length_singleton]; have := HQK.out; omega)
            have HTX := Lib.hid (show w6.heap.size ≤ w7.heap.size ∧ w7.heap.size ≤ w7.heap.size from ⟨hch7.size, Nat.le_refl _⟩)
            clear hd6 hch6 tw6 hb16 hx6 hs6 hdr hnr hwr hd7 hch7 tw7 hb17 hx7 hwa hna hcv
            obtain ⟨Aw, cw, hcw⟩ := TW.out.waits
            have hql : (Q ++ [(i, obs)]).length ≤ 1000000 := Nat.le_trans HQX.out (by omega)
            have hwt := fun n => TW.out.waiting hql n
            have HWT := Lib.hid hwt
            clear hwt
            go_wp2_with fail
            go_quiet ((go_at_call 28; exact Calls.quiet_of_same (HWT.out _)))
            clear hcw
            go_wp2_with fail
            go_roundw
            case rel => exact ⟨k + 1, by omega, by go_num, play_rel TW.out rfl HBX.out HPX.out HQX.out HTX.out.1 HTX.out.2 rfl⟩
            case measure => simp [intOf]; omega
          · have hbad : oi < 0 ∨ (n : Int) ≤ oi ∨ obs.size ≠ 256 := by omega
            clear hgood
            go_wp2_with fail
            rw [← hwb]
            clear hwb
            have hsb := hbB.size
            obtain ⟨cb, wc, hcv, hcc, hrc, hbc0⟩ := conv_in wb.drew obs
            have hbc : Below wb.heap.size wb wc := bl (below_dr (Below.refl _ _)) hbc0
            have hb1c := bl HW1B.out hbc
            have twc := TB.out.below hbc
            obtain ⟨Fa, hda, -, -⟩ := twc.useA hb1c.size (Nat.le_trans hsb hbc.size)
            obtain ⟨Fr, hdr, -, -⟩ := twc.useR hb1c.size (Nat.le_trans hsb hbc.size)
            have hwa := write_bad hda oi (some ⟨wb.heap.size, 0, none⟩) obs.size cb hob (by rw [HP.out]; exact hbad)
            have hwr := rwrite_bad hdr oi obs hob (by rw [HP.out]; exact hbad)
            have hxc : wc.heap[wr.heap.size]? = wb.heap[wr.heap.size]? := hbc.block _ HSBX.out
            clear hda hdr hcc hrc
            refine wp_region_held_drew (S := (fun X => X.heap[wr.heap.size]? = wb.heap[wr.heap.size]?)) (by kernel_rfl) (rfl) (fun hHeld => ?_)
            try simp only [Act.put, List.setIfInBounds_toArray, List.set_cons_zero, List.set_cons_succ]
            refine wpAnyH_take (i := 0) (v := ?_) (by simp only [List.getElem?_toArray, List.getElem?_cons_succ, List.getElem?_cons_zero]; rfl) (by kernel_rfl) (by kernel_rfl) (by kernel_rfl) (by exact fun _ _ _ h => h) (Or.inl ⟨by rfl, ?_⟩) (by assumption) ?_
            rotate_left
            · intro w hSw; (try dsimp only at hSw); go_simp; try with_reducible rfl
            try simp only [Act.put, List.setIfInBounds_toArray, List.set_cons_zero, List.set_cons_succ]
            refine wpAnyH_take (i := 1) (v := ?_) (by simp only [List.getElem?_toArray, List.getElem?_cons_succ, List.getElem?_cons_zero]; rfl) (by kernel_rfl) (by kernel_rfl) (by kernel_rfl) (by exact fun _ _ _ h => h) (Or.inl ⟨by rfl, ?_⟩) (by assumption) ?_
            rotate_left
            · intro w hSw; (try dsimp only at hSw); go_simp; try with_reducible rfl
            try simp only [Act.put, List.setIfInBounds_toArray, List.set_cons_zero, List.set_cons_succ]
            refine wpAnyH_take (i := 2) (v := ?_) (by simp only [List.getElem?_toArray, List.getElem?_cons_succ, List.getElem?_cons_zero]; rfl) (by kernel_rfl) (by kernel_rfl) (by kernel_rfl) (by exact fun _ _ _ h => h) (Or.inl ⟨by rfl, ?_⟩) (by assumption) ?_
            rotate_left
            · intro w hSw; (try dsimp only at hSw); go_simp; try with_reducible rfl
            try simp only [Act.put, List.setIfInBounds_toArray, List.set_cons_zero, List.set_cons_succ]
            refine wpAnyH_take (i := 3) (v := ?_) (by simp only [List.getElem?_toArray, List.getElem?_cons_succ, List.getElem?_cons_zero]; rfl) (by kernel_rfl) (by kernel_rfl) (by kernel_rfl) (by exact fun _ _ _ h => h) (Or.inl ⟨by rfl, ?_⟩) (by assumption) ?_
            rotate_left
            · intro w hSw; (try dsimp only at hSw); go_simp; try with_reducible rfl
            try simp only [Act.put, List.setIfInBounds_toArray, List.set_cons_zero, List.set_cons_succ]
            refine wpAnyH_take (i := 4) (v := ?_) (by simp only [List.getElem?_toArray, List.getElem?_cons_succ, List.getElem?_cons_zero]; rfl) (by kernel_rfl) (by kernel_rfl) (by kernel_rfl) (by exact fun _ _ _ h => h) (Or.inl ⟨by rfl, ?_⟩) (by assumption) ?_
            rotate_left
            · intro w hSw; (try dsimp only at hSw); go_simp; try with_reducible rfl
            try simp only [Act.put, List.setIfInBounds_toArray, List.set_cons_zero, List.set_cons_succ]
            refine wpAnyH_take (i := 7) (v := ?_) (by simp only [List.getElem?_toArray, List.getElem?_cons_succ, List.getElem?_cons_zero]; rfl) (by kernel_rfl) (by kernel_rfl) (by kernel_rfl) (by exact fun _ _ _ h => h) (Or.inl ⟨by rfl, ?_⟩) (by assumption) ?_
            rotate_left
            · intro w hSw; (try dsimp only at hSw); go_simp; try with_reducible rfl
            try simp only [Act.put, List.setIfInBounds_toArray, List.set_cons_zero, List.set_cons_succ]
            refine wpAnyH_take (i := 8) (v := ?_) (by simp only [List.getElem?_toArray, List.getElem?_cons_succ, List.getElem?_cons_zero]; rfl) (by kernel_rfl) (by kernel_rfl) (by kernel_rfl) (by exact fun _ _ _ h => h) (Or.inl ⟨by rfl, ?_⟩) (by assumption) ?_
            rotate_left
            · intro w hSw; (try dsimp only at hSw); go_simp; try with_reducible rfl
            try simp only [Act.put, List.setIfInBounds_toArray, List.set_cons_zero, List.set_cons_succ]
            refine wpAnyH_take (i := 9) (v := ?_) (by simp only [List.getElem?_toArray, List.getElem?_cons_succ, List.getElem?_cons_zero]; rfl) (by kernel_rfl) (by kernel_rfl) (by kernel_rfl) (by exact fun _ _ _ h => h) (Or.inl ⟨by rfl, ?_⟩) (by assumption) ?_
            rotate_left
            · intro w hSw; (try dsimp only at hSw); go_simp; try with_reducible rfl
            try simp only [Act.put, List.setIfInBounds_toArray, List.set_cons_zero, List.set_cons_succ]
            refine wpAnyH_take (i := 10) (v := ?_) (by simp only [List.getElem?_toArray, List.getElem?_cons_succ, List.getElem?_cons_zero]; rfl) (by kernel_rfl) (by kernel_rfl) (by kernel_rfl) (by exact fun _ _ _ h => h) (Or.inl ⟨by rfl, ?_⟩) (by assumption) ?_
            rotate_left
            · intro w hSw; (try dsimp only at hSw); go_simp; try with_reducible rfl
            try simp only [Act.put, List.setIfInBounds_toArray, List.set_cons_zero, List.set_cons_succ]
            refine wpAnyH_take (i := 11) (v := ?_) (by simp only [List.getElem?_toArray, List.getElem?_cons_succ, List.getElem?_cons_zero]; rfl) (by kernel_rfl) (by kernel_rfl) (by kernel_rfl) (by exact fun _ _ _ h => h) (Or.inl ⟨by rfl, ?_⟩) (by assumption) ?_
            rotate_left
            · intro w hSw; (try dsimp only at hSw); go_simp; try with_reducible rfl
            try simp only [Act.put, List.setIfInBounds_toArray, List.set_cons_zero, List.set_cons_succ]
            refine wpAnyH_ready (rs := [5]) (by kernel_rfl) (by simp) ?_
            refine AllReadyH.cons (by simp only [List.getElem?_toArray, List.getElem?_cons_succ, List.getElem?_cons_zero]; rfl) (fun K hK => ?_) AllReadyH.nil
            go_simp
            try rfl
            try go_simp
            refine hK.out _ _ ((by first | rfl | assumption)) (fun hHeld => ?_)
            clear hK K
            try simp only [Act.put, List.setIfInBounds_toArray, List.set_cons_zero, List.set_cons_succ]
            refine wpAnyH_ready (rs := [6]) (by kernel_rfl) (by simp) ?_
            refine AllReadyH.cons (by simp only [List.getElem?_toArray, List.getElem?_cons_succ, List.getElem?_cons_zero]; rfl) (fun K hK => ?_) AllReadyH.nil
            go_simp
            refine hwa.mono ?_; rintro e w6 ⟨rfl, rfl⟩
            try go_simp
            refine hK.out _ _ ((by first | rfl | assumption)) (fun hHeld => ?_)
            clear hK K
            try simp only [Act.put, List.setIfInBounds_toArray, List.set_cons_zero, List.set_cons_succ]
            refine wpAnyH_ready (rs := [12]) (by kernel_rfl) (by simp) ?_
            refine AllReadyH.cons (by simp only [List.getElem?_toArray, List.getElem?_cons_succ, List.getElem?_cons_zero]; rfl) (fun K hK => ?_) AllReadyH.nil
            go_simp
            refine hwr.mono ?_; rintro e w6 ⟨rfl, rfl⟩
            try go_simp
            refine hK.out _ _ ((by first | rfl | assumption)) (fun hHeld => ?_)
            clear hK K
            try simp only [Act.put, List.setIfInBounds_toArray, List.set_cons_zero, List.set_cons_succ]
            refine wpAnyH_take (i := 13) (v := ?_) (by simp only [List.getElem?_toArray, List.getElem?_cons_succ, List.getElem?_cons_zero]; rfl) (by kernel_rfl) (by kernel_rfl) (by kernel_rfl) (by exact fun _ _ _ h => h) (Or.inl ⟨by rfl, ?_⟩) (by assumption) ?_
            rotate_left
            · intro w hSw; (try dsimp only at hSw); go_simp; try with_reducible rfl
            try simp only [Act.put, List.setIfInBounds_toArray, List.set_cons_zero, List.set_cons_succ]
            refine wpAnyH_done (by kernel_rfl) ?_ _
            have TW := Lib.hid twc
            have HBX := Lib.hid hb1c
            have HPX := HP
            have HQX := Lib.hid (show Q.length ≤ k + 1 by have := HQK.out; omega)
            have HTX := Lib.hid (show wr.heap.size ≤ wc.heap.size ∧ wr.heap.size ≤ wc.heap.size from ⟨Nat.le_trans hsb hbc.size, Nat.le_trans hsb hbc.size⟩)
            clear twc hb1c hsb hbc hbc0 hwa hwr hxc hcv
            obtain ⟨Aw, cw, hcw⟩ := TW.out.waits
            have hql : (Q).length ≤ 1000000 := Nat.le_trans HQX.out (by omega)
            have hwt := fun n => TW.out.waiting hql n
            have HWT := Lib.hid hwt
            clear hwt
            go_wp2_with fail
            go_quiet ((go_at_call 28; exact Calls.quiet_of_same (HWT.out _)))
            clear hcw
            go_wp2_with fail
            go_roundw
            case rel => exact ⟨k + 1, by omega, by go_num, play_rel TW.out rfl HBX.out HPX.out HQX.out HTX.out.1 HTX.out.2 rfl⟩
            case measure => simp [intOf]; omega
        have hk1' := hkd
        clear hkd
        by_cases hkd : kd = 2
        · have hk1 : (kd == 1) = false := by rw [beq_eq_false_iff_ne]; omega
          have hk2 : (kd == 2) = true := beq_iff_eq.2 hkd
          have hk3 : (kd == 3) = false := by rw [beq_eq_false_iff_ne]; omega
          have hk4 : (kd == 4) = false := by rw [beq_eq_false_iff_ne]; omega
          clear hkd
          have hcI := (show wb.cell? ⟨wr.heap.size, 1, none⟩ = some (.int .i64 oi) from HC.out.2.1)
          have hcN := (show wb.cell? ⟨wr.heap.size, 2, none⟩ = some (.int .i64 on) from HC.out.2.2.1)
          have hcK := (show wb.cell? ⟨wr.heap.size, 3, none⟩ = some (.int .u64 (okp : Int)) from HC.out.2.2.2.1)
          by_cases hgood : 0 ≤ oi ∧ oi < n
          · obtain ⟨hg0, hg1⟩ := hgood
            obtain ⟨i, rfl⟩ : ∃ i : Nat, oi = (i : Int) := ⟨Int.toNat oi, by omega⟩
            have hin : i < n := by omega
            have hsb := hbB.size
            obtain ⟨Fa, hda, hFa, -⟩ := TB.out.useA HW1B.out.size hsb
            have hrd := read_ok hda i (by rw [HP.out]; exact hin) HQ.out
            clear hda
            go_wp2_with fail
            rw [← hwb]
            clear hwb
            refine hrd.mono ?_
            rintro e w6 ⟨v6, rfl, hv6, hb6⟩
            have tw6 := TB.out.below hb6
            have hb16 := bl HW1B.out hb6
            obtain ⟨Fr, hdr, -, -⟩ := tw6.useR hb16.size (Nat.le_trans hsb hb6.size)
            have hrr := rread_ok hdr i (by rw [HP.out]; exact hin) HQ.out
            have hcI6 := (hb6.cell (World.block_lt_of_cell? wb _ hcI)).trans hcI
            have hcv6 := hv6.conv (Below.refl _ _)
            have TW := Lib.hid tw6
            have HBX := Lib.hid hb16
            have HPX := HP
            have HQX := Lib.hid (show Q.length ≤ k + 1 by have := HQK.out; omega)
            have HTX := Lib.hid (show wr.heap.size ≤ w6.heap.size ∧ wr.heap.size ≤ w6.heap.size from ⟨Nat.le_trans hsb hb6.size, Nat.le_trans hsb hb6.size⟩)
            clear tw6 hb16 hdr hrd hb6 hv6 hsb hcI
            go_wp2_with fail
            refine hrr.mono ?_
            rintro e w7 ⟨rfl, rfl⟩
            clear hrr hcI6
            obtain ⟨Aw, cw, hcw⟩ := TW.out.waits
            have hql : (Q).length ≤ 1000000 := Nat.le_trans HQX.out (by omega)
            have hwt := fun n => TW.out.waiting hql n
            have HWT := Lib.hid hwt
            clear hwt
            go_wp2_with fail
            go_quiet ((go_at_call 28; exact Calls.quiet_of_same (HWT.out _)))
            clear hcw
            go_wp2_with fail
            go_roundw
            case rel => exact ⟨k + 1, by omega, by go_num, play_rel TW.out rfl HBX.out HPX.out HQX.out HTX.out.1 HTX.out.2 rfl⟩
            case measure => simp [intOf]; omega
          · have hbad : oi < 0 ∨ (n : Int) ≤ oi := by omega
            clear hgood
            have hsb := hbB.size
            obtain ⟨Fa, hda, hFa, -⟩ := TB.out.useA HW1B.out.size hsb
            have hrd := read_bad hda oi (by rw [HP.out]; exact hbad)
            clear hda
            go_wp2_with fail
            rw [← hwb]
            clear hwb
            refine hrd.mono ?_
            rintro e w6 ⟨rfl, hb6⟩
            have tw6 := TB.out.below hb6
            have hb16 := bl HW1B.out hb6
            obtain ⟨Fr, hdr, -, -⟩ := tw6.useR hb16.size (Nat.le_trans hsb hb6.size)
            have hrr := rread_bad hdr oi (by rw [HP.out]; exact hbad)
            have hcI6 := (hb6.cell (World.block_lt_of_cell? wb _ hcI)).trans hcI
            have hcv6 := own_conv_nil w6
            have TW := Lib.hid tw6
            have HBX := Lib.hid hb16
            have HPX := HP
            have HQX := Lib.hid (show Q.length ≤ k + 1 by have := HQK.out; omega)
            have HTX := Lib.hid (show wr.heap.size ≤ w6.heap.size ∧ wr.heap.size ≤ w6.heap.size from ⟨Nat.le_trans hsb hb6.size, Nat.le_trans hsb hb6.size⟩)
            clear tw6 hb16 hdr hrd hb6 hsb hcI
            go_wp2_with fail
            refine hrr.mono ?_
            rintro e w7 ⟨rfl, rfl⟩
            clear hrr hcI6
            obtain ⟨Aw, cw, hcw⟩ := TW.out.waits
            have hql : (Q).length ≤ 1000000 := Nat.le_trans HQX.out (by omega)
            have hwt := fun n => TW.out.waiting hql n
            have HWT := Lib.hid hwt
            clear hwt
            go_wp2_with fail
            go_quiet ((go_at_call 28; exact Calls.quiet_of_same (HWT.out _)))
            clear hcw
            go_wp2_with fail
            go_roundw
            case rel => exact ⟨k + 1, by omega, by go_num, play_rel TW.out rfl HBX.out HPX.out HQX.out HTX.out.1 HTX.out.2 rfl⟩
            case measure => simp [intOf]; omega
        have hk2' := hkd
        clear hkd
        by_cases hkd : kd = 3
        · have hk1 : (kd == 1) = false := by rw [beq_eq_false_iff_ne]; omega
          have hk2 : (kd == 2) = false := by rw [beq_eq_false_iff_ne]; omega
          have hk3 : (kd == 3) = true := beq_iff_eq.2 hkd
          have hk4 : (kd == 4) = false := by rw [beq_eq_false_iff_ne]; omega
          clear hkd
          have hcI := (show wb.cell? ⟨wr.heap.size, 1, none⟩ = some (.int .i64 oi) from HC.out.2.1)
          have hcN := (show wb.cell? ⟨wr.heap.size, 2, none⟩ = some (.int .i64 on) from HC.out.2.2.1)
          have hcK := (show wb.cell? ⟨wr.heap.size, 3, none⟩ = some (.int .u64 (okp : Int)) from HC.out.2.2.2.1)
          have hsb := hbB.size
          obtain ⟨Fa, hda, hFa, hna⟩ := TB.out.useA HW1B.out.size hsb
          have hsa := sync_any hda HQ.out
          clear hda
          go_wp2_with fail
          rw [← hwb]
          clear hwb
          refine hsa.mono ?_
          rintro e w6 ⟨rfl, hd6, hch6⟩
          have tw6 := hna w6 _ _ (hd6.mono (fun k hk => .inl hk)) hch6
          have hb16 := hch6.below HW1B.out (fun k hk => (hFa k hk).1) HW1B.out.size
          obtain ⟨Fr, hdr, hFr, hnr⟩ := tw6.useR hb16.size (Nat.le_refl _)
          have hx6 : w6.heap[wr.heap.size]? = wb.heap[wr.heap.size]? := hch6.block _ HSBX.out (fun hf => by have := (hFa _ hf).2; omega)
          have hcI6 : w6.cell? ⟨wr.heap.size, 1, none⟩ = some (.int .i64 oi) := (World.cell?_of_block hx6).trans HC.out.2.1
          have hcN6 : w6.cell? ⟨wr.heap.size, 2, none⟩ = some (.int .i64 on) := (World.cell?_of_block hx6).trans HC.out.2.2.1
          have hcK6 : w6.cell? ⟨wr.heap.size, 3, none⟩ = some (.int .u64 (okp : Int)) := (World.cell?_of_block hx6).trans HC.out.2.2.2.1
          have hsr := rsync_any hdr HQ.out
          clear hdr hsa hd6 hch6 tw6 hx6 hcI hcN hcK hna
          go_wp2_with fail
          refine hsr.mono ?_
          rintro e w7 ⟨rfl, hd7, hch7⟩
          have hs7 := hch7.size
          have TW := Lib.hid (hnr w7 _ _ (hd7.mono (fun k hk => .inl hk)) hch7)
          have HBX := Lib.hid (hch7.below hb16 (fun k hk => (hFr k hk).1) hb16.size)
          have HPX := Lib.hid (show (dSync P Q).length = n from (dSync_length Q P).trans HP.out)
          have HQX := Lib.hid (show ([] : List (Nat × ByteArray)).length ≤ k + 1 from Nat.zero_le _)
          have HTX := Lib.hid (show w6.heap.size ≤ w7.heap.size ∧ w7.heap.size ≤ w7.heap.size from ⟨hs7, Nat.le_refl _⟩)
          clear hsr hd7 hch7 hnr hb16 hs7 hcI6 hcN6 hcK6 hsb
          obtain ⟨Aw, cw, hcw⟩ := TW.out.waits
          have hql : (([] : List (Nat × ByteArray))).length ≤ 1000000 := Nat.le_trans HQX.out (by omega)
          have hwt := fun n => TW.out.waiting hql n
          have HWT := Lib.hid hwt
          clear hwt
          go_wp2_with fail
          go_quiet ((go_at_call 28; exact Calls.quiet_of_same (HWT.out _)))
          clear hcw
          go_wp2_with fail
          go_roundw
          case rel => exact ⟨k + 1, by omega, by go_num, play_rel TW.out rfl HBX.out HPX.out HQX.out HTX.out.1 HTX.out.2 rfl⟩
          case measure => simp [intOf]; omega
        have hk3' := hkd
        clear hkd
        by_cases hkd : kd = 4
        · have hk1 : (kd == 1) = false := by rw [beq_eq_false_iff_ne]; omega
          have hk2 : (kd == 2) = false := by rw [beq_eq_false_iff_ne]; omega
          have hk3 : (kd == 3) = false := by rw [beq_eq_false_iff_ne]; omega
          have hk4 : (kd == 4) = true := beq_iff_eq.2 hkd
          clear hkd
          have hcI := (show wb.cell? ⟨wr.heap.size, 1, none⟩ = some (.int .i64 oi) from HC.out.2.1)
          have hcN := (show wb.cell? ⟨wr.heap.size, 2, none⟩ = some (.int .i64 on) from HC.out.2.2.1)
          have hcK := (show wb.cell? ⟨wr.heap.size, 3, none⟩ = some (.int .u64 (okp : Int)) from HC.out.2.2.2.1)
          have hsb := hbB.size
          obtain ⟨Fa, hda, hFa, hna⟩ := TB.out.useA HW1B.out.size hsb
          have hsa := crash_any hda HQ.out okp hokeep oi on
          clear hda
          go_wp2_with fail
          rw [← hwb]
          clear hwb
          refine hsa.mono ?_
          rintro e w6 ⟨rfl, hd6, hch6⟩
          have tw6 := hna w6 _ _ (hd6.mono (fun k hk => .inl hk)) hch6
          have hb16 := hch6.below HW1B.out (fun k hk => (hFa k hk).1) HW1B.out.size
          obtain ⟨Fr, hdr, hFr, hnr⟩ := tw6.useR hb16.size (Nat.le_refl _)
          have hx6 : w6.heap[wr.heap.size]? = wb.heap[wr.heap.size]? := hch6.block _ HSBX.out (fun hf => by have := (hFa _ hf).2; omega)
          have hcI6 : w6.cell? ⟨wr.heap.size, 1, none⟩ = some (.int .i64 oi) := (World.cell?_of_block hx6).trans HC.out.2.1
          have hcN6 : w6.cell? ⟨wr.heap.size, 2, none⟩ = some (.int .i64 on) := (World.cell?_of_block hx6).trans HC.out.2.2.1
          have hcK6 : w6.cell? ⟨wr.heap.size, 3, none⟩ = some (.int .u64 (okp : Int)) := (World.cell?_of_block hx6).trans HC.out.2.2.2.1
          have hsr := rcrash_any hdr HQ.out okp hokeep oi on
          clear hdr hsa hd6 hch6 tw6 hx6 hcI hcN hcK hna
          go_wp2_with fail
          refine hsr.mono ?_
          rintro e w7 ⟨rfl, hd7, hch7⟩
          have hs7 := hch7.size
          have TW := Lib.hid (hnr w7 _ _ (hd7.mono (fun k hk => .inl hk)) hch7)
          have HBX := Lib.hid (hch7.below hb16 (fun k hk => (hFr k hk).1) hb16.size)
          have HPX := Lib.hid (show (dCrash okp oi on 0 P Q).length = n from (dCrash_length _ _ _ Q 0 P).trans HP.out)
          have HQX := Lib.hid (show ([] : List (Nat × ByteArray)).length ≤ k + 1 from Nat.zero_le _)
          have HTX := Lib.hid (show w6.heap.size ≤ w7.heap.size ∧ w7.heap.size ≤ w7.heap.size from ⟨hs7, Nat.le_refl _⟩)
          clear hsr hd7 hch7 hnr hb16 hs7 hcI6 hcN6 hcK6 hsb
          obtain ⟨Aw, cw, hcw⟩ := TW.out.waits
          have hql : (([] : List (Nat × ByteArray))).length ≤ 1000000 := Nat.le_trans HQX.out (by omega)
          have hwt := fun n => TW.out.waiting hql n
          have HWT := Lib.hid hwt
          clear hwt
          go_wp2_with fail
          go_quiet ((go_at_call 28; exact Calls.quiet_of_same (HWT.out _)))
          clear hcw
          go_wp2_with fail
          go_roundw
          case rel => exact ⟨k + 1, by omega, by go_num, play_rel TW.out rfl HBX.out HPX.out HQX.out HTX.out.1 HTX.out.2 rfl⟩
          case measure => simp [intOf]; omega
        have hk4' := hkd
        clear hkd
        have hk1 : (kd == 1) = false := by rw [beq_eq_false_iff_ne]; exact hk1'
        have hk2 : (kd == 2) = false := by rw [beq_eq_false_iff_ne]; exact hk2'
        have hk3 : (kd == 3) = false := by rw [beq_eq_false_iff_ne]; exact hk3'
        have hk4 : (kd == 4) = false := by rw [beq_eq_false_iff_ne]; exact hk4'
        clear hk1' hk2' hk3' hk4'
        have hsb := hbB.size
        have TW := TB
        have HBX := HW1B
        have HPX := HP
        have HQX := Lib.hid (show Q.length ≤ k + 1 by have := HQK.out; omega)
        have HTX := Lib.hid (show wr.heap.size ≤ wb.heap.size ∧ wr.heap.size ≤ wb.heap.size from ⟨hsb, hsb⟩)
        clear hsb
        obtain ⟨Aw, cw, hcw⟩ := TW.out.waits
        have hql : Q.length ≤ 1000000 := HQ.out
        have HWT := Lib.hid (fun n => TW.out.waiting hql n)
        rw [hwb] at hcw
        go_wp2_with fail
        rw [← hwb] at hcw ⊢
        clear hwb
        go_quiet ((go_at_call 28; exact Calls.quiet_of_same (HWT.out _)))
        clear hcw
        go_wp2_with fail
        go_roundw
        case rel => exact ⟨k + 1, by omega, by go_num, play_rel TW.out rfl HBX.out HPX.out HQX.out HTX.out.1 HTX.out.2 rfl⟩
        case measure => simp [intOf]; omega
      · have ht1 : decide (k < l.length) = false := decide_eq_false hlt
        have ht2 : decide ((k : Int) < (l.length : Int)) = false := decide_eq_false (by omega)
        obtain ⟨F, G, hda, hdr, -, -⟩ := tw
        obtain ⟨img, himg⟩ : ∃ img, img = joinP (dSync P Q) := ⟨_, rfl⟩
        have HBA : Hid (∀ X (hX : Below wr.heap.size wr X), Calls Try.prog 26 #[.pointer (some ⟨a, 0, none⟩)] X fun e w' => ∃ v, e = .returned v ∧ w'.ownsRow X.heap.size 5 1 v img.size (Lib.strCells img) ∧ Below X.heap.size X w') := Lib.hid (fun X hX => by rw [himg]; exact bytes_any (hda.below hX) (by omega))
        have HBR : Hid (∀ X (hX : Below wr.heap.size wr X), Calls Try.prog 27 #[.pointer (some ⟨r, 0, none⟩)] X fun e w' => e = .returned (.string img) ∧ X = w') := Lib.hid (fun X hX => by rw [himg]; exact rbytes_any (hdr.below hX) (by omega))
        have HW := Lib.hid (bl HB1.out hbw)
        clear himg hda hdr hbw hlp hlq
        go_wp2_with fail
        refine wp_region_held_drew (S := (fun X => Below wr.heap.size wr X)) (by kernel_rfl) (((by repeat (first | exact Below.refl _ _ | assumption | apply below_dr | apply below_dn | apply below_al)) : Below wr.heap.size wr _)) (fun hHeld => ?_)
        try simp only [Act.put, List.setIfInBounds_toArray, List.set_cons_zero, List.set_cons_succ]
        refine wpAnyH_take (i := 0) (v := ?_) (by simp only [List.getElem?_toArray, List.getElem?_cons_succ, List.getElem?_cons_zero]; rfl) (by kernel_rfl) (by kernel_rfl) (by kernel_rfl) (by exact fun _ _ _ h => h) (Or.inl ⟨by rfl, ?_⟩) (by assumption) ?_
        rotate_left
        · intro w hSw; (try dsimp only at hSw); go_simp; try with_reducible rfl
        try simp only [Act.put, List.setIfInBounds_toArray, List.set_cons_zero, List.set_cons_succ]
        refine wpAnyH_take (i := 3) (v := ?_) (by simp only [List.getElem?_toArray, List.getElem?_cons_succ, List.getElem?_cons_zero]; rfl) (by kernel_rfl) (by kernel_rfl) (by kernel_rfl) (by exact fun _ _ _ h => h) (Or.inl ⟨by rfl, ?_⟩) (by assumption) ?_
        rotate_left
        · intro w hSw; (try dsimp only at hSw); go_simp; try with_reducible rfl
        try simp only [Act.put, List.setIfInBounds_toArray, List.set_cons_zero, List.set_cons_succ]
        refine wpAnyH_ready (rs := [1]) (by kernel_rfl) (by simp) ?_
        refine AllReadyH.cons (by simp only [List.getElem?_toArray, List.getElem?_cons_succ, List.getElem?_cons_zero]; rfl) (fun K hK => ?_) AllReadyH.nil
        go_simp
        refine (HBA.out _ (by repeat (first | exact Below.refl _ _ | assumption | apply below_dr | apply below_dn | apply below_al))).mono ?_; rintro e w6 ⟨v6, rfl, ho6, hb6⟩; have hcv6 := own_conv ho6; have hb46 : Below wr.heap.size wr w6 := bl (by repeat (first | exact Below.refl _ _ | assumption | apply below_dr | apply below_dn | apply below_al)) hb6
        try go_simp
        refine hK.out _ _ (((by repeat (first | exact Below.refl _ _ | assumption | apply below_dr | apply below_dn | apply below_al)) : Below wr.heap.size wr _)) (fun hHeld => ?_)
        clear hK K
        try simp only [Act.put, List.setIfInBounds_toArray, List.set_cons_zero, List.set_cons_succ]
        refine wpAnyH_ready (rs := [2, 4]) (by kernel_rfl) (by simp) ?_
        refine AllReadyH.cons (by simp only [List.getElem?_toArray, List.getElem?_cons_succ, List.getElem?_cons_zero]; rfl) (fun K hK => ?_) (AllReadyH.cons (by simp only [List.getElem?_toArray, List.getElem?_cons_succ, List.getElem?_cons_zero]; rfl) (fun K hK => ?_) AllReadyH.nil)
        · go_simp
          refine hK.out _ _ (((by repeat (first | exact Below.refl _ _ | assumption | apply below_dr | apply below_dn | apply below_al)) : Below wr.heap.size wr _)) (fun hHeld => ?_)
          clear hK K
          try simp only [Act.put, List.setIfInBounds_toArray, List.set_cons_zero, List.set_cons_succ]
          refine wpAnyH_ready (rs := [4]) (by kernel_rfl) (by simp) ?_
          refine AllReadyH.cons (by simp only [List.getElem?_toArray, List.getElem?_cons_succ, List.getElem?_cons_zero]; rfl) (fun K hK => ?_) AllReadyH.nil
          go_simp
          refine (HBR.out _ (by repeat (first | exact Below.refl _ _ | assumption | apply below_dr | apply below_dn | apply below_al))).mono ?_; rintro e w7 ⟨rfl, rfl⟩
          try go_simp
          refine hK.out _ _ (((by repeat (first | exact Below.refl _ _ | assumption | apply below_dr | apply below_dn | apply below_al)) : Below wr.heap.size wr _)) (fun hHeld => ?_)
          clear hK K
          try simp only [Act.put, List.setIfInBounds_toArray, List.set_cons_zero, List.set_cons_succ]
          refine wpAnyH_take (i := 5) (v := ?_) (by simp only [List.getElem?_toArray, List.getElem?_cons_succ, List.getElem?_cons_zero]; rfl) (by kernel_rfl) (by kernel_rfl) (by kernel_rfl) (by exact fun _ _ _ h => h) (Or.inl ⟨by rfl, ?_⟩) (by assumption) ?_
          rotate_left
          · intro w hSw; (try dsimp only at hSw); go_simp; try with_reducible rfl
          try simp only [Act.put, List.setIfInBounds_toArray, List.set_cons_zero, List.set_cons_succ]
          refine wpAnyH_take (i := 6) (v := ?_) (by simp only [List.getElem?_toArray, List.getElem?_cons_succ, List.getElem?_cons_zero]; rfl) (by kernel_rfl) (by kernel_rfl) (by kernel_rfl) (by exact fun _ _ _ h => h) (Or.inl ⟨by rfl, ?_⟩) (by assumption) ?_
          rotate_left
          · intro w hSw; (try dsimp only at hSw); go_simp; try with_reducible rfl
          try simp only [Act.put, List.setIfInBounds_toArray, List.set_cons_zero, List.set_cons_succ]
          refine wpAnyH_done (by kernel_rfl) ?_ _
          go_wp2_with fail
          all_goals (go_ret; exact ⟨rfl, bl HW.out (by repeat (first | exact Below.refl _ _ | assumption | apply below_dr | apply below_dn | apply below_al))⟩)
        · go_simp
          refine (HBR.out _ (by repeat (first | exact Below.refl _ _ | assumption | apply below_dr | apply below_dn | apply below_al))).mono ?_; rintro e w7 ⟨rfl, rfl⟩
          try go_simp
          refine hK.out _ _ (((by repeat (first | exact Below.refl _ _ | assumption | apply below_dr | apply below_dn | apply below_al)) : Below wr.heap.size wr _)) (fun hHeld => ?_)
          clear hK K
          try simp only [Act.put, List.setIfInBounds_toArray, List.set_cons_zero, List.set_cons_succ]
          refine wpAnyH_ready (rs := [2]) (by kernel_rfl) (by simp) ?_
          refine AllReadyH.cons (by simp only [List.getElem?_toArray, List.getElem?_cons_succ, List.getElem?_cons_zero]; rfl) (fun K hK => ?_) AllReadyH.nil
          go_simp
          refine hK.out _ _ (((by repeat (first | exact Below.refl _ _ | assumption | apply below_dr | apply below_dn | apply below_al)) : Below wr.heap.size wr _)) (fun hHeld => ?_)
          clear hK K
          try simp only [Act.put, List.setIfInBounds_toArray, List.set_cons_zero, List.set_cons_succ]
          refine wpAnyH_take (i := 5) (v := ?_) (by simp only [List.getElem?_toArray, List.getElem?_cons_succ, List.getElem?_cons_zero]; rfl) (by kernel_rfl) (by kernel_rfl) (by kernel_rfl) (by exact fun _ _ _ h => h) (Or.inl ⟨by rfl, ?_⟩) (by assumption) ?_
          rotate_left
          · intro w hSw; (try dsimp only at hSw); go_simp; try with_reducible rfl
          try simp only [Act.put, List.setIfInBounds_toArray, List.set_cons_zero, List.set_cons_succ]
          refine wpAnyH_take (i := 6) (v := ?_) (by simp only [List.getElem?_toArray, List.getElem?_cons_succ, List.getElem?_cons_zero]; rfl) (by kernel_rfl) (by kernel_rfl) (by kernel_rfl) (by exact fun _ _ _ h => h) (Or.inl ⟨by rfl, ?_⟩) (by assumption) ?_
          rotate_left
          · intro w hSw; (try dsimp only at hSw); go_simp; try with_reducible rfl
          try simp only [Act.put, List.setIfInBounds_toArray, List.set_cons_zero, List.set_cons_succ]
          refine wpAnyH_done (by kernel_rfl) ?_ _
          go_wp2_with fail
          all_goals (go_ret; exact ⟨rfl, bl HW.out (by repeat (first | exact Below.refl _ _ | assumption | apply below_dr | apply below_dn | apply below_al))⟩)
theorem plays_row (p : Int) (A : Option Addr) (l : List OpR) (cap : Nat) (w : World) (wp : (Lit.int .u8 p).wf = true) (hl : l.length ≤ cap) (hcm : cap ≤ maxLen) (ha : OpsAt w A l) (hw : ∀ o ∈ l, OpW o) :
    Calls Try.prog 9 #[.int .u8 p, .slice A l.length cap] w fun e w' => e = .returned (.bool true) ∧ Below w.heap.size w w' := by
  obtain ⟨p, rfl, hp⟩ := u8_nat wp
  exact plays_any p A l cap w hp ha hw hl hcm
end Go.Proofs.Ytpdhfnpnilpipaa.Dv
