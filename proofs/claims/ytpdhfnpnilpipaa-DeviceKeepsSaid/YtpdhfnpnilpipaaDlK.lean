/- The law of one's own memory: what goes in and comes out of a device is memory of its own; a nil device has nothing; by a walk. -/
import Derived.Test.YtpdhfnpnilpipaaDvN
import Derived.Test.YtpdhfnpnilpipaaDvQ
namespace Go.Proofs.Ytpdhfnpnilpipaa.Dv
open Go.RowKit
set_option linter.unusedSimpArgs false
set_option linter.unusedVariables false

theorem ops_one (w : World) (o : OpR) (t : TypeId) : OpsAt (w.alloc (.cells #[.int .i64 o.kind, .int .i64 o.i, .int .i64 o.n, .int .u64 (o.keep : Int), .string o.b] t)) (some ⟨w.heap.size, 0, none⟩) [o] := by
  intro k o' hk
  have h0 : k = 0 := by have := (List.getElem?_eq_some_iff.1 hk).1; simpa using this
  subst h0
  have : o = o' := by simpa using hk
  subst this
  exact ⟨_, _, rfl, op_boxed w o t⟩
set_option maxRecDepth 100000 in
set_option maxHeartbeats 4000000 in
theorem keeps_any (o : OpR) (i c : Nat) (w : World) (hi : i < 256) (hc : c < 256) (ho : OpW o) :
    Calls Try.prog 11 #[.int .u8 (i : Int), .int .u8 (c : Int), .agg #[.int .i64 o.kind, .int .i64 o.i, .int .i64 o.n, .int .u64 (o.keep : Int), .string o.b]] w fun e w' => e = .returned (.bool true) ∧ Below w.heap.size w w' := by
  have hcl : (List.replicate (clamp 256) zeroPage).length = 256 := by rw [List.length_replicate]; rfl
  obtain ⟨P0, hP0⟩ : ∃ P0, P0 = List.replicate (clamp 256) zeroPage := ⟨_, rfl⟩
  rw [← hP0] at hcl
  have hsz := ho.b
  unfold maxLen at hsz
  have HOS : Hid (∀ x ∈ [o], OpW x) := Lib.hid (fun x hx => by rw [List.mem_singleton.1 hx]; exact ho)
  have HO := Lib.hid ho
  clear ho
  cases hfew : few [o] with
  | false =>
    have HFEW := Lib.hid hfew
    clear hfew
    go_enter Try.func11, Try.ntmps11
    go_wp2_with fail
    refine (awake_any _).mono ?_
    rintro e w1 ⟨rfl, hb1⟩
    have hat1 := (op_boxed w o 61).below hb1
    obtain ⟨c0, c1, c2, c3, c4⟩ := hat1.five
    have HB1 := Lib.hid ((below_al (Below.refl w.heap.size w) _).trans (hb1.mono (by simp)))
    clear hb1
    go_wp2_with fail
    refine (few_any (some ⟨w1.heap.size, 0, none⟩) [o] 1 _ (ops_one w1 o _) HOS.out (Nat.le_refl 1) (by decide)).mono ?_
    rintro e w2 ⟨rfl, rfl⟩
    rw [HFEW.out]
    go_wp2_with fail
    refine (awake_any _).mono ?_
    rintro e w3 ⟨rfl, hb3⟩
    go_wp2_with fail
    go_ret
    exact ⟨rfl, bl (below_al HB1.out _) hb3⟩
  | true =>
    have HFEW := Lib.hid hfew
    clear hfew
    go_enter Try.func11, Try.ntmps11
    go_wp2_with fail
    refine (awake_any _).mono ?_
    rintro e w1 ⟨rfl, hb1⟩
    have hat1 := (op_boxed w o 61).below hb1
    obtain ⟨c0, c1, c2, c3, c4⟩ := hat1.five
    have HB1 := Lib.hid ((below_al (Below.refl w.heap.size w) _).trans (hb1.mono (by simp)))
    clear hb1
    go_wp2_with fail
    refine (few_any (some ⟨w1.heap.size, 0, none⟩) [o] 1 _ (ops_one w1 o _) HOS.out (Nat.le_refl 1) (by decide)).mono ?_
    rintro e w2 ⟨rfl, rfl⟩
    rw [HFEW.out]
    obtain ⟨B, hB⟩ : ∃ B, B = w1.alloc (.cells #[.int .i64 o.kind, .int .i64 o.i, .int .i64 o.n, .int .u64 (o.keep : Int), .string o.b] 61) := ⟨_, rfl⟩
    have hbB := below_al (Below.refl w1.heap.size w1) (.cells #[.int .i64 o.kind, .int .i64 o.i, .int .i64 o.n, .int .u64 (o.keep : Int), .string o.b] 61)
    rw [← hB] at hbB ⊢
    have HBB := Lib.hid (bl HB1.out hbB)
    have HAT := Lib.hid (hat1.below hbB)
    obtain ⟨d0, d1, d2, d3, d4⟩ := HAT.out.five
    have HP0 := Lib.hid hP0
    clear hB hat1 c0 c1 c2 c3 c4 hbB hP0
    go_wp2_with fail
    refine (sync_nil _).mono ?_
    rintro e w2 ⟨rfl, rfl⟩
    go_wp2_with fail
    refine (crash_nil _ _ _ _).mono ?_
    rintro e w2 ⟨rfl, rfl⟩
    go_wp2_with fail
    refine (read_nil _).mono ?_
    rintro e w2 ⟨rfl, hb2⟩
    obtain ⟨e0, e1, e2, e3, e4⟩ := (HAT.out.below hb2).five
    obtain ⟨cb, W, hcv, hcc, -, hbW⟩ := conv_in w2 o.b
    have HBW := Lib.hid (bl HBB.out (bl hb2 hbW))
    clear hb2 hbW hcc d0 d1 d2 d3 d4
    go_wp2_with fail
    refine (write_nil _ _ _ _ _).mono ?_
    rintro e w3 ⟨rfl, rfl⟩
    clear e0 e1 e2 e3 e4 hcv
    go_wp2_with fail
    refine (pages_nil _).mono ?_
    rintro e w3 ⟨rfl, rfl⟩
    go_wp2_with fail
    refine (waiting_nil _).mono ?_
    rintro e w3 ⟨rfl, rfl⟩
    go_wp2_with fail
    refine (bytes_nil _).mono ?_
    rintro e w3 ⟨rfl, rfl⟩
    go_wp2_with fail
    refine (new_any 256 _).mono ?_
    rintro e w3 ⟨d, rfl, hd3, hb3⟩
    rw [← HP0.out] at hd3
    have hd3t := hd3.tight
    have hb03 := bl HBW.out hb3
    clear hd3 hb3
    go_wp2_with fail
    refine (full_any c hc _).mono ?_
    rintro e w4 ⟨v4, rfl, hv4, hb4⟩
    obtain ⟨g, c4, rfl⟩ := hv4.shape (fullPage_size c)
    have hw := write_ok (hd3t.below hb4) i (by omega) _ c4 (fullPage c) (fullPage_size _) hv4.rds (by decide)
    have hb04 := bl hb03 hb4
    have hs03 := hb03.size
    rw [fullPage_size] at hw
    have HB04 := Lib.hid hb04
    clear hd3t hb04 hb4 hb03
    go_wp2_with fail
    refine hw.mono ?_
    rintro e w5 ⟨rfl, hd5, hch5⟩
    have hv5 := hv4.chg hch5 (fun k hk => hk.2)
    have hb05 := hch5.below HB04.out (fun k hk => Nat.le_trans HBW.out.size hk.1) HB04.out.size
    obtain ⟨hg1, hg2, x, hcg, hfg⟩ := hv5.cell 5 (by rw [fullPage_size]; decide)
    have hg4 := (hv4.cell 5 (by rw [fullPage_size]; decide)).2.1
    have hd6 := fun u => hd5.poke g 5 u (by rintro (h | h) <;> omega)
    have hb06 := fun u => hb05.setCell (p := ⟨g, 5, none⟩) (Nat.le_trans hs03 hg1) u
    have hrd := fun u => read_ok (hd6 u) i (by rw [hcl]; exact hi) (Nat.le_trans (Nat.le_refl 1) (by decide))
    rw [List.nil_append] at hrd
    have e1 : dRead P0 [(i, fullPage c)] i = fullPage c := dRead_hit P0 [] (i, fullPage c) (by rw [hcl]; exact hi)
    rw [e1] at hrd
    have HB6 := Lib.hid hb06
    have HD6 := Lib.hid hd6
    have HE1 := Lib.hid e1
    clear e1 hw hd5 hch5 hv5 hb05 hg1 hg2 hg4 hb06 hd6 hv4 hs03
    go_wp2_with fail
    refine (hrd _).mono ?_
    rintro e w7 ⟨v7, rfl, hv7, hb7⟩
    obtain ⟨g7, c7, rfl⟩ := hv7.shape (fullPage_size c)
    have hb07 := bl (HB6.out _) hb7
    have hd7 := (HD6.out _).tight.below hb7
    obtain ⟨hg1, hg2, x7, hcg7, hfg7⟩ := hv7.cell 6 (by rw [fullPage_size]; decide)
    have hd8 := fun u => hd7.poke g7 6 u (by rintro ⟨_, h⟩; omega)
    have hb08 := fun u => hb07.setCell (p := ⟨g7, 6, none⟩) (Nat.le_trans (HB6.out _).size hg1) u
    have hsy := fun u => sync_any (hd8 u) (Nat.le_trans (Nat.le_refl 1) (by decide))
    have HD8 := Lib.hid hd8
    have HB8 := Lib.hid hb08
    clear hrd hv7 hb7 hb07 hd7 hg1 hg2 hd8 hb08 hcg hfg
    go_wp2_with fail
    refine (hsy _).mono ?_
    rintro e w9 ⟨rfl, hd9, hch9⟩
    have hb09 := hch9.below (HB8.out _) (fun k hk => hk.1.elim (fun h => Nat.le_trans HBW.out.size h.1) (fun h => Nat.le_trans HB04.out.size h)) (HB8.out _).size
    have hrd9 := read_ok hd9 i (by rw [dSync_length, hcl]; exact hi) (Nat.zero_le _)
    have e2 : dRead (dSync P0 ([] ++ [(i, fullPage c)])) [] i = fullPage c := HE1.out
    rw [e2] at hrd9
    have HD9 := Lib.hid hd9
    have HB9 := Lib.hid hb09
    clear hsy hd9 hch9 hb09 hcg7 hfg7 e2
    go_wp2_with fail
    refine hrd9.mono ?_
    rintro e w10 ⟨v10, rfl, hv10, hb10⟩
    obtain ⟨g10, c10, rfl⟩ := hv10.shape (fullPage_size c)
    have hb010 := bl HB9.out hb10
    have hd10 := HD9.out.tight.below hb10
    obtain ⟨hg1, hg2, x10, hcg10, hfg10⟩ := hv10.cell 7 (by rw [fullPage_size]; decide)
    have hd11 := fun u => hd10.poke g10 7 u (by rintro ⟨_, h⟩; omega)
    have hb011 := fun u => hb010.setCell (p := ⟨g10, 7, none⟩) (Nat.le_trans HB9.out.size hg1) u
    have hrd11 := fun u => read_ok (hd11 u) i (by rw [dSync_length, hcl]; exact hi) (Nat.zero_le _)
    have e2 : dRead (dSync P0 ([] ++ [(i, fullPage c)])) [] i = fullPage c := HE1.out
    rw [e2] at hrd11
    have HB11 := Lib.hid hb011
    clear hrd9 hv10 hb10 hb010 hd10 hg1 hg2 hd11 hb011 e2
    go_wp2_with fail
    refine (hrd11 _).mono ?_
    rintro e w9 ⟨v9, rfl, hv9, hb9⟩
    obtain ⟨g9, c9, rfl⟩ := hv9.shape (fullPage_size c)
    have hcA := fun X (hX : Below w9.heap.size w9 X) => hv9.conv hX
    have HWF := Lib.hid (bl (HB11.out _) hb9)
    clear hrd11 hv9 hb9 hcg10 hfg10
    go_wp2_with fail
    refine wp_region_held_drew (S := (fun X => Below w9.heap.size w9 X)) (by kernel_rfl) (((by repeat (first | exact Below.refl _ _ | assumption | apply below_dr | apply below_dn | apply below_al)) : Below w9.heap.size w9 _)) (fun hHeld => ?_)
    try simp only [Act.put, List.setIfInBounds_toArray, List.set_cons_zero, List.set_cons_succ]
    refine wpAnyH_take (i := 0) (v := ?_) (by simp only [List.getElem?_toArray, List.getElem?_cons_succ, List.getElem?_cons_zero]; rfl) (by kernel_rfl) (by kernel_rfl) (by kernel_rfl) (by exact fun _ _ _ h => h) (Or.inl ⟨by rfl, ?_⟩) (by assumption) ?_
    rotate_left
    · intro w hSw; (try dsimp only at hSw); go_simp; try with_reducible rfl
    try simp only [Act.put, List.setIfInBounds_toArray, List.set_cons_zero, List.set_cons_succ]
    refine wpAnyH_take (i := 1) (v := ?_) (by simp only [List.getElem?_toArray, List.getElem?_cons_succ, List.getElem?_cons_zero]; rfl) (by kernel_rfl) (by kernel_rfl) (by kernel_rfl) (by exact fun _ _ _ h => h) (Or.inl ⟨by rfl, ?_⟩) (by assumption) ?_
    rotate_left
    · intro w hSw; (try dsimp only at hSw); go_simp; try with_reducible rfl
    try simp only [Act.put, List.setIfInBounds_toArray, List.set_cons_zero, List.set_cons_succ]
    refine wpAnyH_take (i := 2) (v := ?_) (by simp only [List.getElem?_toArray, List.getElem?_cons_succ, List.getElem?_cons_zero]; rfl) (by kernel_rfl) (by kernel_rfl) (by kernel_rfl) (by exact fun _ _ _ h => h) (Or.inl ⟨by rfl, ?_⟩) (by assumption) ?_
    rotate_left
    · intro w hSw; (try dsimp only at hSw); go_simp; try with_reducible rfl
    try simp only [Act.put, List.setIfInBounds_toArray, List.set_cons_zero, List.set_cons_succ]
    refine wpAnyH_take (i := 3) (v := ?_) (by simp only [List.getElem?_toArray, List.getElem?_cons_succ, List.getElem?_cons_zero]; rfl) (by kernel_rfl) (by kernel_rfl) (by kernel_rfl) (by exact fun _ _ _ h => h) (Or.inl ⟨by rfl, ?_⟩) (by assumption) ?_
    rotate_left
    · intro w hSw; (try dsimp only at hSw); go_simp; try with_reducible rfl
    try simp only [Act.put, List.setIfInBounds_toArray, List.set_cons_zero, List.set_cons_succ]
    refine wpAnyH_take (i := 4) (v := ?_) (by simp only [List.getElem?_toArray, List.getElem?_cons_succ, List.getElem?_cons_zero]; rfl) (by kernel_rfl) (by kernel_rfl) (by kernel_rfl) (by exact fun _ _ _ h => h) (Or.inl ⟨by rfl, ?_⟩) (by assumption) ?_
    rotate_left
    · intro w hSw; (try dsimp only at hSw); go_simp; try with_reducible rfl
    try simp only [Act.put, List.setIfInBounds_toArray, List.set_cons_zero, List.set_cons_succ]
    refine wpAnyH_take (i := 5) (v := ?_) (by simp only [List.getElem?_toArray, List.getElem?_cons_succ, List.getElem?_cons_zero]; rfl) (by kernel_rfl) (by kernel_rfl) (by kernel_rfl) (by exact fun _ _ _ h => h) (Or.inl ⟨by rfl, ?_⟩) (by assumption) ?_
    rotate_left
    · intro w hSw; (try dsimp only at hSw); go_simp; try with_reducible rfl
    try simp only [Act.put, List.setIfInBounds_toArray, List.set_cons_zero, List.set_cons_succ]
    refine wpAnyH_ready (rs := [6]) (by kernel_rfl) (by simp) ?_
    refine AllReadyH.cons (by simp only [List.getElem?_toArray, List.getElem?_cons_succ, List.getElem?_cons_zero]; rfl) (fun K hK => ?_) AllReadyH.nil
    go_simp
    refine (full_any c hc _).mono ?_; rintro e w10 ⟨v10, rfl, hv10, hb10⟩; have hcv10 := hv10.conv (Below.refl _ _); have hb910 : Below w9.heap.size w9 w10 := bl (by repeat (first | exact Below.refl _ _ | assumption | apply below_dr | apply below_dn | apply below_al)) hb10
    try go_simp
    refine hK.out _ _ (((by repeat (first | exact Below.refl _ _ | assumption | apply below_dr | apply below_dn | apply below_al)) : Below w9.heap.size w9 _)) (fun hHeld => ?_)
    clear hK K
    try simp only [Act.put, List.setIfInBounds_toArray, List.set_cons_zero, List.set_cons_succ]
    refine wpAnyH_ready (rs := [7]) (by kernel_rfl) (by simp) ?_
    refine AllReadyH.cons (by simp only [List.getElem?_toArray, List.getElem?_cons_succ, List.getElem?_cons_zero]; rfl) (fun K hK => ?_) AllReadyH.nil
    go_simp
    refine hK.out _ _ (((by repeat (first | exact Below.refl _ _ | assumption | apply below_dr | apply below_dn | apply below_al)) : Below w9.heap.size w9 _)) (fun hHeld => ?_)
    clear hK K
    try simp only [Act.put, List.setIfInBounds_toArray, List.set_cons_zero, List.set_cons_succ]
    refine wpAnyH_take (i := 8) (v := ?_) (by simp only [List.getElem?_toArray, List.getElem?_cons_succ, List.getElem?_cons_zero]; rfl) (by kernel_rfl) (by kernel_rfl) (by kernel_rfl) (by exact fun _ _ _ h => h) (Or.inl ⟨by rfl, ?_⟩) (by assumption) ?_
    rotate_left
    · intro w hSw; (try dsimp only at hSw); go_simp; try with_reducible rfl
    try simp only [Act.put, List.setIfInBounds_toArray, List.set_cons_zero, List.set_cons_succ]
    refine wpAnyH_take (i := 9) (v := ?_) (by simp only [List.getElem?_toArray, List.getElem?_cons_succ, List.getElem?_cons_zero]; rfl) (by kernel_rfl) (by kernel_rfl) (by kernel_rfl) (by exact fun _ _ _ h => h) (Or.inl ⟨by rfl, ?_⟩) (by assumption) ?_
    rotate_left
    · intro w hSw; (try dsimp only at hSw); go_simp; try with_reducible rfl
    try simp only [Act.put, List.setIfInBounds_toArray, List.set_cons_zero, List.set_cons_succ]
    refine wpAnyH_take (i := 10) (v := ?_) (by simp only [List.getElem?_toArray, List.getElem?_cons_succ, List.getElem?_cons_zero]; rfl) (by kernel_rfl) (by kernel_rfl) (by kernel_rfl) (by exact fun _ _ _ h => h) (Or.inl ⟨by rfl, ?_⟩) (by assumption) ?_
    rotate_left
    · intro w hSw; (try dsimp only at hSw); go_simp; try with_reducible rfl
    try simp only [Act.put, List.setIfInBounds_toArray, List.set_cons_zero, List.set_cons_succ]
    refine wpAnyH_done (by kernel_rfl) ?_ _
    go_wp2_with fail
    all_goals (go_ret; exact ⟨rfl, bl HWF.out (by repeat (first | exact Below.refl _ _ | assumption | apply below_dr | apply below_dn | apply below_al))⟩)
theorem keeps_row (o : OpR) (i c : Int) (w : World) (wi : (Lit.int .u8 i).wf = true) (wc : (Lit.int .u8 c).wf = true) (ho : OpW o) :
    Calls Try.prog 11 #[.int .u8 i, .int .u8 c, .agg #[.int .i64 o.kind, .int .i64 o.i, .int .i64 o.n, .int .u64 (o.keep : Int), .string o.b]] w fun e w' => e = .returned (.bool true) ∧ Below w.heap.size w w' := by
  obtain ⟨i, rfl, hi⟩ := u8_nat wi
  obtain ⟨c, rfl, hc⟩ := u8_nat wc
  exact keeps_any o i c w hi hc ho
end Go.Proofs.Ytpdhfnpnilpipaa.Dv
