/- The document's Decode of a meta page, by a walk. -/
import Derived.Test.YtpjgmcoimniheaaMsE
namespace Go.Proofs.Ytpjgmcoimniheaa.Mt
open Go.RowKit Go.Proofs.Ytpjgmcoimniheaa.By
set_option linter.unusedSimpArgs false
set_option linter.unusedVariables false

theorem tkE_le (s : ByteArray) (a e m : Nat) (h : e ≤ 2) : tkE s a e m ≤ 2 := by unfold tkE; split; exact h; split <;> omega
theorem tkV_lt4 (s : ByteArray) (a e : Nat) : tkV s a e 4 < 4294967296 := by
  unfold tkV
  split
  · omega
  · split
    · omega
    · exact num_four _ (fun c hc => nats_lt s c (List.mem_of_mem_drop (List.mem_of_mem_take hc))) (by rw [List.length_take]; omega)
set_option maxRecDepth 100000 in
set_option maxHeartbeats 2000000 in
theorem rdecode_any (s : ByteArray) (w : World) (hs : s.size ≤ 1000000) : Calls Try.prog 23 #[.string s] w (DecPost w s) := by
  go_enter Try.func23, Try.ntmps23
  go_wp2_with fail
  have hr0 : Rdq ((w.alloc (.cells #[.int .i64 0, .int .i64 0] 23 (0, 0))).alloc (.cells #[.string s, .int .i64 0, .int .i64 0] 82 (0, 0))) (w.heap.size + 1) s 0 0 := ⟨new_block2 _ _ _, Nat.zero_le _⟩
  have hb0 : Below w.heap.size w ((w.alloc (.cells #[.int .i64 0, .int .i64 0] 23 (0, 0))).alloc (.cells #[.string s, .int .i64 0, .int .i64 0] 82 (0, 0))) := below_al (below_al (Below.refl _ _) _) _
  have hres0 : ((w.alloc (.cells #[.int .i64 0, .int .i64 0] 23 (0, 0))).alloc (.cells #[.string s, .int .i64 0, .int .i64 0] 82 (0, 0))).heap[w.heap.size]? = some (.cells #[.int .i64 0, .int .i64 0] 23 (0, 0)) := new_later (below_al (Below.refl _ _) _)
  have hcm0 := came_zero (s := s)
  obtain ⟨a0, ha0⟩ : ∃ a, a = 0 := ⟨0, rfl⟩
  obtain ⟨e0, he0⟩ : ∃ e, e = 0 := ⟨0, rfl⟩
  have hr0 : Rdq ((w.alloc (.cells #[.int .i64 0, .int .i64 0] 23 (0, 0))).alloc (.cells #[.string s, .int .i64 0, .int .i64 0] 82 (0, 0))) (w.heap.size + 1) s a0 e0 := by rw [ha0, he0]; exact hr0
  have hcm0 : Came s 0 a0 e0 := by rw [ha0, he0]; exact hcm0
  have hle0 : e0 ≤ 2 := by omega
  have HA0 := Lib.hid ha0
  have HE0 := Lib.hid he0
  clear ha0 he0
  have ht1 := takeq_any (w.heap.size + 1) a0 e0 4 s _ hr0 hs (by omega) hle0
  obtain ⟨V1, hV1⟩ : ∃ x, x = tkV s a0 e0 4 := ⟨_, rfl⟩
  obtain ⟨a1, ha1⟩ : ∃ x, x = tkA s a0 e0 4 := ⟨_, rfl⟩
  obtain ⟨e1, he1⟩ : ∃ x, x = tkE s a0 e0 4 := ⟨_, rfl⟩
  have hcm1 : Came s (0 + 4) (tkA s a0 e0 4) (tkE s a0 e0 4) := came_step (m := 4) hcm0
  have hle1 := tkE_le s a0 e0 4 hle0
  rw [← ha1, ← he1] at hcm1
  rw [← he1] at hle1
  rw [← hV1, ← ha1, ← he1] at ht1
  have HV1 := Lib.hid hV1
  clear hV1 ha1 he1
  refine ht1.mono ?_
  clear ht1 hr0
  rintro x w1 ⟨rfl, hr1, hc1⟩
  have hb1 := hc1.below hb0 (fun j hj => by omega) hb0.size
  have hres1 := (hc1.block _ (lt_of_some hres0) (by omega)).trans hres0
  have HV1L : Hid (V1 < 4294967296) := Lib.hid (by rw [HV1.out]; exact tkV_lt4 s a0 e0)
  clear hb0 hres0 hc1
  have hr1' := hr1.below (below_al (Below.refl _ w1) (.cells #[.int .i64 (V1 : Int), .int .i64 0] 23 (0, 0)))
  have hb1' := below_al hb1 (.cells #[.int .i64 (V1 : Int), .int .i64 0] 23 (0, 0))
  have hres1' := ((below_al (Below.refl _ w1) (.cells #[.int .i64 (V1 : Int), .int .i64 0] 23 (0, 0))).block _ (lt_of_some hres1)).trans hres1
  have hM1' := new_block w1 (.cells #[.int .i64 (V1 : Int), .int .i64 0] 23 (0, 0))
  have hMR : w1.heap.size ≠ w.heap.size + 1 := by have := lt_of_some hr1.1; omega
  have hMW : w.heap.size < w1.heap.size := by have := lt_of_some hr1.1; omega
  clear hb1 hres1
  go_wp2_with fail
  have ht2 := takeq_any (w.heap.size + 1) a1 e1 4 s _ hr1' hs (by omega) hle1
  obtain ⟨V2, hV2⟩ : ∃ x, x = tkV s a1 e1 4 := ⟨_, rfl⟩
  obtain ⟨a2, ha2⟩ : ∃ x, x = tkA s a1 e1 4 := ⟨_, rfl⟩
  obtain ⟨e2, he2⟩ : ∃ x, x = tkE s a1 e1 4 := ⟨_, rfl⟩
  have hcm2 : Came s (0 + 4 + 4) (tkA s a1 e1 4) (tkE s a1 e1 4) := came_step (m := 4) hcm1
  have hle2 := tkE_le s a1 e1 4 hle1
  rw [← ha2, ← he2] at hcm2
  rw [← he2] at hle2
  rw [← hV2, ← ha2, ← he2] at ht2
  have HV2 := Lib.hid hV2
  clear hV2 ha2 he2
  refine ht2.mono ?_
  clear ht2 hr1' hr1
  rintro x w2 ⟨rfl, hr2, hc2⟩
  have hb2 := hc2.below hb1' (fun j hj => by omega) hb1'.size
  have hres2 := (hc2.block _ (lt_of_some hres1') (by omega)).trans hres1'
  have hM2 := (hc2.block _ (lt_of_some hM1') hMR).trans hM1'
  clear hb1' hres1' hM1' hc2
  go_wp2_with fail
  have ht3 := takeq_any (w.heap.size + 1) a2 e2 2 s _ hr2 hs (by omega) hle2
  obtain ⟨V3, hV3⟩ : ∃ x, x = tkV s a2 e2 2 := ⟨_, rfl⟩
  obtain ⟨a3, ha3⟩ : ∃ x, x = tkA s a2 e2 2 := ⟨_, rfl⟩
  obtain ⟨e3, he3⟩ : ∃ x, x = tkE s a2 e2 2 := ⟨_, rfl⟩
  have hcm3 : Came s (0 + 4 + 4 + 2) (tkA s a2 e2 2) (tkE s a2 e2 2) := came_step (m := 2) hcm2
  have hle3 := tkE_le s a2 e2 2 hle2
  rw [← ha3, ← he3] at hcm3
  rw [← he3] at hle3
  rw [← hV3, ← ha3, ← he3] at ht3
  have HV3 := Lib.hid hV3
  clear hV3 ha3 he3
  refine ht3.mono ?_
  clear ht3 hr2
  rintro x w3 ⟨rfl, hr3, hc3⟩
  have hb3 := hc3.below hb2 (fun j hj => by omega) hb2.size
  have hres3 := (hc3.block _ (lt_of_some hres2) (by omega)).trans hres2
  have hM3 := (hc3.block _ (lt_of_some hM2) hMR).trans hM2
  clear hb2 hres2 hM2 hc3
  go_wp2_with fail
  have ht4 := takeq_any (w.heap.size + 1) a3 e3 1 s _ hr3 hs (by omega) hle3
  obtain ⟨V4, hV4⟩ : ∃ x, x = tkV s a3 e3 1 := ⟨_, rfl⟩
  obtain ⟨a4, ha4⟩ : ∃ x, x = tkA s a3 e3 1 := ⟨_, rfl⟩
  obtain ⟨e4, he4⟩ : ∃ x, x = tkE s a3 e3 1 := ⟨_, rfl⟩
  have hcm4 : Came s (0 + 4 + 4 + 2 + 1) (tkA s a3 e3 1) (tkE s a3 e3 1) := came_step (m := 1) hcm3
  have hle4 := tkE_le s a3 e3 1 hle3
  rw [← ha4, ← he4] at hcm4
  rw [← he4] at hle4
  rw [← hV4, ← ha4, ← he4] at ht4
  have HV4 := Lib.hid hV4
  clear hV4 ha4 he4
  refine ht4.mono ?_
  clear ht4 hr3
  rintro x w4 ⟨rfl, hr4, hc4⟩
  have hb4 := hc4.below hb3 (fun j hj => by omega) hb3.size
  have hres4 := (hc4.block _ (lt_of_some hres3) (by omega)).trans hres3
  have hM4 := (hc4.block _ (lt_of_some hM3) hMR).trans hM3
  clear hb3 hres3 hM3 hc4
  go_wp2_with fail
  have ht5 := takeq_any (w.heap.size + 1) a4 e4 2 s _ hr4 hs (by omega) hle4
  obtain ⟨V5, hV5⟩ : ∃ x, x = tkV s a4 e4 2 := ⟨_, rfl⟩
  obtain ⟨a5, ha5⟩ : ∃ x, x = tkA s a4 e4 2 := ⟨_, rfl⟩
  obtain ⟨e5, he5⟩ : ∃ x, x = tkE s a4 e4 2 := ⟨_, rfl⟩
  have hcm5 : Came s (0 + 4 + 4 + 2 + 1 + 2) (tkA s a4 e4 2) (tkE s a4 e4 2) := came_step (m := 2) hcm4
  have hle5 := tkE_le s a4 e4 2 hle4
  rw [← ha5, ← he5] at hcm5
  rw [← he5] at hle5
  rw [← hV5, ← ha5, ← he5] at ht5
  have HV5 := Lib.hid hV5
  clear hV5 ha5 he5
  refine ht5.mono ?_
  clear ht5 hr4
  rintro x w5 ⟨rfl, hr5, hc5⟩
  have hb5 := hc5.below hb4 (fun j hj => by omega) hb4.size
  have hres5 := (hc5.block _ (lt_of_some hres4) (by omega)).trans hres4
  have hM5 := (hc5.block _ (lt_of_some hM4) hMR).trans hM4
  clear hb4 hres4 hM4 hc5
  have hbig : 13 ≤ s.size → V1 = decV s ∧ V5 = decR s := by
    intro h13
    have he4 := hcm4.2 (by omega)
    have ha4 := (hcm4.1 he4).1
    refine ⟨?_, ?_⟩
    · rw [HV1.out, HA0.out, HE0.out]; unfold tkV; rw [if_neg (by simp), if_neg (by omega)]; rfl
    · rw [HV5.out, ha4, he4]; unfold tkV; rw [if_neg (by simp), if_neg (by omega)]; rfl
  have hV5l : V5 < 65536 := by rw [HV5.out]; exact tkV_lt2 s _ _
  have hM6 : (w5.setCell ⟨w1.heap.size, 1, none⟩ (.int .i64 (V5 : Int))).heap[w1.heap.size]? = some (.cells #[.int .i64 (V1 : Int), .int .i64 (V5 : Int)] 23 (0, 0)) := heap_setCell_self w5 w1.heap.size 1 _ _ _ hM5
  have hr6 : (w5.setCell ⟨w1.heap.size, 1, none⟩ (.int .i64 (V5 : Int))).heap[w.heap.size + 1]? = _ := (heap_setCell_ne w5 w1.heap.size 1 (w.heap.size + 1) _ (fun h => hMR h.symm)).trans hr5.1
  have hres6 : (w5.setCell ⟨w1.heap.size, 1, none⟩ (.int .i64 (V5 : Int))).heap[w.heap.size]? = _ := (heap_setCell_ne w5 w1.heap.size 1 w.heap.size _ (by omega)).trans hres5
  have hb6 : Below w.heap.size w (w5.setCell ⟨w1.heap.size, 1, none⟩ (.int .i64 (V5 : Int))) := hb5.setCell (p := ⟨w1.heap.size, 1, none⟩) (by show w.heap.size ≤ w1.heap.size; omega) _
  have cM0 := cell_at hM5 0
  have cM1 := cell_at hM5 1
  have fM1 := frozen_at hM5 1
  have m0 := cell_at hM6 0
  have m1 := cell_at hM6 1
  have q2 := cell_at hr6 2
  have c0 := cell_at hres6 0
  have c1 := cell_at hres6 1
  have f0 := frozen_at hres6 0
  have f1 := frozen_at hres6 1
  have HBIG := Lib.hid hbig
  have HCF := Lib.hid hcm5
  have HM6 := Lib.hid hM6
  have HX6 := Lib.hid hres6
  have HFIN6 := Lib.hid hb6
  have HV5L := Lib.hid hV5l
  clear hbig hcm0 hcm1 hcm2 hcm3 hcm4 hcm5 hM6 hr6 hres6 hb6 hV5l hb5 hres5 hM5 hr5 hle0 hle1 hle2 hle3 hle4 hMW hMR HV1 HV2 HV3 HV4 HV5
  by_cases heF : e5 = 0
  rotate_left
  · have t1 : ((e5 : Int) != 0) = true := by rw [bne_iff_ne]; omega
    have t2 : (e5 != 0) = true := by rw [bne_iff_ne]; exact heF
    have t3 : decide ((e5 : Int) = 0) = false := decide_eq_false (by omega)
    have t4 : ((e5 : Int) == 0) = false := by simp; omega
    have t5 : decide (e5 = 0) = false := decide_eq_false heF
    have t6 : (e5 == 0) = false := by simp; omega
    have HNO : Hid (¬ decOk s) := Lib.hid (fun h => heF (HCF.out.2 h.1))
    have HX := HX6
    have HFIN := HFIN6
    clear heF
    go_wp2_with fail
    exact bodyPost_ret (v := .tuple #[.agg #[.int .i64 0, .int .i64 0], .int .i64 3]) (by obtain ⟨q0, q1⟩ := two_set HX.out (.int .i64 0) (.int .i64 0); simp [results, Try.results23, go_sem, q0, q1]) rfl ⟨fun h => absurd h HNO.out, fun _ => rfl, by repeat (first | exact HFIN.out | (refine below_st ?_ (Nat.le_refl _) _))⟩
  subst heF
  have h13 : 13 ≤ s.size := (HCF.out.1 rfl).2
  obtain ⟨hVe, hRe⟩ := HBIG.out h13
  have HVE := Lib.hid hVe
  have HRE := Lib.hid hRe
  clear hVe hRe
  have HRT := Lib.hid (fun X => rright_any (V1 : Int) (V5 : Int) X)
  by_cases hright : rightB (V1 : Int) (V5 : Int) = true
  rotate_left
  · have hrf : rightB (V1 : Int) (V5 : Int) = false := by simpa using hright
    rw [hrf] at HRT
    have HNO : Hid (¬ decOk s) := Lib.hid (fun h => hright (by rw [HVE.out, HRE.out]; exact h.2.1))
    clear hright hrf
    go_wp2_with fail
    refine (HRT.out _).mono ?_
    rintro x w7 ⟨rfl, hb7⟩
    have HFIN := Lib.hid (bl HFIN6.out hb7)
    have hres7 := (hb7.block _ (lt_of_some HX6.out)).trans HX6.out
    have d0 := cell_at hres7 0
    have d1 := cell_at hres7 1
    have g0 := frozen_at hres7 0
    have g1 := frozen_at hres7 1
    have HX := Lib.hid hres7
    clear hb7 hres7
    go_wp2_with fail
    exact bodyPost_ret (v := .tuple #[.agg #[.int .i64 0, .int .i64 0], .int .i64 3]) (by obtain ⟨q0, q1⟩ := two_set HX.out (.int .i64 0) (.int .i64 0); simp [results, Try.results23, go_sem, q0, q1]) rfl ⟨fun h => absurd h HNO.out, fun _ => rfl, by repeat (first | exact HFIN.out | (refine below_st ?_ (Nat.le_refl _) _))⟩
  rw [hright] at HRT
  have HRB := Lib.hid (fun X => rbytes_any V1 V5 X HV1L.out HV5L.out)
  have HRI := Lib.hid hright
  clear hright
  go_wp2_with fail
  refine (HRT.out _).mono ?_
  rintro x w7 ⟨rfl, hb7⟩
  have HFIN7 := Lib.hid (bl HFIN6.out hb7)
  have HX7 := Lib.hid ((hb7.block _ (lt_of_some HX6.out)).trans HX6.out)
  have HM7 := Lib.hid ((hb7.block _ (lt_of_some HM6.out)).trans HM6.out)
  have m70 := cell_at HM7.out 0
  have m71 := cell_at HM7.out 1
  clear hb7
  go_wp2_with fail
  refine (HRB.out _).mono ?_
  rintro x w8 ⟨rfl, hb8⟩
  have HFIN := Lib.hid (bl HFIN7.out hb8)
  have HX := Lib.hid ((hb8.block _ (lt_of_some HX7.out)).trans HX7.out)
  have HM8 := Lib.hid ((hb8.block _ (lt_of_some HM7.out)).trans HM7.out)
  have m80 := cell_at HM8.out 0
  have m81 := cell_at HM8.out 1
  have d0 := cell_at HX.out 0
  have d1 := cell_at HX.out 1
  have g0 := frozen_at HX.out 0
  have g1 := frozen_at HX.out 1
  clear hb8
  by_cases hes : enc V1 V5 = s
  · have t1 : decide (enc V1 V5 = s) = true := decide_eq_true hes
    have HYES : Hid (decOk s) := Lib.hid ⟨h13, by rw [← HVE.out, ← HRE.out]; exact HRI.out, by rw [← HVE.out, ← HRE.out]; exact hes⟩
    clear h13
    go_wp2_with fail
    exact bodyPost_ret (v := .tuple #[.agg #[.int .i64 (V1 : Int), .int .i64 (V5 : Int)], .int .i64 0]) (by obtain ⟨q0, q1⟩ := two_set HX.out (.int .i64 (V1 : Int)) (.int .i64 (V5 : Int)); simp [results, Try.results23, go_sem, q0, q1]) rfl ⟨fun _ => by rw [HVE.out, HRE.out], fun h => absurd HYES.out h, by repeat (first | exact HFIN.out | (refine below_st ?_ (Nat.le_refl _) _))⟩
  · have t1 : decide (enc V1 V5 = s) = false := decide_eq_false hes
    have t2 : ((enc V1 V5).toList == s.toList) = false := by
      rw [beq_eq_false_iff_ne]
      intro h
      rw [ByteArray.toList_eq, ByteArray.toList_eq] at h
      exact hes (ByteArray.ext (Array.toList_inj.mp h))
    have HNO : Hid (¬ decOk s) := Lib.hid (fun h => hes (by rw [HVE.out, HRE.out]; exact h.2.2))
    clear h13
    go_wp2_with fail
    exact bodyPost_ret (v := .tuple #[.agg #[.int .i64 0, .int .i64 0], .int .i64 3]) (by obtain ⟨q0, q1⟩ := two_set HX.out (.int .i64 0) (.int .i64 0); simp [results, Try.results23, go_sem, q0, q1]) rfl ⟨fun h => absurd h HNO.out, fun _ => rfl, by repeat (first | exact HFIN.out | (refine below_st ?_ (Nat.le_refl _) _))⟩
end Go.Proofs.Ytpjgmcoimniheaa.Mt
