/- A write to a device, by a walk. -/
import Derived.Test.YtpgpphmpnebafaaGreatDvC
namespace Go.Proofs.YtpgpphmpnebafaaGreat.Dv
open Go.RowKit
set_option linter.unusedSimpArgs false
set_option linter.unusedVariables false
set_option maxRecDepth 100000

section
variable {F : Nat → Prop} {b : Nat} {P : List ByteArray} {Q : List (Nat × ByteArray)} {w : World}
theorem write_dev {w wc W w2 : World} {vp vw v' : Value} {gs : List Nat} {hs : List (Nat × Nat)} (hd : DevAt w b vp vw P Q gs hs) (hf : ∀ k, foot b vp vw gs hs k → F k) {i : Nat} {s : ByteArray} (hi : i < P.length) (hs0 : s.size = 256)
    {g1 cap1 : Nat} {cur1 : Array Value} {g cap H : Nat} (hgr : W.grownBy w2 vw.ownBlock) (hv : v' = .slice (some ⟨g, 0, none⟩) (Q.length + 1) cap)
    (hown : w2.ownsRow 0 111 2 v' (Q.length + 1) (qCells Q hs ++ wrV (i, s) (g1, cap1))) (hat : vw.ownBlock = some g ∨ g = H) (hH : w.heap.size ≤ H)
    (hb1 : Below w.heap.size w wc) (hg1 : w.heap.size ≤ g1) (hc1 : s.size ≤ cap1) (hcur : wc.heap[g1]? = some (.cells cur1 5 (0, 0))) (htk : cur1.toList.take s.size = Lib.strCells s) (hb2 : Below wc.heap.size wc W) :
    Dev (w2.setCell ⟨b, 1, none⟩ v') (fun k => F k ∨ w.heap.size ≤ k) b P (Q ++ [(i, s)]) ∧ Chg F w (w2.setCell ⟨b, 1, none⟩ v') := by
  have hwW := bl hb1 hb2
  have hcurW := (hb2.block g1 (lt_of_some hcur)).trans hcur
  rw [hs0] at htk hc1
  refine ⟨⟨vp, v', gs, hs ++ [(g1, cap1)], hd.pushWrite hwW hg1 hi hs0 hc1 hcurW htk hv hown hgr, ?_⟩, ?_⟩
  · intro k hk
    rcases hk with rfl | hk | hk | hk | hk
    · exact .inl (hf _ (.inl rfl))
    · exact .inl (hf k (.inr (.inl hk)))
    · have : g = k := by rw [hv] at hk; simpa [Value.ownBlock] using hk
      subst this
      rcases hat with hat | hat
      · exact .inl (hf g (.inr (.inr (.inl hat))))
      · right; omega
    · exact .inl (hf k (.inr (.inr (.inr (.inl hk)))))
    · rw [List.map_append, List.mem_append] at hk
      rcases hk with hk | hk
      · exact .inl (hf k (.inr (.inr (.inr (.inr hk)))))
      · have : k = g1 := by simpa using hk
        right; omega
  · refine Chg.setCell ((Chg.of_below hwW F).trans (Chg.of_grown hgr (F := F) fun k hk => hf k (.inr (.inr (.inl hk)))) (fun j hj => .inl hj)) (.inl (hf b (.inl rfl))) _
set_option maxHeartbeats 1000000 in
theorem write_ok (hd : Dev w F b P Q) (i : Nat) (hi : i < P.length) (A : Addr) (c : Nat) (s : ByteArray) (hs0 : s.size = 256) (hr : RdB w (some A) s) (hQ : Q.length ≤ 1000000) :
    Calls Tryz.prog 9 #[.pointer (some ⟨b, 0, none⟩), .int .i64 (i : Int), .slice (some A) s.size c] w fun e w' => e = .returned (.int .i64 0) ∧ Dev w' (fun k => F k ∨ w.heap.size ≤ k) b P (Q ++ [(i, s)]) ∧ Chg F w w' := by
  have hp := pages_any hd
  obtain ⟨vp, vw, gs, hs, hd, hf⟩ := hd
  obtain ⟨i0, hi0, hz0, hz1, hz2⟩ := info_parts infoWrite
  have hc1 := cell_at hd.blk 1
  have hf1 := frozen_at hd.blk 1
  have hbw := lt_of_some hd.blk
  have HD := Lib.hid hd
  have HF := Lib.hid hf
  have HP := Lib.hid hp
  have HR := Lib.hid hr
  have HS := Lib.hid hs0
  have hsm := hd.small
  have hrow := hd.rowQ
  have t1 : decide (P.length ≤ i) = false := decide_eq_false (by omega)
  have t2 : decide ((P.length : Int) ≤ (i : Int)) = false := decide_eq_false (by omega)
  have t3 : ((s.size : Int) != 256) = false := by rw [hs0]; rfl
  have hszle : s.size ≤ 1000000 := by omega
  clear hd hf hp hr hs0
  go_enter Tryz.func9, Tryz.ntmps9
  go_wp2_with fail
  refine HP.out.mono ?_
  rintro e w' ⟨rfl, rfl⟩
  go_wp2_with fail
  go_region_law (first
    | (refine step_append_lies _ rfl (.tmp 24) (.tmp 29) 106 rfl 0 111 i0 (.agg #[.int .i64 0, .slice none 0 0]) 2 32 Tryz.underlying106 hi0 hz0 hz1 hz2 rfl (by decide) vw Q.length (qCells Q hs) (by simp [Act.eval, Act.put]) (own_below hrow (by first | exact bl hbc (by repeat (first | exact Below.refl _ _ | apply below_dr | apply below_al)))) ⟨wc.heap.size, 0, none⟩ 1 1 (wrV (i, s) (g1, cap1)) (by simp [Act.eval, Act.put]) rfl (two_cells (by simp) (by simp [HS.out])) (by simp [Value.oneCell', wrV]) (by decide) (by unfold maxLen; omega) (by omega) (Nat.zero_le _) (wc.heap.size + 1) (by simp) ?_; intro g cap w2 hown hgr hat hlt2; have hbk := HD.out.blk_grownW hgr (bl hbc (by repeat (first | exact Below.refl _ _ | apply below_dr | apply below_al))); have hc2 := cell_at hbk 1; have hf2 := frozen_at hbk 1)
    | (go_simp; go_at_call 42; refine (clone_any A c s _ (HR.out.below (by repeat (first | exact Below.refl _ _ | apply below_dr | apply below_al))) hszle).mono ?_; rintro e wc ⟨v1, rfl, ⟨g1, cap1, cur1, rfl, hg1, hcap1, hcap2, hcur, _, htk⟩, hbc0⟩; have hbc : Below w.heap.size w wc := bl (by repeat (first | exact Below.refl _ _ | apply below_dr | apply below_al)) hbc0; have hcc1 : wc.cell? ⟨b, 1, none⟩ = some vw := (hbc.cell (p := ⟨b, 1, none⟩) hbw).trans hc1; have hcc2 := fun X => cell_alloc hcc1 X))
  all_goals
    go_wp2
    go_ret
    refine ⟨rfl, ?_⟩
    exact write_dev HD.out HF.out hi HS.out hgr rfl hown hat (by have := hbc.size; omega) hbc (by simpa using hg1) hcap1 hcur htk (by repeat (first | exact Below.refl _ _ | apply below_dr | apply below_al))
end
end Go.Proofs.YtpgpphmpnebafaaGreat.Dv
