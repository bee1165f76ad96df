/- A write that is refused, and Sync, by walks. -/
import Derived.Test.YtpgpphmpnebafaaGreatDvD
namespace Go.Proofs.YtpgpphmpnebafaaGreat.Dv
open Go.RowKit
set_option linter.unusedSimpArgs false
set_option linter.unusedVariables false
set_option maxRecDepth 100000

section
variable {F : Nat → Prop} {b : Nat} {P : List ByteArray} {Q : List (Nat × ByteArray)} {w : World} {vp vw : Value} {gs : List Nat} {hs : List (Nat × Nat)}
set_option maxHeartbeats 400000 in
theorem write_bad (hd : Dev w F b P Q) (i : Int) (Ao : Option Addr) (n c : Nat) (hn : n ≤ 9223372036854775807) (h : i < 0 ∨ (P.length : Int) ≤ i ∨ n ≠ 256) :
    Calls Tryz.prog 9 #[.pointer (some ⟨b, 0, none⟩), .int .i64 i, .slice Ao n c] w fun e w' => e = .returned (.int .i64 1) ∧ w = w' := by
  have hp := pages_any hd
  have hsm := hd.small
  by_cases h0 : i < 0
  · have t0 : decide (i < 0) = true := decide_eq_true h0
    clear h hp
    go_enter Tryz.func9, Tryz.ntmps9
    go_wp2
    go_ret
    exact ⟨rfl, rfl⟩
  · have t0 : decide (i < 0) = false := decide_eq_false h0
    by_cases h1 : (P.length : Int) ≤ i
    · have t1 : decide ((P.length : Int) ≤ i) = true := decide_eq_true h1
      clear h
      have HP := Lib.hid hp
      clear hp
      go_enter Tryz.func9, Tryz.ntmps9
      go_wp2_with fail
      refine HP.out.mono ?_
      rintro e w' ⟨rfl, rfl⟩
      go_wp2
      go_ret
      exact ⟨rfl, rfl⟩
    · have t1 : decide ((P.length : Int) ≤ i) = false := decide_eq_false h1
      have t2 : ((n : Int) != 256) = true := by rw [bne_iff_ne]; omega
      clear h
      have HP := Lib.hid hp
      clear hp
      go_enter Tryz.func9, Tryz.ntmps9
      go_wp2_with fail
      refine HP.out.mono ?_
      rintro e w' ⟨rfl, rfl⟩
      go_wp2
      go_ret
      exact ⟨rfl, rfl⟩
theorem DevAt.cells (h : DevAt w b vp vw P Q gs hs) (k : Nat) (q : Nat × ByteArray) (hq : Q[k]? = some q) : ∃ gw cw hh c g s cur, vw = .slice (some ⟨gw, 0, none⟩) Q.length cw ∧
    w.cell? ⟨gw, k * 2, none⟩ = some (.int .i64 (q.1 : Int)) ∧ w.cell? ⟨gw, k * 2 + 1, none⟩ = some (.slice (some ⟨hh, 0, none⟩) 256 c) ∧ q.1 < P.length ∧ gs[q.1]? = some g ∧ P[q.1]? = some s ∧ s.size = 256 ∧ q.2.size = 256 ∧ hh ≠ g ∧ gw ≠ g ∧
    w.heap[g]? = some (.cells (Lib.strCells s).toArray 5 (0, 0)) ∧ w.heap[hh]? = some (.cells cur 5 (0, 0)) ∧ cur.toList.take 256 = Lib.strCells q.2 ∧ ∃ gp cp, vp = .slice (some ⟨gp, 0, none⟩) P.length cp ∧ w.cell? ⟨gp, q.1, none⟩ = some (pageV g) ∧ gp ≠ g ∧ 256 ≤ c := by
  have hk := (List.getElem?_eq_some_iff.1 hq).1
  have hl := h.hlen
  obtain ⟨x, hx⟩ : ∃ x, hs[k]? = some x := ⟨_, List.getElem?_eq_getElem (by omega)⟩
  obtain ⟨q', hq', h2, h3, h4, h5, cur, h6, h7⟩ := h.wr k x hx
  rw [hq] at hq'; injection hq' with hq'; subst hq'
  have hgl := h.glen
  obtain ⟨g, hg⟩ : ∃ g, gs[q.1]? = some g := ⟨_, List.getElem?_eq_getElem (by omega)⟩
  obtain ⟨s, hs1, hs2, hs3⟩ := h.page q.1 g hg
  have hgm := List.mem_of_getElem? hg
  obtain ⟨hc1, hc2⟩ := qCells_at k Q hs q x hq hx
  have hw := h.rowQ
  have hp := h.rowP
  rcases hw.2 with ⟨_, h0⟩ | ⟨gw, cw, curw, hvw, _, hhw, _, _, hsz, htk⟩
  · omega
  rcases hp.2 with ⟨_, h0⟩ | ⟨gp, cp, curp, hvp, _, hhp, _, _, hszp, htkp⟩
  · omega
  have cellw : ∀ j u, (qCells Q hs)[j]? = some u → w.cell? ⟨gw, j, none⟩ = some u := by
    intro j u hj
    rw [cell_at hhw]
    have := (List.getElem?_eq_some_iff.1 hj).1
    rw [← htk, List.getElem?_take] at hj
    split at hj
    · simpa using hj
    · simp at hj
  have cellp : ∀ j u, (gs.map pageV)[j]? = some u → w.cell? ⟨gp, j, none⟩ = some u := by
    intro j u hj
    rw [cell_at hhp]
    rw [← htkp, List.getElem?_take] at hj
    split at hj
    · simpa using hj
    · simp at hj
  refine ⟨gw, cw, x.1, x.2, g, s, cur, hvw, cellw _ _ hc1, cellw _ _ hc2, h2, hg, hs1, hs2, h3, fun e => h4 (e ▸ hgm), fun e => ?_, hs3, h6, h7, gp, cp, hvp, cellp _ _ (by rw [List.getElem?_map, hg]; rfl), fun e => ?_, h5⟩
  · subst e; exact type_ne hhw hs3 (by decide)
  · subst e; exact type_ne hhp hs3 (by decide)
theorem blk_below {w W : World} {g : Nat} {o : Obj} (h : w.heap[g]? = some o) (hb : Below w.heap.size w W) : W.heap[g]? = some o := (hb.block g (lt_of_some h)).trans h
theorem copy_src {w W : World} {hh : Nat} {cur : Array Value} {s : ByteArray} {t : TypeId} (h : w.heap[hh]? = some (.cells cur t (0, 0))) (hc : cur.toList.take 256 = Lib.strCells s) (hs : s.size = 256) (hb : Below w.heap.size w W) :
    ∀ (j : Nat) (v : Value), (Lib.strCells s)[j]? = some v → W.cell? ((⟨hh, 0, none⟩ : Addr).add j) = some v := by
  obtain ⟨ad, hA, hcell⟩ := RdB.of_block (s := s) (blk_below h hb) (by rw [hs]; exact hc) (by omega)
  injection hA with hA; subst hA
  exact hcell
theorem infoByteSize : (Tryz.prog.info? 5).map (·.size) = some 1 := by kernel_rfl
/-- A page is laid whole or in part: what it is then. -/
theorem lay_page {wr W w2 : World} {g i : Nat} {s s' : ByteArray} {P' : List ByteArray} {cs : List Value} (hd : DevAt wr b vp vw P' Q gs hs) (hb : Below wr.heap.size wr W) (hch2 : Chg (· = g) W w2) (hsz : w2.heap.size = W.heap.size)
    (hg : gs[i]? = some g) (hg2 : w2.heap[g]? = some (.cells (cs ++ (Lib.strCells s).drop cs.length).toArray 5 (0, 0))) (hcs : cs ++ (Lib.strCells s).drop cs.length = Lib.strCells s') (hs' : s'.size = 256) : DevAt w2 b vp vw (P'.set i s') Q gs hs := by
  rw [hcs] at hg2
  refine (hd.move fun k hk => hb.block k (hd.foot_lt k hk)).setPage hg hs' (fun k hk => ?_) hg2
  by_cases hlt : k < W.heap.size
  · exact hch2.block k hlt hk
  · rw [Array.getElem?_eq_none (by omega), Array.getElem?_eq_none (by omega)]
set_option maxHeartbeats 1000000 in
theorem sync_any (hd : Dev w F b P Q) (hQ : Q.length ≤ 1000000) :
    Calls Tryz.prog 50 #[.pointer (some ⟨b, 0, none⟩)] w fun e w' => e = .returned (.tuple #[]) ∧ Dev w' F b (dSync P Q) [] ∧ Chg F w w' := by
  obtain ⟨vp, vw, gs, hs, hd, hf⟩ := hd
  have hc1 := cell_at hd.blk 1
  obtain ⟨Aw, cw, hvw, hcw⟩ := own_slice hd.rowQ
  have HD := Lib.hid hd
  have HF := Lib.hid hf
  have HV := Lib.hid hvw
  clear hd hf
  subst hvw
  go_enter Tryz.func50, Tryz.ntmps50
  go_wp2_with fail
  go_loopw [11] (fun i wr => ∃ k : Nat, k ≤ Q.length ∧ i = .int .i64 k ∧ DevAt wr b vp (.slice Aw Q.length cw) (dSync P (Q.take k)) Q gs hs ∧ Chg F w wr) (fun i _ => Q.length - (intOf i).toNat)
  case atStart => exact ⟨0, Nat.zero_le _, rfl, HD.out, Chg.refl _ _⟩
  case round =>
    obtain ⟨k, hk, rfl, hd, hch⟩ := hrel
    by_cases hlt : k < Q.length
    · obtain ⟨q, hq⟩ : ∃ q, Q[k]? = some q := ⟨_, List.getElem?_eq_getElem hlt⟩
      obtain ⟨gw, cw', hh, c, g, s, cur, hv1, m1, m2, m3, m4, m5, m6, m7, m8, m9, m10, m11, m12, gp, cp, hv2, m13, m14, m15⟩ := hd.cells k q hq
      injection hv1 with hv1 _ hv1'
      subst hv1 hv1' hv2
      have hc0 := cell_at hd.blk 0
      have HDr := Lib.hid hd
      have HM3 := Lib.hid m3
      have HM4 := Lib.hid m4
      have HM5 := Lib.hid m5
      have HM6 := Lib.hid m6
      have HM7 := Lib.hid m7
      have HM12 := Lib.hid m12
      have HQ := Lib.hid hq
      clear hd m3 m4 m5 m6 m7 m8 m9 m12 m14 m15 hq
      have hi1 : (q.1 : Int) < ((dSync P (Q.take k)).length : Int) := by have := HM3.out; omega
      have hca := fun X => cell_alloc hc0 X
      have hcb := fun X => cell_alloc m13 X
      have hmin : Nat.min 256 256 = 256 := rfl
      go_wp2_with fail
      go_region_law (refine step_copy_row rfl (.tmp 22) (.tmp 24) 22 22 rfl 5 Tryz.underlying22 infoByteSize g 256 256 256 c (some ⟨hh, 0, none⟩) (by simp [Act.eval, pageV]) (by simp [Act.eval]) (Lib.strCells s) 5 (blk_below m10 (by repeat (first | exact Below.refl _ _ | apply below_dr | apply below_al))) (Lib.strCells q.2) (by rw [Lib.strCells_length, HM7.out]; rfl) (fun _ => ⟨_, rfl, copy_src m11 HM12.out HM7.out (by repeat (first | exact Below.refl _ _ | apply below_dr | apply below_al))⟩) (by rw [Lib.strCells_length, Lib.strCells_length, HM7.out, HM6.out]; exact Nat.le_refl _) (Lib.strCells_oneCell _) ?_; intro w2 hch2 hsz2 hg2)
      all_goals
        go_wp2
        go_roundw
        case rel =>
          refine ⟨k + 1, by omega, by go_num, ?_, ?_⟩
          · rw [take_snoc _ _ _ HQ.out, dSync_snoc]
            exact lay_page HDr.out (by repeat (first | exact Below.refl _ _ | apply below_dr | apply below_al)) hch2 hsz2 HM4.out hg2 (by rw [List.drop_eq_nil_of_le (by rw [Lib.strCells_length, Lib.strCells_length, HM7.out, HM6.out]; exact Nat.le_refl _), List.append_nil]) HM7.out
          · refine (hch.trans (Chg.of_below (by repeat (first | exact Below.refl _ _ | apply below_dr | apply below_al)) F) (fun j hj => .inl hj)).trans hch2 (fun j hj => .inl (HF.out j ?_))
            subst hj
            exact .inr (.inr (.inr (.inl (List.mem_of_getElem? HM4.out))))
        case measure => simp [intOf]; omega
    · have hkq : k = Q.length := by omega
      have HK := Lib.hid hkq
      clear hkq
      have hc1' := cell_at hd.blk 1
      have hf1' := frozen_at hd.blk 1
      have HDr := Lib.hid hd
      clear hd
      go_wp2
      go_end0
      refine ⟨rfl, ⟨vp, .slice none 0 0, gs, [], ?_, fun j hj => ?_⟩, hch.setCell (.inl (HF.out b (.inl rfl))) _⟩
      · have := HDr.out.clear
        rw [HK.out, List.take_length] at this
        exact this
      · rcases hj with hj | hj | hj | hj | hj
        · exact HF.out j (.inl hj)
        · exact HF.out j (.inr (.inl hj))
        · simp [Value.ownBlock] at hj
        · exact HF.out j (.inr (.inr (.inr (.inl hj))))
        · simp at hj
end
end Go.Proofs.YtpgpphmpnebafaaGreat.Dv
