/- The document's device, by walks: a crash. -/
import Derived.Test.YtpdhfnpnilpipaaDrY
import Derived.Test.YtpdhfnpnilpipaaDvG
import Derived.StillTailTactics
import Derived.BigRegion
namespace Go.Proofs.Ytpdhfnpnilpipaa.Dv
open Go.RowKit
set_option linter.unusedSimpArgs false
set_option linter.unusedVariables false

theorem frozen_alloc {w : World} {p : Addr} {v : Value} (hc : w.cell? p = some v) (h : w.frozen? p = false) (X : Obj) : (w.alloc X).frozen? p = false :=
  (World.frozen?_of_block (w := w) (Below.heap_alloc w X p.block (World.block_lt_of_cell? w p hc))).trans h
theorem RDevAt.setAfter {wr W : World} {b gp n cp i : Nat} {vp vw : Value} {P' : List ByteArray} {Q : List (Nat × ByteArray)} {s : ByteArray} (h : RDevAt wr b vp vw P' Q) (hb : Below wr.heap.size wr W) (hv : vp = .slice (some ⟨gp, 0, none⟩) n cp) (hi : i < P'.length) (hs : s.size = 256) :
    RDevAt (W.setCell ⟨gp, i, none⟩ (.string s)) b vp vw (P'.set i s) Q := by
  obtain ⟨g, c, hv2, hset⟩ := (h.below hb).setPage hi hs
  rw [hv] at hv2
  injection hv2 with hv2 _ _
  injection hv2 with hv2
  injection hv2 with hv2
  rw [hv2]; exact hset
theorem chg_set {F : Nat → Prop} {w wr W : World} {gp : Nat} (hch : Chg F w wr) (hb : Below wr.heap.size wr W) (hF : F gp) (i : Nat) (u : Value) : Chg F w (W.setCell ⟨gp, i, none⟩ u) :=
  (hch.trans (Chg.of_below hb F) (fun j hj => .inl hj)).setCell (.inl hF) u
theorem chg_drew {F : Nat → Prop} {w W : World} (h : Chg F w W) : Chg F w W.drew := ⟨h.os, h.tape, h.output, h.size, h.block⟩
theorem patch_zero (a s : ByteArray) : patch a 0 s = s := by
  apply ba_ext
  unfold patch
  rw [ByteArray.data_append, Array.toList_append, Lib.extract_data, Lib.extract_data]
  simp only [List.take_zero, List.drop_zero, Nat.sub_zero, Nat.sub_self, List.nil_append]
  rw [size_data, List.take_length]
section
variable {F : Nat → Prop} {b : Nat} {P : List ByteArray} {Q : List (Nat × ByteArray)} {w : World}
theorem rkept_bits {keep : Nat} (k : Nat) : ((((keep : Int) / 2 ^ (k % 64)).tmod 2) == 0) = !(kept keep k) := by
  have he : ((keep : Int) / 2 ^ (k % 64)) = ((keep / 2 ^ (k % 64) : Nat) : Int) := by push_cast; rfl
  rw [he]
  unfold kept
  generalize keep / 2 ^ (k % 64) = m
  by_cases h : m % 2 = 1
  · rw [h, Int.tmod_eq_emod_of_nonneg (by omega), show ((m : Int) % 2) = 1 from by omega]; rfl
  · rw [show m % 2 = 0 from by omega, Int.tmod_eq_emod_of_nonneg (by omega), show ((m : Int) % 2) = 0 from by omega]; rfl
set_option maxHeartbeats 1000000 in
theorem rcrash_any (hd : RDev w F b P Q) (hQ : Q.length ≤ 1000000) (keep : Nat) (hkeep : keep < 18446744073709551616) (torn part : Int) :
    Calls Try.prog 39 #[.pointer (some ⟨b, 0, none⟩), .int .u64 (keep : Int), .int .i64 torn, .int .i64 part] w fun e w' => e = .returned (.tuple #[]) ∧ RDev w' F b (dCrash keep torn part 0 P Q) [] ∧ Chg F w w' := by
  obtain ⟨vp, vw, hd, hf⟩ := hd
  have hc1 := cell_at hd.blk 1
  obtain ⟨Aw, cw, rfl, hcw⟩ := own_slice hd.rowQ
  have HD := Lib.hid hd
  have HF := Lib.hid hf
  clear hd hf
  go_enter Try.func39, Try.ntmps39
  go_wp2_with fail
  go_loopw [16] (fun i wr => ∃ k : Nat, k ≤ Q.length ∧ i = .int .i64 k ∧ RDevAt wr b vp (.slice Aw Q.length cw) (dCrash keep torn part 0 P (Q.take k)) Q ∧ Chg F w wr) (fun i _ => Q.length - (intOf i).toNat)
  case atStart => exact ⟨0, Nat.zero_le _, rfl, HD.out, Chg.refl _ _⟩
  case round =>
    obtain ⟨k, hk, rfl, hd, hch⟩ := hrel
    by_cases hlt : k < Q.length
    · obtain ⟨q, hq⟩ : ∃ q, Q[k]? = some q := ⟨_, List.getElem?_eq_getElem hlt⟩
      obtain ⟨gw, cw', hv1, m1, m2⟩ := hd.writeAt hq
      have hql := hd.sizeQ q (List.mem_of_getElem? hq)
      obtain ⟨gp, cp, hv2, m3, m4⟩ := hd.pageAt hql.1
      have hgs : ((dCrash keep torn part 0 P (Q.take k)).getD q.1 ByteArray.empty).size = 256 := by
        have e : (dCrash keep torn part 0 P (Q.take k)).getD q.1 ByteArray.empty = (dCrash keep torn part 0 P (Q.take k))[q.1]'hql.1 := by rw [List.getD_eq_getElem?_getD, List.getElem?_eq_getElem hql.1]; rfl
        rw [e]; exact hd.sizeP _ (List.getElem_mem hql.1)
      have hnl := dCrash_length keep torn part (Q.take k) 0 P
      injection hv1 with hv1 _ hv1'
      subst hv1 hv1'
      have hcb0 := cell_at hd.blk 0
      have hcb1 := cell_at hd.blk 1
      have HV2 := Lib.hid hv2
      rw [hv2] at hcb0
      have HQL := Lib.hid hql.1
      have HQ := Lib.hid hq
      have HDr := Lib.hid hd
      have hi1 : (q.1 : Int) < ((dCrash keep torn part 0 P (Q.take k)).length : Int) := by omega
      obtain ⟨sp, hsp⟩ : ∃ sp, (dCrash keep torn part 0 P (Q.take k)).getD q.1 ByteArray.empty = sp := ⟨_, rfl⟩
      rw [hsp] at m3 hgs
      have HSP := Lib.hid hsp
      have HG := Lib.hid hgs
      have HQ2 := Lib.hid hql.2
      have hq2 : q.2.size ≤ 256 := by omega
      have hsp2 : sp.size ≤ 256 := by omega
      have hkb := rkept_bits (keep := keep) k
      clear hd hv2 hq hql hsp hgs hnl
      cases hkp : kept keep k with
      | false =>
        rw [hkp] at hkb
        have HKP := Lib.hid hkp
        clear hkp
        go_wp2
        go_roundw
        case rel =>
          refine ⟨k + 1, by omega, by go_num, ?_, (hch.trans (Chg.of_below (by repeat (first | exact Below.refl _ _ | apply below_dr | apply below_al)) F) (fun j hj => .inl hj))⟩
          rw [take_snoc _ _ _ HQ.out, dCrash_snoc]
          unfold dLay
          rw [Nat.zero_add, List.length_take, Nat.min_eq_left hk, HKP.out]
          exact HDr.out.below (by repeat (first | exact Below.refl _ _ | apply below_dr | apply below_al))
        case measure => simp [intOf]; omega
      | true =>
        rw [hkp] at hkb
        have HKP := Lib.hid hkp
        clear hkp
        have hcases : ((k : Int) = torn ∧ part ≤ 0 ∧ upto torn part k = 0) ∨ ((k : Int) = torn ∧ 0 < part ∧ part ≤ 256 ∧ upto torn part k = part.toNat) ∨ ((k : Int) = torn ∧ 256 < part ∧ upto torn part k = 256) ∨ ((k : Int) ≠ torn ∧ upto torn part k = 256) := by
          unfold upto
          by_cases h1 : (k : Int) = torn
          · rw [if_pos h1]
            by_cases h2 : part ≤ 0
            · left; exact ⟨h1, h2, by omega⟩
            · by_cases h3 : 256 < part
              · right; right; left; exact ⟨h1, h3, by omega⟩
              · right; left; exact ⟨h1, by omega, by omega, by omega⟩
          · rw [if_neg h1]; right; right; right; exact ⟨h1, rfl⟩
        rcases hcases with ⟨h1, h2, hu⟩ | ⟨h1, h2, h3, hu⟩ | ⟨h1, h2, hu⟩ | ⟨h1, hu⟩
        all_goals
          have ht : ((k : Int) == torn) = (decide ((k : Int) = torn)) := rfl
          first | (have hp0 : 0 ≤ part := by omega; have hp1 : part ≤ (q.2.size : Int) := by have := HQ2.out; omega; have hp2 : part ≤ (sp.size : Int) := by have := HG.out; omega) | skip
          have hq3 : (256 : Int) ≤ (q.2.size : Int) := by have := HQ2.out; omega
          have hs3 : (256 : Int) ≤ (sp.size : Int) := by have := HG.out; omega
          have hq4 : 256 ≤ q.2.size := by omega
          have hs4 : 256 ≤ sp.size := by omega
          first | rw [decide_eq_true h1] at ht | rw [decide_eq_false h1] at ht
          have HU := Lib.hid hu
          clear h1 hu
          have hca0 := fun X => cell_alloc hcb0 X
          have hca1 := fun X => cell_alloc hcb1 X
          have hca3 := fun X => cell_alloc m3 X
          have hfa3 := fun X => frozen_alloc m3 m4 X
          go_wp2_with fail
          go_region
          go_wp2
          go_roundw
          case rel =>
            refine ⟨k + 1, by omega, by go_num, ?_, ?_⟩
            · rw [take_snoc _ _ _ HQ.out, dCrash_snoc]
              unfold dLay
              rw [Nat.zero_add, List.length_take, Nat.min_eq_left hk, HKP.out, if_pos rfl, HSP.out]
              have hps := patch_size HQ2.out HG.out (upto_le torn part k)
              rw [HU.out] at hps ⊢
              first | rw [patch_zero] at hps ⊢ | skip
              exact (HDr.out.setAfter (below_al (Below.refl _ _) _) HV2.out HQL.out hps).below (by repeat (first | exact Below.refl _ _ | apply below_dr | apply below_al))
            · refine chg_drew (chg_set hch (below_al (Below.refl _ _) _) (HF.out gp ?_) _ _)
              exact .inr (.inl (by rw [HV2.out]; rfl))
          case measure => simp [intOf]; omega
    · have hkq : k = Q.length := by omega
      have hst : dCrash keep torn part 0 P (Q.take k) = dCrash keep torn part 0 P Q := by rw [hkq, List.take_length]
      rw [hst] at hd
      have hc1' := cell_at hd.blk 1
      have hf1' := frozen_at hd.blk 1
      have HDr := Lib.hid hd
      clear hkq hst hd
      go_wp2
      go_end0
      refine ⟨rfl, ⟨vp, .slice none 0 0, HDr.out.clear, fun j hj => ?_⟩, hch.setCell (.inl (HF.out b (.inl rfl))) _⟩
      rcases hj with hj | hj | hj
      · exact HF.out j (.inl hj)
      · exact HF.out j (.inr (.inl hj))
      · simp [Value.ownBlock] at hj
end
end Go.Proofs.Ytpdhfnpnilpipaa.Dv
