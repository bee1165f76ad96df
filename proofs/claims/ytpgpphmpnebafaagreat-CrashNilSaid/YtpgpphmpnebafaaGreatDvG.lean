/- A crash of a device, by a walk. -/
import Derived.Test.YtpgpphmpnebafaaGreatDvE
namespace Go.Proofs.YtpgpphmpnebafaaGreat.Dv
open Go.RowKit
set_option linter.unusedSimpArgs false
set_option linter.unusedVariables false
set_option maxRecDepth 100000

theorem kept_bits {keep k : Nat} (hk : keep < 18446744073709551616) : (bits BinOp.and IntKind.u64 ((keep : Int) / 2 ^ (k % 64)) 1 == 0) = !(kept keep k) := by
  have he : ((keep : Int) / 2 ^ (k % 64)) = ((keep / 2 ^ (k % 64) : Nat) : Int) := by push_cast; rfl
  have hle : keep / 2 ^ (k % 64) ≤ keep := Nat.div_le_self _ _
  rw [he]
  unfold kept
  generalize keep / 2 ^ (k % 64) = m at *
  rw [and_one_u64 _ (by omega) (by omega)]
  by_cases h : m % 2 = 1
  · rw [h, show ((m : Int) % 2) = 1 from by omega]; rfl
  · rw [show m % 2 = 0 from by omega, show ((m : Int) % 2) = 0 from by omega]; rfl
theorem cs_len {b : ByteArray} {n m : Nat} (hb : b.size = 256) (hn : n = m) (hm : m ≤ 256) : ((Lib.strCells b).take n).length = Nat.min m 256 := by
  subst hn
  rw [List.length_take, Lib.strCells_length, hb]
theorem patch_cells {b s : ByteArray} {n : Nat} (hb : b.size = 256) (hs : s.size = 256) (hn : n ≤ 256) : (Lib.strCells b).take n ++ (Lib.strCells s).drop ((Lib.strCells b).take n).length = Lib.strCells (patch b n s) := by
  have h1 : ((Lib.strCells b).take n).length = n := by rw [List.length_take, Lib.strCells_length]; omega
  rw [h1]
  unfold patch Lib.strCells
  rw [ByteArray.data_append, Array.toList_append, Lib.extract_data, Lib.extract_data, List.map_append, List.drop_zero, Nat.sub_zero, List.map_take]
  congr 1
  rw [List.take_of_length_le (by rw [List.length_drop, ← size_data]; exact Nat.le_refl _)]
  exact List.map_drop.symm
section
variable {F : Nat → Prop} {b : Nat} {P : List ByteArray} {Q : List (Nat × ByteArray)} {w : World} {vp vw : Value} {gs : List Nat} {hs : List (Nat × Nat)}
set_option maxHeartbeats 1000000 in
theorem crash_any (hd : Dev w F b P Q) (hQ : Q.length ≤ 1000000) (keep : Nat) (hkeep : keep < 18446744073709551616) (torn part : Int) :
    Calls Tryz.prog 107 #[.pointer (some ⟨b, 0, none⟩), .int .u64 (keep : Int), .int .i64 torn, .int .i64 part] w fun e w' => e = .returned (.tuple #[]) ∧ Dev w' F b (dCrash keep torn part 0 P Q) [] ∧ Chg F w w' := by
  obtain ⟨vp, vw, gs, hs, hd, hf⟩ := hd
  have hc1 := cell_at hd.blk 1
  obtain ⟨Aw, cw, hvw, hcw⟩ := own_slice hd.rowQ
  have HD := Lib.hid hd
  have HF := Lib.hid hf
  have HV := Lib.hid hvw
  clear hd hf
  subst hvw
  go_enter Tryz.func107, Tryz.ntmps107
  go_wp2_with fail
  go_loopw [18] (fun i wr => ∃ k : Nat, k ≤ Q.length ∧ i = .int .i64 k ∧ DevAt wr b vp (.slice Aw Q.length cw) (dCrash keep torn part 0 P (Q.take k)) Q gs hs ∧ Chg F w wr) (fun i _ => Q.length - (intOf i).toNat)
  case atStart => exact ⟨0, Nat.zero_le _, rfl, HD.out, Chg.refl _ _⟩
  case round =>
    obtain ⟨k, hk, rfl, hd, hch⟩ := hrel
    by_cases hlt : k < Q.length
    · obtain ⟨q, hq⟩ : ∃ q, Q[k]? = some q := ⟨_, List.getElem?_eq_getElem hlt⟩
      obtain ⟨gw, cw', hh, c, g, s, cur, hv1, m1, m2, m3, m4, m5, m6, m7, m8, m9, m10, m11, m12, gp, cp, hv2, m13, m14, m15⟩ := hd.cells k q hq
      injection hv1 with hv1 _ hv1'
      subst hv1 hv1' hv2
      have hc0 := cell_at hd.blk 0
      have HDr := Lib.hid hd
      have HM3 := Lib.hid m3
      have HM4 := Lib.hid m4
      have HM5 := Lib.hid m5
      have HM6 := Lib.hid m6
      have HM7 := Lib.hid m7
      have HM12 := Lib.hid m12
      have HQ := Lib.hid hq
      clear hd m3 m4 m5 m6 m7 m8 m9 m12 m14 hq
      have hi1 : (q.1 : Int) < ((dCrash keep torn part 0 P (Q.take k)).length : Int) := by have := HM3.out; omega
      have hca := fun X => cell_alloc hc0 X
      have hcb := fun X => cell_alloc m13 X
      have hmin : Nat.min 256 256 = 256 := rfl
      have hkb := kept_bits (k := k) hkeep
      cases hkp : kept keep k with
      | false =>
        rw [hkp] at hkb
        have HKP := Lib.hid hkp
        clear hkp
        go_wp2
        go_roundw
        case rel =>
          refine ⟨k + 1, by omega, by go_num, ?_, (hch.trans (Chg.of_below (by repeat (first | exact Below.refl _ _ | apply below_dr | apply below_al)) F) (fun j hj => .inl hj))⟩
          rw [take_snoc _ _ _ HQ.out, dCrash_snoc]
          unfold dLay
          rw [Nat.zero_add, List.length_take, Nat.min_eq_left hk, HKP.out]
          exact HDr.out.move fun j hj => (below_al (Below.refl wr.heap.size wr) _).block j (HDr.out.foot_lt j hj)
        case measure => simp [intOf]; omega
      | true =>
        rw [hkp] at hkb
        have HKP := Lib.hid hkp
        clear hkp
        have hcc : (256 : Int) ≤ (c : Int) := by omega
        have hpc : part ≤ 256 → part ≤ (c : Int) := fun h => by omega
        have hi1 : (q.1 : Int) < ((dCrash keep torn part 0 P (Q.take k)).length : Int) := by have := HM3.out; omega
        have hcases : ((k : Int) = torn ∧ part ≤ 0 ∧ upto torn part k = 0) ∨ ((k : Int) = torn ∧ 0 < part ∧ part ≤ 256 ∧ upto torn part k = part.toNat) ∨ ((k : Int) = torn ∧ 256 < part ∧ upto torn part k = 256) ∨ ((k : Int) ≠ torn ∧ upto torn part k = 256) := by
          unfold upto
          by_cases h1 : (k : Int) = torn
          · rw [if_pos h1]
            by_cases h2 : part ≤ 0
            · left; exact ⟨h1, h2, by omega⟩
            · by_cases h3 : 256 < part
              · right; right; left; exact ⟨h1, h3, by omega⟩
              · right; left; exact ⟨h1, by omega, by omega, by omega⟩
          · rw [if_neg h1]; right; right; right; exact ⟨h1, rfl⟩
        rcases hcases with ⟨h1, h2, hu⟩ | ⟨h1, h2, h3, hu⟩ | ⟨h1, h2, hu⟩ | ⟨h1, hu⟩
        all_goals
          have ht : ((k : Int) == torn) = (decide ((k : Int) = torn)) := rfl
          have hpc2 : 0 < part → part ≤ 256 → decide (0 ≤ part ∧ part ≤ (c : Int)) = true := fun a b => by rw [decide_eq_true_eq]; omega
          first | (have hpc3 := hpc h3; have hp0 : 0 ≤ part := by omega) | skip
          clear hpc hpc2
          first | rw [decide_eq_true h1] at ht | rw [decide_eq_false h1] at ht
          have HU := Lib.hid hu
          clear h1 hu
          have hca := fun X => cell_alloc hc0 X
          have hcb := fun X => cell_alloc m13 X
          go_wp2_with fail
          go_region_law (refine step_copy_row rfl (.tmp 42) (.tmp 46) 22 22 rfl 5 Tryz.underlying22 infoByteSize g 256 256 _ c (some ⟨hh, 0, none⟩) (by simp [Act.eval, Act.put, pageV]) rfl (Lib.strCells s) 5 (blk_below m10 (by repeat (first | exact Below.refl _ _ | apply below_dr | apply below_al))) ((Lib.strCells q.2).take (upto torn part k)) (cs_len HM7.out HU.out (by omega)) (fun _ => ⟨_, rfl, fun j v hj => copy_src m11 HM12.out HM7.out (by repeat (first | exact Below.refl _ _ | apply below_dr | apply below_al)) j v (by rw [List.getElem?_take] at hj; split at hj; exact hj; simp at hj)⟩) (by rw [List.length_take, Lib.strCells_length, Lib.strCells_length, HM7.out, HM6.out]; omega) (fun v hv => Lib.strCells_oneCell _ v (List.mem_of_mem_take hv)) ?_; intro w2 hch2 hsz2 hg2)
          all_goals
            go_wp2
            go_roundw
            case rel =>
              refine ⟨k + 1, by omega, by go_num, ?_, ?_⟩
              · rw [take_snoc _ _ _ HQ.out, dCrash_snoc]
                unfold dLay
                rw [Nat.zero_add, List.length_take, Nat.min_eq_left hk, HKP.out, if_pos rfl]
                have hget : (dCrash keep torn part 0 P (Q.take k)).getD q.1 ByteArray.empty = s := by rw [List.getD_eq_getElem?_getD, HM5.out]; rfl
                rw [hget]
                exact lay_page HDr.out (by repeat (first | exact Below.refl _ _ | apply below_dr | apply below_al)) hch2 hsz2 HM4.out hg2 (patch_cells HM7.out HM6.out (upto_le _ _ _)) (patch_size HM7.out HM6.out (upto_le _ _ _))
              · refine (hch.trans (Chg.of_below (by repeat (first | exact Below.refl _ _ | apply below_dr | apply below_al)) F) (fun j hj => .inl hj)).trans hch2 (fun j hj => .inl (HF.out j ?_))
                subst hj
                exact .inr (.inr (.inr (.inl (List.mem_of_getElem? HM4.out))))
            case measure => simp [intOf]; omega
    · have hkq : k = Q.length := by omega
      have HK := Lib.hid hkq
      clear hkq
      have hc1' := cell_at hd.blk 1
      have hf1' := frozen_at hd.blk 1
      have HDr := Lib.hid hd
      clear hd
      go_wp2
      go_end0
      refine ⟨rfl, ⟨vp, .slice none 0 0, gs, [], ?_, fun j hj => ?_⟩, hch.setCell (.inl (HF.out b (.inl rfl))) _⟩
      · have := HDr.out.clear
        rw [HK.out, List.take_length] at this
        exact this
      · rcases hj with hj | hj | hj | hj | hj
        · exact HF.out j (.inl hj)
        · exact HF.out j (.inr (.inl hj))
        · simp [Value.ownBlock] at hj
        · exact HF.out j (.inr (.inr (.inr (.inl hj))))
        · simp at hj
end
end Go.Proofs.YtpgpphmpnebafaaGreat.Dv
