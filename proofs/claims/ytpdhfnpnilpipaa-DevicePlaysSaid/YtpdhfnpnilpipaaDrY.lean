/- The document's device, by walks: Sync. -/
import Derived.Test.YtpdhfnpnilpipaaDrX
import Derived.Test.YtpdhfnpnilpipaaDvG
import Derived.StillTailTactics
import Derived.BigRegion
namespace Go.Proofs.Ytpdhfnpnilpipaa.Dv
open Go.RowKit
set_option linter.unusedSimpArgs false
set_option linter.unusedVariables false

section
variable {F : Nat → Prop} {b : Nat} {P : List ByteArray} {Q : List (Nat × ByteArray)} {w : World}
set_option maxHeartbeats 1000000 in
theorem rsync_any (hd : RDev w F b P Q) (hQ : Q.length ≤ 1000000) :
    Calls Try.prog 38 #[.pointer (some ⟨b, 0, none⟩)] w fun e w' => e = .returned (.tuple #[]) ∧ RDev w' F b (dSync P Q) [] ∧ Chg F w w' := by
  obtain ⟨vp, vw, hd, hf⟩ := hd
  have hc1 := cell_at hd.blk 1
  obtain ⟨Aw, cw, rfl, hcw⟩ := own_slice hd.rowQ
  have HD := Lib.hid hd
  have HF := Lib.hid hf
  clear hd hf
  go_enter Try.func38, Try.ntmps38
  go_wp2_with fail
  go_loopw [8] (fun i wr => ∃ k : Nat, k ≤ Q.length ∧ i = .int .i64 k ∧ RDevAt wr b vp (.slice Aw Q.length cw) (dSync P (Q.take k)) Q ∧ Chg F w wr) (fun i _ => Q.length - (intOf i).toNat)
  case atStart => exact ⟨0, Nat.zero_le _, rfl, HD.out, Chg.refl _ _⟩
  case round =>
    obtain ⟨k, hk, rfl, hd, hch⟩ := hrel
    by_cases hlt : k < Q.length
    · obtain ⟨q, hq⟩ : ∃ q, Q[k]? = some q := ⟨_, List.getElem?_eq_getElem hlt⟩
      obtain ⟨gw, cw', hv1, m1, m2⟩ := hd.writeAt hq
      have hql := hd.sizeQ q (List.mem_of_getElem? hq)
      obtain ⟨gp, cp, hv2, m3, m4⟩ := hd.pageAt hql.1
      obtain ⟨gp', cp', hv3, hset⟩ := hd.setPage hql.1 hql.2
      rw [hv2] at hv3
      injection hv3 with hv3 _ _
      injection hv3 with hv3
      injection hv3 with hv3
      subst hv3
      injection hv1 with hv1 _ hv1'
      subst hv1 hv1'
      have hcb0 := cell_at hd.blk 0
      have hcb1 := cell_at hd.blk 1
      have HV2 := Lib.hid hv2
      rw [hv2] at hcb0
      have HS := Lib.hid hset
      have HQ := Lib.hid hq
      have hi1 : (q.1 : Int) < ((dSync P (Q.take k)).length : Int) := by omega
      clear hd hv2 hset hq hql
      go_wp2_with fail
      go_region
      all_goals
        go_wp2
        go_roundw
        case rel =>
          refine ⟨k + 1, by omega, by go_num, ?_, ?_⟩
          · rw [take_snoc _ _ _ HQ.out, dSync_snoc]
            exact HS.out.below (by repeat (first | exact Below.refl _ _ | apply below_dr | apply below_al))
          · refine Chg.trans (F := F) (G := F) (w1 := wr.setCell ⟨gp, q.1, none⟩ (.string q.2)) (hch.setCell (.inl (HF.out gp ?_)) _) (Chg.of_below (by repeat (first | exact Below.refl _ _ | apply below_dr | apply below_al)) _) (fun j hj => .inl hj)
            exact .inr (.inl (by rw [HV2.out]; rfl))
        case measure => simp [intOf]; omega
    · have hkq : k = Q.length := by omega
      have hst : dSync P (Q.take k) = dSync P Q := by rw [hkq, List.take_length]
      rw [hst] at hd
      have hc1' := cell_at hd.blk 1
      have hf1' := frozen_at hd.blk 1
      have HDr := Lib.hid hd
      clear hkq hst hd
      go_wp2
      go_end0
      refine ⟨rfl, ⟨vp, .slice none 0 0, HDr.out.clear, fun j hj => ?_⟩, hch.setCell (.inl (HF.out b (.inl rfl))) _⟩
      rcases hj with hj | hj | hj
      · exact HF.out j (.inl hj)
      · exact HF.out j (.inr (.inl hj))
      · simp [Value.ownBlock] at hj
end
end Go.Proofs.Ytpdhfnpnilpipaa.Dv
