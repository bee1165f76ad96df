/- Reading no page of a device, and all of its bytes, by walks. -/
import Derived.Test.YtpgpphmpnebafaaGreatDvR
namespace Go.Proofs.YtpgpphmpnebafaaGreat.Dv
open Go.RowKit
set_option linter.unusedSimpArgs false
set_option linter.unusedVariables false
set_option maxRecDepth 100000

section
variable {F : Nat → Prop} {b : Nat} {P : List ByteArray} {Q : List (Nat × ByteArray)} {w : World}
set_option maxHeartbeats 1000000 in
theorem read_low (p : Option Addr) (i : Int) (h : i < 0) :
    Calls Tryz.prog 43 #[.pointer p, .int .i64 i] w fun e w' => e = .returned (.tuple #[.slice none 0 0, .int .i64 1]) ∧ Below w.heap.size w w' := by
  have t0 : decide (i < 0) = true := decide_eq_true h
  go_enter Tryz.func43, Tryz.ntmps43
  go_wp2_with fail
  go_quiet (fail)
  go_wp2
  refine bodyPost_ret (v := .tuple #[.slice none 0 0, .int .i64 1]) (by simp [results, Tryz.f43, go_sem]) rfl ⟨rfl, ?_⟩
  repeat (first | exact Below.refl _ _ | apply below_dn | apply below_al | (refine below_st ?_ (by simp; try omega) _))
set_option maxHeartbeats 1000000 in
theorem read_high (hd : Dev w F b P Q) (i : Int) (h0 : ¬ i < 0) (h : (P.length : Int) ≤ i) :
    Calls Tryz.prog 43 #[.pointer (some ⟨b, 0, none⟩), .int .i64 i] w fun e w' => e = .returned (.tuple #[.slice none 0 0, .int .i64 1]) ∧ Below w.heap.size w w' := by
  have HPQ := Lib.hid (pages_quiet hd)
  have hsm := hd.small
  have t0 : decide (i < 0) = false := decide_eq_false h0
  have t1 : decide ((P.length : Int) ≤ i) = true := decide_eq_true h
  clear hd
  go_enter Tryz.func43, Tryz.ntmps43
  go_wp2_with fail
  go_quiet ((go_at_call 41; exact Calls.quiet_of_same (HPQ.out _ (below_al (below_al (below_al (Below.refl _ _) _) _) _) _)))
  go_wp2
  refine bodyPost_ret (v := .tuple #[.slice none 0 0, .int .i64 1]) (by simp [results, Tryz.f43, go_sem]) rfl ⟨rfl, ?_⟩
  repeat (first | exact Below.refl _ _ | apply below_dn | apply below_al | (refine below_st ?_ (by simp; try omega) _))
theorem read_bad (hd : Dev w F b P Q) (i : Int) (h : i < 0 ∨ (P.length : Int) ≤ i) :
    Calls Tryz.prog 43 #[.pointer (some ⟨b, 0, none⟩), .int .i64 i] w fun e w' => e = .returned (.tuple #[.slice none 0 0, .int .i64 1]) ∧ Below w.heap.size w w' := by
  by_cases h0 : i < 0
  · exact read_low _ i h0
  · exact read_high hd i h0 (by omega)
set_option maxHeartbeats 1000000 in
theorem read_nil (i : Int) :
    Calls Tryz.prog 43 #[.pointer none, .int .i64 i] w fun e w' => e = .returned (.tuple #[.slice none 0 0, .int .i64 1]) ∧ Below w.heap.size w w' := by
  by_cases h0 : i < 0
  · exact read_low _ i h0
  · have t0 : decide (i < 0) = false := decide_eq_false h0
    have t1 : decide ((0 : Int) ≤ i) = true := decide_eq_true (by omega)
    have HPQ : Hid (∀ wx : World, ∀ n, Calls Tryz.prog 41 #[.pointer none] (wx.drewN n) fun e w' => e = .returned (.int .i64 0) ∧ w' = wx.drewN n) := Lib.hid (fun wx n => (pages_nil (wx.drewN n)).mono fun e w' ⟨h1, h2⟩ => ⟨h1, h2.symm⟩)
    go_enter Tryz.func43, Tryz.ntmps43
    go_wp2_with fail
    go_quiet ((go_at_call 41; exact Calls.quiet_of_same (HPQ.out _ _)))
    go_wp2
    refine bodyPost_ret (v := .tuple #[.slice none 0 0, .int .i64 1]) (by simp [results, Tryz.f43, go_sem]) rfl ⟨rfl, ?_⟩
    repeat (first | exact Below.refl _ _ | apply below_dn | apply below_al | (refine below_st ?_ (by simp; try omega) _))
set_option maxHeartbeats 1000000 in
/-- All bytes, as they would be read. -/
theorem bytes_any (hd : Dev w F b P Q) (hQ : Q.length ≤ 1000000) : Calls Tryz.prog 72 #[.pointer (some ⟨b, 0, none⟩)] w fun e w' => ∃ v, e = .returned v ∧ w'.ownsRow w.heap.size 5 1 v (joinP (dSync P Q)).size (Lib.strCells (joinP (dSync P Q))) ∧ Below w.heap.size w w' := by
  obtain ⟨i0, hi0, hz0, hz1, hz2⟩ := info_parts infoByte
  have hsm := hd.small
  have HD := Lib.hid hd
  have hpages : ∀ s ∈ dSync P Q, s.size = 256 := dSync_sizes Q P hd.sizes.1 (fun q hq => (hd.sizes.2 q hq).2)
  have HPS := Lib.hid hpages
  have HP := Lib.hid (pages_any hd)
  clear hd hpages
  go_enter Tryz.func72, Tryz.ntmps72
  go_wp2_with fail
  refine HP.out.mono ?_
  rintro e w' ⟨rfl, rfl⟩
  go_wp2_with fail
  go_loopw [3, 9] (fun v i wr => ∃ k : Nat, k ≤ P.length ∧ i = .int .i64 k ∧ wr.ownsRow w.heap.size 5 1 v (joinP ((dSync P Q).take k)).size (Lib.strCells (joinP ((dSync P Q).take k))) ∧ Below w.heap.size w wr) (fun _ i _ => P.length - (intOf i).toNat)
  case atStart => exact ⟨0, Nat.zero_le _, rfl, World.ownsRow_nil _ _ _ _, Below.refl _ _⟩
  case round =>
    obtain ⟨k, hk, rfl, hown, hbw⟩ := hrel
    by_cases hlt : k < P.length
    · have hdr := HD.out.below hbw
      have HR := Lib.hid (read_ok hdr k hlt hQ)
      have hszk : (dRead P Q k).size = 256 := HPS.out _ (by unfold dRead; rw [List.getD_eq_getElem?_getD, List.getElem?_eq_getElem (by rw [dSync_length]; exact hlt)]; exact List.getElem_mem _)
      have hstep : joinP ((dSync P Q).take (k + 1)) = joinP ((dSync P Q).take k) ++ dRead P Q k := join_take_succ _ k (by rw [dSync_length]; exact hlt)
      have hlen : (joinP ((dSync P Q).take k)).size = k * 256 := by rw [joinP_size (n := 256) (fun s hs => HPS.out s (List.mem_of_mem_take hs)), List.length_take, dSync_length, Nat.min_eq_left hk]
      have HS := Lib.hid hstep
      have HZ := Lib.hid hszk
      have HL := Lib.hid hlen
      clear hdr hstep hszk hlen
      go_wp2_with fail
      refine HR.out.mono ?_
      rintro e w1 ⟨v1, rfl, ⟨g1, cap1, cur1, rfl, hg1, hcap1, hcap2, hcur, hcs, htk⟩, hb1⟩
      have hbw1 : Below w.heap.size w w1 := hbw.trans (hb1.mono hbw.size)
      have hown1 := own_below hown hb1
      have hcells : ∀ (j : Nat) (u : Value), (Lib.strCells (dRead P Q k))[j]? = some u → w1.cell? ((⟨g1, 0, none⟩ : Addr).add j) = some u := by
        obtain ⟨ad, hA, hc⟩ := (RdB.of_block hcur htk) (by rw [HZ.out]; decide)
        injection hA with hA; subst hA
        exact hc
      have HC := Lib.hid hcells
      have HT := Lib.hid htk
      clear hcells htk hcs
      have hle : (joinP ((dSync P Q).take k)).size ≤ 131072 := by rw [HL.out]; omega
      have hle2 : (dRead P Q k).size ≤ 256 := by rw [HZ.out]; exact Nat.le_refl _
      go_wp2_with (at_builtin; refine wpList_append_own _ rfl _ _ 22 rfl w.heap.size 5 i0 (.int .u8 0) 1 1 Tryz.underlying22 hi0 hz0 hz1 hz2 rfl (by decide) u3 (joinP ((dSync P Q).take k)).size (Lib.strCells (joinP ((dSync P Q).take k))) rfl hown1 ⟨g1, 0, none⟩ (dRead P Q k).size cap1 (Lib.strCells (dRead P Q k)) rfl (by rw [Lib.strCells_length, Nat.mul_one]) HC.out (Lib.strCells_oneCell _) (by unfold maxLen; omega) (by omega) hbw1.size ?_; intro v2 w2 hown2 hgr2 hnil2)
      go_roundw
      case rel =>
        refine ⟨k + 1, by omega, by go_num, ?_, hbw1.grown hgr2 hbw1.size (fun j hj => ?_)⟩
        · rw [HS.out, ByteArray.size_append]
          have e : Lib.strCells (joinP ((dSync P Q).take k) ++ dRead P Q k) = Lib.strCells (joinP ((dSync P Q).take k)) ++ Lib.strCells (dRead P Q k) := by
            unfold Lib.strCells; rw [ByteArray.data_append, Array.toList_append, List.map_append]
          rw [e]
          exact hown2
        · rcases hown1.2 with ⟨hv, _⟩ | ⟨g, _, _, hv, hg, _⟩
          · rw [hv] at hj; simp [Value.ownBlock] at hj
          · rw [hv] at hj; have : g = j := by simpa [Value.ownBlock] using hj
            omega
      case measure => simp [intOf]; omega
    · have hkq : k = P.length := by omega
      have HK := Lib.hid hkq
      clear hkq
      go_wp2
      go_ret
      refine ⟨_, rfl, ?_, hbw⟩
      have e : (dSync P Q).take k = dSync P Q := List.take_of_length_le (by rw [HK.out, dSync_length]; exact Nat.le_refl _)
      rw [e] at hown
      exact hown
end
end Go.Proofs.YtpgpphmpnebafaaGreat.Dv
