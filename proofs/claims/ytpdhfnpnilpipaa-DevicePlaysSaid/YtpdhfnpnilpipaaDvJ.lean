/- A device with an image, by a walk. -/
import Derived.Test.YtpdhfnpnilpipaaDvR
import Derived.IntWalk
namespace Go.Proofs.Ytpdhfnpnilpipaa.Dv
open Go.RowKit
set_option linter.unusedSimpArgs false
set_option linter.unusedVariables false

theorem img_cells (s : ByteArray) (k : Nat) : ((Lib.strCells s).drop (k * 256)).take 256 ++ (Lib.strCells zeroPage).drop (((Lib.strCells s).drop (k * 256)).take 256).length = Lib.strCells (imgPage s k) := by
  have h1 : (((Lib.strCells s).drop (k * 256)).take 256).length = (s.extract (k * 256) (k * 256 + 256)).size := by
    rw [List.length_take, List.length_drop, Lib.strCells_length, ext_size]; omega
  rw [h1]
  unfold imgPage Lib.strCells
  rw [ByteArray.data_append, Array.toList_append, Lib.extract_data, Lib.extract_data, List.map_append]
  congr 1
  · rw [List.map_take, List.map_drop]; congr 1; omega
  · rw [List.map_take, List.map_drop, List.take_of_length_le]
    rw [List.length_drop, List.length_map, ← size_data, zeroPage_size]
    exact Nat.le_refl _
theorem img_src {w W : World} {g m : Nat} {s : ByteArray} (h : RdB w (some ⟨g, 0, none⟩) s) (hm : m < s.size) (hb : Below w.heap.size w W) :
    ∀ (j : Nat) (v : Value), (((Lib.strCells s).drop m).take 256)[j]? = some v → W.cell? ((⟨g, m, none⟩ : Addr).add j) = some v := by
  obtain ⟨ad, hA, hcell⟩ := (h.below hb) (by omega)
  injection hA with hA; subst hA
  intro j v hj
  rw [List.getElem?_take] at hj
  split at hj
  · rw [List.getElem?_drop] at hj
    have := hcell (m + j) v hj
    rw [add_plain] at this
    rw [show (⟨g, m, none⟩ : Addr).add j = ⟨g, m + j, none⟩ from by unfold Addr.add; split <;> simp_all]
    exact this
  · simp at hj
theorem rep_zero (s : ByteArray) : List.replicate (imgLen s) zeroPage = imgTo s 0 := by unfold imgTo; simp
set_option maxHeartbeats 1000000 in
theorem image_long (A : Addr) (s : ByteArray) (c : Nat) (w : World) (h : 131072 < s.size) (h2 : s.size ≤ 9223372036854775807) :
    Calls Try.prog 22 #[.slice (some A) s.size c] w fun e w' => e = .returned (.tuple #[.pointer none, .int .i64 4]) ∧ w = w' := by
  have t : decide (131072 < s.size) = true := decide_eq_true h
  have ti : decide ((131072 : Int) < (s.size : Int)) = true := decide_eq_true (by omega)
  go_enter Try.func22, Try.ntmps22
  go_wp2
  go_ret2
  exact ⟨rfl, rfl⟩
set_option maxHeartbeats 1000000 in
set_option maxRecDepth 100000 in
theorem image_ok (g : Nat) (s : ByteArray) (c : Nat) (w : World) (hs : s.size ≤ 131072) (hc : s.size ≤ c) (hr : RdB w (some ⟨g, 0, none⟩) s) :
    Calls Try.prog 22 #[.slice (some ⟨g, 0, none⟩) s.size c] w fun e w' => ∃ b, e = .returned (.tuple #[.pointer (some ⟨b, 0, none⟩), .int .i64 0]) ∧ Dev w' (fun k => w.heap.size ≤ k) b (imgPages s) [] ∧ Below w.heap.size w w' := by
  have t : decide (131072 < s.size) = false := decide_eq_false (by omega)
  have ti : decide ((131072 : Int) < (s.size : Int)) = false := decide_eq_false (by omega)
  have hlen : ((s.size : Int) + 256 - 1) / 256 = (imgLen s : Int) := by unfold imgLen; omega
  have hcl : clamp (imgLen s : Int) = imgLen s := by unfold clamp imgLen; omega
  have hN := new_any (imgLen s : Int)
  rw [hcl, rep_zero] at hN
  have HN := Lib.hid hN
  have hl512 : imgLen s ≤ 512 := by unfold imgLen; omega
  have hl3 : imgLen s * 256 < s.size + 256 := by unfold imgLen; omega
  clear hN hcl
  go_enter Try.func22, Try.ntmps22
  go_wp2_with fail
  refine (HN.out w).mono ?_
  rintro e w1 ⟨b, rfl, ⟨vp, vw, gs, hs, hd, hf⟩, hb1⟩
  have hhs : hs = [] := List.eq_nil_of_length_eq_zero hd.hlen
  subst hhs
  have hc0 := cell_at hd.blk 0
  obtain ⟨Ap, cp, hvp, hcp⟩ := own_slice hd.rowP
  rw [imgTo_length s 0 (Nat.zero_le _)] at hvp
  have HD := Lib.hid hd
  have HF := Lib.hid hf
  have HLN := Lib.hid hlen
  have HR0 := Lib.hid hr
  clear hd hf hlen hr
  subst hvp
  go_wp2_with fail
  go_loopw [20] (fun i wr => ∃ k : Nat, k ≤ imgLen s ∧ i = .int .i64 k ∧ DevAt wr b (.slice Ap (imgLen s) cp) vw (imgTo s k) [] gs [] ∧ Chg (fun j => w.heap.size ≤ j) w1 wr) (fun i _ => imgLen s - (intOf i).toNat)
  case atStart => exact ⟨0, Nat.zero_le _, rfl, HD.out, Chg.refl _ _⟩
  case round =>
    obtain ⟨k, hk, rfl, hd, hch⟩ := hrel
    by_cases hlt : k < imgLen s
    · have hlenk := imgTo_length s k hk
      obtain ⟨gp, cp', g0, hv1, hcp0, hg0, hsz0, hgs⟩ := hd.pageCell k (by rw [hlenk]; exact hlt)
      rw [hlenk] at hv1
      injection hv1 with hv1 _ hv2
      subst hv1 hv2
      have hz : (imgTo s k).getD k ByteArray.empty = zeroPage := by rw [List.getD_eq_getElem?_getD, (imgTo_next s k hlt).1]; rfl
      rw [hz] at hg0
      have HGS := Lib.hid hgs
      clear hgs
      have HNX := Lib.hid (imgTo_next s k hlt).2
      have hcd0 := cell_at hd.blk 0
      have HDk := Lib.hid hd
      obtain ⟨m, hm⟩ : ∃ m : Nat, m = k * 256 := ⟨_, rfl⟩
      have hks : m < s.size := by omega
      have hne : ¬ c = m := by omega
      have hI1 : (m : Int) ≤ (s.size : Int) := by omega
      have hwr : IntKind.i64.wrap ((k : Int) * 256) = (m : Int) := by rw [IntWalk.i64_in _ (by omega)]; omega
      have HM := Lib.hid hm
      clear hm
      have hcb := fun X => cell_alloc hcd0 X
      clear hlenk hz hsz0 hd
      have hrW : RdB wr (some ⟨g, 0, none⟩) s := fun hp => by
        obtain ⟨ad, hA, hcell⟩ := HR0.out hp
        have hb : Below w.heap.size w wr := hch.below hb1 (fun j hj => hj) hb1.size
        exact ⟨ad, hA, fun j u hj => (hb.cell (World.block_lt_of_cell? w _ (hcell j u hj))).trans (hcell j u hj)⟩
      have HRW := Lib.hid hrW
      clear hrW
      go_wp2_with fail
      go_region_law (refine step_copy_row rfl (.tmp 29) (.tmp 33) 39 39 rfl 5 Try.underlying39 infoByteSize g0 256 256 (s.size - m) (c - m) (some ⟨g, m, none⟩) (by simp [Act.eval, Act.put, pageV]) (by simp [Act.eval, Act.put]) (Lib.strCells zeroPage) 5 (blk_below hg0 (by repeat (first | exact Below.refl _ _ | apply below_dr | apply below_al))) (((Lib.strCells s).drop m).take 256) (by rw [List.length_take, List.length_drop, Lib.strCells_length]; exact Nat.min_comm _ _) (fun _ => ⟨_, rfl, img_src HRW.out hks (by repeat (first | exact Below.refl _ _ | apply below_dr | apply below_al))⟩) (by rw [List.length_take, Lib.strCells_length, zeroPage_size]; omega) (fun v hv => Lib.strCells_oneCell _ v (List.mem_of_mem_drop (List.mem_of_mem_take hv))) ?_; intro w2 hch2 hsz2 hg2)
      all_goals
        go_wp2
        go_roundw
        case rel =>
          refine ⟨k + 1, by omega, by go_num, ?_, ?_⟩
          · rw [← HNX.out]
            exact lay_page HDk.out (by repeat (first | exact Below.refl _ _ | apply below_dr | apply below_al)) hch2 hsz2 HGS.out hg2 (by rw [HM.out]; exact img_cells s k) (imgPage_size s k)
          · refine (hch.trans (Chg.of_below (by repeat (first | exact Below.refl _ _ | apply below_dr | apply below_al)) _) (fun j hj => .inl hj)).trans hch2 (fun j hj => .inl (HF.out j ?_))
            subst hj
            exact .inr (.inr (.inr (.inl (List.mem_of_getElem? HGS.out))))
        case measure => simp [intOf]; omega
    · have hkq : k = imgLen s := by omega
      have HK := Lib.hid hkq
      clear hkq
      go_wp2
      go_ret2
      refine ⟨b, rfl, ⟨_, vw, gs, [], ?_, HF.out⟩, hch.below hb1 (fun j hj => hj) hb1.size⟩
      rw [HK.out, imgTo_all] at hd
      exact hd
end Go.Proofs.Ytpdhfnpnilpipaa.Dv
