/- The document's device, by walks: all bytes; a device with an image. -/
import Derived.Test.YtpdhfnpnilpipaaDrZ
import Derived.Test.YtpdhfnpnilpipaaDvJ
namespace Go.Proofs.Ytpdhfnpnilpipaa.Dv
open Go.RowKit
set_option linter.unusedSimpArgs false
set_option linter.unusedVariables false

section
variable {F : Nat → Prop} {b : Nat} {P : List ByteArray} {Q : List (Nat × ByteArray)} {w : World}
set_option maxHeartbeats 1000000 in
theorem rbytes_any (hd : RDev w F b P Q) (hQ : Q.length ≤ 1000000) :
    Calls Try.prog 27 #[.pointer (some ⟨b, 0, none⟩)] w fun e w' => e = .returned (.string (joinP (dSync P Q))) ∧ w = w' := by
  have hpages : ∀ s ∈ dSync P Q, s.size = 256 := by
    obtain ⟨vp, vw, hd, hf⟩ := hd
    exact dSync_sizes Q P hd.sizeP (fun q hq => (hd.sizeQ q hq).2)
  have HPS := Lib.hid hpages
  have HR := Lib.hid (fun i hi => rread_ok hd i hi hQ)
  obtain ⟨vp, vw, hd, hf⟩ := hd
  have hc0 := cell_at hd.blk 0
  obtain ⟨Ap, cp, rfl, hcp⟩ := own_slice hd.rowP
  have hsm := hd.small
  clear hd hf hpages
  go_enter Try.func27, Try.ntmps27
  go_wp2_with fail
  go_loop [3, 12] (fun s i => ∃ k : Nat, k ≤ P.length ∧ i = .int .i64 k ∧ s = .string (joinP ((dSync P Q).take k))) (fun _ i => P.length - (intOf i).toNat)
  case atStart => exact ⟨0, Nat.zero_le _, rfl, rfl⟩
  case round =>
    obtain ⟨k, hk, rfl, rfl⟩ := hrel
    by_cases hlt : k < P.length
    · have hszk : (dRead P Q k).size = 256 := HPS.out _ (by unfold dRead; rw [List.getD_eq_getElem?_getD, List.getElem?_eq_getElem (by rw [dSync_length]; exact hlt)]; exact List.getElem_mem _)
      have hstep : joinP ((dSync P Q).take (k + 1)) = joinP ((dSync P Q).take k) ++ dRead P Q k := join_take_succ _ k (by rw [dSync_length]; exact hlt)
      have hlen : (joinP ((dSync P Q).take k)).size = k * 256 := by rw [joinP_size (n := 256) (fun s hs => HPS.out s (List.mem_of_mem_take hs)), List.length_take, dSync_length, Nat.min_eq_left hk]
      have hle : (joinP ((dSync P Q).take k)).size ≤ 131072 := by omega
      have hle2 : (dRead P Q k).size ≤ 256 := by omega
      have HS := Lib.hid hstep
      clear hstep hlen hszk
      go_wp2_with fail
      refine (HR.out k hlt).mono ?_
      rintro e w' ⟨rfl, rfl⟩
      go_wp2
      go_round
      case rel => exact ⟨k + 1, by omega, by go_num, by rw [HS.out]⟩
      case measure => simp [intOf]; omega
    · have hst : (dSync P Q).take k = dSync P Q := List.take_of_length_le (by rw [dSync_length]; omega)
      rw [hst]
      clear hst
      go_wp2
      go_ret
      exact ⟨rfl, rfl⟩
end
set_option maxHeartbeats 1000000 in
theorem rimage_long (s : ByteArray) (w : World) (h : 131072 < s.size) (h2 : s.size ≤ 9223372036854775807) :
    Calls Try.prog 23 #[.string s] w fun e w' => e = .returned (.tuple #[.pointer none, .int .i64 4]) ∧ w = w' := by
  have t : decide (131072 < s.size) = true := decide_eq_true h
  have ti : decide ((131072 : Int) < (s.size : Int)) = true := decide_eq_true (by omega)
  go_enter Try.func23, Try.ntmps23
  go_wp2
  go_ret2
  exact ⟨rfl, rfl⟩
/-- What is left of an image behind k pages. -/
def imgRest (s : ByteArray) (k : Nat) : ByteArray := s.extract (min (k * 256) s.size) s.size
theorem imgRest_size (s : ByteArray) (k : Nat) : (imgRest s k).size = s.size - min (k * 256) s.size := by unfold imgRest; rw [ext_size]; omega
theorem imgRest_next (s : ByteArray) (k n : Nat) (hn : n = min (imgRest s k).size 256) : (imgRest s k).extract n (imgRest s k).size = imgRest s (k + 1) := by
  apply ba_ext
  have hz := imgRest_size s k
  have hd : (imgRest s k).data.toList = s.data.toList.drop (min (k * 256) s.size) := by
    unfold imgRest
    rw [Lib.extract_data, List.take_of_length_le (by rw [List.length_drop, ← size_data]; exact Nat.le_refl _)]
  have hd1 : (imgRest s (k + 1)).data.toList = s.data.toList.drop (min ((k + 1) * 256) s.size) := by
    unfold imgRest
    rw [Lib.extract_data, List.take_of_length_le (by rw [List.length_drop, ← size_data]; exact Nat.le_refl _)]
  rw [Lib.extract_data, hd1, hd, List.drop_drop]
  rw [List.take_of_length_le (by rw [List.length_drop, ← size_data]; omega)]
  congr 1
  omega
def zeros (m : Nat) : ByteArray := ⟨(List.replicate m (0 : UInt8)).toArray⟩
theorem zeros_size (m : Nat) : (zeros m).size = m := by rw [size_data]; unfold zeros; rw [List.toList_toArray, List.length_replicate]
theorem imgRest_page (s : ByteArray) (k n : Nat) (hk : k < imgLen s) (hn : n = min (imgRest s k).size 256) : (imgRest s k).extract 0 n ++ zeros (256 - n) = imgPage s k := by
  have hz := imgRest_size s k
  have hks : k * 256 < s.size := by unfold imgLen at hk; omega
  apply ba_ext
  unfold imgPage
  rw [ByteArray.data_append, Array.toList_append, ByteArray.data_append, Array.toList_append]
  have hd : (imgRest s k).data.toList = s.data.toList.drop (k * 256) := by
    unfold imgRest
    rw [Lib.extract_data, Nat.min_eq_left (by omega), List.take_of_length_le (by rw [List.length_drop, ← size_data]; exact Nat.le_refl _)]
  have hes : (s.extract (k * 256) (k * 256 + 256)).size = n := by rw [ext_size]; omega
  rw [hes, Lib.extract_data, Lib.extract_data, hd, List.drop_zero, Nat.sub_zero, Lib.extract_data]
  congr 1
  · by_cases h : n = 256
    · rw [h]; congr 1; omega
    · have : n = s.size - k * 256 := by omega
      rw [List.take_of_length_le (by rw [List.length_drop, ← size_data]; omega), List.take_of_length_le (by rw [List.length_drop, ← size_data]; omega)]
  · unfold zeros zeroPage
    rw [List.toList_toArray, List.toList_toArray, List.drop_replicate, List.take_replicate, Nat.min_self]
theorem run_makeZeros (m : Nat) (hm : m ≤ 256) (w : World) : (Instr.makeSlice 39 (.int .i64 (m : Int)) (.int .i64 (m : Int))).run Try.prog w = .ok (.slice (some ⟨w.heap.size, 0, none⟩) m m) (w.alloc (.cells (Lib.strCells (zeros m)).toArray 5)) := by
  obtain ⟨i0, hi, hz0, hz1, hz2⟩ := info_parts infoByte
  have := run_make (P := Try.prog) w 39 5 i0 (.int .u8 0) Try.underlying39 hi hz0 .i64 .i64 (m : Int) (m : Int) (by omega) (by omega) (by rw [hz2]; omega) (by omega)
  rw [hz1, Int.toNat_natCast, Nat.mul_one] at this
  rw [this]
  have e : madeCells (Value.int .u8 0).cells m = (Lib.strCells (zeros m)).toArray := by
    apply Array.toList_inj.1
    have h := toList_madeCells_one (.int .u8 0) m
    refine h.trans ?_
    unfold Lib.strCells zeros
    rw [List.toList_toArray, List.toList_toArray, List.map_replicate]; rfl
  rw [e]
theorem conv_zeros (wr : World) (m : Nat) : (convert 39 9 (.slice (some ⟨wr.heap.size, 0, none⟩) m m)).run Try.prog (wr.alloc (.cells (Lib.strCells (zeros m)).toArray 5)).drew = .ok (.string (zeros m)) (wr.alloc (.cells (Lib.strCells (zeros m)).toArray 5)).drew := by
  have := conv_bytes (W := (wr.alloc (.cells (Lib.strCells (zeros m)).toArray 5)).drew) (s := zeros m) (RdB.of_block (g := wr.heap.size) (new_later (below_dr (Below.refl _ _))) (by rw [List.take_of_length_le]; rw [zeros_size]; show (Lib.strCells (zeros m)).length ≤ m; rw [Lib.strCells_length, zeros_size]; exact Nat.le_refl _)) (fun ad h => by cases h; rfl) m
  rw [zeros_size] at this
  exact this
def strSize : Value → Nat
  | .string s => s.size
  | _ => 0
def RImg (w : World) (s : ByteArray) (j : Nat) (wr : World) : Prop := RDev wr (fun k => w.heap.size ≤ k) w.heap.size ((List.range j).map (imgPage s)) [] ∧ Below w.heap.size w wr
theorem rimg_next {w wr W w2 : World} {s : ByteArray} {k : Nat} {vp vw v' : Value} {p : ByteArray} (hd : RDevAt wr w.heap.size vp vw ((List.range k).map (imgPage s)) []) (hf : ∀ j, rfoot w.heap.size vp vw j → w.heap.size ≤ j) (hb : Below w.heap.size w wr)
    {g cap H : Nat} (hgr : W.grownBy w2 vp.ownBlock) (hv : v' = .slice (some ⟨g, 0, none⟩) (k + 1) cap) (hown : w2.ownsRow 0 9 1 v' (k + 1) (((List.range k).map (imgPage s)).map Value.string ++ [.string p])) (hp : p = imgPage s k) (hat : vp.ownBlock = some g ∨ g = H) (hH : wr.heap.size ≤ H) (hk : k < 512)
    (hb2 : Below wr.heap.size wr W) : RImg w s (k + 1) (w2.setCell ⟨w.heap.size, 0, none⟩ v') := by
  subst hp
  have hlen : ((List.range k).map (imgPage s)).length = k := by rw [List.length_map, List.length_range]
  have hd' := hd.pushPage hb2 (imgPage_size s k) (v' := v') (g := g) (cap := cap) (by rw [hlen]; exact hv) (by rw [hlen]; exact hown) hgr (by rw [hlen]; exact hk)
  have hwW : Below w.heap.size w W := hb.trans (hb2.mono hb.size)
  refine ⟨⟨v', vw, ?_, ?_⟩, ?_⟩
  · rw [List.range_succ, List.map_append]; exact hd'
  · intro j hj
    have hs := hb.size
    rcases hj with rfl | hj | hj
    · exact Nat.le_refl _
    · have : g = j := by rw [hv] at hj; simpa [Value.ownBlock] using hj
      subst this
      rcases hat with hat | hat
      · exact hf g (.inr (.inl hat))
      · omega
    · exact hf j (.inr (.inr hj))
  · refine Below.setCell (hwW.grown hgr (by have := hwW.size; omega) ?_) (Nat.le_refl _) _
    intro j hj
    exact hf j (.inr (.inl hj))
theorem ext_self (s : ByteArray) (n : Nat) : s.extract n n = ByteArray.empty := by
  apply ba_ext
  rw [Lib.extract_data, Nat.sub_self, List.take_zero]; rfl
theorem imgRest_zero (s : ByteArray) : imgRest s 0 = s := by
  apply ba_ext
  unfold imgRest
  rw [Lib.extract_data, Nat.zero_mul, Nat.zero_min, List.drop_zero, Nat.sub_zero, size_data, List.take_length]
set_option maxHeartbeats 2000000 in
set_option maxRecDepth 100000 in
theorem rimage_ok (s : ByteArray) (w : World) (h : s.size ≤ 131072) :
    Calls Try.prog 23 #[.string s] w fun e w' => ∃ b, e = .returned (.tuple #[.pointer (some ⟨b, 0, none⟩), .int .i64 0]) ∧ RDev w' (fun k => w.heap.size ≤ k) b (imgPages s) [] ∧ Below w.heap.size w w' := by
  obtain ⟨i0, hi, hz0, hz1, hz2⟩ := info_parts infoString
  have t : decide (131072 < s.size) = false := decide_eq_false (by omega)
  have ti : decide ((131072 : Int) < (s.size : Int)) = false := decide_eq_false (by omega)
  have hl512 : imgLen s ≤ 512 := by unfold imgLen; omega
  go_enter Try.func23, Try.ntmps23
  go_wp2_with fail
  go_loopw [0] (fun sv wr => ∃ j : Nat, j ≤ imgLen s ∧ sv = .string (imgRest s j) ∧ RImg w s j wr) (fun sv _ => strSize sv)
  case atStart =>
    refine ⟨0, Nat.zero_le _, by rw [imgRest_zero], ⟨_, _, rdevAt_new _ w.heap.size (new_block _ _), ?_⟩, (Below.refl _ _).alloc (Nat.le_refl _) _⟩
    intro j hj
    rcases hj with rfl | hj | hj
    · exact Nat.le_refl _
    · simp [Value.ownBlock] at hj
    · simp [Value.ownBlock] at hj
  case round =>
    obtain ⟨k, hk, rfl, ⟨vp, vw, hd, hf⟩, hb⟩ := hrel
    have hrs := imgRest_size s k
    by_cases hlt : k < imgLen s
    · have hks : k * 256 < s.size := by unfold imgLen at hlt; omega
      have hpos : 0 < (imgRest s k).size := by omega
      have hposI : (0 : Int) < ((imgRest s k).size : Int) := by omega
      have hmax : (imgRest s k).size ≤ 131072 := by omega
      have hc0 := cell_at hd.blk 0
      have hf0 := frozen_at hd.blk 0
      have hca := cell_alloc hc0
      have hcb := fun X => cell_alloc (hca X)
      have hlen : ((List.range k).map (imgPage s)).length = k := by rw [List.length_map, List.length_range]
      have hrow := hd.rowP
      rw [hlen] at hrow
      have HD := Lib.hid hd
      have HF := Lib.hid hf
      have hk512 : k < 512 := by omega
      have hrn := imgRest_next s k
      have hrp := imgRest_page s k
      have hrs1 := imgRest_size s (k + 1)
      have HRS := Lib.hid hrs1
      have HR0 := Lib.hid hrs
      have HRN := Lib.hid hrn
      have HRP := Lib.hid hrp
      clear hd hf hlen hrs hrn hrp hrs1
      by_cases hsm : (imgRest s k).size ≤ 256
      · obtain ⟨m, hm⟩ : ∃ m : Nat, (256 : Int) - ((imgRest s k).size : Int) = (m : Int) := ⟨256 - (imgRest s k).size, by omega⟩
        have hm2 : m ≤ 256 := by omega
        have hm3 : m = 256 - (imgRest s k).size := by omega
        have HM := Lib.hid hm3
        clear hm3
        have hmk := run_makeZeros m hm2
        have hcv := conv_zeros wr m
        have hzs := zeros_size m
        have HZ := Lib.hid hzs
        have hzl : (zeros m).size ≤ 256 := by omega
        clear hzs
        have hwr : IntKind.i64.wrap ((256 : Int) - ((imgRest s k).size : Int)) = (m : Int) := by rw [IntWalk.i64_in _ (by omega)]; exact hm
        have hsum : ¬ 9223372036854775807 < (imgRest s k).size + (zeros m).size := by omega
        clear hm
        go_wp2_with fail
        go_region_law (refine step_append_lies _ rfl (.tmp 21) (.tmp 30) 23 rfl 0 9 i0 (.string ByteArray.empty) 1 16 Try.underlying23 hi hz0 hz1 hz2 rfl (by decide) vp k (((List.range k).map (imgPage s)).map Value.string) (by simp [Act.eval, Act.put]) (own_below hrow (by repeat (first | exact Below.refl _ _ | apply below_dr | apply below_al))) ⟨wr.heap.size + 1, 0, none⟩ 1 1 [.string (imgRest s k ++ zeros m)] (by simp [Act.eval, Act.put]) rfl (one_cell (by simp)) (by simp [Value.oneCell']) (by decide) (by unfold maxLen; omega) (by omega) (Nat.zero_le _) (wr.heap.size + 2) (by simp) ?_; intro g cap w2 hown hgr hat hlt2; have hbk := HD.out.blk_grownP hgr (by repeat (first | exact Below.refl _ _ | apply below_dr | apply below_al)); have hc2 := cell_at hbk 0; have hf2 := frozen_at hbk 0)
        all_goals
          go_wp2
          go_roundw
          case rel => exact ⟨k + 1, by omega, by rw [← HRN.out (imgRest s k).size (by omega), ext_self], rimg_next HD.out HF.out hb hgr rfl hown (by rw [← HRP.out (imgRest s k).size hlt (by omega)]; rw [HM.out, ext_all (Nat.le_refl _)]) hat (by omega) hk512 (by repeat (first | exact Below.refl _ _ | apply below_dr | apply below_al))⟩
          case measure =>
            simp only [strSize]
            exact hpos
      · have hmk : ∀ w : World, (Instr.makeSlice 39 (.int .i64 0) (.int .i64 0)).run Try.prog w = .ok (.slice (some ⟨w.heap.size, 0, none⟩) 0 0) (w.alloc (.cells (Lib.strCells (zeros 0)).toArray 5)) := fun w => run_makeZeros 0 (by omega) w
        have hcv := conv_zeros wr 0
        have hw0 : IntKind.i64.wrap 0 = 0 := IntWalk.i64_in _ (by omega)
        have hzl : (zeros 0).size ≤ 256 := by rw [zeros_size]; omega
        have hel : ((imgRest s k).extract 0 256).size = 256 := by rw [ext_size]; omega
        have hsum : ¬ 9223372036854775807 < ((imgRest s k).extract 0 256).size + (zeros 0).size := by omega
        have hsum2 : ¬ 9223372036854775807 < 256 + (zeros 0).size := by omega
        have hbig : (256 : Int) ≤ ((imgRest s k).size : Int) := by omega
        have hbig2 : 256 ≤ (imgRest s k).size := by omega
        clear hel
        go_wp2_with fail
        go_region_law (refine step_append_lies _ rfl (.tmp 21) (.tmp 30) 23 rfl 0 9 i0 (.string ByteArray.empty) 1 16 Try.underlying23 hi hz0 hz1 hz2 rfl (by decide) vp k (((List.range k).map (imgPage s)).map Value.string) (by simp [Act.eval, Act.put]) (own_below hrow (by repeat (first | exact Below.refl _ _ | apply below_dr | apply below_al))) ⟨wr.heap.size + 1, 0, none⟩ 1 1 [.string ((imgRest s k).extract 0 256 ++ zeros 0)] (by simp [Act.eval, Act.put]) rfl (one_cell (by simp)) (by simp [Value.oneCell']) (by decide) (by unfold maxLen; omega) (by omega) (Nat.zero_le _) (wr.heap.size + 2) (by simp) ?_; intro g cap w2 hown hgr hat hlt2; have hbk := HD.out.blk_grownP hgr (by repeat (first | exact Below.refl _ _ | apply below_dr | apply below_al)); have hc2 := cell_at hbk 0; have hf2 := frozen_at hbk 0)
        all_goals
          go_wp2
          go_roundw
          case rel => exact ⟨k + 1, by omega, by rw [← HRN.out 256 (by omega)], rimg_next HD.out HF.out hb hgr rfl hown (by rw [← HRP.out 256 hlt (by omega)]) hat (by omega) hk512 (by repeat (first | exact Below.refl _ _ | apply below_dr | apply below_al))⟩
          case measure =>
            simp only [strSize]
            rw [HRN.out 256 (by omega), HRS.out, HR0.out]
            omega
    · have hks : (imgRest s k).size = 0 := by unfold imgLen at hlt; omega
      have hkM : k = imgLen s := by omega
      have hle : ¬ (0 : Int) < ((imgRest s k).size : Int) := by omega
      have hle2 : ¬ 0 < (imgRest s k).size := by omega
      have HK := Lib.hid hkM
      clear hkM hks hrs
      go_wp2
      go_ret2
      refine ⟨w.heap.size, rfl, ⟨vp, vw, ?_, hf⟩, hb⟩
      unfold imgPages
      rw [← HK.out]
      exact hd
end Go.Proofs.Ytpdhfnpnilpipaa.Dv
