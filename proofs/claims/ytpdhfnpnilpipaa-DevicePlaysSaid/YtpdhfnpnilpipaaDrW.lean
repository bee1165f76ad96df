/- The document's device, by walks: a new one; a write. -/
import Derived.Test.YtpdhfnpnilpipaaDrM
import Derived.Test.YtpdhfnpnilpipaaDvC
import Derived.Laws.BytesArg
namespace Go.Proofs.Ytpdhfnpnilpipaa.Dv
open Go.RowKit
set_option linter.unusedSimpArgs false
set_option linter.unusedVariables false

theorem infoString : (Try.prog.info? 9).map (fun i => (i.zero, i.size, i.bytes)) = some (some (.string ByteArray.empty), 1, 16) := by kernel_rfl
theorem infoRWrite : (Try.prog.info? 81).map (fun i => (i.zero, i.size, i.bytes)) = some (some (.agg #[.int .i64 0, .string ByteArray.empty]), 2, 24) := by kernel_rfl
def RMade (w : World) (k : Nat) (wr : World) : Prop := RDev wr (fun j => w.heap.size ≤ j) w.heap.size (List.replicate k zeroPage) [] ∧ Below w.heap.size w wr
theorem strOf (s : ByteArray) : strOfNums (s.data.toList.map fun b => (b.toNat : Int)) = s := by
  unfold strOfNums
  apply ba_ext
  rw [List.toList_toArray, List.map_map]
  have : ((fun n : Int => UInt8.ofNat n.toNat) ∘ fun b : UInt8 => (b.toNat : Int)) = id := by
    funext b; simp
  rw [this, List.map_id]
/-- string(b) -/
theorem conv_bytes {W : World} {A : Option Addr} {s : ByteArray} (h : RdB W A s) (hA : ∀ ad, A = some ad → ad.spot = none) (c : Nat) : (convert 39 9 (.slice A s.size c)).run Try.prog W = .ok (.string s) W := by
  cases A with
  | none =>
    have h0 : s.size = 0 := by
      by_cases hp : 0 < s.size
      · obtain ⟨ad, he, _⟩ := h hp; cases he
      · omega
    have hs : s = ByteArray.empty := by
      apply ba_ext
      have : s.data.toList.length = 0 := by rw [← size_data]; exact h0
      rw [List.length_eq_zero_iff.1 this]; rfl
    rw [hs]
    exact run_convert_bytes_nil W 39 5 Try.underlying39 Try.underlying5 _ c 9 Try.underlying9
  | some ad =>
    obtain ⟨b, o, sp⟩ := ad
    have hsp : sp = none := hA _ rfl
    subst hsp
    have := run_convert_bytes_arg (P := Try.prog) W 39 5 Try.underlying39 Try.underlying5 b o s.size c (s.data.toList.map fun b => (b.toNat : Int)) (by rw [List.length_map, ← size_data]) (fun i hi => by
      obtain ⟨ad, he, hc⟩ := h (by omega)
      injection he with he; subst he
      have hlen : i < s.data.toList.length := by rw [← size_data]; exact hi
      have := hc i (.int .u8 ((s.data.toList[i]).toNat : Int)) (by unfold Lib.strCells; rw [List.getElem?_map, List.getElem?_eq_getElem hlen]; rfl)
      rw [show (⟨b, o, none⟩ : Addr).add i = ⟨b, o + i, none⟩ from by unfold Addr.add; split <;> simp_all] at this
      rw [this, List.getD_eq_getElem?_getD, List.getElem?_map, List.getElem?_eq_getElem hlen]; rfl) 9 Try.underlying9
    rw [strOf] at this
    exact this
theorem own_conv {W : World} {base : Nat} {v : Value} {s : ByteArray} (h : W.ownsRow base 5 1 v s.size (Lib.strCells s)) : (convert 39 9 v).run Try.prog W = .ok (.string s) W := by
  rcases h.2 with ⟨hv, h0⟩ | ⟨g, cap, cur, hv, hg, hh, h2, h3, h4, h5⟩
  · rw [hv]
    have := conv_bytes (W := W) (A := none) (s := s) (fun hp => by omega) (fun _ h => by cases h) 0
    rw [h0] at this
    exact this
  · rw [hv]
    exact conv_bytes (RdB.of_block hh (by rw [Nat.mul_one] at h5; exact h5)) (fun ad h => by cases h; rfl) cap
theorem conv_zero (wr : World) : (convert 39 9 (.slice (some ⟨wr.heap.size, 0, none⟩) 256 256)).run Try.prog (wr.alloc (.cells zeroCells.toArray 5)).drew = .ok (.string zeroPage) (wr.alloc (.cells zeroCells.toArray 5)).drew := by
  have := conv_bytes (W := (wr.alloc (.cells zeroCells.toArray 5)).drew) (s := zeroPage) (RdB.of_block (g := wr.heap.size) (new_later (below_dr (Below.refl _ _))) (by rw [List.take_of_length_le]; rfl; rw [zeroPage_size]; show (Lib.strCells zeroPage).length ≤ 256; rw [Lib.strCells_length, zeroPage_size]; exact Nat.le_refl _)) (fun ad h => by cases h; rfl) 256
  rw [zeroPage_size] at this
  exact this
theorem rmade_next {w wr W w2 : World} {k : Nat} {vp vw v' : Value} (hd : RDevAt wr w.heap.size vp vw (List.replicate k zeroPage) []) (hf : ∀ j, rfoot w.heap.size vp vw j → w.heap.size ≤ j) (hb : Below w.heap.size w wr)
    {g cap H : Nat} (hgr : W.grownBy w2 vp.ownBlock) (hv : v' = .slice (some ⟨g, 0, none⟩) (k + 1) cap) (hown : w2.ownsRow 0 9 1 v' (k + 1) ((List.replicate k zeroPage).map Value.string ++ [.string zeroPage])) (hat : vp.ownBlock = some g ∨ g = H) (hH : wr.heap.size ≤ H) (hk : k < 512)
    (hb2 : Below wr.heap.size wr W) : RMade w (k + 1) (w2.setCell ⟨w.heap.size, 0, none⟩ v') := by
  have hlen : (List.replicate k zeroPage).length = k := List.length_replicate
  have hd' := hd.pushPage hb2 zeroPage_size (v' := v') (g := g) (cap := cap) (by rw [hlen]; exact hv) (by rw [hlen]; exact hown) hgr (by rw [hlen]; exact hk)
  have hwW : Below w.heap.size w W := hb.trans (hb2.mono hb.size)
  refine ⟨⟨v', vw, ?_, ?_⟩, ?_⟩
  · rw [List.replicate_succ']; exact hd'
  · intro j hj
    have hs := hb.size
    rcases hj with rfl | hj | hj
    · exact Nat.le_refl _
    · have : g = j := by rw [hv] at hj; simpa [Value.ownBlock] using hj
      subst this
      rcases hat with hat | hat
      · exact hf g (.inr (.inl hat))
      · omega
    · exact hf j (.inr (.inr hj))
  · refine Below.setCell (hwW.grown hgr (by have := hwW.size; omega) ?_) (Nat.le_refl _) _
    intro j hj
    exact hf j (.inr (.inl hj))
set_option maxHeartbeats 1000000 in
set_option maxRecDepth 100000 in
theorem rnew_any (n : Int) (w : World) : Calls Try.prog 35 #[.int .i64 n] w fun e w' => ∃ b, e = .returned (.pointer (some ⟨b, 0, none⟩)) ∧ RDev w' (fun k => w.heap.size ≤ k) b (List.replicate (clamp n) zeroPage) [] ∧ Below w.heap.size w w' := by
  obtain ⟨i0, hi, hz0, hz1, hz2⟩ := info_parts infoString
  have hM : ∃ M : Nat, clamp n = M ∧ M ≤ 512 ∧ ((M : Int) < n → M = 512) ∧ ((M : Int) ≤ n ∨ M = 0) := ⟨_, rfl, by unfold clamp; omega, by unfold clamp; omega, by unfold clamp; omega⟩
  obtain ⟨M, hM, hM2, hM3, hM4⟩ := hM
  have HM := Lib.hid hM
  have HM3 := Lib.hid hM3
  have HM4 := Lib.hid hM4
  clear hM hM3 hM4
  have hmk := run_makePage
  go_enter Try.func35, Try.ntmps35
  go_wp2_with fail
  go_loopw [4] (fun i wr => ∃ k : Nat, k ≤ M ∧ i = .int .i64 k ∧ RMade w k wr) (fun i _ => M - (intOf i).toNat)
  case atStart =>
    refine ⟨0, Nat.zero_le _, rfl, ⟨_, _, rdevAt_new _ w.heap.size (new_block _ _), ?_⟩, (Below.refl _ _).alloc (Nat.le_refl _) _⟩
    intro j hj
    rcases hj with rfl | hj | hj
    · exact Nat.le_refl _
    · simp [Value.ownBlock] at hj
    · simp [Value.ownBlock] at hj
  case round =>
    obtain ⟨k, hk, rfl, ⟨vp, vw, hd, hf⟩, hb⟩ := hrel
    by_cases hlt : k < M
    · have h1 : (k : Int) < n := by rcases HM4.out with h | h <;> omega
      have h2 : (k : Int) < 512 := by omega
      have hc0 := cell_at hd.blk 0
      have hf0 := frozen_at hd.blk 0
      have hca := cell_alloc hc0
      have hcb := fun X => cell_alloc (hca X)
      have hbs := hb.size
      go_wp2_with fail
      have hcv := conv_zero wr
      have hlen : (List.replicate k zeroPage).length = k := List.length_replicate
      have hrow := hd.rowP
      rw [hlen] at hrow
      have HD := Lib.hid hd
      have HF := Lib.hid hf
      have hk512 : k < 512 := by omega
      clear hlen hd hf
      go_region_law (refine step_append_lies _ rfl (.tmp 20) (.tmp 23) 23 rfl 0 9 i0 (.string ByteArray.empty) 1 16 Try.underlying23 hi hz0 hz1 hz2 rfl (by decide) vp k ((List.replicate k zeroPage).map Value.string) (by simp [Act.eval, Act.put]) (own_below hrow (by repeat (first | exact Below.refl _ _ | apply below_dr | apply below_al))) ⟨wr.heap.size + 1, 0, none⟩ 1 1 [.string zeroPage] (by simp [Act.eval, Act.put]) rfl (one_cell (by simp)) (by simp [Value.oneCell']) (by decide) (by unfold maxLen; omega) (by omega) (Nat.zero_le _) (wr.heap.size + 2) (by simp) ?_; intro g cap w2 hown hgr hat hlt2; have hbk := HD.out.blk_grownP hgr (by repeat (first | exact Below.refl _ _ | apply below_dr | apply below_al)); have hc2 := cell_at hbk 0; have hf2 := frozen_at hbk 0)
      all_goals
        go_wp2
        go_roundw
        case rel => exact ⟨k + 1, by omega, by go_num, rmade_next HD.out HF.out hb hgr rfl hown hat (by omega) hk512 (by repeat (first | exact Below.refl _ _ | apply below_dr | apply below_al))⟩
        case measure => simp [intOf]; omega
    · have hkM : k = M := by omega
      have HK := Lib.hid hkM
      by_cases h1 : (k : Int) < n
      · have h2 : k = 512 := by have := HM3.out (by omega); omega
        have h3 : decide ((k : Int) < 512) = false := decide_eq_false (by omega)
        clear hkM h2
        go_wp2
        go_ret
        refine ⟨w.heap.size, rfl, ?_, hb⟩
        rw [HM.out, ← HK.out]
        exact ⟨vp, vw, hd, hf⟩
      · have h3 : decide ((k : Int) < n) = false := decide_eq_false h1
        clear hkM
        go_wp2
        go_ret
        refine ⟨w.heap.size, rfl, ?_, hb⟩
        rw [HM.out, ← HK.out]
        exact ⟨vp, vw, hd, hf⟩
end Go.Proofs.Ytpdhfnpnilpipaa.Dv
