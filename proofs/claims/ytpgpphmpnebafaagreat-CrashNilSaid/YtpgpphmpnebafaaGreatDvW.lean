/- The functions of a device, by walks. -/
import Derived.Test.YtpgpphmpnebafaaGreatDvA
import Derived.WalkKit
import Derived.WalkSpells
import Derived.WalkLawsBesides
import Derived.Lib.Hide
import Derived.Outline
import Derived.Deep.RegionHeld3
import Derived.Deep.AppendLies
import Derived.Deep.QuietTactic
import Derived.BigQuiet
import Derived.Laws.MakeOwn
namespace Go.Proofs.YtpgpphmpnebafaaGreat.Dv
open Go.RowKit
set_option linter.unusedSimpArgs false
set_option linter.unusedVariables false
set_option maxRecDepth 100000

def clamp (n : Int) : Nat := (max 0 (min n 512)).toNat
/-- Zeros. -/
def zeroCells : List Value := Lib.strCells zeroPage
theorem zeroCells_eq : zeroCells = List.replicate 256 (Value.int .u8 0) := by
  unfold zeroCells zeroPage Lib.strCells
  rw [List.toList_toArray, List.map_replicate]; rfl
theorem infoBytes : (Tryz.prog.info? 22).map (fun i => (i.zero, i.size, i.bytes)) = some (some (.slice none 0 0), 1, 24) := by kernel_rfl
theorem infoWrite : (Tryz.prog.info? 111).map (fun i => (i.zero, i.size, i.bytes)) = some (some (.agg #[.int .i64 0, .slice none 0 0]), 2, 32) := by kernel_rfl
theorem infoByte : (Tryz.prog.info? 5).map (fun i => (i.zero, i.size, i.bytes)) = some (some (.int .u8 0), 1, 1) := by kernel_rfl
theorem run_makePage (w : World) : (Instr.makeSlice 22 (.int .i64 256) (.int .i64 256)).run Tryz.prog w = .ok (.slice (some ⟨w.heap.size, 0, none⟩) 256 256) (w.alloc (.cells zeroCells.toArray 5)) := by
  kernel_rfl
theorem cell_at {w : World} {g t : Nat} {cs : Array Value} (h : w.heap[g]? = some (.cells cs t (0, 0))) (i : Nat) : w.cell? ⟨g, i, none⟩ = cs[i]? := by
  simp [World.cell?, h]
theorem frozen_at {w : World} {g t : Nat} {cs : Array Value} (h : w.heap[g]? = some (.cells cs t (0, 0))) (i : Nat) : w.frozen? ⟨g, i, none⟩ = false := by
  simp [World.frozen?, h]
theorem zeroPage_cells : Lib.strCells zeroPage = zeroCells := rfl
/-- The loop's state: so many pages are there. -/
def Made (w : World) (k : Nat) (wr : World) : Prop := Dev wr (fun j => w.heap.size ≤ j) w.heap.size (List.replicate k zeroPage) [] ∧ Below w.heap.size w wr
theorem made_next {w wr W w2 : World} {k g0 : Nat} {vp vw v' : Value} {gs : List Nat} (hd : DevAt wr w.heap.size vp vw (List.replicate k zeroPage) [] gs []) (hf : ∀ j, foot w.heap.size vp vw gs [] j → w.heap.size ≤ j) (hb : Below w.heap.size w wr)
    {g cap : Nat} (hgr : W.grownBy w2 vp.ownBlock) (hv : v' = .slice (some ⟨g, 0, none⟩) (k + 1) cap) (hown : w2.ownsRow 0 22 1 v' (k + 1) (gs.map pageV ++ [pageV g0])) (hat : vp.ownBlock = some g ∨ g = wr.heap.size + 2) (hk : k < 512)
    (hb2 : Below wr.heap.size wr W) (hg0 : wr.heap.size ≤ g0) (hc : W.heap[g0]? = some (.cells zeroCells.toArray 5 (0, 0))) : Made w (k + 1) (w2.setCell ⟨w.heap.size, 0, none⟩ v') := by
  have hlen : (List.replicate k zeroPage).length = k := List.length_replicate
  have hd' := hd.pushPage hb2 hg0 zeroPage_size hc (v' := v') (g := g) (cap := cap) (by rw [hlen]; exact hv) (by rw [hlen]; exact hown) hgr (by rw [hlen]; exact hk)
  have hwW : Below w.heap.size w W := hb.trans (hb2.mono hb.size)
  refine ⟨⟨v', vw, gs ++ [g0], [], ?_, ?_⟩, ?_⟩
  · rw [List.replicate_succ']; exact hd'
  · intro j hj
    have hs := hb.size
    have hs2 := hb2.size
    rcases hj with rfl | hj | hj | hj | hj
    · exact Nat.le_refl _
    · have : g = j := by rw [hv] at hj; simpa [Value.ownBlock] using hj
      subst this
      rcases hat with hat | hat
      · exact hf g (.inr (.inl hat))
      · omega
    · exact hf j (.inr (.inr (.inl hj)))
    · rcases List.mem_append.1 hj with hj | hj
      · exact hf j (.inr (.inr (.inr (.inl hj))))
      · have : j = g0 := by simpa using hj
        omega
    · simp at hj
  · refine Below.setCell (hwW.grown hgr (by have := hwW.size; omega) ?_) (Nat.le_refl _) _
    intro j hj
    exact hf j (.inr (.inl hj))
set_option maxHeartbeats 1000000 in
set_option maxRecDepth 100000 in
theorem new_any (n : Int) (w : World) : Calls Tryz.prog 8 #[.int .i64 n] w fun e w' => ∃ b, e = .returned (.pointer (some ⟨b, 0, none⟩)) ∧ Dev w' (fun k => w.heap.size ≤ k) b (List.replicate (clamp n) zeroPage) [] ∧ Below w.heap.size w w' := by
  obtain ⟨i0, hi, hz0, hz1, hz2⟩ := info_parts infoBytes
  have hM : ∃ M : Nat, clamp n = M ∧ M ≤ 512 := ⟨_, rfl, by unfold clamp; omega⟩
  obtain ⟨M, hM, hM2⟩ := hM
  have HM := Lib.hid hM
  have hcases : (n ≤ 0 ∧ M ≤ 0) ∨ (∃ m : Nat, n = m ∧ 0 < m ∧ m ≤ 512 ∧ M ≤ m ∧ m ≤ M) ∨ (512 < n ∧ M ≤ 512 ∧ 512 ≤ M) := by
    unfold clamp at hM
    by_cases h1 : n ≤ 0
    · left; omega
    · by_cases h2 : 512 < n
      · right; right; omega
      · right; left; exact ⟨n.toNat, by omega, by omega, by omega, by omega, by omega⟩
  clear hM
  have hmk := run_makePage
  rcases hcases with ⟨h1, h3⟩ | ⟨m, rfl, h1, h2, h3, h4⟩ | ⟨h1, h3, h4⟩
  all_goals
    go_enter Tryz.func8, Tryz.ntmps8
    go_wp2_with fail
    go_loopw [9] (fun i wr => ∃ k : Nat, k ≤ M ∧ i = .int .i64 k ∧ Made w k wr) (fun i _ => M - (intOf i).toNat)
    case atStart =>
      refine ⟨0, Nat.zero_le _, rfl, ⟨_, _, [], [], devAt_new _ w.heap.size (by show (w.heap.push _)[_]? = _; simp), ?_⟩, (Below.refl _ _).alloc (Nat.le_refl _) _⟩
      intro j hj
      rcases hj with rfl | hj | hj | hj | hj
      · exact Nat.le_refl _
      · simp [Value.ownBlock] at hj
      · simp [Value.ownBlock] at hj
      · simp at hj
      · simp at hj
    case round =>
      obtain ⟨k, hk, rfl, ⟨vp, vw, gs, hs, hd, hf⟩, hb⟩ := hrel
      have hhs : hs = [] := List.eq_nil_of_length_eq_zero hd.hlen
      subst hhs
      by_cases hlt : k < M
      · first
        | (exfalso; omega)
        | (have hc0 := cell_at hd.blk 0
           have hf0 := frozen_at hd.blk 0
           have hca := cell_alloc hc0
           have hcb := fun X => cell_alloc (hca X)
           have hbs := hb.size
           have HD := Lib.hid hd
           have HFt := Lib.hid hf
           have HBl := Lib.hid hb
           have hlen : (List.replicate k zeroPage).length = k := List.length_replicate
           have hrow := hd.rowP
           rw [hlen] at hrow
           have hk512 : k < 512 := by omega
           clear hlen
           go_wp2_with fail
           go_region_law (refine step_append_lies _ rfl (.tmp 15) (.tmp 17) 105 rfl 0 22 i0 (.slice none 0 0) 1 24 Tryz.underlying105 hi hz0 hz1 hz2 rfl (by decide) vp k (gs.map pageV) (by simp [Act.eval, Act.put]) (own_below hrow (by repeat (first | exact Below.refl _ _ | apply below_dr | apply below_al))) ⟨wr.heap.size + 1, 0, none⟩ 1 1 [pageV wr.heap.size] (by simp [Act.eval, Act.put]) rfl (one_cell (by simp [pageV])) (by simp [Value.oneCell', pageV]) (by decide) (by unfold maxLen; omega) (by omega) (Nat.zero_le _) (wr.heap.size + 2) (by simp) ?_; intro g cap w2 hown hgr hat hlt2; have hbk := hd.blk_grownP hgr (by repeat (first | exact Below.refl _ _ | apply below_dr | apply below_al)); have hc2 := cell_at hbk 0; have hf2 := frozen_at hbk 0)
           all_goals
             go_wp2
             go_roundw
             case rel => exact ⟨k + 1, by omega, by go_num, made_next HD.out HFt.out HBl.out hgr rfl hown hat hk512 (by repeat (first | exact Below.refl _ _ | apply below_dr | apply below_al)) (Nat.le_refl _) (new_later (by repeat (first | exact Below.refl _ _ | apply below_dr | apply below_al)))⟩
             case measure => simp [intOf]; omega)
      · have hkM : k = M := by omega
        have HK := Lib.hid hkM
        clear hkM
        go_wp2
        go_ret
        refine ⟨w.heap.size, rfl, ?_, hb⟩
        rw [HM.out, ← HK.out]
        exact ⟨vp, vw, gs, [], hd, hf⟩
end Go.Proofs.YtpgpphmpnebafaaGreat.Dv
