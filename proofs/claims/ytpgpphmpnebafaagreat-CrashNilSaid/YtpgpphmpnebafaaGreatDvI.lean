/- slices.Backward over the writes of a device: what it hands on, from the last write to the first. -/
import Derived.RangeFuncNested
import Derived.RangeFuncBound
import Derived.RangeFuncCalls
import Derived.RangeFuncLeaves
import Derived.Shelf.Abstract
import Derived.OwnWalkIn
import Derived.TacticsInMore
import Derived.LoopNIn
import Derived.LoopIn
import Derived.Test.YtpgpphmpnebafaaGreatDvE
namespace Go.Proofs.YtpgpphmpnebafaaGreat.Dv
open Go.RowKit Go.Shelf
set_option linter.unusedSimpArgs false
set_option linter.unusedVariables false
set_option maxRecDepth 100000
attribute [local go_sem] Oper.semAt_some

/-- What comes with write number j. -/
def back (Q : List (Nat × ByteArray)) (hs : List (Nat × Nat)) (j : Nat) : Array Value := #[.int .i64 (j : Int), .agg #[.int .i64 ((Q.getD j (0, ByteArray.empty)).1 : Int), .slice (some ⟨(hs.getD j (0, 0)).1, 0, none⟩) 256 (hs.getD j (0, 0)).2]]
theorem snoc_inj {α : Type} {a b : List α} {x y : α} (h : a ++ [x] = b ++ [y]) : a = b ∧ x = y := by
  have := List.append_inj' h rfl
  exact ⟨this.1, by simpa using this.2⟩
set_option maxRecDepth 100000 in
set_option maxHeartbeats 2000000 in
theorem back_in (F : Fence) (n : Nat) (h7 : F.fn 108) (hro : F.round = none) (hn : 1 ≤ n) (l Bs n₀ : Nat) (Q : List (Nat × ByteArray)) (hs : List (Nat × Nat)) (vw : Value) (hQ : Q.length ≤ 1000000) (J Jx : List { j : Nat // j < Q.length } → World → Prop)
    (hY : ∀ pre (x : { j : Nat // j < Q.length }) W, J pre W → pre.length < Q.length → YieldAt F (n - 1) Tryz.prog l (back Q hs x.1) W fun e W' =>
      (e = .returned (.bool true) ∧ J (pre ++ [x]) W' ∧ Below n₀ W W') ∨ (e = .returned (.bool false) ∧ Jx (pre ++ [x]) W'))
    (W : World) (hBs : W.cell? ⟨Bs, 0, none⟩ = some vw) (hBn : Bs < n₀) (hvw : Q.length = 0 ∧ (∃ A c, vw = .slice A 0 c) ∨ ∃ b cap, vw = .slice (some ⟨b, 0, none⟩) Q.length cap ∧ b < n₀ ∧ ∀ j, j < Q.length → W.cell? ⟨b, j * 2, none⟩ = some (.int .i64 ((Q.getD j (0, ByteArray.empty)).1 : Int)) ∧ W.cell? ⟨b, j * 2 + 1, none⟩ = some (.slice (some ⟨(hs.getD j (0, 0)).1, 0, none⟩) 256 (hs.getD j (0, 0)).2)) (h0 : J [] W) :
    CallsIn F n Tryz.prog 108 #[.func (.yield l) #[] #[], .pointer (some ⟨Bs, 0, none⟩)] W fun e W' => (∃ v, e = .returned v) ∧
      ((∃ ys, (∀ j, j ∈ ys) ∧ J ys W') ∨ (∃ pre, (∀ p0 x, pre = p0 ++ [x] → ∀ j : { j : Nat // j < Q.length }, x.1 < j.1 → j ∈ p0) ∧ Jx pre W')) := by
  have hsl : ∃ A c, vw = .slice A Q.length c := by
    rcases hvw with ⟨h, A, c, rfl⟩ | ⟨b, cap, rfl, _⟩
    · exact ⟨A, c, by rw [h]⟩
    · exact ⟨_, _, rfl⟩
  have HV := Lib.hid hvw
  clear hvw
  obtain ⟨Av, cv, rfl⟩ := hsl
  refine callsIn_of_wp Tryz.func108 rfl h7 ?_ hro
  simp only [Tryz.ntmps108, List.size_toArray, List.length_cons, List.length_nil, Nat.reduceAdd, Nat.reduceSub, Array.replicate_succ, Array.replicate_zero, List.push_toArray, List.append_toArray, List.nil_append, List.cons_append]
  gi_wp2
  gi_loopw [3] (fun i wr => ∃ (k : Nat) (pre : List { j : Nat // j < Q.length }), k ≤ Q.length ∧ i = .int .i64 ((Q.length : Int) - 1 - k) ∧ pre.length = k ∧ (∀ j : { j : Nat // j < Q.length }, Q.length ≤ j.1 + k → j ∈ pre) ∧ J pre wr ∧ Below n₀ W wr)
    (fun i _ => (intOf i + 1).toNat)
  case atStart => exact ⟨0, [], Nat.zero_le _, by simp, rfl, fun j hj => by have := j.2; omega, h0, Below.refl _ _⟩
  case round =>
    obtain ⟨k, pre, hk, rfl, hpl, hall, hJs, hnx⟩ := hrel
    have HA := Lib.hid hall
    have HPL := Lib.hid hpl
    clear hall hpl
    by_cases hlt : k < Q.length
    · obtain ⟨m, hm⟩ : ∃ m : Nat, (Q.length : Int) - 1 - k = m := ⟨Q.length - 1 - k, by omega⟩
      rw [hm]
      have hmlt : m < Q.length := by omega
      have hmk : m + k + 1 = Q.length := by omega
      have HM := Lib.hid hmk
      clear hm hmk
      rcases HV.out with ⟨hz, _⟩ | ⟨b, cap, hv1, hbn, hcells⟩
      · omega
      injection hv1 with hv1 _ hv2
      subst hv1 hv2
      obtain ⟨c1, c2⟩ := hcells m hmlt
      have hc1 := (hnx.cell (p := ⟨b, m * 2, none⟩) hbn).trans c1
      have hc2 := (hnx.cell (p := ⟨b, m * 2 + 1, none⟩) hbn).trans c2
      have hcb := (hnx.cell (p := ⟨Bs, 0, none⟩) hBn).trans hBs
      clear c1 c2 hcells
      obtain ⟨fn, tmps, assign, body, hy, hR⟩ := hY pre ⟨m, hmlt⟩ wr hJs (by rw [HPL.out]; exact hlt)
      simp only [back] at hy
      generalize Q.getD m (0, ByteArray.empty) = q at hy hc1
      generalize hs.getD m (0, 0) = h at hy hc2
      gi_wp2
      refine hR.mono ?_
      rintro e W3 (⟨rfl, hJ3, hk3⟩ | ⟨rfl, hJx3⟩)
      · gi_wp2
        go_roundw
        case rel =>
          refine ⟨k + 1, pre ++ [⟨m, hmlt⟩], by omega, ?_, by rw [List.length_append, HPL.out]; rfl, fun j hj => ?_, hJ3, hnx.trans hk3⟩
          · have := HM.out
            first | (congr 1; omega) | (simp; omega)
          · rw [List.mem_append]
            have := HM.out
            by_cases hjm : j.1 = m
            · right; rw [List.mem_singleton]; exact Subtype.ext hjm
            · left; exact HA.out j (by omega)
        case measure => first | (simp [intOf]; done) | (simp [intOf]; omega)
      · gi_wp2
        refine bodyPost_ret (results_none rfl _ _ _) rfl ?_
        refine ⟨⟨_, rfl⟩, .inr ⟨pre ++ [⟨m, hmlt⟩], fun p0 x hp j hj => ?_, hJx3⟩⟩
        obtain ⟨e1, e2⟩ := snoc_inj hp
        subst e1 e2
        exact HA.out j (by have := HM.out; have hj2 : m < j.1 := hj; omega)
    · have hkm : (Q.length : Int) - 1 - k = -1 := by omega
      rw [hkm]
      have HK := Lib.hid (show Q.length ≤ k by omega)
      clear hkm
      gi_wp2
      go_end0
      exact ⟨⟨_, rfl⟩, .inl ⟨pre, fun j => HA.out j (by have := HK.out; omega), hJs⟩⟩
set_option maxHeartbeats 1000000 in
/-- slices.Backward: the slice value is boxed; the function value captures the box. -/
theorem backward_in (F : Fence) (n : Nat) (h5 : F.fn 73) (hro : F.round = none) (a : Option Addr) (len cap : Nat) (w : World) :
    CallsIn F n Tryz.prog 73 #[.slice a len cap] w fun e w' => e = .returned (.func (.func 108) #[] #[.pointer (some ⟨w.heap.size, 0, none⟩)]) ∧ w.alloc (.cells #[.slice a len cap] 106) = w' := by
  refine callsIn_of_wp Tryz.func73 rfl h5 ?_ hro
  simp only [Tryz.ntmps73, List.size_toArray, List.length_cons, List.length_nil, Nat.reduceAdd, Nat.reduceSub, Array.replicate_succ, Array.replicate_zero, List.push_toArray, List.append_toArray, List.nil_append, List.cons_append]
  gi_wp2
  go_ret
  exact ⟨rfl, rfl⟩
end Go.Proofs.YtpgpphmpnebafaaGreat.Dv
