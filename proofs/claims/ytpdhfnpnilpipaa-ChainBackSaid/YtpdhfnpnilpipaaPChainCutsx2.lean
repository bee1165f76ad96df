-- PRINTED BY print.sh 35421559b90ae4d0a3588c463048766b98c2df88dd9212a6774a882060cdf62d: not written by this session
import Derived.Test.YtpdhfnpnilpipaaPChainCutsx0
import Derived.Test.YtpdhfnpnilpipaaPChainCutsx1
namespace Go.Proofs.Ytpdhfnpnilpipaa.PChainCuts
open Go.RowKit Go.Proofs.YtpdhfnpnilpipaaW.PrintWords Go.Proofs.YtpdhfnpnilpipaaW.PrintLast Go.Proofs.YtpdhfnpnilpipaaW.PrintMore
attribute [local go_sem] max2_int min2_int max_two min_two max_three min_three max_four min_four   -- for this text's walks alone
set_option linter.unusedVariables false
set_option linter.unusedSimpArgs false

/-! ### sapwoodref05_Join: function 17 -/
mutual
def sapwoodref05_Join.j0 : Nat → List ByteArray → Int → Bool → Option (ByteArray × Int)
  | 0, _, _, _ => none
  | k + 1, x0, x1, x20 => if x20 = true then (some ((⟨#[]⟩ : ByteArray), 4)) else (sapwoodref05_Join.l0 k x0 x1 (⟨#[]⟩ : ByteArray) (x0.length : Int) 0)
def sapwoodref05_Join.l0 : Nat → List ByteArray → Int → ByteArray → Int → Int → Option (ByteArray × Int)
  | 0, _, _, _, _, _ => none
  | k + 1, x0, x1, x6, x22, x23 => if x23 < x22 then (if 0 ≤ x23 then (if x23 < (x0.length : Int) then (if x6.size + (rdOf ByteArray.empty x0 x23).size ≤ 9223372036854775807 then (sapwoodref05_Join.l0 k x0 x1 (x6 ++ (rdOf ByteArray.empty x0 x23)) x22 (wrap64 (x23 + 1))) else (none)) else (none)) else (none)) else ((sapwoodref05_Cut.f k x6).bind fun t125 => (if (x6.size : Int) = x1 then (sapwoodref05_Join.j2 k x0 x6 t125 ((t125.length : Int) != (x0.length : Int))) else (sapwoodref05_Join.j2 k x0 x6 t125 true)))
def sapwoodref05_Join.j2 : Nat → List ByteArray → ByteArray → List ByteArray → Bool → Option (ByteArray × Int)
  | 0, _, _, _, _ => none
  | k + 1, x0, x6, x8, x45 => if x45 = true then (some ((⟨#[]⟩ : ByteArray), 3)) else (sapwoodref05_Join.l1 k x0 x6 x8 (x8.length : Int) 0)
def sapwoodref05_Join.l1 : Nat → List ByteArray → ByteArray → List ByteArray → Int → Int → Option (ByteArray × Int)
  | 0, _, _, _, _, _ => none
  | k + 1, x0, x6, x8, x47, x48 => if x48 < x47 then (if 0 ≤ x48 then (if x48 < (x8.length : Int) then (if x48 < (x0.length : Int) then (if (rdOf ByteArray.empty x8 x48).toList = (rdOf ByteArray.empty x0 x48).toList then (sapwoodref05_Join.l1 k x0 x6 x8 x47 (wrap64 (x48 + 1))) else (some ((⟨#[]⟩ : ByteArray), 3))) else (none)) else (none)) else (none)) else (some (x6, 0))
end
def sapwoodref05_Join.f (k : Nat) (l0 : List ByteArray) (a1 : Int) : Option (ByteArray × Int) := if a1 < 25 then (sapwoodref05_Join.j0 k l0 a1 true) else (if a1 > 400 then (sapwoodref05_Join.j0 k l0 a1 true) else (sapwoodref05_Join.j0 k l0 a1 (decide ((l0.length : Int) > 2))))
theorem sapwoodref05_Join.mono_l : ∀ k, (∀ y0 y1 y2, LeO (sapwoodref05_Join.j0 k y0 y1 y2) (sapwoodref05_Join.j0 (k + 1) y0 y1 y2)) ∧ (∀ y0 y1 y2 y3 y4, LeO (sapwoodref05_Join.l0 k y0 y1 y2 y3 y4) (sapwoodref05_Join.l0 (k + 1) y0 y1 y2 y3 y4)) ∧ (∀ y0 y1 y2 y3, LeO (sapwoodref05_Join.j2 k y0 y1 y2 y3) (sapwoodref05_Join.j2 (k + 1) y0 y1 y2 y3)) ∧ (∀ y0 y1 y2 y3 y4, LeO (sapwoodref05_Join.l1 k y0 y1 y2 y3 y4) (sapwoodref05_Join.l1 (k + 1) y0 y1 y2 y3 y4))
  | 0 => ⟨fun _ _ _ r h => by simp [sapwoodref05_Join.j0] at h, fun _ _ _ _ _ r h => by simp [sapwoodref05_Join.l0] at h, fun _ _ _ _ r h => by simp [sapwoodref05_Join.j2] at h, fun _ _ _ _ _ r h => by simp [sapwoodref05_Join.l1] at h⟩
  | k + 1 => by
    obtain ⟨ih0, ih1, ih2, ih3⟩ := sapwoodref05_Join.mono_l k
    refine ⟨?_, ?_, ?_, ?_⟩
    · intro y0 y1 y2
      unfold sapwoodref05_Join.j0
      repeat' first
      | (with_reducible exact ih0 _ _ _)
      | (with_reducible exact ih1 _ _ _ _ _)
      | (with_reducible exact ih2 _ _ _ _)
      | (with_reducible exact ih3 _ _ _ _ _)
      | (with_reducible exact sapwoodref05_Cut.mono _ _)
      | (with_reducible exact LeO.refl _)
      | (with_reducible exact LeO.none _)
      | (with_reducible refine LeO.ite ?_ ?_)
      | (with_reducible refine LeO.bind ?_ (fun _ => ?_))
      | exact ih0 _ _ _
      | exact ih1 _ _ _ _ _
      | exact ih2 _ _ _ _
      | exact ih3 _ _ _ _ _
      | exact sapwoodref05_Cut.mono _ _
      | exact LeO.none _
      | refine LeO.ite ?_ ?_
      | refine LeO.bind ?_ (fun _ => ?_)
    · intro y0 y1 y2 y3 y4
      unfold sapwoodref05_Join.l0
      repeat' first
      | (with_reducible exact ih0 _ _ _)
      | (with_reducible exact ih1 _ _ _ _ _)
      | (with_reducible exact ih2 _ _ _ _)
      | (with_reducible exact ih3 _ _ _ _ _)
      | (with_reducible exact sapwoodref05_Cut.mono _ _)
      | (with_reducible exact LeO.refl _)
      | (with_reducible exact LeO.none _)
      | (with_reducible refine LeO.ite ?_ ?_)
      | (with_reducible refine LeO.bind ?_ (fun _ => ?_))
      | exact ih0 _ _ _
      | exact ih1 _ _ _ _ _
      | exact ih2 _ _ _ _
      | exact ih3 _ _ _ _ _
      | exact sapwoodref05_Cut.mono _ _
      | exact LeO.none _
      | refine LeO.ite ?_ ?_
      | refine LeO.bind ?_ (fun _ => ?_)
    · intro y0 y1 y2 y3
      unfold sapwoodref05_Join.j2
      repeat' first
      | (with_reducible exact ih0 _ _ _)
      | (with_reducible exact ih1 _ _ _ _ _)
      | (with_reducible exact ih2 _ _ _ _)
      | (with_reducible exact ih3 _ _ _ _ _)
      | (with_reducible exact sapwoodref05_Cut.mono _ _)
      | (with_reducible exact LeO.refl _)
      | (with_reducible exact LeO.none _)
      | (with_reducible refine LeO.ite ?_ ?_)
      | (with_reducible refine LeO.bind ?_ (fun _ => ?_))
      | exact ih0 _ _ _
      | exact ih1 _ _ _ _ _
      | exact ih2 _ _ _ _
      | exact ih3 _ _ _ _ _
      | exact sapwoodref05_Cut.mono _ _
      | exact LeO.none _
      | refine LeO.ite ?_ ?_
      | refine LeO.bind ?_ (fun _ => ?_)
    · intro y0 y1 y2 y3 y4
      unfold sapwoodref05_Join.l1
      repeat' first
      | (with_reducible exact ih0 _ _ _)
      | (with_reducible exact ih1 _ _ _ _ _)
      | (with_reducible exact ih2 _ _ _ _)
      | (with_reducible exact ih3 _ _ _ _ _)
      | (with_reducible exact sapwoodref05_Cut.mono _ _)
      | (with_reducible exact LeO.refl _)
      | (with_reducible exact LeO.none _)
      | (with_reducible refine LeO.ite ?_ ?_)
      | (with_reducible refine LeO.bind ?_ (fun _ => ?_))
      | exact ih0 _ _ _
      | exact ih1 _ _ _ _ _
      | exact ih2 _ _ _ _
      | exact ih3 _ _ _ _ _
      | exact sapwoodref05_Cut.mono _ _
      | exact LeO.none _
      | refine LeO.ite ?_ ?_
      | refine LeO.bind ?_ (fun _ => ?_)
theorem sapwoodref05_Join.mono : ∀ a0 a1 k, LeO (sapwoodref05_Join.f k a0 a1) (sapwoodref05_Join.f (k + 1) a0 a1) := by
  intro a0 a1 k
  obtain ⟨ih0, ih1, ih2, ih3⟩ := sapwoodref05_Join.mono_l k
  unfold sapwoodref05_Join.f
  repeat' first
      | (with_reducible exact ih0 _ _ _)
      | (with_reducible exact ih1 _ _ _ _ _)
      | (with_reducible exact ih2 _ _ _ _)
      | (with_reducible exact ih3 _ _ _ _ _)
      | (with_reducible exact sapwoodref05_Cut.mono _ _)
      | (with_reducible exact LeO.refl _)
      | (with_reducible exact LeO.none _)
      | (with_reducible refine LeO.ite ?_ ?_)
      | (with_reducible refine LeO.bind ?_ (fun _ => ?_))
      | exact ih0 _ _ _
      | exact ih1 _ _ _ _ _
      | exact ih2 _ _ _ _
      | exact ih3 _ _ _ _ _
      | exact sapwoodref05_Cut.mono _ _
      | exact LeO.none _
      | refine LeO.ite ?_ ?_
      | refine LeO.bind ?_ (fun _ => ?_)
set_option maxHeartbeats 8000000 in
set_option maxRecDepth 100000 in
theorem sapwoodref05_Join.calls (k : Nat) (A0 : Option Addr) (c0 : Nat) (l0 : List ByteArray) (a1 : Int) (r1 : ByteArray) (r2 : Int) (w : World) (hr0 : Kd.C Kd.string w A0 l0.length l0) (hc0 : l0.length ≤ c0) (h : sapwoodref05_Join.f k l0 a1 = some (r1, r2)) :
    Calls Try.prog 17 #[.slice A0 l0.length c0, .int .i64 a1] w fun e w' => e = .returned (.tuple #[.string r1, .int .i64 r2]) ∧ Below w.heap.size w w' := by
  have HR0 := Aside0.mk hr0
  have HC0 := Aside0.mk hc0
  clear hr0 hc0
  have HB := Aside0.mk (Below.refl w.heap.size w)
  have H : (if a1 < 25 then (sapwoodref05_Join.j0 k l0 a1 true) else (if a1 > 400 then (sapwoodref05_Join.j0 k l0 a1 true) else (sapwoodref05_Join.j0 k l0 a1 (decide ((l0.length : Int) > 2))))) = some (r1, r2) := h
  clear h
  have HC3 := Aside0.mk H
  clear H
  go_enter Try.func17, Try.ntmps17
  go_upto_region 1 with (fail)
  repeat (go_quiet (fail); go_upto_region 1 with (fail))
  go_cut [20] (fun v20 wc => ∃ (kq : Nat) (x20_2 : Bool), v20 = .bool x20_2 ∧ Aside0 (sapwoodref05_Join.j0 kq l0 a1 x20_2 = some (r1, r2)) ∧ Aside0 (kq ≤ k) ∧ Aside0 (Below w.heap.size w wc))
  case first =>
    have H := HC3.out
    clear HC3
    by_cases c4 : a1 < 25
    · rw [if_pos c4] at H
      have c4b0 : decide (a1 < 25) = true := decide_eq_true c4
      clear c4
      (first | rw [c4b0] | (simp only [i64_w, i32_w]; rw [c4b0]) | skip)
      have H' := Aside0.mk H
      clear H
      go_wp2
      repeat (go_quiet (fail); try go_wp2)
      go_meet
      case rel => exact ⟨_, (true), (by first | rfl | (simp; done) | (simp [*]; done)), H', ⟨by first | omega | exact Nat.le_refl _⟩, ⟨by repeat (first | (with_reducible first | exact HB.out | apply below_alloc | apply pw_below_drewN | apply below_drew1) | exact HB.out)⟩⟩
    · rw [if_neg c4] at H
      have c4b0 : decide (a1 < 25) = false := decide_eq_false c4
      clear c4
      (first | rw [c4b0] | (simp only [i64_w, i32_w]; rw [c4b0]) | skip)
      by_cases c5 : a1 > 400
      · rw [if_pos c5] at H
        have c5b0 : decide (400 < a1) = true := decide_eq_true c5
        clear c5
        have H' := Aside0.mk H
        clear H
        go_wp2
        repeat (go_quiet (fail); try go_wp2)
        go_meet
        case rel => exact ⟨_, (true), (by first | rfl | (simp; done) | (simp [*]; done)), H', ⟨by first | omega | exact Nat.le_refl _⟩, ⟨by repeat (first | (with_reducible first | exact HB.out | apply below_alloc | apply pw_below_drewN | apply below_drew1) | exact HB.out)⟩⟩
      · rw [if_neg c5] at H
        have c5b0 : decide (400 < a1) = false := decide_eq_false c5
        clear c5
        have H' := Aside0.mk H
        clear H
        go_wp2
        repeat (go_quiet (fail); try go_wp2)
        go_meet
        case rel => exact ⟨_, (decide ((l0.length : Int) > 2)), (by first | rfl | (simp; done) | (simp [*]; done)), H', ⟨by first | omega | exact Nat.le_refl _⟩, ⟨by repeat (first | (with_reducible first | exact HB.out | apply below_alloc | apply pw_below_drewN | apply below_drew1) | exact HB.out)⟩⟩
  case rest =>
    clear HC3
    try clear c1
    try clear p2
    try clear c4
    try clear c4b0
    try clear c5
    try clear c5b0
    obtain ⟨kq, x20_2, rfl, HA, HJ2, HB⟩ := hcut
    cases kq with
    | zero => exact absurd HA.out (by simp [sapwoodref05_Join.j0])
    | succ kj2 =>
      have H := HA.out
      clear HA
      simp only [sapwoodref05_Join.j0] at H
      by_cases c6 : x20_2 = true
      · subst c6
        have H1 : (some ((⟨#[]⟩ : ByteArray), 4)) = some (r1, r2) := by rw [if_pos rfl] at H; exact H
        clear H
        have H := H1
        clear H1
        simp only [Option.some.injEq, Prod.mk.injEq] at H
        obtain ⟨rfl, rfl⟩ := H
        go_wp2
        repeat (go_quiet (fail); try go_wp2)
        go_ret2
        exact ⟨by first | rfl | (simp [errW_none, errW_some] <;> rfl) | (simp [*, errW_none, errW_some] <;> rfl), by repeat (first | (with_reducible first | exact HB.out | apply below_alloc | apply pw_below_drewN | apply below_drew1) | exact HB.out)⟩
      · replace c6 := Bool.eq_false_iff.mpr c6
        subst c6
        have H1 : (sapwoodref05_Join.l0 kj2 l0 a1 (⟨#[]⟩ : ByteArray) (l0.length : Int) 0) = some (r1, r2) := by rw [if_neg (show ¬ (false = true) by decide)] at H; exact H
        clear H
        have H := H1
        clear H1
        have H' := Aside0.mk H
        clear H
        go_wp2
        repeat (go_quiet (fail); try go_wp2)
        go_loopg [6, 23] kj2 (fun kq v6 v23 w' => ∃ (x6_2 : ByteArray) (x23_2 : Int), v6 = .string x6_2 ∧ v23 = .int .i64 x23_2 ∧ Aside0 (sapwoodref05_Join.l0 kq l0 a1 x6_2 (l0.length : Int) x23_2 = some (r1, r2)) ∧ Aside0 (kq ≤ kj2) ∧ Aside0 (Below w.heap.size w w'))
        case atStart => exact ⟨((⟨#[]⟩ : ByteArray)), (0), (by first | rfl | (simp; done) | (simp [*]; done)), (by first | rfl | (simp; done) | (simp [*]; done)), H', ⟨Nat.le_refl _⟩, ⟨by repeat (first | (with_reducible first | exact HB.out | apply below_alloc | apply pw_below_drewN | apply below_drew1) | exact HB.out)⟩⟩
        case round =>
          clear H'
          try clear c1
          try clear p2
          try clear c4
          try clear c4b0
          try clear c5
          try clear c5b0
          try clear c6
          try clear p2
          obtain ⟨x6_2, x23_2, rfl, rfl, HA, HK2, HB⟩ := hrel
          cases gk with
          | zero => exact absurd HA.out (by simp [sapwoodref05_Join.l0])
          | succ k2 =>
            have H := HA.out
            clear HA
            simp only [sapwoodref05_Join.l0] at H
            by_cases c7 : x23_2 < (l0.length : Int)
            · rw [if_pos c7] at H
              have c7b0 : decide (x23_2 < (l0.length : Int)) = true := decide_eq_true c7
              clear c7
              by_cases c8 : 0 ≤ x23_2
              · rw [if_pos c8] at H
                have c8b0 : decide (0 ≤ x23_2) = true := decide_eq_true c8
                clear c8
                by_cases c9 : x23_2 < (l0.length : Int)
                · rw [if_pos c9] at H
                  have c9b0 : decide (x23_2 < (l0.length : Int)) = true := decide_eq_true c9
                  clear c9
                  by_cases c10 : x6_2.size + (rdOf ByteArray.empty l0 x23_2).size ≤ 9223372036854775807
                  · rw [if_pos c10] at H
                    have c10b0 := eq_true c10
                    have c10b1 : decide (x6_2.size + (rdOf ByteArray.empty l0 x23_2).size ≤ 9223372036854775807) = true := decide_eq_true c10
                    try have c10b2 : (9223372036854775807 < x6_2.size + (rdOf ByteArray.empty l0 x23_2).size) = False := eq_false (Nat.not_lt.2 c10)
                    have H' := Aside0.mk H
                    clear H
                    have p124 : 0 ≤ (x23_2 : Int) := of_decide_eq_true (by first | (with_reducible assumption) | assumption)
                    have q124 : x23_2 < (l0.length : Int) := of_decide_eq_true (by first | (with_reducible assumption) | assumption)
                    obtain ⟨ad124, e124, hx124_0⟩ := Kd.at_string HR0.out x23_2 p124 q124
                    cases e124
                    replace hx124_0 := (HB.out.cell (World.block_lt_of_cell? w _ hx124_0)).trans hx124_0
                    replace p124 := eq_true p124
                    replace q124 := eq_true q124
                    go_wp2
                    repeat (go_quiet (fail); try go_wp2)
                    go_roundg k2
                    case measure => have := HJ2.out; have := HK2.out; omega
                    case rel => exact ⟨(x6_2 ++ (rdOf ByteArray.empty l0 x23_2)), (wrap64 (x23_2 + 1)), (by first | rfl | (simp; done) | (simp [*]; done)), (by first | rfl | (simp; done) | (simp [*]; done)), H', ⟨by have := HJ2.out; have := HK2.out; omega⟩, ⟨by repeat (first | (with_reducible first | exact HB.out | apply below_alloc | apply pw_below_drewN | apply below_drew1) | exact HB.out)⟩⟩
                  · rw [if_neg c10] at H
                    exact absurd H (by simp)
                · rw [if_neg c9] at H
                  exact absurd H (by simp)
              · rw [if_neg c8] at H
                exact absurd H (by simp)
            · rw [if_neg c7] at H
              have c7b0 : decide (x23_2 < (l0.length : Int)) = false := decide_eq_false c7
              clear c7
              replace H := Option.bind_eq_some_iff.mp H
              obtain ⟨t125, A110, H⟩ := H
              replace H : (if (x6_2.size : Int) = a1 then (sapwoodref05_Join.j2 k2 l0 x6_2 t125 ((t125.length : Int) != (l0.length : Int))) else (sapwoodref05_Join.j2 k2 l0 x6_2 t125 true)) = some (r1, r2) := H
              have A11 := Aside0.mk A110
              clear A110
              have HC12 := Aside0.mk H
              clear H
              go_upto_region 10 with (first | (go_at_call 19; (with_reducible refine (sapwoodref05_Cut.calls k2 x6_2 t125 _ A11.out).mono ?_); rintro e w13 ⟨v126, rfl, ho0, hb⟩; have n0_ := Aside0.mk (Kd.R_lower ho0 (below_size (by repeat (first | (with_reducible first | exact HB.out | apply below_alloc | apply pw_below_drewN | apply below_drew1) | exact HB.out)))); have n1_ := Aside0.mk (below_step (by repeat (first | (with_reducible first | exact HB.out | apply below_alloc | apply pw_below_drewN | apply below_drew1) | exact HB.out)) hb); clear HB; have HO127 := n0_; have HB := n1_; clear n0_ n1_; (try clear hb); (try clear hb2); (try clear hk); (try clear hi); (try clear ho0)))
              repeat (go_quiet (first | (go_at_call 19; (with_reducible refine (sapwoodref05_Cut.calls k2 x6_2 t125 _ A11.out).mono ?_); rintro e w13 ⟨v126, rfl, ho0, hb⟩; have n0_ := Aside0.mk (Kd.R_lower ho0 (below_size (by repeat (first | (with_reducible first | exact HB.out | apply below_alloc | apply pw_below_drewN | apply below_drew1) | exact HB.out)))); have n1_ := Aside0.mk (below_step (by repeat (first | (with_reducible first | exact HB.out | apply below_alloc | apply pw_below_drewN | apply below_drew1) | exact HB.out)) hb); clear HB; have HO127 := n0_; have HB := n1_; clear n0_ n1_; (try clear hb); (try clear hb2); (try clear hk); (try clear hi); (try clear ho0))); go_upto_region 10 with (first | (go_at_call 19; (with_reducible refine (sapwoodref05_Cut.calls k2 x6_2 t125 _ A11.out).mono ?_); rintro e w13 ⟨v126, rfl, ho0, hb⟩; have n0_ := Aside0.mk (Kd.R_lower ho0 (below_size (by repeat (first | (with_reducible first | exact HB.out | apply below_alloc | apply pw_below_drewN | apply below_drew1) | exact HB.out)))); have n1_ := Aside0.mk (below_step (by repeat (first | (with_reducible first | exact HB.out | apply below_alloc | apply pw_below_drewN | apply below_drew1) | exact HB.out)) hb); clear HB; have HO127 := n0_; have HB := n1_; clear n0_ n1_; (try clear hb); (try clear hb2); (try clear hk); (try clear hi); (try clear ho0))))
              (try simp only [Act.put, List.setIfInBounds_toArray, List.set_cons_zero, List.set_cons_succ])
              go_cut [45] (fun v45 wc => ∃ (kq : Nat) (x45_11 : Bool), v45 = .bool x45_11 ∧ Aside0 (sapwoodref05_Join.j2 kq l0 x6_2 t125 x45_11 = some (r1, r2)) ∧ Aside0 (kq ≤ k2) ∧ Aside0 (Kd.R Kd.string 9 wc w.heap.size (fun _ => True) v126 t125) ∧ Aside0 (Below w.heap.size w wc))
              case first =>
                have H := HC12.out
                clear HC12
                by_cases c14 : (x6_2.size : Int) = a1
                · rw [if_pos c14] at H
                  have c14b0 : ((x6_2.size : Int) == a1) = true := beq_iff_eq.mpr c14
                  have c14b1 : ((x6_2.size : Int) != a1) = false := bne_eq_false_iff_eq.mpr c14
                  clear c14
                  (first | rw [c14b0] | (simp only [i64_w, i32_w]; rw [c14b0]) | skip)
                  have H' := Aside0.mk H
                  clear H
                  obtain ⟨Ao15, co15, eo15⟩ := Kd.R_slice HO127.out
                  subst eo15
                  go_wp2
                  repeat (go_quiet (fail); try go_wp2)
                  go_meet
                  case rel => exact ⟨_, (((t125.length : Int) != (l0.length : Int))), (by first | rfl | (simp; done) | (simp [*]; done)), H', ⟨by have := HJ2.out; have := HK2.out; first | omega | exact Nat.le_refl _⟩, ⟨by (with_reducible repeat (first | apply Kd.R_alloc | apply Kd.R_drewN | apply Kd.R_drew)); exact HO127.out⟩, ⟨by repeat (first | (with_reducible first | exact HB.out | apply below_alloc | apply pw_below_drewN | apply below_drew1) | exact HB.out)⟩⟩
                · rw [if_neg c14] at H
                  have c14b0 : ((x6_2.size : Int) == a1) = false := beq_eq_false_iff_ne.mpr c14
                  have c14b1 : ((x6_2.size : Int) != a1) = true := bne_iff_ne.mpr c14
                  (first | rw [c14b0] | (simp only [i64_w, i32_w]; rw [c14b0]) | skip)
                  have H' := Aside0.mk H
                  clear H
                  go_wp2
                  repeat (go_quiet (fail); try go_wp2)
                  go_meet
                  case rel => exact ⟨_, (true), (by first | rfl | (simp; done) | (simp [*]; done)), H', ⟨by have := HJ2.out; have := HK2.out; first | omega | exact Nat.le_refl _⟩, ⟨by (with_reducible repeat (first | apply Kd.R_alloc | apply Kd.R_drewN | apply Kd.R_drew)); exact HO127.out⟩, ⟨by repeat (first | (with_reducible first | exact HB.out | apply below_alloc | apply pw_below_drewN | apply below_drew1) | exact HB.out)⟩⟩
              case rest =>
                clear HC12
                try clear c1
                try clear p1
                try clear q1
                try clear hx1
                try clear p2
                try clear c4
                try clear c4b0
                try clear c5
                try clear c5b0
                try clear c6
                try clear p6
                try clear c7
                try clear c7b0
                try clear c8
                try clear c8b0
                try clear c9
                try clear c9b0
                try clear c10
                try clear c10b0
                try clear c10b1
                try clear c10b2
                try clear p12
                try clear q12
                try clear hx12
                try clear c14
                try clear c14b0
                try clear c14b1
                try clear hx124_0
                try clear p124
                try clear p2
                try clear q124
                obtain ⟨kq, x45_11, rfl, HA, HJ11, HO_8, HB⟩ := hcut
                cases kq with
                | zero => exact absurd HA.out (by simp [sapwoodref05_Join.j2])
                | succ kj11 =>
                  have H := HA.out
                  clear HA
                  simp only [sapwoodref05_Join.j2] at H
                  by_cases c16 : x45_11 = true
                  · subst c16
                    have H1 : (some ((⟨#[]⟩ : ByteArray), 3)) = some (r1, r2) := by rw [if_pos rfl] at H; exact H
                    clear H
                    have H := H1
                    clear H1
                    simp only [Option.some.injEq, Prod.mk.injEq] at H
                    obtain ⟨rfl, rfl⟩ := H
                    go_wp2
                    repeat (go_quiet (fail); try go_wp2)
                    go_ret2
                    exact ⟨by first | rfl | (simp [errW_none, errW_some] <;> rfl) | (simp [*, errW_none, errW_some] <;> rfl), by repeat (first | (with_reducible first | exact HB.out | apply below_alloc | apply pw_below_drewN | apply below_drew1) | exact HB.out)⟩
                  · replace c16 := Bool.eq_false_iff.mpr c16
                    subst c16
                    have H1 : (sapwoodref05_Join.l1 kj11 l0 x6_2 t125 (t125.length : Int) 0) = some (r1, r2) := by rw [if_neg (show ¬ (false = true) by decide)] at H; exact H
                    clear H
                    have H := H1
                    clear H1
                    have H' := Aside0.mk H
                    clear H
                    obtain ⟨Ao17, co17, eo17⟩ := Kd.R_slice HO_8.out
                    subst eo17
                    go_wp2
                    repeat (go_quiet (fail); try go_wp2)
                    go_loopg [48] kj11 (fun kq v48 w' => ∃ (x48_4 : Int), v48 = .int .i64 x48_4 ∧ Aside0 (sapwoodref05_Join.l1 kq l0 x6_2 t125 (t125.length : Int) x48_4 = some (r1, r2)) ∧ Aside0 (kq ≤ kj11) ∧ Aside0 (Kd.R Kd.string 9 w' w.heap.size (fun _ => True) (.slice Ao17 t125.length co17) t125) ∧ Aside0 (Below w.heap.size w w'))
                    case atStart => exact ⟨(0), (by first | rfl | (simp; done) | (simp [*]; done)), H', ⟨Nat.le_refl _⟩, ⟨by (with_reducible repeat (first | apply Kd.R_alloc | apply Kd.R_drewN | apply Kd.R_drew)); exact HO_8.out⟩, ⟨by repeat (first | (with_reducible first | exact HB.out | apply below_alloc | apply pw_below_drewN | apply below_drew1) | exact HB.out)⟩⟩
                    case round =>
                      clear H'
                      try clear c1
                      try clear p1
                      try clear q1
                      try clear hx1
                      try clear p2
                      try clear c4
                      try clear c4b0
                      try clear c5
                      try clear c5b0
                      try clear c6
                      try clear p6
                      try clear c7
                      try clear c7b0
                      try clear c8
                      try clear c8b0
                      try clear c9
                      try clear c9b0
                      try clear c10
                      try clear c10b0
                      try clear c10b1
                      try clear c10b2
                      try clear p12
                      try clear q12
                      try clear hx12
                      try clear c14
                      try clear c14b0
                      try clear c14b1
                      try clear c16
                      try clear c17
                      try clear hx124_0
                      try clear p1
                      try clear p12
                      try clear p124
                      try clear p2
                      try clear p6
                      try clear q1
                      try clear q12
                      try clear q124
                      obtain ⟨x48_4, rfl, HA, HK4, HO_8, HB⟩ := hrel
                      cases gk with
                      | zero => exact absurd HA.out (by simp [sapwoodref05_Join.l1])
                      | succ k4 =>
                        have H := HA.out
                        clear HA
                        simp only [sapwoodref05_Join.l1] at H
                        by_cases c18 : x48_4 < (t125.length : Int)
                        · rw [if_pos c18] at H
                          have c18b0 : decide (x48_4 < (t125.length : Int)) = true := decide_eq_true c18
                          clear c18
                          by_cases c19 : 0 ≤ x48_4
                          · rw [if_pos c19] at H
                            have c19b0 : decide (0 ≤ x48_4) = true := decide_eq_true c19
                            clear c19
                            by_cases c20 : x48_4 < (t125.length : Int)
                            · rw [if_pos c20] at H
                              have c20b0 : decide (x48_4 < (t125.length : Int)) = true := decide_eq_true c20
                              clear c20
                              by_cases c21 : x48_4 < (l0.length : Int)
                              · rw [if_pos c21] at H
                                have c21b0 : decide (x48_4 < (l0.length : Int)) = true := decide_eq_true c21
                                clear c21
                                by_cases c22 : (rdOf ByteArray.empty t125 x48_4).toList = (rdOf ByteArray.empty l0 x48_4).toList
                                · rw [if_pos c22] at H
                                  have c22b0 : ((rdOf ByteArray.empty t125 x48_4).toList == (rdOf ByteArray.empty l0 x48_4).toList) = true := beq_iff_eq.mpr c22
                                  have c22b1 : ((rdOf ByteArray.empty t125 x48_4).toList != (rdOf ByteArray.empty l0 x48_4).toList) = false := bne_eq_false_iff_eq.mpr c22
                                  clear c22
                                  have H' := Aside0.mk H
                                  clear H
                                  have p128 : 0 ≤ (x48_4 : Int) := of_decide_eq_true (by first | (with_reducible assumption) | assumption)
                                  have q128 : x48_4 < (t125.length : Int) := of_decide_eq_true (by first | (with_reducible assumption) | assumption)
                                  obtain ⟨ad128, e128, hx128_0⟩ := Kd.at_string (Kd.R_reads' HO_8.out).2.2 x48_4 p128 q128
                                  cases e128
                                  replace p128 := eq_true p128
                                  replace q128 := eq_true q128
                                  have p129 : 0 ≤ (x48_4 : Int) := of_decide_eq_true (by first | (with_reducible assumption) | assumption)
                                  have q129 : x48_4 < (l0.length : Int) := of_decide_eq_true (by first | (with_reducible assumption) | assumption)
                                  obtain ⟨ad129, e129, hx129_0⟩ := Kd.at_string HR0.out x48_4 p129 q129
                                  cases e129
                                  replace hx129_0 := (HB.out.cell (World.block_lt_of_cell? w _ hx129_0)).trans hx129_0
                                  replace p129 := eq_true p129
                                  replace q129 := eq_true q129
                                  go_wp2
                                  repeat (go_quiet (fail); try go_wp2)
                                  go_roundg k4
                                  case measure => have := HJ2.out; have := HK2.out; have := HJ11.out; have := HK4.out; omega
                                  case rel => exact ⟨(wrap64 (x48_4 + 1)), (by first | rfl | (simp; done) | (simp [*]; done)), H', ⟨by have := HJ2.out; have := HK2.out; have := HJ11.out; have := HK4.out; omega⟩, ⟨by (with_reducible repeat (first | apply Kd.R_alloc | apply Kd.R_drewN | apply Kd.R_drew)); exact HO_8.out⟩, ⟨by repeat (first | (with_reducible first | exact HB.out | apply below_alloc | apply pw_below_drewN | apply below_drew1) | exact HB.out)⟩⟩
                                · rw [if_neg c22] at H
                                  have c22b0 : ((rdOf ByteArray.empty t125 x48_4).toList == (rdOf ByteArray.empty l0 x48_4).toList) = false := beq_eq_false_iff_ne.mpr c22
                                  have c22b1 : ((rdOf ByteArray.empty t125 x48_4).toList != (rdOf ByteArray.empty l0 x48_4).toList) = true := bne_iff_ne.mpr c22
                                  simp only [Option.some.injEq, Prod.mk.injEq] at H
                                  obtain ⟨rfl, rfl⟩ := H
                                  have p128 : 0 ≤ (x48_4 : Int) := of_decide_eq_true (by first | (with_reducible assumption) | assumption)
                                  have q128 : x48_4 < (t125.length : Int) := of_decide_eq_true (by first | (with_reducible assumption) | assumption)
                                  obtain ⟨ad128, e128, hx128_0⟩ := Kd.at_string (Kd.R_reads' HO_8.out).2.2 x48_4 p128 q128
                                  cases e128
                                  replace p128 := eq_true p128
                                  replace q128 := eq_true q128
                                  have p129 : 0 ≤ (x48_4 : Int) := of_decide_eq_true (by first | (with_reducible assumption) | assumption)
                                  have q129 : x48_4 < (l0.length : Int) := of_decide_eq_true (by first | (with_reducible assumption) | assumption)
                                  obtain ⟨ad129, e129, hx129_0⟩ := Kd.at_string HR0.out x48_4 p129 q129
                                  cases e129
                                  replace hx129_0 := (HB.out.cell (World.block_lt_of_cell? w _ hx129_0)).trans hx129_0
                                  replace p129 := eq_true p129
                                  replace q129 := eq_true q129
                                  go_wp2
                                  repeat (go_quiet (fail); try go_wp2)
                                  go_ret2
                                  exact ⟨by first | rfl | (simp [errW_none, errW_some] <;> rfl) | (simp [*, errW_none, errW_some] <;> rfl), by repeat (first | (with_reducible first | exact HB.out | apply below_alloc | apply pw_below_drewN | apply below_drew1) | exact HB.out)⟩
                              · rw [if_neg c21] at H
                                exact absurd H (by simp)
                            · rw [if_neg c20] at H
                              exact absurd H (by simp)
                          · rw [if_neg c19] at H
                            exact absurd H (by simp)
                        · rw [if_neg c18] at H
                          have c18b0 : decide (x48_4 < (t125.length : Int)) = false := decide_eq_false c18
                          clear c18
                          simp only [Option.some.injEq, Prod.mk.injEq] at H
                          obtain ⟨rfl, rfl⟩ := H
                          go_wp2
                          repeat (go_quiet (fail); try go_wp2)
                          go_ret2
                          exact ⟨by first | rfl | (simp [errW_none, errW_some] <;> rfl) | (simp [*, errW_none, errW_some] <;> rfl), by repeat (first | (with_reducible first | exact HB.out | apply below_alloc | apply pw_below_drewN | apply below_drew1) | exact HB.out)⟩

/-! ### sapwoodlaw05_same: function 18 -/
def sapwoodlaw05_same.l0 : Nat → List ByteArray → List ByteArray → Int → Int → Option (Bool)
  | 0, _, _, _, _ => none
  | k + 1, x0, x1, x12, x13 => if x13 < x12 then (if 0 ≤ x13 then (if x13 < (x0.length : Int) then (if x13 < (x1.length : Int) then (if (rdOf ByteArray.empty x0 x13).toList = (rdOf ByteArray.empty x1 x13).toList then (sapwoodlaw05_same.l0 k x0 x1 x12 (wrap64 (x13 + 1))) else (some false)) else (none)) else (none)) else (none)) else (some true)
def sapwoodlaw05_same.f (k : Nat) (l0 : List ByteArray) (l1 : List ByteArray) : Option (Bool) := if (l0.length : Int) = (l1.length : Int) then (sapwoodlaw05_same.l0 k l0 l1 (l0.length : Int) 0) else (some false)
theorem sapwoodlaw05_same.mono_l : ∀ k, (∀ y0 y1 y2 y3, LeO (sapwoodlaw05_same.l0 k y0 y1 y2 y3) (sapwoodlaw05_same.l0 (k + 1) y0 y1 y2 y3))
  | 0 => fun _ _ _ _ r h => by simp [sapwoodlaw05_same.l0] at h
  | k + 1 => by
    have ih0 := sapwoodlaw05_same.mono_l k
    · intro y0 y1 y2 y3
      unfold sapwoodlaw05_same.l0
      repeat' first
      | (with_reducible exact ih0 _ _ _ _)
      | (with_reducible exact LeO.refl _)
      | (with_reducible exact LeO.none _)
      | (with_reducible refine LeO.ite ?_ ?_)
      | (with_reducible refine LeO.bind ?_ (fun _ => ?_))
      | exact ih0 _ _ _ _
      | exact LeO.none _
      | refine LeO.ite ?_ ?_
      | refine LeO.bind ?_ (fun _ => ?_)
theorem sapwoodlaw05_same.mono : ∀ a0 a1 k, LeO (sapwoodlaw05_same.f k a0 a1) (sapwoodlaw05_same.f (k + 1) a0 a1) := by
  intro a0 a1 k
  have ih0 := sapwoodlaw05_same.mono_l k
  unfold sapwoodlaw05_same.f
  repeat' first
      | (with_reducible exact ih0 _ _ _ _)
      | (with_reducible exact LeO.refl _)
      | (with_reducible exact LeO.none _)
      | (with_reducible refine LeO.ite ?_ ?_)
      | (with_reducible refine LeO.bind ?_ (fun _ => ?_))
      | exact ih0 _ _ _ _
      | exact LeO.none _
      | refine LeO.ite ?_ ?_
      | refine LeO.bind ?_ (fun _ => ?_)
set_option maxHeartbeats 8000000 in
set_option maxRecDepth 100000 in
theorem sapwoodlaw05_same.calls (k : Nat) (A0 : Option Addr) (c0 : Nat) (l0 : List ByteArray) (A1 : Option Addr) (c1 : Nat) (l1 : List ByteArray) (r : Bool) (w : World) (hr0 : Kd.C Kd.string w A0 l0.length l0) (hc0 : l0.length ≤ c0) (hr1 : Kd.C Kd.string w A1 l1.length l1) (hc1 : l1.length ≤ c1) (h : sapwoodlaw05_same.f k l0 l1 = some r) :
    Calls Try.prog 18 #[.slice A0 l0.length c0, .slice A1 l1.length c1] w fun e w' => e = .returned (.bool r) ∧ Drawn0 w w' := by
  have HR0 := Aside0.mk hr0
  have HC0 := Aside0.mk hc0
  clear hr0 hc0
  have HR1 := Aside0.mk hr1
  have HC1 := Aside0.mk hc1
  clear hr1 hc1
  have H : (if (l0.length : Int) = (l1.length : Int) then (sapwoodlaw05_same.l0 k l0 l1 (l0.length : Int) 0) else (some false)) = some r := h
  clear h
  by_cases c3 : (l0.length : Int) = (l1.length : Int)
  · rw [if_pos c3] at H
    have c3b0 : ((l0.length : Int) == (l1.length : Int)) = true := beq_iff_eq.mpr c3
    have c3b1 : ((l0.length : Int) != (l1.length : Int)) = false := bne_eq_false_iff_eq.mpr c3
    have c3b2 : (l0.length == l1.length) = true := by first | simpa using c3 | (simp at c3 ⊢; omega)
    clear c3
    have H' := Aside0.mk H
    clear H
    go_enter Try.func18, Try.ntmps18
    go_wp2
    repeat (go_quiet (fail); try go_wp2)
    go_loopg [13] k (fun kq v13 w' => ∃ (x13_1 : Int), v13 = .int .i64 x13_1 ∧ Aside0 (sapwoodlaw05_same.l0 kq l0 l1 (l0.length : Int) x13_1 = some r) ∧ Aside0 (kq ≤ k) ∧ Drawn0 w w')
    case atStart => exact ⟨(0), (by first | rfl | (simp; done) | (simp [*]; done)), H', ⟨Nat.le_refl _⟩, by repeat (first | exact Drawn0.refl _ | apply Drawn0.step)⟩
    case round =>
      clear H'
      try clear c1
      try clear p2
      try clear c3
      try clear c3b0
      try clear c3b1
      try clear c3b2
      obtain ⟨x13_1, rfl, HA, HK1, ⟨m1, rfl⟩⟩ := hrel
      cases gk with
      | zero => exact absurd HA.out (by simp [sapwoodlaw05_same.l0])
      | succ k1 =>
        have H := HA.out
        clear HA
        simp only [sapwoodlaw05_same.l0] at H
        by_cases c4 : x13_1 < (l0.length : Int)
        · rw [if_pos c4] at H
          have c4b0 : decide (x13_1 < (l0.length : Int)) = true := decide_eq_true c4
          clear c4
          by_cases c5 : 0 ≤ x13_1
          · rw [if_pos c5] at H
            have c5b0 : decide (0 ≤ x13_1) = true := decide_eq_true c5
            clear c5
            by_cases c6 : x13_1 < (l0.length : Int)
            · rw [if_pos c6] at H
              have c6b0 : decide (x13_1 < (l0.length : Int)) = true := decide_eq_true c6
              clear c6
              by_cases c7 : x13_1 < (l1.length : Int)
              · rw [if_pos c7] at H
                have c7b0 : decide (x13_1 < (l1.length : Int)) = true := decide_eq_true c7
                clear c7
                by_cases c8 : (rdOf ByteArray.empty l0 x13_1).toList = (rdOf ByteArray.empty l1 x13_1).toList
                · rw [if_pos c8] at H
                  have c8b0 : ((rdOf ByteArray.empty l0 x13_1).toList == (rdOf ByteArray.empty l1 x13_1).toList) = true := beq_iff_eq.mpr c8
                  have c8b1 : ((rdOf ByteArray.empty l0 x13_1).toList != (rdOf ByteArray.empty l1 x13_1).toList) = false := bne_eq_false_iff_eq.mpr c8
                  clear c8
                  have H' := Aside0.mk H
                  clear H
                  have p130 : 0 ≤ (x13_1 : Int) := of_decide_eq_true (by first | (with_reducible assumption) | assumption)
                  have q130 : x13_1 < (l0.length : Int) := of_decide_eq_true (by first | (with_reducible assumption) | assumption)
                  obtain ⟨ad130, e130, hx130_0⟩ := Kd.at_string HR0.out x13_1 p130 q130
                  cases e130
                  replace p130 := eq_true p130
                  replace q130 := eq_true q130
                  have p131 : 0 ≤ (x13_1 : Int) := of_decide_eq_true (by first | (with_reducible assumption) | assumption)
                  have q131 : x13_1 < (l1.length : Int) := of_decide_eq_true (by first | (with_reducible assumption) | assumption)
                  obtain ⟨ad131, e131, hx131_0⟩ := Kd.at_string HR1.out x13_1 p131 q131
                  cases e131
                  replace p131 := eq_true p131
                  replace q131 := eq_true q131
                  go_wp2
                  repeat (go_quiet (fail); try go_wp2)
                  go_roundg k1
                  case measure => have := HK1.out; omega
                  case rel => exact ⟨(wrap64 (x13_1 + 1)), (by first | rfl | (simp; done) | (simp [*]; done)), H', ⟨by have := HK1.out; omega⟩, by repeat (first | exact Drawn0.refl _ | apply Drawn0.step)⟩
                · rw [if_neg c8] at H
                  have c8b0 : ((rdOf ByteArray.empty l0 x13_1).toList == (rdOf ByteArray.empty l1 x13_1).toList) = false := beq_eq_false_iff_ne.mpr c8
                  have c8b1 : ((rdOf ByteArray.empty l0 x13_1).toList != (rdOf ByteArray.empty l1 x13_1).toList) = true := bne_iff_ne.mpr c8
                  obtain rfl := Option.some.inj H
                  have p130 : 0 ≤ (x13_1 : Int) := of_decide_eq_true (by first | (with_reducible assumption) | assumption)
                  have q130 : x13_1 < (l0.length : Int) := of_decide_eq_true (by first | (with_reducible assumption) | assumption)
                  obtain ⟨ad130, e130, hx130_0⟩ := Kd.at_string HR0.out x13_1 p130 q130
                  cases e130
                  replace p130 := eq_true p130
                  replace q130 := eq_true q130
                  have p131 : 0 ≤ (x13_1 : Int) := of_decide_eq_true (by first | (with_reducible assumption) | assumption)
                  have q131 : x13_1 < (l1.length : Int) := of_decide_eq_true (by first | (with_reducible assumption) | assumption)
                  obtain ⟨ad131, e131, hx131_0⟩ := Kd.at_string HR1.out x13_1 p131 q131
                  cases e131
                  replace p131 := eq_true p131
                  replace q131 := eq_true q131
                  go_wp2
                  repeat (go_quiet (fail); try go_wp2)
                  go_ret
                  exact ⟨by first | rfl | (simp; done) | (simp [*]; done), by repeat (first | exact Drawn0.refl _ | apply Drawn0.step)⟩
              · rw [if_neg c7] at H
                exact absurd H (by simp)
            · rw [if_neg c6] at H
              exact absurd H (by simp)
          · rw [if_neg c5] at H
            exact absurd H (by simp)
        · rw [if_neg c4] at H
          have c4b0 : decide (x13_1 < (l0.length : Int)) = false := decide_eq_false c4
          clear c4
          obtain rfl := Option.some.inj H
          go_wp2
          repeat (go_quiet (fail); try go_wp2)
          go_ret
          exact ⟨by first | rfl | (simp; done) | (simp [*]; done), by repeat (first | exact Drawn0.refl _ | apply Drawn0.step)⟩
  · rw [if_neg c3] at H
    have c3b0 : ((l0.length : Int) == (l1.length : Int)) = false := beq_eq_false_iff_ne.mpr c3
    have c3b1 : ((l0.length : Int) != (l1.length : Int)) = true := bne_iff_ne.mpr c3
    have c3b2 : (l0.length == l1.length) = false := by first | simpa using c3 | (simp at c3 ⊢; omega)
    obtain rfl := Option.some.inj H
    go_enter Try.func18, Try.ntmps18
    go_wp2
    repeat (go_quiet (fail); try go_wp2)
    go_ret
    exact ⟨by first | rfl | (simp; done) | (simp [*]; done), by repeat (first | exact Drawn0.refl _ | apply Drawn0.step)⟩

-- NOT PRINTED: function 4 (sapwoodlaw05_ChainCuts)

end Go.Proofs.Ytpdhfnpnilpipaa.PChainCuts
