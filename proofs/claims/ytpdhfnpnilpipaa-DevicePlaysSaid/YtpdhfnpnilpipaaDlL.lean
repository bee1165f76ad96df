/- The law of the last write: of writes of one page the last one is read, and, synced, stays; by a walk. -/
import Derived.Test.YtpdhfnpnilpipaaDvT
import Derived.Test.YtpdhfnpnilpipaaDlI
import Derived.Test.YtpdhfnpnilpipaaDvE
import Derived.Test.YtpdhfnpnilpipaaDvG
namespace Go.Proofs.Ytpdhfnpnilpipaa.Dv
open Go.RowKit
set_option linter.unusedSimpArgs false
set_option linter.unusedVariables false

theorem u8_nat {n : Int} (h : (Lit.int .u8 n).wf = true) : ∃ m : Nat, n = (m : Int) ∧ m < 256 := by
  have e0 : IntKind.u8.min = 0 := rfl
  have e1 : IntKind.u8.max = 255 := rfl
  simp only [Lit.wf, Bool.and_eq_true, decide_eq_true_eq, e0, e1] at h
  exact ⟨n.toNat, by omega, by omega⟩
theorem OwnB.chg {F : Nat → Prop} {w w1 : World} {base : Nat} {v : Value} {s : ByteArray} (h : OwnB w base v s) (hc : Chg F w w1) (hF : ∀ k, F k → k < base) : OwnB w1 base v s := by
  obtain ⟨g, cap, cur, rfl, hg, h1, h2, h3, h4, h5⟩ := h
  exact ⟨g, cap, cur, rfl, hg, h1, h2, (hc.block g (lt_of_some h3) (fun hf => by have := hF g hf; omega)).trans h3, h4, h5⟩
theorem OwnB.conv {w X : World} {base : Nat} {v : Value} {s : ByteArray} (h : OwnB w base v s) (hX : Below w.heap.size w X) : (convert 39 9 v).run Try.prog X = .ok (.string s) X := own_conv (own_below h.own hX)
theorem dSync_other (i : Nat) (Q : List (Nat × ByteArray)) : ∀ P : List ByteArray, (∀ q ∈ Q, q.1 ≠ i) → (dSync P Q).getD i ByteArray.empty = P.getD i ByteArray.empty := by
  induction Q with
  | nil => intro P _; rfl
  | cons q Q ih =>
    intro P h
    rw [dSync, ih _ (fun r hr => h r (by simp [hr]))]
    rw [List.getD_eq_getElem?_getD, List.getElem?_set_ne (h q (by simp)), ← List.getD_eq_getElem?_getD]
def wrs (i : Nat) (l : List Nat) : List (Nat × ByteArray) := l.map fun c => (i, fullPage c)
theorem wrs_snoc (i : Nat) (l : List Nat) (c : Nat) : wrs i (l ++ [c]) = wrs i l ++ [(i, fullPage c)] := by unfold wrs; rw [List.map_append]; rfl
theorem last_read (P : List ByteArray) (i o : Nat) (l : List Nat) (c : Nat) (hi : i < P.length) (hc : l[l.length - 1]? = some c) : dRead P ((o, fullPage 9) :: wrs i l) i = fullPage c := by
  obtain ⟨l', hl'⟩ : ∃ l', l = l' ++ [c] := by
    rcases List.eq_nil_or_concat l with h | ⟨l', x, h⟩
    · subst h; simp at hc
    · rw [List.concat_eq_append] at h
      subst h
      simp at hc
      exact ⟨l', by rw [hc]⟩
  subst hl'
  rw [wrs_snoc, ← List.cons_append]
  exact dRead_hit P _ (i, fullPage c) hi
theorem other_read (P : List ByteArray) (i o : Nat) (l : List Nat) (ho : o < P.length) (h : i ≠ o) : dRead P ((o, fullPage 9) :: wrs i l) o = fullPage 9 := by
  unfold dRead
  rw [dSync, dSync_other o _ _ (fun q hq => by
    obtain ⟨c, _, rfl⟩ := List.mem_map.1 hq
    exact h)]
  rw [List.getD_eq_getElem?_getD, List.getElem?_set_self ho]; rfl
set_option maxRecDepth 100000 in
set_option maxHeartbeats 4000000 in
theorem last_any (A : Option Addr) (l : List Nat) (cap : Nat) (i o : Nat) (w : World) (hi : i < 256) (ho : o < 256) (hl : l.length ≤ cap) (hcm : cap ≤ maxLen) (hb : ∀ c ∈ l, c < 256)
    (hr : ∀ (k c : Nat), l[k]? = some c → ∃ g off, A = some ⟨g, off, none⟩ ∧ w.cell? ⟨g, off + k, none⟩ = some (.int .u8 (c : Int))) :
    Calls Try.prog 8 #[.slice A l.length cap, .int .u8 (i : Int), .int .u8 (o : Int)] w fun e w' => e = .returned (.bool true) ∧ Below w.heap.size w w' := by
  have tok : True := trivial
  unfold maxLen at hcm
  by_cases hz : l.length = 0
  · have z1 : ((l.length : Int) == 0) = true := beq_iff_eq.2 (by omega)
    have z2 : (l.length == 0) = true := beq_iff_eq.2 hz
    go_enter Try.func8, Try.ntmps8
    go_wp2_with fail
    refine (awake_any _).mono ?_
    rintro e w1 ⟨rfl, hb1⟩
    go_wp2_with fail
    refine (awake_any _).mono ?_
    rintro e w2 ⟨rfl, hb2⟩
    go_wp2_with fail
    go_ret
    exact ⟨rfl, bl hb1 hb2⟩
  have z1 : ((l.length : Int) == 0) = false := by rw [beq_eq_false_iff_ne]; omega
  have z2 : (l.length == 0) = false := by rw [beq_eq_false_iff_ne]; exact hz
  by_cases hlong : 100 < l.length
  · have z3 : decide (100 < l.length) = true := decide_eq_true hlong
    have z4 : decide ((100 : Int) < (l.length : Int)) = true := decide_eq_true (by omega)
    go_enter Try.func8, Try.ntmps8
    go_wp2_with fail
    refine (awake_any _).mono ?_
    rintro e w1 ⟨rfl, hb1⟩
    go_wp2_with fail
    refine (awake_any _).mono ?_
    rintro e w2 ⟨rfl, hb2⟩
    go_wp2_with fail
    go_ret
    exact ⟨rfl, bl hb1 hb2⟩
  have z3 : decide (100 < l.length) = false := decide_eq_false hlong
  have z4 : decide ((100 : Int) < (l.length : Int)) = false := decide_eq_false (by omega)
  by_cases hio : i = o
  · have z5 : ((i : Int) == (o : Int)) = true := by simp; omega
    have z6 : (i == o) = true := by simp; omega
    go_enter Try.func8, Try.ntmps8
    go_wp2_with fail
    refine (awake_any _).mono ?_
    rintro e w1 ⟨rfl, hb1⟩
    go_wp2_with fail
    refine (awake_any _).mono ?_
    rintro e w2 ⟨rfl, hb2⟩
    go_wp2_with fail
    go_ret
    exact ⟨rfl, bl hb1 hb2⟩
  have z5 : ((i : Int) == (o : Int)) = false := by simp; omega
  have z6 : (i == o) = false := by simp; omega
  have hcl : (List.replicate (clamp 256) zeroPage).length = 256 := by rw [List.length_replicate]; rfl
  obtain ⟨P0, hP0⟩ : ∃ P0, P0 = List.replicate (clamp 256) zeroPage := ⟨_, rfl⟩
  rw [← hP0] at hcl
  go_enter Try.func8, Try.ntmps8
  go_wp2_with fail
  refine (awake_any _).mono ?_
  rintro e w1 ⟨rfl, hb1⟩
  go_wp2_with fail
  refine (new_any 256 _).mono ?_
  rintro e w2 ⟨b, rfl, hd2, hb2⟩
  rw [← hP0] at hd2
  clear hP0
  go_wp2_with fail
  refine (full_any 9 (by decide) _).mono ?_
  rintro e w3 ⟨v3, rfl, hv3, hb3⟩
  obtain ⟨A3, c3, rfl, hc3, hr3⟩ := hv3.rd
  obtain ⟨ad3, rfl, -⟩ := hr3 (by rw [fullPage_size]; decide)
  have hd3 := hd2.below hb3
  have hw := write_ok hd3 o (by omega) ad3 c3 (fullPage 9) (fullPage_size 9) hr3 (by decide)
  rw [fullPage_size] at hw hc3
  go_wp2_with fail
  refine hw.mono ?_
  rintro e w4 ⟨rfl, hd4, hch4⟩
  have hb13 : Below w1.heap.size w1 w3 := bl hb2 hb3
  have hd4' : Dev w4 (fun k => w1.heap.size ≤ k) b P0 ((o, fullPage 9) :: wrs i (l.take 0)) := hd4.mono (fun k hk => hk.elim id (fun h => Nat.le_trans hb13.size h))
  have hb14 : Below w1.heap.size w1 w4 := hch4.below hb13 (fun k hk => hk) hb13.size
  have HD4 := Lib.hid hd4'
  have HB1 := Lib.hid hb1
  have HR := Lib.hid hr
  have HBY := Lib.hid hb
  clear hd2 hd3 hd4 hd4' hch4 hw hb1 hv3 hr3 hc3 hb3 hb2 hb13 hr hb
  go_wp2_with fail
  go_loopw [47] (fun u wr => ∃ k : Nat, k ≤ l.length ∧ u = .int .i64 k ∧ Dev wr (fun k => w1.heap.size ≤ k) b P0 ((o, fullPage 9) :: wrs i (l.take k)) ∧ Below w1.heap.size w1 wr) (fun u _ => l.length - (intOf u).toNat)
  case atStart => exact ⟨0, Nat.zero_le _, rfl, HD4.out, hb14⟩
  case round =>
    obtain ⟨k, hk, rfl, hd, hbw⟩ := hrel
    by_cases hlt : k < l.length
    · have ht1 : decide (k < l.length) = true := decide_eq_true hlt
      have ht2 : decide ((k : Int) < (l.length : Int)) = true := decide_eq_true (by omega)
      obtain ⟨c, hc⟩ : ∃ c, l[k]? = some c := ⟨_, List.getElem?_eq_getElem hlt⟩
      have hc256 := HBY.out c (List.mem_of_getElem? hc)
      obtain ⟨g, off, rfl, hcell⟩ := HR.out k c hc
      have hcw := ((bl HB1.out hbw).cell (World.block_lt_of_cell? w _ hcell)).trans hcell
      have hql : ((o, fullPage 9) :: wrs i (l.take k)).length ≤ 1000000 := by unfold wrs; rw [List.length_cons, List.length_map, List.length_take]; omega
      have HC := Lib.hid hc
      have HD := Lib.hid hd
      have HW := Lib.hid hbw
      have HQ := Lib.hid hql
      clear hc hd hbw hcell hb14
      go_wp2_with fail
      refine (full_any c hc256 _).mono ?_
      rintro e w5 ⟨v5, rfl, hv5, hb5⟩
      obtain ⟨A5, c5, rfl, hc5, hr5⟩ := hv5.rd
      obtain ⟨ad5, rfl, -⟩ := hr5 (by rw [fullPage_size]; decide)
      have hw := write_ok (HD.out.below hb5) i (by omega) ad5 c5 (fullPage c) (fullPage_size c) hr5 HQ.out
      rw [fullPage_size] at hw hc5
      go_wp2_with fail
      refine hw.mono ?_
      rintro e w6 ⟨rfl, hd6, hch6⟩
      have hb15 : Below w1.heap.size w1 w5 := bl HW.out hb5
      have hd6' : Dev w6 (fun k => w1.heap.size ≤ k) b P0 ((o, fullPage 9) :: wrs i (l.take (k + 1))) := by
        rw [take_snoc l k c HC.out, wrs_snoc, ← List.cons_append]
        exact hd6.mono (fun k hk => hk.elim id (fun h => Nat.le_trans hb15.size h))
      have hb16 : Below w1.heap.size w1 w6 := hch6.below hb15 (fun k hk => hk) hb15.size
      have HD6 := Lib.hid hd6'
      clear hd6 hd6' hch6 hw hr5 hv5
      go_wp2_with fail
      go_roundw
      case rel => exact ⟨k + 1, by omega, by go_num, HD6.out, hb16⟩
      case measure => simp [intOf]; omega
    · have ht1 : decide (k < l.length) = false := decide_eq_false hlt
      have ht2 : decide ((k : Int) < (l.length : Int)) = false := decide_eq_false (by omega)
      rw [List.take_of_length_le (by omega)] at hd
      have hql : ((o, fullPage 9) :: wrs i l).length ≤ 1000000 := by unfold wrs; rw [List.length_cons, List.length_map]; omega
      obtain ⟨m, hm⟩ : ∃ m, l.length = m + 1 := ⟨l.length - 1, by omega⟩
      obtain ⟨c, hc⟩ : ∃ c, l[m]? = some c := ⟨_, List.getElem?_eq_getElem (by omega)⟩
      have hc256 := HBY.out c (List.mem_of_getElem? hc)
      obtain ⟨g, off, rfl, hcell⟩ := HR.out m c hc
      have hlast := last_read P0 i o l c (by omega) (by rw [show l.length - 1 = m from by omega]; exact hc)
      have hoth := other_read P0 i o l (by omega) hio
      have hT := hd.tight
      have hrd := read_ok hT i (by omega) hql
      rw [hlast] at hrd
      have HW := Lib.hid (bl HB1.out hbw)
      have HW1 := Lib.hid hbw.size
      have HT := Lib.hid hT
      have HL := Lib.hid hlast
      have HO := Lib.hid hoth
      have HQ := Lib.hid hql
      have HCL := Lib.hid hcell
      clear hd hbw hT hlast hoth hc hcell hb14 hql
      go_wp2_with fail
      refine hrd.mono ?_
      rintro e w7 ⟨v7, rfl, hv7, hb7⟩
      have hd7 := HT.out.below hb7
      go_wp2_with fail
      refine (sync_any hd7 HQ.out).mono ?_
      rintro e w8 ⟨rfl, hd8, hch8⟩
      have hv8 := hv7.chg hch8 (fun k hk => hk.2)
      have hcr : Calls Try.prog 33 #[.pointer (some ⟨b, 0, none⟩), .int .u64 0, .int .i64 0, .int .i64 0] w8 _ := crash_any hd8 (by decide) 0 (by decide) 0 0
      go_wp2_with fail
      refine hcr.mono ?_
      rintro e w9 ⟨rfl, hd9, hch9⟩
      have hv9 := hv8.chg hch9 (fun k hk => hk.2)
      have hl9 : (dSync P0 ((o, fullPage 9) :: wrs i l)).length = 256 := by rw [dSync_length, hcl]
      have hri := read_ok hd9 i (by rw [dCrash_length, hl9]; omega) (by decide)
      have hro : ∀ X, Below w9.heap.size w9 X → _ := fun X hX => read_ok (hd9.below hX) o (by rw [dCrash_length, hl9]; omega) (by decide)
      have e1 : dRead (dCrash 0 0 0 0 (dSync P0 ((o, fullPage 9) :: wrs i l)) []) [] i = fullPage c := HL.out
      have e2 : dRead (dCrash 0 0 0 0 (dSync P0 ((o, fullPage 9) :: wrs i l)) []) [] o = fullPage 9 := HO.out
      rw [e1] at hri
      rw [e2] at hro
      clear e1 e2
      have hbw7 := bl HW.out hb7
      have hbw8 := hch8.below hbw7 (fun k hk => Nat.le_trans HB1.out.size hk.1) hbw7.size
      have hbw9 := hch9.below hbw8 (fun k hk => Nat.le_trans HB1.out.size hk.1) hbw8.size
      have HW9 := Lib.hid hbw9
      clear hbw7 hbw8 hbw9 hch8 hch9 hd7 hd8 hd9 hv7 hv8 hcr hrd hb7
      go_wp2_with fail
      refine hri.mono ?_
      rintro e w10 ⟨v10, rfl, hv10, hb10⟩
      go_wp2_with fail
      refine (hro _ hb10).mono ?_
      rintro e w11 ⟨v11, rfl, hv11, hb11⟩
      have hbF := bl HW9.out (bl hb10 hb11)
      have hcell2 := (hbF.cell (World.block_lt_of_cell? w _ HCL.out)).trans HCL.out
      have hwr : (l.length : Int) - 1 = (m : Int) := by omega
      have hmi : (m : Int) < (l.length : Int) := by omega
      have hmn : m < l.length := by omega
      have hv9F := hv9.below (bl hb10 hb11)
      have hv10F := hv10.below hb11
      clear hv9 hv10 hri hro
      go_wp2_with fail
      refine (full_any c hc256 _).mono ?_
      rintro e w12 ⟨v12, rfl, hv12, hb12⟩
      have hcv12 := hv12.conv (Below.refl _ _)
      have hcA := fun X (hX : Below w12.heap.size w12 X) => hv9F.conv (bl hb12 hX)
      have hcB := fun X (hX : Below w12.heap.size w12 X) => hv10F.conv (bl hb12 hX)
      have hcC := fun X (hX : Below w12.heap.size w12 X) => hv11.conv (bl hb12 hX)
      have HWF := Lib.hid (bl hbF hb12)
      clear hb10 hb11 hb12 hbF hv9F hv10F hv11 hv12
      go_wp2_with fail
      refine wp_region_held_drew (S := (fun X => Below w12.heap.size w12 X)) (by kernel_rfl) (((by repeat (first | exact Below.refl _ _ | assumption | apply below_dr | apply below_dn | apply below_al)) : Below w12.heap.size w12 _)) (fun hHeld => ?_)
      try simp only [Act.put, List.setIfInBounds_toArray, List.set_cons_zero, List.set_cons_succ]
      refine wpAnyH_take (i := 0) (v := ?_) (by simp only [List.getElem?_toArray, List.getElem?_cons_succ, List.getElem?_cons_zero]; rfl) (by kernel_rfl) (by kernel_rfl) (by kernel_rfl) (by exact fun _ _ _ h => h) (Or.inl ⟨by rfl, ?_⟩) (by assumption) ?_
      rotate_left
      · intro w hSw; (try dsimp only at hSw); go_simp; try with_reducible rfl
      try simp only [Act.put, List.setIfInBounds_toArray, List.set_cons_zero, List.set_cons_succ]
      refine wpAnyH_take (i := 1) (v := ?_) (by simp only [List.getElem?_toArray, List.getElem?_cons_succ, List.getElem?_cons_zero]; rfl) (by kernel_rfl) (by kernel_rfl) (by kernel_rfl) (by exact fun _ _ _ h => h) (Or.inl ⟨by rfl, ?_⟩) (by assumption) ?_
      rotate_left
      · intro w hSw; (try dsimp only at hSw); go_simp; try with_reducible rfl
      try simp only [Act.put, List.setIfInBounds_toArray, List.set_cons_zero, List.set_cons_succ]
      refine wpAnyH_take (i := 2) (v := ?_) (by simp only [List.getElem?_toArray, List.getElem?_cons_succ, List.getElem?_cons_zero]; rfl) (by kernel_rfl) (by kernel_rfl) (by kernel_rfl) (by exact fun _ _ _ h => h) (Or.inl ⟨by rfl, ?_⟩) (by assumption) ?_
      rotate_left
      · intro w hSw; (try dsimp only at hSw); go_simp; try with_reducible rfl
      try simp only [Act.put, List.setIfInBounds_toArray, List.set_cons_zero, List.set_cons_succ]
      refine wpAnyH_take (i := 3) (v := ?_) (by simp only [List.getElem?_toArray, List.getElem?_cons_succ, List.getElem?_cons_zero]; rfl) (by kernel_rfl) (by kernel_rfl) (by kernel_rfl) (by exact fun _ _ _ h => h) (Or.inl ⟨by rfl, ?_⟩) (by assumption) ?_
      rotate_left
      · intro w hSw; (try dsimp only at hSw); go_simp; try with_reducible rfl
      try simp only [Act.put, List.setIfInBounds_toArray, List.set_cons_zero, List.set_cons_succ]
      refine wpAnyH_take (i := 4) (v := ?_) (by simp only [List.getElem?_toArray, List.getElem?_cons_succ, List.getElem?_cons_zero]; rfl) (by kernel_rfl) (by kernel_rfl) (by kernel_rfl) (by exact fun _ _ _ h => h) (Or.inl ⟨by rfl, ?_⟩) (by assumption) ?_
      rotate_left
      · intro w hSw; (try dsimp only at hSw); go_simp; try with_reducible rfl
      try simp only [Act.put, List.setIfInBounds_toArray, List.set_cons_zero, List.set_cons_succ]
      refine wpAnyH_take (i := 5) (v := ?_) (by simp only [List.getElem?_toArray, List.getElem?_cons_succ, List.getElem?_cons_zero]; rfl) (by kernel_rfl) (by kernel_rfl) (by kernel_rfl) (by exact fun _ _ _ h => h) (Or.inl ⟨by rfl, ?_⟩) (by assumption) ?_
      rotate_left
      · intro w hSw; (try dsimp only at hSw); go_simp; try with_reducible rfl
      try simp only [Act.put, List.setIfInBounds_toArray, List.set_cons_zero, List.set_cons_succ]
      refine wpAnyH_take (i := 6) (v := ?_) (by simp only [List.getElem?_toArray, List.getElem?_cons_succ, List.getElem?_cons_zero]; rfl) (by kernel_rfl) (by kernel_rfl) (by kernel_rfl) (by exact fun _ _ _ h => h) (Or.inl ⟨by rfl, ?_⟩) (by assumption) ?_
      rotate_left
      · intro w hSw; (try dsimp only at hSw); go_simp; try with_reducible rfl
      try simp only [Act.put, List.setIfInBounds_toArray, List.set_cons_zero, List.set_cons_succ]
      refine wpAnyH_take (i := 7) (v := ?_) (by simp only [List.getElem?_toArray, List.getElem?_cons_succ, List.getElem?_cons_zero]; rfl) (by kernel_rfl) (by kernel_rfl) (by kernel_rfl) (by exact fun _ _ _ h => h) (Or.inl ⟨by rfl, ?_⟩) (by assumption) ?_
      rotate_left
      · intro w hSw; (try dsimp only at hSw); go_simp; try with_reducible rfl
      try simp only [Act.put, List.setIfInBounds_toArray, List.set_cons_zero, List.set_cons_succ]
      refine wpAnyH_take (i := 8) (v := ?_) (by simp only [List.getElem?_toArray, List.getElem?_cons_succ, List.getElem?_cons_zero]; rfl) (by kernel_rfl) (by kernel_rfl) (by kernel_rfl) (by exact fun _ _ _ h => h) (Or.inl ⟨by rfl, ?_⟩) (by assumption) ?_
      rotate_left
      · intro w hSw; (try dsimp only at hSw); go_simp; try with_reducible rfl
      try simp only [Act.put, List.setIfInBounds_toArray, List.set_cons_zero, List.set_cons_succ]
      refine wpAnyH_take (i := 9) (v := ?_) (by simp only [List.getElem?_toArray, List.getElem?_cons_succ, List.getElem?_cons_zero]; rfl) (by kernel_rfl) (by kernel_rfl) (by kernel_rfl) (by exact fun _ _ _ h => h) (Or.inl ⟨by rfl, ?_⟩) (by assumption) ?_
      rotate_left
      · intro w hSw; (try dsimp only at hSw); go_simp; try with_reducible rfl
      try simp only [Act.put, List.setIfInBounds_toArray, List.set_cons_zero, List.set_cons_succ]
      refine wpAnyH_take (i := 10) (v := ?_) (by simp only [List.getElem?_toArray, List.getElem?_cons_succ, List.getElem?_cons_zero]; rfl) (by kernel_rfl) (by kernel_rfl) (by kernel_rfl) (by exact fun _ _ _ h => h) (Or.inl ⟨by rfl, ?_⟩) (by assumption) ?_
      rotate_left
      · intro w hSw; (try dsimp only at hSw); go_simp; try with_reducible rfl
      try simp only [Act.put, List.setIfInBounds_toArray, List.set_cons_zero, List.set_cons_succ]
      refine wpAnyH_take (i := 11) (v := ?_) (by simp only [List.getElem?_toArray, List.getElem?_cons_succ, List.getElem?_cons_zero]; rfl) (by kernel_rfl) (by kernel_rfl) (by kernel_rfl) (by exact fun _ _ _ h => h) (Or.inl ⟨by rfl, ?_⟩) (by assumption) ?_
      rotate_left
      · intro w hSw; (try dsimp only at hSw); go_simp; try with_reducible rfl
      try simp only [Act.put, List.setIfInBounds_toArray, List.set_cons_zero, List.set_cons_succ]
      refine wpAnyH_take (i := 12) (v := ?_) (by simp only [List.getElem?_toArray, List.getElem?_cons_succ, List.getElem?_cons_zero]; rfl) (by kernel_rfl) (by kernel_rfl) (by kernel_rfl) (by exact fun _ _ _ h => h) (Or.inl ⟨by rfl, ?_⟩) (by assumption) ?_
      rotate_left
      · intro w hSw; (try dsimp only at hSw); go_simp; try with_reducible rfl
      try simp only [Act.put, List.setIfInBounds_toArray, List.set_cons_zero, List.set_cons_succ]
      refine wpAnyH_take (i := 13) (v := ?_) (by simp only [List.getElem?_toArray, List.getElem?_cons_succ, List.getElem?_cons_zero]; rfl) (by kernel_rfl) (by kernel_rfl) (by kernel_rfl) (by exact fun _ _ _ h => h) (Or.inl ⟨by rfl, ?_⟩) (by assumption) ?_
      rotate_left
      · intro w hSw; (try dsimp only at hSw); go_simp; try with_reducible rfl
      try simp only [Act.put, List.setIfInBounds_toArray, List.set_cons_zero, List.set_cons_succ]
      refine wpAnyH_take (i := 14) (v := ?_) (by simp only [List.getElem?_toArray, List.getElem?_cons_succ, List.getElem?_cons_zero]; rfl) (by kernel_rfl) (by kernel_rfl) (by kernel_rfl) (by exact fun _ _ _ h => h) (Or.inl ⟨by rfl, ?_⟩) (by assumption) ?_
      rotate_left
      · intro w hSw; (try dsimp only at hSw); go_simp; try with_reducible rfl
      try simp only [Act.put, List.setIfInBounds_toArray, List.set_cons_zero, List.set_cons_succ]
      refine wpAnyH_take (i := 15) (v := ?_) (by simp only [List.getElem?_toArray, List.getElem?_cons_succ, List.getElem?_cons_zero]; rfl) (by kernel_rfl) (by kernel_rfl) (by kernel_rfl) (by exact fun _ _ _ h => h) (Or.inl ⟨by rfl, ?_⟩) (by assumption) ?_
      rotate_left
      · intro w hSw; (try dsimp only at hSw); go_simp; try with_reducible rfl
      try simp only [Act.put, List.setIfInBounds_toArray, List.set_cons_zero, List.set_cons_succ]
      refine wpAnyH_take (i := 16) (v := ?_) (by simp only [List.getElem?_toArray, List.getElem?_cons_succ, List.getElem?_cons_zero]; rfl) (by kernel_rfl) (by kernel_rfl) (by kernel_rfl) (by exact fun _ _ _ h => h) (Or.inl ⟨by rfl, ?_⟩) (by assumption) ?_
      rotate_left
      · intro w hSw; (try dsimp only at hSw); go_simp; try with_reducible rfl
      try simp only [Act.put, List.setIfInBounds_toArray, List.set_cons_zero, List.set_cons_succ]
      refine wpAnyH_take (i := 17) (v := ?_) (by simp only [List.getElem?_toArray, List.getElem?_cons_succ, List.getElem?_cons_zero]; rfl) (by kernel_rfl) (by kernel_rfl) (by kernel_rfl) (by exact fun _ _ _ h => h) (Or.inl ⟨by rfl, ?_⟩) (by assumption) ?_
      rotate_left
      · intro w hSw; (try dsimp only at hSw); go_simp; try with_reducible rfl
      try simp only [Act.put, List.setIfInBounds_toArray, List.set_cons_zero, List.set_cons_succ]
      refine wpAnyH_take (i := 18) (v := ?_) (by simp only [List.getElem?_toArray, List.getElem?_cons_succ, List.getElem?_cons_zero]; rfl) (by kernel_rfl) (by kernel_rfl) (by kernel_rfl) (by exact fun _ _ _ h => h) (Or.inl ⟨by rfl, ?_⟩) (by assumption) ?_
      rotate_left
      · intro w hSw; (try dsimp only at hSw); go_simp; try with_reducible rfl
      try simp only [Act.put, List.setIfInBounds_toArray, List.set_cons_zero, List.set_cons_succ]
      refine wpAnyH_take (i := 19) (v := ?_) (by simp only [List.getElem?_toArray, List.getElem?_cons_succ, List.getElem?_cons_zero]; rfl) (by kernel_rfl) (by kernel_rfl) (by kernel_rfl) (by exact fun _ _ _ h => h) (Or.inl ⟨by rfl, ?_⟩) (by assumption) ?_
      rotate_left
      · intro w hSw; (try dsimp only at hSw); go_simp; try with_reducible rfl
      try simp only [Act.put, List.setIfInBounds_toArray, List.set_cons_zero, List.set_cons_succ]
      refine wpAnyH_take (i := 20) (v := ?_) (by simp only [List.getElem?_toArray, List.getElem?_cons_succ, List.getElem?_cons_zero]; rfl) (by kernel_rfl) (by kernel_rfl) (by kernel_rfl) (by exact fun _ _ _ h => h) (Or.inl ⟨by rfl, ?_⟩) (by assumption) ?_
      rotate_left
      · intro w hSw; (try dsimp only at hSw); go_simp; try with_reducible rfl
      try simp only [Act.put, List.setIfInBounds_toArray, List.set_cons_zero, List.set_cons_succ]
      refine wpAnyH_take (i := 21) (v := ?_) (by simp only [List.getElem?_toArray, List.getElem?_cons_succ, List.getElem?_cons_zero]; rfl) (by kernel_rfl) (by kernel_rfl) (by kernel_rfl) (by exact fun _ _ _ h => h) (Or.inl ⟨by rfl, ?_⟩) (by assumption) ?_
      rotate_left
      · intro w hSw; (try dsimp only at hSw); go_simp; try with_reducible rfl
      try simp only [Act.put, List.setIfInBounds_toArray, List.set_cons_zero, List.set_cons_succ]
      refine wpAnyH_take (i := 22) (v := ?_) (by simp only [List.getElem?_toArray, List.getElem?_cons_succ, List.getElem?_cons_zero]; rfl) (by kernel_rfl) (by kernel_rfl) (by kernel_rfl) (by exact fun _ _ _ h => h) (Or.inl ⟨by rfl, ?_⟩) (by assumption) ?_
      rotate_left
      · intro w hSw; (try dsimp only at hSw); go_simp; try with_reducible rfl
      try simp only [Act.put, List.setIfInBounds_toArray, List.set_cons_zero, List.set_cons_succ]
      refine wpAnyH_take (i := 23) (v := ?_) (by simp only [List.getElem?_toArray, List.getElem?_cons_succ, List.getElem?_cons_zero]; rfl) (by kernel_rfl) (by kernel_rfl) (by kernel_rfl) (by exact fun _ _ _ h => h) (Or.inl ⟨by rfl, ?_⟩) (by assumption) ?_
      rotate_left
      · intro w hSw; (try dsimp only at hSw); go_simp; try with_reducible rfl
      try simp only [Act.put, List.setIfInBounds_toArray, List.set_cons_zero, List.set_cons_succ]
      refine wpAnyH_take (i := 24) (v := ?_) (by simp only [List.getElem?_toArray, List.getElem?_cons_succ, List.getElem?_cons_zero]; rfl) (by kernel_rfl) (by kernel_rfl) (by kernel_rfl) (by exact fun _ _ _ h => h) (Or.inl ⟨by rfl, ?_⟩) (by assumption) ?_
      rotate_left
      · intro w hSw; (try dsimp only at hSw); go_simp; try with_reducible rfl
      try simp only [Act.put, List.setIfInBounds_toArray, List.set_cons_zero, List.set_cons_succ]
      refine wpAnyH_ready (rs := [25]) (by kernel_rfl) (by simp) ?_
      refine AllReadyH.cons (by simp only [List.getElem?_toArray, List.getElem?_cons_succ, List.getElem?_cons_zero]; rfl) (fun K hK => ?_) AllReadyH.nil
      go_simp
      refine (full_any 9 (by decide) _).mono ?_; rintro e w14 ⟨v14, rfl, hv14, hb14⟩; have hcv14 := hv14.conv (Below.refl _ _); have hb1214 : Below w12.heap.size w12 w14 := bl (by repeat (first | exact Below.refl _ _ | assumption | apply below_dr | apply below_dn | apply below_al)) hb14
      try go_simp
      refine hK.out _ _ (((by repeat (first | exact Below.refl _ _ | assumption | apply below_dr | apply below_dn | apply below_al)) : Below w12.heap.size w12 _)) (fun hHeld => ?_)
      clear hK K
      try simp only [Act.put, List.setIfInBounds_toArray, List.set_cons_zero, List.set_cons_succ]
      refine wpAnyH_ready (rs := [26]) (by kernel_rfl) (by simp) ?_
      refine AllReadyH.cons (by simp only [List.getElem?_toArray, List.getElem?_cons_succ, List.getElem?_cons_zero]; rfl) (fun K hK => ?_) AllReadyH.nil
      go_simp
      refine hK.out _ _ (((by repeat (first | exact Below.refl _ _ | assumption | apply below_dr | apply below_dn | apply below_al)) : Below w12.heap.size w12 _)) (fun hHeld => ?_)
      clear hK K
      try simp only [Act.put, List.setIfInBounds_toArray, List.set_cons_zero, List.set_cons_succ]
      refine wpAnyH_take (i := 27) (v := ?_) (by simp only [List.getElem?_toArray, List.getElem?_cons_succ, List.getElem?_cons_zero]; rfl) (by kernel_rfl) (by kernel_rfl) (by kernel_rfl) (by exact fun _ _ _ h => h) (Or.inl ⟨by rfl, ?_⟩) (by assumption) ?_
      rotate_left
      · intro w hSw; (try dsimp only at hSw); go_simp; try with_reducible rfl
      try simp only [Act.put, List.setIfInBounds_toArray, List.set_cons_zero, List.set_cons_succ]
      refine wpAnyH_take (i := 28) (v := ?_) (by simp only [List.getElem?_toArray, List.getElem?_cons_succ, List.getElem?_cons_zero]; rfl) (by kernel_rfl) (by kernel_rfl) (by kernel_rfl) (by exact fun _ _ _ h => h) (Or.inl ⟨by rfl, ?_⟩) (by assumption) ?_
      rotate_left
      · intro w hSw; (try dsimp only at hSw); go_simp; try with_reducible rfl
      try simp only [Act.put, List.setIfInBounds_toArray, List.set_cons_zero, List.set_cons_succ]
      refine wpAnyH_take (i := 29) (v := ?_) (by simp only [List.getElem?_toArray, List.getElem?_cons_succ, List.getElem?_cons_zero]; rfl) (by kernel_rfl) (by kernel_rfl) (by kernel_rfl) (by exact fun _ _ _ h => h) (Or.inl ⟨by rfl, ?_⟩) (by assumption) ?_
      rotate_left
      · intro w hSw; (try dsimp only at hSw); go_simp; try with_reducible rfl
      try simp only [Act.put, List.setIfInBounds_toArray, List.set_cons_zero, List.set_cons_succ]
      refine wpAnyH_done (by kernel_rfl) ?_ _
      go_wp2_with fail
      all_goals (go_ret; refine ⟨rfl, bl HWF.out (by repeat (first | exact Below.refl _ _ | assumption | apply below_dr | apply below_dn | apply below_al))⟩)

theorem last_row (A : Option Addr) (l : List Nat) (cap : Nat) (i o : Int) (w : World) (wi : (Lit.int .u8 i).wf = true) (wo : (Lit.int .u8 o).wf = true) (hl : l.length ≤ cap) (hcm : cap ≤ maxLen) (hb : ∀ c ∈ l, c < 256)
    (hr : ∀ (k c : Nat), l[k]? = some c → ∃ g off, A = some ⟨g, off, none⟩ ∧ w.cell? ⟨g, off + k, none⟩ = some (.int .u8 (c : Int))) :
    Calls Try.prog 8 #[.slice A l.length cap, .int .u8 i, .int .u8 o] w fun e w' => e = .returned (.bool true) ∧ Below w.heap.size w w' := by
  obtain ⟨i, rfl, hi⟩ := u8_nat wi
  obtain ⟨o, rfl, ho⟩ := u8_nat wo
  exact last_any A l cap i o w hi ho hl hcm hb hr
end Go.Proofs.Ytpdhfnpnilpipaa.Dv
