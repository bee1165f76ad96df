/- The law of the next epoch, by a walk. -/
import Derived.Test.YtpjgmcoimniheaaMnA
namespace Go.Proofs.Ytpjgmcoimniheaa.Mt
open Go.RowKit Go.Proofs.Ytpjgmcoimniheaa.By
set_option linter.unusedSimpArgs false
set_option linter.unusedVariables false

theorem infoMeta : (Try.prog.info? 29).map (fun i => (i.zero, i.size, i.bytes)) = some (some (.agg #[.int .i64 0, .int .i64 0]), 2, 16) := by kernel_rfl
def metaCells (l : List (Int × Int)) : List Value := l.flatMap fun o => [.int .i64 o.1, .int .i64 o.2]
theorem metaCells_snoc (l : List (Int × Int)) (o : Int × Int) : metaCells (l ++ [o]) = metaCells l ++ [.int .i64 o.1, .int .i64 o.2] := by unfold metaCells; rw [List.flatMap_append]; rfl
theorem metaCells_at : ∀ (l : List (Int × Int)) (k : Nat) (o : Int × Int), l[k]? = some o → (metaCells l)[k * 2]? = some (.int .i64 o.1) ∧ (metaCells l)[k * 2 + 1]? = some (.int .i64 o.2)
  | [], k, o, h => by simp at h
  | p :: l, 0, o, h => by
    have : p = o := by simpa using h
    subst this
    exact ⟨rfl, rfl⟩
  | p :: l, k + 1, o, h => by
    have := metaCells_at l k o (by simpa using h)
    rw [show (k + 1) * 2 = k * 2 + 2 from by omega]
    exact this
theorem metas_of_row {w : World} {base n : Nat} {A : Option Addr} {c : Nat} {l : List (Int × Int)} (h : w.ownsRow base 29 2 (.slice A n c) n (metaCells l)) : MetasAt w A l := by
  intro k o hk
  obtain ⟨h1, h2⟩ := metaCells_at l k o hk
  have hlt := (List.getElem?_eq_some_iff.1 h1).1
  rcases h.2 with ⟨hv, h0⟩ | ⟨g, cap, cur, hv, hg, hh, h3, h4, h5, h6⟩
  · have := h.1
    rw [h0] at this
    rw [this] at hlt
    omega
  · injection hv with hv
    subst hv
    have hc : ∀ (j : Nat) (u : Value), (metaCells l)[j]? = some u → w.cell? ⟨g, 0 + j, none⟩ = some u := by
      intro j u hj
      rw [Nat.zero_add, cell_at hh, ← Array.getElem?_toList]
      rw [← h6, List.getElem?_take] at hj
      split at hj
      · exact hj
      · cases hj
    exact ⟨g, 0, rfl, hc _ _ h1, by have := hc _ _ h2; rwa [show 0 + (k * 2 + 1) = 0 + k * 2 + 1 from by omega] at this⟩
def NextRel (w wb : World) (l : List (Int × Int)) (j : Nat) (v : Value) (wr : World) : Prop := wr.ownsRow wb.heap.size 29 2 v j (metaCells (l.take j)) ∧ Below wb.heap.size wb wr ∧ ∀ o ∈ l.take j, 0 ≤ o.1 ∧ o.1 ≤ 1073741824
theorem pair_news {w : World} {g : Nat} {x y : Value} {t : TypeId} (h : w.heap[g]? = some (.cells #[x, y] t (0, 0))) : ∀ (j : Nat) (u : Value), [x, y][j]? = some u → w.cell? ((⟨g, 0, none⟩ : Addr).add j) = some u := fun j u hj => by
  rw [add_plain, cell_at h, ← Array.getElem?_toList]; exact hj
theorem next_rel {w wb wr w1 : World} {l : List (Int × Int)} {j : Nat} {v v1 : Value} {e r : Int} {o : Obj} (h : NextRel w wb l j v wr) (ho : l[j]? = some (e, r)) (he : 0 ≤ e ∧ e ≤ 1073741824) (hown : w1.ownsRow wb.heap.size 29 2 v1 (j + 1) (metaCells (l.take j) ++ [.int .i64 e, .int .i64 r])) (hgr : (wr.alloc o).grownBy w1 v.ownBlock) : NextRel w wb l (j + 1) v1 w1 := by
  obtain ⟨h1, h2, h3⟩ := h
  have hfrom : ∀ k, v.ownBlock = some k → wb.heap.size ≤ k := by
    intro k hk
    rcases h1.2 with ⟨hv, _⟩ | ⟨g, _, _, hv, hg', _⟩
    · rw [hv] at hk; simp [Value.ownBlock] at hk
    · rw [hv] at hk; have : g = k := by simpa [Value.ownBlock] using hk
      omega
  refine ⟨?_, (below_al h2 o).grown hgr (by rw [World.size_alloc]; have := h2.size; omega) hfrom, ?_⟩
  · rw [take_snoc _ _ _ ho, metaCells_snoc]; exact hown
  · intro p hp
    rw [take_snoc _ _ _ ho] at hp
    rcases List.mem_append.1 hp with h | h
    · exact h3 p h
    · rw [List.mem_singleton.1 h]; exact he
set_option maxRecDepth 100000 in
set_option maxHeartbeats 2000000 in
theorem nextLaw_any (k : Nat) (A : Option Addr) (l : List (Int × Int)) (cap : Nat) (w : World) (hk : k < 65536) (hlc : l.length ≤ cap) (hcm : cap ≤ maxLen) (ha : MetasAt w A l) (hi : ∀ o ∈ l, I64 o.1 ∧ I64 o.2) :
    Calls Try.prog 8 #[.int .u16 (k : Int), .slice A l.length cap] w fun x w' => x = .returned (.bool true) ∧ Below w.heap.size w w' := by
  unfold maxLen at hcm
  by_cases hlong : 300 < l.length
  · have t : decide (300 < l.length) = true := decide_eq_true hlong
    have ti : decide ((300 : Int) < (l.length : Int)) = true := decide_eq_true (by omega)
    go_enter Try.func8, Try.ntmps8
    go_wp2_with fail
    refine (awake_any _).mono ?_
    rintro x w1 ⟨rfl, hb1⟩
    go_wp2_with fail
    refine (awake_any _).mono ?_
    rintro x w2 ⟨rfl, hb2⟩
    go_wp2_with fail
    go_ret
    exact ⟨rfl, bl hb1 hb2⟩
  have t : decide (300 < l.length) = false := decide_eq_false hlong
  have ti : decide ((300 : Int) < (l.length : Int)) = false := decide_eq_false (by omega)
  obtain ⟨i0, hi0, hz0, hz1, hz2⟩ := info_parts infoMeta
  have HA := Lib.hid ha
  have HI := Lib.hid hi
  clear ha hi
  go_enter Try.func8, Try.ntmps8
  go_wp2_with fail
  refine (awake_any _).mono ?_
  rintro x wb ⟨rfl, hb1⟩
  have HB1 := Lib.hid hb1
  clear hb1
  have HS0 : Hid (NextRel w wb l 0 (.slice none 0 0) wb) := Lib.hid ⟨World.ownsRow_nil _ _ _ _, Below.refl _ _, fun o ho => by simp at ho⟩
  go_wp2_with fail
  go_loopw [5, 19] (fun v i wr => ∃ j : Nat, j ≤ l.length ∧ i = .int .i64 j ∧ NextRel w wb l j v wr) (fun _ i _ => l.length - (intOf i).toNat)
  case atStart => exact ⟨0, Nat.zero_le _, rfl, HS0.out⟩
  case round =>
    obtain ⟨j, hj, rfl, hrel⟩ := hrel
    by_cases hlt : j < l.length
    · have u1 : decide (j < l.length) = true := decide_eq_true hlt
      have u2 : decide ((j : Int) < (l.length : Int)) = true := decide_eq_true (by omega)
      obtain ⟨o, ho⟩ : ∃ o, l[j]? = some o := ⟨_, List.getElem?_eq_getElem hlt⟩
      obtain ⟨e, r⟩ := o
      obtain ⟨g, off, rfl, h1, h2⟩ := HA.out j _ ho
      dsimp only at h1 h2
      have hbw := bl HB1.out hrel.2.1
      have c1 := (hbw.cell (World.block_lt_of_cell? w _ h1)).trans h1
      have c2 := (hbw.cell (World.block_lt_of_cell? w _ h2)).trans h2
      have HW := Lib.hid hbw
      have HREL := Lib.hid hrel
      have HO := Lib.hid ho
      have hown := hrel.1
      have hsz := hrel.2.1.size
      clear ho h1 h2 hbw hrel
      by_cases he0 : e < 0
      · have v1 : decide (e < 0) = true := decide_eq_true he0
        go_wp2_with fail
        go_ret
        exact ⟨rfl, HW.out⟩
      · have v1 : decide (e < 0) = false := decide_eq_false he0
        by_cases he1 : 1073741824 < e
        · have v2 : decide (1073741824 < e) = true := decide_eq_true he1
          go_wp2_with fail
          go_ret
          exact ⟨rfl, HW.out⟩
        · have v2 : decide (1073741824 < e) = false := decide_eq_false he1
          go_wp2_with (at_builtin; refine wpList_append_own _ rfl _ _ 45 rfl wb.heap.size 29 i0 (.agg #[.int .i64 0, .int .i64 0]) 2 16 Try.underlying45 hi0 hz0 hz1 hz2 rfl (by decide) u5 j (metaCells (l.take j)) rfl (own_below hown (below_al (Below.refl _ _) _)) ⟨wr.heap.size, 0, none⟩ 1 1 [.int .i64 e, .int .i64 r] rfl rfl (pair_news (new_block wr _)) (fun u hu => by simp at hu; rcases hu with rfl | rfl <;> rfl) (by unfold maxLen; omega) (by omega) (by rw [World.size_alloc]; omega) ?_; intro v1' w1' hown1 hgr1 hnil1)
          have HF := Lib.hid (next_rel HREL.out HO.out (by omega) hown1 hgr1)
          clear hown1 hgr1 hnil1 hown
          go_wp2_with fail
          go_roundw
          case rel => exact ⟨j + 1, by omega, by go_num, HF.out⟩
          case measure => simp [intOf]; omega
    · have u1 : decide (j < l.length) = false := decide_eq_false hlt
      have u2 : decide ((j : Int) < (l.length : Int)) = false := decide_eq_false (by omega)
      have hjl : j = l.length := by omega
      subst hjl
      obtain ⟨hown, hbw, hrng⟩ := hrel
      rw [List.take_length] at hown hrng
      obtain ⟨A2, c2, rfl, hc2⟩ := own_slice hown
      have hm := metas_of_row hown
      have HN := Lib.hid (next_any A2 l c2 k wr hk (by omega) hm hrng)
      have HW := Lib.hid (bl HB1.out hbw)
      have HRNG := Lib.hid hrng
      have hbd := mxI_bd k l 1073741824 (by omega) (fun o ho => (hrng o ho).2)
      have hgt := nextI_gt k l
      have hodd := nextI_odd k l
      have hge := fun o ho => mxI_ge l k o ho
      obtain ⟨n, hn⟩ : ∃ n, n = nextI k l := ⟨_, rfl⟩
      rw [← hn] at HN hgt hodd
      have hnb : 0 ≤ n ∧ n ≤ 1073741826 ∧ (k : Int) < n := by omega
      have HGE : Hid (∀ o ∈ l, o.1 < n) := Lib.hid (fun o ho => by have := hge o ho; omega)
      have HODD := Lib.hid hodd
      have HNN := Lib.hid hn
      clear hown hbw hrng hm hbd hgt hodd hge hn
      go_wp2_with fail
      refine HN.out.mono ?_
      rintro x w3 ⟨rfl, hb3⟩
      have HW3 := Lib.hid (bl HW.out hb3)
      clear hb3
      go_wp2_with fail
      go_loop [50] (fun i => ∃ m : Nat, m ≤ l.length ∧ i = .int .i64 m) (fun i => l.length - (intOf i).toNat)
      case atStart => exact ⟨0, Nat.zero_le _, rfl⟩
      case round =>
        obtain ⟨m, hm, rfl⟩ := hrel
        by_cases hlt2 : m < l.length
        · have u3 : decide (m < l.length) = true := decide_eq_true hlt2
          have u4 : decide ((m : Int) < (l.length : Int)) = true := decide_eq_true (by omega)
          obtain ⟨o, ho⟩ : ∃ o, l[m]? = some o := ⟨_, List.getElem?_eq_getElem hlt2⟩
          have hlt3 := HGE.out o (List.mem_of_getElem? ho)
          obtain ⟨e, r⟩ := o
          obtain ⟨g, off, rfl, h1, h2⟩ := HA.out m _ ho
          dsimp only at h1 h2 hlt3
          have c1 := (HW3.out.cell (World.block_lt_of_cell? w _ h1)).trans h1
          have v1 : decide (n ≤ e) = false := decide_eq_false (by omega)
          clear ho h1 h2
          go_wp2_with fail
          go_round
          case rel => exact ⟨m + 1, by omega, by go_num⟩
          case measure => simp [intOf]; omega
        · have u3 : decide (m < l.length) = false := decide_eq_false hlt2
          have u4 : decide ((m : Int) < (l.length : Int)) = false := decide_eq_false (by omega)
          have HRN : Hid (Calls Try.prog 22 #[.int .i64 (k : Int), .slice A l.length cap] w3 fun x w' => x = .returned (.int .i64 n) ∧ w3 = w') := Lib.hid (by rw [HNN.out]; exact rnext_any A l cap k w3 hk (by omega) (HA.out.below HW3.out) HRNG.out)
          have v1 : decide ((k : Int) < n) = true := decide_eq_true (by omega)
          have v2 : (n % 2 != (k : Int) % 2) = true := by rw [bne_iff_ne]; exact HODD.out
          have HS1 := Lib.hid (fun X => slot_any n X)
          have HS2 := Lib.hid (fun X => slot_any (k : Int) X)
          go_wp2_with fail
          refine HRN.out.mono ?_
          rintro x w4 ⟨rfl, rfl⟩
          go_wp2_with fail
          refine (HS1.out _).mono ?_
          rintro x w4 ⟨rfl, rfl⟩
          go_wp2_with fail
          refine (HS2.out _).mono ?_
          rintro x w4 ⟨rfl, rfl⟩
          go_wp2_with fail
          go_ret
          exact ⟨rfl, HW3.out⟩
theorem nextLaw_row (k : Int) (A : Option Addr) (l : List (Int × Int)) (cap : Nat) (w : World) (wk : (Lit.int .u16 k).wf = true) (hlc : l.length ≤ cap) (hcm : cap ≤ maxLen) (ha : MetasAt w A l) (hi : ∀ o ∈ l, I64 o.1 ∧ I64 o.2) :
    Calls Try.prog 8 #[.int .u16 k, .slice A l.length cap] w fun x w' => x = .returned (.bool true) ∧ Below w.heap.size w w' := by
  have e0 : IntKind.u16.min = 0 := rfl
  have e1 : IntKind.u16.max = 65535 := rfl
  have wk' := wk
  simp only [Lit.wf, Bool.and_eq_true, decide_eq_true_eq, e0, e1] at wk'
  obtain ⟨k, rfl⟩ : ∃ m : Nat, k = (m : Int) := ⟨k.toNat, by omega⟩
  exact nextLaw_any k A l cap w (by omega) hlc hcm ha hi
end Go.Proofs.Ytpjgmcoimniheaa.Mt
