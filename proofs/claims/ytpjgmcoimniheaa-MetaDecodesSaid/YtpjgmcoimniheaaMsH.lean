/- The law's list of the document's metas, by a walk. -/
import Derived.Test.YtpjgmcoimniheaaMsG
namespace Go.Proofs.Ytpjgmcoimniheaa.Mt
open Go.RowKit Go.Proofs.Ytpjgmcoimniheaa.By
set_option linter.unusedSimpArgs false
set_option linter.unusedVariables false

theorem infoRef : (Try.prog.info? 23).map (fun i => (i.zero, i.size, i.bytes)) = some (some (.agg #[.int .i64 0, .int .i64 0]), 2, 16) := by kernel_rfl
theorem refs_of_row {w : World} {base n : Nat} {A : Option Addr} {c : Nat} {l : List (Int × Int)} (h : w.ownsRow base 23 2 (.slice A n c) n (metaCells l)) : MetasAt w A l := by
  intro k o hk
  obtain ⟨h1, h2⟩ := metaCells_at l k o hk
  have hlt := (List.getElem?_eq_some_iff.1 h1).1
  rcases h.2 with ⟨hv, h0⟩ | ⟨g, cap, cur, hv, hg, hh, h3, h4, h5, h6⟩
  · have := h.1
    rw [h0] at this
    rw [this] at hlt
    omega
  · injection hv with hv
    subst hv
    have hc : ∀ (j : Nat) (u : Value), (metaCells l)[j]? = some u → w.cell? ⟨g, 0 + j, none⟩ = some u := by
      intro j u hj
      rw [Nat.zero_add, cell_at hh, ← Array.getElem?_toList]
      rw [← h6, List.getElem?_take] at hj
      split at hj
      · exact hj
      · cases hj
    exact ⟨g, 0, rfl, hc _ _ h1, by have := hc _ _ h2; rwa [show 0 + (k * 2 + 1) = 0 + k * 2 + 1 from by omega] at this⟩
def ListRel (wb : World) (l : List (Int × Int)) (j : Nat) (v : Value) (wr : World) : Prop := wr.ownsRow wb.heap.size 23 2 v j (metaCells (l.take j)) ∧ Below wb.heap.size wb wr
theorem list_rel {wb wr w1 : World} {l : List (Int × Int)} {j : Nat} {v v1 : Value} {e r : Int} {o : Obj} (h : ListRel wb l j v wr) (ho : l[j]? = some (e, r)) (hown : w1.ownsRow wb.heap.size 23 2 v1 (j + 1) (metaCells (l.take j) ++ [.int .i64 e, .int .i64 r])) (hgr : (wr.alloc o).grownBy w1 v.ownBlock) : ListRel wb l (j + 1) v1 w1 := by
  obtain ⟨h1, h2⟩ := h
  have hfrom : ∀ k, v.ownBlock = some k → wb.heap.size ≤ k := by
    intro k hk
    rcases h1.2 with ⟨hv, _⟩ | ⟨g, _, _, hv, hg', _⟩
    · rw [hv] at hk; simp [Value.ownBlock] at hk
    · rw [hv] at hk; have : g = k := by simpa [Value.ownBlock] using hk
      omega
  exact ⟨by rw [take_snoc _ _ _ ho, metaCells_snoc]; exact hown, (below_al h2 o).grown hgr (by rw [World.size_alloc]; have := h2.size; omega) hfrom⟩
set_option maxRecDepth 100000 in
set_option maxHeartbeats 2000000 in
theorem list_any (A : Option Addr) (l : List (Int × Int)) (cap : Nat) (w : World) (ha : MetasAt w A l) (hl : l.length ≤ 2) :
    Calls Try.prog 25 #[.slice A l.length cap] w fun x w' => ∃ A2 c2, x = .returned (.slice A2 l.length c2) ∧ MetasAt w' A2 l ∧ Below w.heap.size w w' := by
  obtain ⟨i0, hi0, hz0, hz1, hz2⟩ := info_parts infoRef
  have HA := Lib.hid ha
  clear ha
  go_enter Try.func25, Try.ntmps25
  have HS0 : Hid (ListRel w l 0 (.slice none 0 0) w) := Lib.hid ⟨World.ownsRow_nil _ _ _ _, Below.refl _ _⟩
  go_wp2_with fail
  go_loopw [3, 7] (fun v i wr => ∃ j : Nat, j ≤ l.length ∧ i = .int .i64 (j : Int) ∧ ListRel w l j v wr) (fun _ i _ => l.length - (intOf i).toNat)
  case atStart => exact ⟨0, Nat.zero_le _, rfl, HS0.out⟩
  case round =>
    obtain ⟨j, hj, rfl, hrel⟩ := hrel
    by_cases hlt : j < l.length
    · have t1 : decide (j < l.length) = true := decide_eq_true hlt
      have t2 : decide ((j : Int) < (l.length : Int)) = true := decide_eq_true (by omega)
      obtain ⟨o, ho⟩ : ∃ o, l[j]? = some o := ⟨_, List.getElem?_eq_getElem hlt⟩
      obtain ⟨e, r⟩ := o
      obtain ⟨g, off, rfl, h1, h2⟩ := HA.out j _ ho
      dsimp only at h1 h2
      have c1 := (hrel.2.cell (World.block_lt_of_cell? w _ h1)).trans h1
      have c2 := (hrel.2.cell (World.block_lt_of_cell? w _ h2)).trans h2
      have HREL := Lib.hid hrel
      have HO := Lib.hid ho
      have hown := hrel.1
      have hsz := hrel.2.size
      clear ho h1 h2 hrel
      go_wp2_with (at_builtin; refine wpList_append_own _ rfl _ _ 44 rfl w.heap.size 23 i0 (.agg #[.int .i64 0, .int .i64 0]) 2 16 Try.underlying44 hi0 hz0 hz1 hz2 rfl (by decide) u3 j (metaCells (l.take j)) rfl (own_below hown (below_al (Below.refl _ _) _)) ⟨wr.heap.size, 0, none⟩ 1 1 [.int .i64 e, .int .i64 r] rfl rfl (pair_news (new_block wr _)) (fun u hu => by simp at hu; rcases hu with rfl | rfl <;> rfl) (by unfold maxLen; omega) (by omega) (by rw [World.size_alloc]; omega) ?_; intro v1' w1' hown1 hgr1 hnil1)
      have HF := Lib.hid (list_rel HREL.out HO.out hown1 hgr1)
      clear hown1 hgr1 hnil1 hown
      go_wp2_with fail
      go_roundw
      case rel => exact ⟨j + 1, by omega, by go_num, HF.out⟩
      case measure => simp [intOf]; omega
    · have t1 : decide (j < l.length) = false := decide_eq_false hlt
      have t2 : decide ((j : Int) < (l.length : Int)) = false := decide_eq_false (by omega)
      have hjl : j = l.length := by omega
      subst hjl
      obtain ⟨hown, hbw⟩ := hrel
      rw [List.take_length] at hown
      obtain ⟨A2, c2, rfl, hc2⟩ := own_slice hown
      have HM := Lib.hid (refs_of_row hown)
      have HW := Lib.hid hbw
      clear hown hbw
      go_wp2_with fail
      go_ret
      exact ⟨A2, c2, rfl, HM.out, HW.out⟩
end Go.Proofs.Ytpjgmcoimniheaa.Mt
