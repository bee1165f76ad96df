/- meta.Newest, by a walk. -/
import Derived.Test.YtpgpphmpnebafaaGreatMsB
namespace Go.Proofs.YtpgpphmpnebafaaGreat.Mt
open Go.RowKit Go.Proofs.YtpgpphmpnebafaaGreat.By
set_option linter.unusedSimpArgs false
set_option linter.unusedVariables false
set_option maxRecDepth 100000

open Classical in
noncomputable def one (k : Int) (s : ByteArray) : List (Int × Int) := if decOk s ∧ (decV s : Int) % 2 = k then [((decV s : Int), (decR s : Int))] else []
noncomputable def both (sa sb : ByteArray) : Nat → List (Int × Int)
  | 0 => []
  | 1 => one 0 sa
  | _ => one 0 sa ++ one 1 sb
def sorted : List (Int × Int) → List (Int × Int)
  | [x, y] => if x.1 < y.1 then [y, x] else [x, y]
  | l => l
def NewRel (wb : World) (l : List (Int × Int)) (v : Value) (wr : World) : Prop := wr.ownsRow wb.heap.size 117 2 v l.length (metaCells l) ∧ Below wb.heap.size wb wr
theorem new_rel {wb wr w1 : World} {l : List (Int × Int)} {v v1 : Value} {o : Int × Int} {X Y : Obj} (h1 : wr.ownsRow wb.heap.size 117 2 v l.length (metaCells l)) (h2 : Below wb.heap.size wb wr) (hown : w1.ownsRow wb.heap.size 117 2 v1 (l.length + 1) (metaCells l ++ [.int .i64 o.1, .int .i64 o.2])) (hgr : ((wr.alloc X).alloc Y).grownBy w1 v.ownBlock) : NewRel wb (l ++ [o]) v1 w1 := by
  have hfrom : ∀ k, v.ownBlock = some k → wb.heap.size ≤ k := by
    intro k hk
    rcases h1.2 with ⟨hv, _⟩ | ⟨g, _, _, hv, hg', _⟩
    · rw [hv] at hk; simp [Value.ownBlock] at hk
    · rw [hv] at hk; have : g = k := by simpa [Value.ownBlock] using hk
      omega
  refine ⟨?_, (below_al (below_al h2 X) Y).grown hgr (by rw [World.size_alloc, World.size_alloc]; have := h2.size; omega) hfrom⟩
  rw [metaCells_snoc, List.length_append]
  exact hown
theorem new_block2 (w : World) (M S : Obj) : ((w.alloc M).alloc S).heap[w.heap.size + 1]? = some S := by
  have := new_block (w.alloc M) S
  rwa [World.size_alloc] at this
theorem both_few (sa sb : ByteArray) (j : Nat) : (both sa sb j).length ≤ 2 := by
  have h : ∀ k s, (one k s).length ≤ 1 := by intro k s; unfold one; split <;> simp
  have h0 := h 0 sa
  have h1 := h 1 sb
  unfold both
  split
  · simp
  · omega
  · rw [List.length_append]; omega
theorem both_two (sa sb : ByteArray) : (both sa sb 2).length ≤ 1 ∨ ∃ x y : Int × Int, both sa sb 2 = [x, y] ∧ x.1 ≠ y.1 := by
  rw [show both sa sb 2 = one 0 sa ++ one 1 sb from rfl]
  unfold one
  split
  · split
    · next h1 h2 => exact .inr ⟨_, _, rfl, by dsimp only; omega⟩
    · exact .inl (by simp)
  · split
    · exact .inl (by simp)
    · exact .inl (by simp)
theorem sorted_few {l : List (Int × Int)} (h : l.length ≤ 1) : sorted l = l := by
  match l, h with
  | [], _ => rfl
  | [x], _ => rfl
  | x :: y :: l, h => simp at h
theorem sorted_length (l : List (Int × Int)) : (sorted l).length = l.length := by
  unfold sorted
  split
  · split <;> rfl
  · rfl
theorem sort_all (A : Option Addr) (c base : Nat) (L : List (Int × Int)) (w : World) (hown : w.ownsRow base 117 2 (.slice A L.length c) L.length (metaCells L)) (hd : L.length ≤ 1 ∨ ∃ x y : Int × Int, L = [x, y] ∧ x.1 ≠ y.1) :
    Calls Tryz.prog 77 #[.slice A L.length c, .func (.func 78) #[] #[]] w fun x w' => x = .returned (.tuple #[]) ∧ MetasAt w' A (sorted L) ∧ Chg (base ≤ ·) w w' := by
  rcases hd with h | ⟨x, y, rfl, hne⟩
  · refine (sort_any A L.length c _ (fun w' => w = w') w (by omega) (insert_one A L.length c _ w h)).mono ?_
    rintro e w' ⟨he, rfl⟩
    exact ⟨he, by rw [sorted_few h]; exact metas_of_row hown, Chg.refl _ _⟩
  · rcases hown.2 with ⟨hv, h0⟩ | ⟨g, cap, cur, hv, hg, hh, h3, h4, h5, h6⟩
    · exact absurd h0 (by simp)
    · injection hv with hA hn hc
      subst hA
      subst hc
      have hat : ∀ (j : Nat) (u : Value), (metaCells [x, y])[j]? = some u → cur[j]? = some u := by
        intro j u hj
        rw [← Array.getElem?_toList]
        rw [← h6, List.getElem?_take] at hj
        split at hj
        · exact hj
        · cases hj
      have h3' : 2 ≤ c := h3
      have hsz : 4 ≤ cur.size := by omega
      by_cases hlt : x.1 < y.1
      · refine (sort_any (some ⟨g, 0, none⟩) 2 c _ _ w (by omega) (insert_two g c x.1 x.2 y.1 y.2 cur w hh (hat 0 _ rfl) (hat 1 _ rfl) (hat 2 _ rfl) (hat 3 _ rfl) h3' h4 hlt)).mono ?_
        rintro e w' ⟨he, hheap, hch⟩
        refine ⟨he, ?_, hch.mono (fun k hk => by rw [hk]; exact hg)⟩
        rw [show sorted [x, y] = [y, x] from if_pos hlt]
        intro k o hk
        refine ⟨g, 0, rfl, ?_⟩
        match k, hk with
        | 0, hk =>
          have : y = o := by simpa using hk
          subst this
          exact ⟨(cell_at hheap 0).trans (by simp [Array.getElem?_setIfInBounds]; first | omega | (intro h; rw [h] at hsz; simp at hsz)), (cell_at hheap 1).trans (by simp [Array.getElem?_setIfInBounds]; first | omega | (intro h; rw [h] at hsz; simp at hsz))⟩
        | 1, hk =>
          have : x = o := by simpa using hk
          subst this
          exact ⟨(cell_at hheap 2).trans (by simp [Array.getElem?_setIfInBounds]; first | omega | (intro h; rw [h] at hsz; simp at hsz)), (cell_at hheap 3).trans (by simp [Array.getElem?_setIfInBounds]; first | omega | (intro h; rw [h] at hsz; simp at hsz))⟩
        | k + 2, hk => simp at hk
      · refine (sort_any (some ⟨g, 0, none⟩) 2 c _ _ w (by omega) (insert_keep g c x.1 x.2 y.1 y.2 cur w hh (hat 0 _ rfl) (hat 1 _ rfl) (hat 2 _ rfl) (hat 3 _ rfl) h3' h4 (by omega))).mono ?_
        rintro e w' ⟨he, hb⟩
        refine ⟨he, ?_, Chg.of_below hb _⟩
        rw [show sorted [x, y] = [x, y] from if_neg hlt]
        exact (metas_of_row hown).below hb
set_option maxRecDepth 100000 in
set_option maxHeartbeats 2000000 in
theorem newest_any (Aa Ab : Option Addr) (ca cb : Nat) (sa sb : ByteArray) (w : World) (ha : RdB w Aa sa) (hb : RdB w Ab sb) (hsa : sa.size ≤ 1000000) (hsb : sb.size ≤ 1000000) (hca : Aa = none → ca = 0) (hcb : Ab = none → cb = 0) (hpa : ∀ ad, Aa = some ad → ad.spot = none) (hpb : ∀ ad, Ab = some ad → ad.spot = none) :
    Calls Tryz.prog 45 #[.slice Aa sa.size ca, .slice Ab sb.size cb] w fun x w' => ∃ A c, x = .returned (.slice A (sorted (both sa sb 2)).length c) ∧ MetasAt w' A (sorted (both sa sb 2)) ∧ (sorted (both sa sb 2)).length ≤ c ∧ c ≤ maxLen ∧ Below w.heap.size w w' := by
  obtain ⟨i0, hi0, hz0, hz1, hz2⟩ := info_parts infoMeta
  have HDA := Lib.hid (fun X (hX : Below w.heap.size w X) => decode_any Aa ca sa X (ha.below hX) hsa hca hpa)
  have HDB := Lib.hid (fun X (hX : Below w.heap.size w X) => decode_any Ab cb sb X (hb.below hX) hsb hcb hpb)
  clear ha hb hca hcb hpa hpb
  go_enter Tryz.func45, Tryz.ntmps45
  go_wp2_with fail
  obtain ⟨wb, hwb, HB1, HX⟩ : ∃ wb, w.alloc (.cells #[.slice Aa sa.size ca, .slice Ab sb.size cb] 22 (0, 0)) = wb ∧ Hid (Below w.heap.size w wb) ∧ Hid (wb.heap[w.heap.size]? = some (.cells #[.slice Aa sa.size ca, .slice Ab sb.size cb] 22 (0, 0))) := ⟨_, rfl, below_al (Below.refl _ _) _, new_block _ _⟩
  rw [hwb]
  clear hwb
  have HS0 : Hid (NewRel wb (both sa sb 0) (.slice none 0 0) wb) := Lib.hid ⟨World.ownsRow_nil _ _ _ _, Below.refl _ _⟩
  go_loopw [5, 14] (fun v i wr => ∃ j : Nat, j ≤ 2 ∧ i = .int .i64 j ∧ NewRel wb (both sa sb j) v wr) (fun _ i _ => 2 - (intOf i).toNat)
  case atStart => exact ⟨0, by omega, rfl, HS0.out⟩
  case round =>
    obtain ⟨j, hj, rfl, hrel⟩ := hrel
    by_cases hlt : j < 2
    · have u1 : decide (j < 2) = true := decide_eq_true hlt
      have u2 : decide ((j : Int) < 2) = true := decide_eq_true (by omega)
      obtain ⟨Ao, s, c, hcs, HD, hpre⟩ : ∃ (Ao : Option Addr) (s : ByteArray) (c : Nat), (#[Value.slice Aa sa.size ca, .slice Ab sb.size cb])[j]? = some (.slice Ao s.size c) ∧ Hid (∀ X, Below w.heap.size w X → Calls Tryz.prog 76 #[.slice Ao s.size c] X (DecPost X s)) ∧ both sa sb (j + 1) = both sa sb j ++ one j s := by
        rcases (by omega : j = 0 ∨ j = 1) with rfl | rfl
        · exact ⟨Aa, sa, ca, rfl, HDA, by simp [both]⟩
        · exact ⟨Ab, sb, cb, rfl, HDB, by simp [both]⟩
      have HW := Lib.hid (bl HB1.out hrel.2)
      have hwlt : w.heap.size < wb.heap.size := lt_of_some HX.out
      have c1 := (cell_at ((hrel.2.block _ hwlt).trans HX.out) j).trans hcs
      have hown := hrel.1
      have HBW := Lib.hid hrel.2
      have hl := hrel.1.1
      clear hrel hcs
      go_wp2_with fail
      refine (HD.out _ HW.out).mono ?_
      rintro x w1 ⟨hy, hno, hb1⟩
      have HW1 := Lib.hid (bl HW.out hb1)
      have HBW1 := Lib.hid (bl HBW.out hb1)
      have hown1 := own_below hown hb1
      clear hown hb1
      by_cases hok : decOk s
      · obtain rfl := hy hok
        clear hy hno
        have HSL := Lib.hid (fun X => slot_any (decV s : Int) X)
        by_cases hsl : (decV s : Int) % 2 = (j : Int)
        · have v1 : decide ((decV s : Int) % 2 = (j : Int)) = true := decide_eq_true hsl
          have v2 : ((decV s : Int) % 2 == (j : Int)) = true := by simpa using hsl
          have hone : one j s = [((decV s : Int), (decR s : Int))] := by unfold one; rw [if_pos ⟨hok, hsl⟩]
          clear hok hsl
          have hlen := both_few sa sb j
          have hbsz := HBW1.out.size
          go_wp2_with fail
          refine (HSL.out _).mono ?_
          rintro x w2 ⟨rfl, rfl⟩
          go_wp2_with (at_builtin; refine wpList_append_own _ rfl _ _ 39 rfl wb.heap.size 117 i0 (.agg #[.int .i64 0, .int .i64 0]) 2 16 Tryz.underlying39 hi0 hz0 hz1 hz2 rfl (by decide) u5 (both sa sb j).length (metaCells (both sa sb j)) rfl (own_below hown1 (below_al (below_al (Below.refl _ _) _) _)) ⟨w1.heap.size + 1, 0, none⟩ 1 1 [.int .i64 (decV s : Int), .int .i64 (decR s : Int)] rfl rfl (pair_news (new_block2 w1 _ _)) (fun u hu => by simp at hu; rcases hu with rfl | rfl <;> rfl) (by unfold maxLen; omega) (by omega) (by rw [World.size_alloc, World.size_alloc]; omega) ?_; intro v1' w1' hown2 hgr2 hnil2)
          have HF := Lib.hid (new_rel (o := ((decV s : Int), (decR s : Int))) hown1 HBW1.out hown2 hgr2)
          clear hown2 hgr2 hnil2 hown1
          go_wp2_with fail
          go_roundw
          case rel => exact ⟨j + 1, by omega, by go_num, by rw [hpre, hone]; exact HF.out⟩
          case measure => simp [intOf]; omega
        · have v1 : decide ((decV s : Int) % 2 = (j : Int)) = false := decide_eq_false hsl
          have v2 : ((decV s : Int) % 2 == (j : Int)) = false := by simpa using hsl
          have hone : one j s = [] := by unfold one; rw [if_neg (fun h => hsl h.2)]
          have HF : Hid (NewRel wb (both sa sb (j + 1)) u5 _) := Lib.hid (by rw [hpre, hone, List.append_nil]; exact ⟨own_below hown1 (below_al (Below.refl _ _) (.cells #[.int .i64 (decV s : Int), .int .i64 (decR s : Int)] 117 (0, 0))), below_al HBW1.out _⟩)
          clear hok hsl
          go_wp2_with fail
          refine (HSL.out _).mono ?_
          rintro x w2 ⟨rfl, rfl⟩
          go_wp2_with fail
          go_roundw
          case rel => exact ⟨j + 1, by omega, by go_num, HF.out⟩
          case measure => simp [intOf]; omega
      · obtain rfl := hno hok
        clear hy hno
        have hone : one j s = [] := by unfold one; rw [if_neg (fun h => hok h.1)]
        have HF : Hid (NewRel wb (both sa sb (j + 1)) u5 _) := Lib.hid (by rw [hpre, hone, List.append_nil]; exact ⟨own_below hown1 (below_al (Below.refl _ _) (.cells #[.int .i64 0, .int .i64 0] 117 (0, 0))), below_al HBW1.out _⟩)
        clear hok
        go_wp2_with fail
        go_roundw
        case rel => exact ⟨j + 1, by omega, by go_num, HF.out⟩
        case measure => simp [intOf]; omega
    · have u1 : decide (j < 2) = false := decide_eq_false hlt
      have u2 : decide ((j : Int) < 2) = false := decide_eq_false (by omega)
      have hj2 : j = 2 := by omega
      subst hj2
      clear hlt
      obtain ⟨hown, hbw⟩ := hrel
      obtain ⟨A2, c2, rfl, hc2⟩ := own_slice hown
      have hcm : c2 ≤ maxLen := by
        rcases hown.2 with ⟨hv, _⟩ | ⟨g, cap, cur, hv, _, _, _, h4, _⟩
        · injection hv with _ _ hc; subst hc; exact Nat.zero_le _
        · injection hv with _ _ hc; subst hc; exact h4
      have HS := Lib.hid (sort_all A2 c2 wb.heap.size (both sa sb 2) wr hown (both_two sa sb))
      have HW := Lib.hid hbw
      clear hown hbw
      go_wp2_with fail
      refine HS.out.mono ?_
      rintro x w3 ⟨rfl, hm, hch⟩
      have HM := Lib.hid hm
      have HB3 := Lib.hid (bl HB1.out (hch.below HW.out (fun k hk => hk) HW.out.size))
      clear hm hch
      go_wp2_with fail
      go_ret
      exact ⟨A2, c2, by rw [sorted_length]; rfl, HM.out, by rw [sorted_length]; exact hc2, hcm, HB3.out⟩
end Go.Proofs.YtpgpphmpnebafaaGreat.Mt
