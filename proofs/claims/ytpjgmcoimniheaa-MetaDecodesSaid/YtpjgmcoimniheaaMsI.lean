/- The document's Newest, by a walk. -/
import Derived.Test.YtpjgmcoimniheaaMsH
namespace Go.Proofs.Ytpjgmcoimniheaa.Mt
open Go.RowKit Go.Proofs.Ytpjgmcoimniheaa.By
set_option linter.unusedSimpArgs false
set_option linter.unusedVariables false

theorem dec_out {w w' : World} {s : ByteArray} {x : Ending} (h : DecPost w s x w') : ∃ v r f : Int, x = .returned (.tuple #[.agg #[.int .i64 v, .int .i64 r], .int .i64 f]) ∧ (f = 0 ∨ f = 3) ∧ (0 ≤ v ∧ v ≤ 1073741824) ∧ (∀ k, one k s = if f = 0 ∧ v % 2 = k then [(v, r)] else []) ∧ Below w.heap.size w w' := by
  obtain ⟨hy, hn, hb⟩ := h
  by_cases hok : decOk s
  · refine ⟨_, _, _, hy hok, .inl rfl, ?_, ?_, hb⟩
    · have := (right_lt hok.2.1).1
      omega
    · intro k
      unfold one
      by_cases hk : (decV s : Int) % 2 = k
      · rw [if_pos ⟨hok, hk⟩, if_pos ⟨rfl, hk⟩]
      · rw [if_neg (fun h => hk h.2), if_neg (fun h => hk h.2)]
  · refine ⟨_, _, _, hn hok, .inr rfl, by omega, ?_, hb⟩
    intro k
    unfold one
    rw [if_neg (fun h => hok h.1), if_neg (fun h => by have := h.1; omega)]
theorem refs_two (w : World) (a b c d : Int) : MetasAt (w.alloc (.cells #[.int .i64 a, .int .i64 b, .int .i64 c, .int .i64 d] 23 (0, 0))) (some ⟨w.heap.size, 0, none⟩) [(a, b), (c, d)] := by
  have h := new_block w (.cells #[.int .i64 a, .int .i64 b, .int .i64 c, .int .i64 d] 23 (0, 0))
  intro k o hk
  match k, hk with
  | 0, hk => obtain rfl : (a, b) = o := by simpa using hk
             exact ⟨_, _, rfl, cell_at h 0, cell_at h 1⟩
  | 1, hk => obtain rfl : (c, d) = o := by simpa using hk
             exact ⟨_, _, rfl, cell_at h 2, cell_at h 3⟩
  | k + 2, hk => simp at hk
theorem own_from2 {w : World} {base e size n : Nat} {v : Value} {xs : List Value} (h : w.ownsRow base e size v n xs) : ∀ k, v.ownBlock = some k → base ≤ k := by
  intro k hk
  rcases h.2 with ⟨hv, _⟩ | ⟨g, _, _, hv, hg', _⟩
  · rw [hv] at hk; simp [Value.ownBlock] at hk
  · rw [hv] at hk; have : g = k := by simpa [Value.ownBlock] using hk
    omega
def RNewPost (w : World) (L : List (Int × Int)) (x : Ending) (w' : World) : Prop := ∃ A c, x = .returned (.slice A L.length c) ∧ MetasAt w' A L ∧ Below w.heap.size w w'
theorem rnew_mk {w w' : World} {A : Option Addr} {c : Nat} {L : List (Int × Int)} (L' : List (Int × Int)) (h : L = L') (hm : MetasAt w' A L') (hb : Below w.heap.size w w') : RNewPost w L (.returned (.slice A L'.length c)) w' := by subst h; exact ⟨_, _, rfl, hm, hb⟩
theorem rnew_none {w w' : World} {L : List (Int × Int)} (h : L = []) (hb : Below w.heap.size w w') : RNewPost w L (.returned (.slice none 0 0)) w' := by subst h; exact ⟨none, 0, rfl, (by intro k o hk; simp at hk), hb⟩
set_option maxRecDepth 100000 in
set_option maxHeartbeats 2000000 in
theorem rnewest_any (sa sb : ByteArray) (w : World) (hsa : sa.size ≤ 1000000) (hsb : sb.size ≤ 1000000) :
    Calls Try.prog 27 #[.string sa, .string sb] w (RNewPost w (sorted (both sa sb 2))) := by
  obtain ⟨i0, hi0, hz0, hz1, hz2⟩ := info_parts infoRef
  have HDA := Lib.hid (fun X => rdecode_any sa X hsa)
  have HDB := Lib.hid (fun X => rdecode_any sb X hsb)
  go_enter Try.func27, Try.ntmps27
  go_wp2_with fail
  refine (HDA.out _).mono ?_
  intro x w1 hd
  obtain ⟨va, ra, fa, rfl, hfa, hva, hone, hb1⟩ := dec_out hd
  have HOA := Lib.hid (hone 0)
  clear hd hone
  go_wp2_with fail
  refine (HDB.out _).mono ?_
  intro x w2 hd
  obtain ⟨vb, rb, fb, rfl, hfb, hvb, hone, hb2⟩ := dec_out hd
  have HOB := Lib.hid (hone 1)
  clear hd hone
  have hA2 := new_later hb2
  have h12 : w1.heap.size < w2.heap.size := lt_of_some hA2
  have hA3 := ((below_al (Below.refl _ w2) (.cells #[.int .i64 vb, .int .i64 rb] 23 (0, 0))).block _ h12).trans hA2
  have a0 := cell_at hA3 0
  have a1 := cell_at hA3 1
  have HB2 := Lib.hid (below_al (bl hb1 (box_below hb2)) (.cells #[.int .i64 vb, .int .i64 rb] 23 (0, 0)))
  have HA3 := Lib.hid hA3
  clear hA2 hA3 hb1 hb2
  have HSA := Lib.hid (fun X => rslot_any va X (by omega) (by omega))
  have HSB := Lib.hid (fun X => rslot_any vb X (by omega) (by omega))
  rcases (by omega : (fa = 0 ∧ va % 2 = 0) ∨ (fa = 0 ∧ va % 2 = 1) ∨ fa = 3) with ⟨rfl, pa⟩ | ⟨rfl, pa⟩ | rfl <;> rcases (by omega : (fb = 0 ∧ vb % 2 = 1) ∨ (fb = 0 ∧ vb % 2 = 0) ∨ fb = 3) with ⟨rfl, pb⟩ | ⟨rfl, pb⟩ | rfl <;> (try simp only [pa] at HSA) <;> (try simp only [pb] at HSB)
  · go_wp2_with fail
    refine (HSA.out _).mono ?_
    rintro x w9 ⟨rfl, rfl⟩
    go_wp2_with (at_builtin; refine wpList_append_own _ rfl _ _ 44 rfl w.heap.size 23 i0 (.agg #[.int .i64 0, .int .i64 0]) 2 16 Try.underlying44 hi0 hz0 hz1 hz2 rfl (by decide) (.slice none 0 0) 0 [] rfl (World.ownsRow_nil _ _ _ _) ⟨w2.heap.size + 1, 0, none⟩ 1 1 [.int .i64 va, .int .i64 ra] rfl rfl (pair_news (new_block2 w2 _ _)) (fun u hu => by simp at hu; rcases hu with rfl | rfl <;> rfl) (by unfold maxLen; omega) (by omega) (below_al HB2.out (.cells #[.int .i64 va, .int .i64 ra] 23 (0, 0))).size ?_; intro v1 w4 hown1 hgr1 hnil1; have hB4 := (hgr1.block w2.heap.size (by rw [World.size_alloc, World.size_alloc]; omega) (fun e => by simp [Value.ownBlock] at e)).trans (new_later (below_al (Below.refl _ _) _)); have b40 := cell_at hB4 0; have b41 := cell_at hB4 1)
    refine (HSB.out _).mono ?_
    rintro x w9 ⟨rfl, rfl⟩
    have hA4 := (hgr1.block w1.heap.size (by rw [World.size_alloc, World.size_alloc]; omega) (fun e => by simp [Value.ownBlock] at e)).trans (((below_al (Below.refl _ (w2.alloc (.cells #[.int .i64 vb, .int .i64 rb] 23 (0, 0)))) _).block w1.heap.size (by rw [World.size_alloc]; omega)).trans HA3.out)
    have a40 := cell_at hA4 0
    have a41 := cell_at hA4 1
    have hown2 : w4.ownsRow w.heap.size 23 2 v1 [(va, ra)].length (metaCells [(va, ra)]) := hown1
    have HB4 := Lib.hid ((below_al HB2.out (.cells #[.int .i64 va, .int .i64 ra] 23 (0, 0))).grown hgr1 (below_al HB2.out _).size (fun k hk => by simp [Value.ownBlock] at hk))
    obtain ⟨A2, c2, rfl, hc2⟩ := own_slice hown2
    have HO2 := Lib.hid hown2
    have hbt : both sa sb 2 = [(va, ra), (vb, rb)] := by
      show one 0 sa ++ one 1 sb = _
      rw [HOA.out, HOB.out]; simp [*]
    have HBT := Lib.hid hbt
    clear hown1 hown2 hgr1 hnil1 hbt
    by_cases hlt : va < vb
    · have y1 : decide (va < vb) = true := decide_eq_true hlt
      have hs : sorted (both sa sb 2) = [(vb, rb), (va, ra)] := by rw [HBT.out]; exact if_pos hlt
      have HSR := Lib.hid hs
      clear hs hlt
      go_wp2_with fail
      go_ret
      exact rnew_mk [(vb, rb), (va, ra)] HSR.out (refs_two w4 vb rb va ra) (below_al HB4.out _)
    · have y1 : decide (va < vb) = false := decide_eq_false hlt
      have hown3 := HO2.out
      go_wp2_with (at_builtin; refine wpList_append_own _ rfl _ _ 44 rfl w.heap.size 23 i0 (.agg #[.int .i64 0, .int .i64 0]) 2 16 Try.underlying44 hi0 hz0 hz1 hz2 rfl (by decide) (.slice A2 1 c2) 1 (metaCells [(va, ra)]) rfl (own_below hown3 (below_al (Below.refl _ _) _)) ⟨w4.heap.size, 0, none⟩ 1 1 [.int .i64 vb, .int .i64 rb] rfl rfl (pair_news (new_block w4 _)) (fun u hu => by simp at hu; rcases hu with rfl | rfl <;> rfl) (by unfold maxLen; omega) (by omega) (below_al HB4.out (.cells #[.int .i64 vb, .int .i64 rb] 23 (0, 0))).size ?_; intro v5 w5 hown5 hgr5 hnil5)
      have hown6 : w5.ownsRow w.heap.size 23 2 v5 [(va, ra), (vb, rb)].length (metaCells [(va, ra), (vb, rb)]) := hown5
      have HB5 := Lib.hid ((below_al HB4.out (.cells #[.int .i64 vb, .int .i64 rb] 23 (0, 0))).grown hgr5 (below_al HB4.out _).size (own_from2 hown3))
      have hs : sorted (both sa sb 2) = [(va, ra), (vb, rb)] := by rw [HBT.out]; exact if_neg (by dsimp only; omega)
      obtain ⟨A5, c5, rfl, hc5⟩ := own_slice hown6
      go_ret
      exact rnew_mk [(va, ra), (vb, rb)] hs (refs_of_row hown6) HB5.out
  · go_wp2_with fail
    refine (HSA.out _).mono ?_
    rintro x w9 ⟨rfl, rfl⟩
    go_wp2_with (at_builtin; refine wpList_append_own _ rfl _ _ 44 rfl w.heap.size 23 i0 (.agg #[.int .i64 0, .int .i64 0]) 2 16 Try.underlying44 hi0 hz0 hz1 hz2 rfl (by decide) (.slice none 0 0) 0 [] rfl (World.ownsRow_nil _ _ _ _) ⟨w2.heap.size + 1, 0, none⟩ 1 1 [.int .i64 va, .int .i64 ra] rfl rfl (pair_news (new_block2 w2 _ _)) (fun u hu => by simp at hu; rcases hu with rfl | rfl <;> rfl) (by unfold maxLen; omega) (by omega) (below_al HB2.out (.cells #[.int .i64 va, .int .i64 ra] 23 (0, 0))).size ?_; intro v1 w4 hown1 hgr1 hnil1; have hB4 := (hgr1.block w2.heap.size (by rw [World.size_alloc, World.size_alloc]; omega) (fun e => by simp [Value.ownBlock] at e)).trans (new_later (below_al (Below.refl _ _) _)); have b40 := cell_at hB4 0; have b41 := cell_at hB4 1)
    refine (HSB.out _).mono ?_
    rintro x w9 ⟨rfl, rfl⟩
    have hown2 : w4.ownsRow w.heap.size 23 2 v1 [(va, ra)].length (metaCells [(va, ra)]) := hown1
    have HB4 := Lib.hid ((below_al HB2.out (.cells #[.int .i64 va, .int .i64 ra] 23 (0, 0))).grown hgr1 (below_al HB2.out _).size (fun k hk => by simp [Value.ownBlock] at hk))
    obtain ⟨A2, c2, rfl, hc2⟩ := own_slice hown2
    have HO2 := Lib.hid hown2
    clear hown1 hown2 hgr1 hnil1
    go_wp2_with fail
    have hbt : both sa sb 2 = [(va, ra)] := by
      show one 0 sa ++ one 1 sb = _
      rw [HOA.out, HOB.out]; simp [*]
    go_ret
    exact rnew_mk [(va, ra)] (by rw [hbt]; rfl) (refs_of_row HO2.out) HB4.out
  · go_wp2_with fail
    refine (HSA.out _).mono ?_
    rintro x w9 ⟨rfl, rfl⟩
    go_wp2_with (at_builtin; refine wpList_append_own _ rfl _ _ 44 rfl w.heap.size 23 i0 (.agg #[.int .i64 0, .int .i64 0]) 2 16 Try.underlying44 hi0 hz0 hz1 hz2 rfl (by decide) (.slice none 0 0) 0 [] rfl (World.ownsRow_nil _ _ _ _) ⟨w2.heap.size + 1, 0, none⟩ 1 1 [.int .i64 va, .int .i64 ra] rfl rfl (pair_news (new_block2 w2 _ _)) (fun u hu => by simp at hu; rcases hu with rfl | rfl <;> rfl) (by unfold maxLen; omega) (by omega) (below_al HB2.out (.cells #[.int .i64 va, .int .i64 ra] 23 (0, 0))).size ?_; intro v1 w4 hown1 hgr1 hnil1; have hB4 := (hgr1.block w2.heap.size (by rw [World.size_alloc, World.size_alloc]; omega) (fun e => by simp [Value.ownBlock] at e)).trans (new_later (below_al (Below.refl _ _) _)); have b40 := cell_at hB4 0; have b41 := cell_at hB4 1)
    have hown2 : w4.ownsRow w.heap.size 23 2 v1 [(va, ra)].length (metaCells [(va, ra)]) := hown1
    have HB4 := Lib.hid ((below_al HB2.out (.cells #[.int .i64 va, .int .i64 ra] 23 (0, 0))).grown hgr1 (below_al HB2.out _).size (fun k hk => by simp [Value.ownBlock] at hk))
    obtain ⟨A2, c2, rfl, hc2⟩ := own_slice hown2
    have HO2 := Lib.hid hown2
    clear hown1 hown2 hgr1 hnil1
    have hbt : both sa sb 2 = [(va, ra)] := by
      show one 0 sa ++ one 1 sb = _
      rw [HOA.out, HOB.out]; simp [*]
    go_ret
    exact rnew_mk [(va, ra)] (by rw [hbt]; rfl) (refs_of_row HO2.out) HB4.out
  · go_wp2_with fail
    refine (HSA.out _).mono ?_
    rintro x w9 ⟨rfl, rfl⟩
    go_wp2_with fail
    refine (HSB.out _).mono ?_
    rintro x w9 ⟨rfl, rfl⟩
    go_wp2_with (at_builtin; refine wpList_append_own _ rfl _ _ 44 rfl w.heap.size 23 i0 (.agg #[.int .i64 0, .int .i64 0]) 2 16 Try.underlying44 hi0 hz0 hz1 hz2 rfl (by decide) (.slice none 0 0) 0 [] rfl (World.ownsRow_nil _ _ _ _) ⟨w2.heap.size + 1, 0, none⟩ 1 1 [.int .i64 vb, .int .i64 rb] rfl rfl (pair_news (new_block2 w2 _ _)) (fun u hu => by simp at hu; rcases hu with rfl | rfl <;> rfl) (by unfold maxLen; omega) (by omega) (below_al HB2.out (.cells #[.int .i64 vb, .int .i64 rb] 23 (0, 0))).size ?_; intro v1 w4 hown1 hgr1 hnil1)
    have hown2 : w4.ownsRow w.heap.size 23 2 v1 [(vb, rb)].length (metaCells [(vb, rb)]) := hown1
    have HB4 := Lib.hid ((below_al HB2.out (.cells #[.int .i64 vb, .int .i64 rb] 23 (0, 0))).grown hgr1 (below_al HB2.out _).size (fun k hk => by simp [Value.ownBlock] at hk))
    obtain ⟨A2, c2, rfl, hc2⟩ := own_slice hown2
    have HO2 := Lib.hid hown2
    clear hown1 hown2 hgr1 hnil1
    go_wp2_with fail
    have hbt : both sa sb 2 = [(vb, rb)] := by
      show one 0 sa ++ one 1 sb = _
      rw [HOA.out, HOB.out]; simp [*]
    go_ret
    exact rnew_mk [(vb, rb)] (by rw [hbt]; rfl) (refs_of_row HO2.out) HB4.out
  · go_wp2_with fail
    refine (HSA.out _).mono ?_
    rintro x w9 ⟨rfl, rfl⟩
    go_wp2_with fail
    refine (HSB.out _).mono ?_
    rintro x w9 ⟨rfl, rfl⟩
    go_wp2_with fail
    have hbt : both sa sb 2 = [] := by
      show one 0 sa ++ one 1 sb = []
      rw [HOA.out, HOB.out]; simp [*]
    go_ret
    exact rnew_none (by rw [hbt]; rfl) HB2.out
  · go_wp2_with fail
    refine (HSA.out _).mono ?_
    rintro x w9 ⟨rfl, rfl⟩
    go_wp2_with fail
    have hbt : both sa sb 2 = [] := by
      show one 0 sa ++ one 1 sb = []
      rw [HOA.out, HOB.out]; simp [*]
    go_ret
    exact rnew_none (by rw [hbt]; rfl) HB2.out
  · go_wp2_with fail
    refine (HSB.out _).mono ?_
    rintro x w9 ⟨rfl, rfl⟩
    go_wp2_with (at_builtin; refine wpList_append_own _ rfl _ _ 44 rfl w.heap.size 23 i0 (.agg #[.int .i64 0, .int .i64 0]) 2 16 Try.underlying44 hi0 hz0 hz1 hz2 rfl (by decide) (.slice none 0 0) 0 [] rfl (World.ownsRow_nil _ _ _ _) ⟨w2.heap.size + 1, 0, none⟩ 1 1 [.int .i64 vb, .int .i64 rb] rfl rfl (pair_news (new_block2 w2 _ _)) (fun u hu => by simp at hu; rcases hu with rfl | rfl <;> rfl) (by unfold maxLen; omega) (by omega) (below_al HB2.out (.cells #[.int .i64 vb, .int .i64 rb] 23 (0, 0))).size ?_; intro v1 w4 hown1 hgr1 hnil1)
    have hown2 : w4.ownsRow w.heap.size 23 2 v1 [(vb, rb)].length (metaCells [(vb, rb)]) := hown1
    have HB4 := Lib.hid ((below_al HB2.out (.cells #[.int .i64 vb, .int .i64 rb] 23 (0, 0))).grown hgr1 (below_al HB2.out _).size (fun k hk => by simp [Value.ownBlock] at hk))
    obtain ⟨A2, c2, rfl, hc2⟩ := own_slice hown2
    have HO2 := Lib.hid hown2
    clear hown1 hown2 hgr1 hnil1
    go_wp2_with fail
    have hbt : both sa sb 2 = [(vb, rb)] := by
      show one 0 sa ++ one 1 sb = _
      rw [HOA.out, HOB.out]; simp [*]
    go_ret
    exact rnew_mk [(vb, rb)] (by rw [hbt]; rfl) (refs_of_row HO2.out) HB4.out
  · go_wp2_with fail
    refine (HSB.out _).mono ?_
    rintro x w9 ⟨rfl, rfl⟩
    go_wp2_with fail
    have hbt : both sa sb 2 = [] := by
      show one 0 sa ++ one 1 sb = []
      rw [HOA.out, HOB.out]; simp [*]
    go_ret
    exact rnew_none (by rw [hbt]; rfl) HB2.out
  · go_wp2_with fail
    have hbt : both sa sb 2 = [] := by
      show one 0 sa ++ one 1 sb = []
      rw [HOA.out, HOB.out]; simp [*]
    go_ret
    exact rnew_none (by rw [hbt]; rfl) HB2.out
end Go.Proofs.Ytpjgmcoimniheaa.Mt
