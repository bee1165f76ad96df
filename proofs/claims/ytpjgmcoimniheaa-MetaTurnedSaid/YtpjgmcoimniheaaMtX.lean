/- The law of meta pages torn twice, by a walk. -/
import Derived.Test.YtpjgmcoimniheaaMtV
namespace Go.Proofs.Ytpjgmcoimniheaa.Mt
open Go.RowKit Go.Proofs.Ytpjgmcoimniheaa.By
set_option linter.unusedSimpArgs false
set_option linter.unusedVariables false

theorem box3_cells {w W : World} {a b c d e f : Value} {t u s : TypeId} (hb : Below (((w.alloc (.cells #[a, b] t)).alloc (.cells #[c, d] u)).alloc (.cells #[e, f] s)).heap.size (((w.alloc (.cells #[a, b] t)).alloc (.cells #[c, d] u)).alloc (.cells #[e, f] s)) W) : W.cell? ⟨w.heap.size, 0, none⟩ = some a ∧ W.cell? ⟨w.heap.size, 1, none⟩ = some b ∧ W.cell? ⟨w.heap.size + 1, 0, none⟩ = some c ∧ W.cell? ⟨w.heap.size + 1, 1, none⟩ = some d ∧ W.cell? ⟨w.heap.size + 1 + 1, 0, none⟩ = some e ∧ W.cell? ⟨w.heap.size + 1 + 1, 1, none⟩ = some f := by
  obtain ⟨h1, h2, h3, h4⟩ := box2_cells (box_below hb)
  have h5 := new_later hb
  rw [World.size_alloc, World.size_alloc] at h5
  exact ⟨h1, h2, h3, h4, cell_at h5 0, cell_at h5 1⟩
theorem cells6_below {w W : World} {a b c d e f : Addr} {v1 v2 v3 v4 v5 v6 : Value} (h : w.cell? a = some v1 ∧ w.cell? b = some v2 ∧ w.cell? c = some v3 ∧ w.cell? d = some v4 ∧ w.cell? e = some v5 ∧ w.cell? f = some v6) (hb : Below w.heap.size w W) : W.cell? a = some v1 ∧ W.cell? b = some v2 ∧ W.cell? c = some v3 ∧ W.cell? d = some v4 ∧ W.cell? e = some v5 ∧ W.cell? f = some v6 := by
  obtain ⟨h1, h2, h3, h4, h5, h6⟩ := h
  exact ⟨(hb.cell (World.block_lt_of_cell? w _ h1)).trans h1, (hb.cell (World.block_lt_of_cell? w _ h2)).trans h2, (hb.cell (World.block_lt_of_cell? w _ h3)).trans h3, (hb.cell (World.block_lt_of_cell? w _ h4)).trans h4, (hb.cell (World.block_lt_of_cell? w _ h5)).trans h5, (hb.cell (World.block_lt_of_cell? w _ h6)).trans h6⟩
theorem own_block {w : World} {base g c : Nat} {s : ByteArray} {n : Nat} (h : OwnB w base (.slice (some ⟨g, 0, none⟩) n c) s) : base ≤ g ∧ g < w.heap.size ∧ s.size ≤ c := by
  obtain ⟨g', c', cur, e, h1, h2, h3, h4, h5, h6⟩ := h
  injection e with e1 e2 e3
  injection e1 with e1
  injection e1 with e1
  subst e1 e3
  exact ⟨h1, lt_of_some h4, h2⟩
theorem own_open {w : World} {base g c : Nat} {s : ByteArray} {n : Nat} (h : OwnB w base (.slice (some ⟨g, 0, none⟩) n c) s) : ∃ cur : Array Value, base ≤ g ∧ s.size ≤ c ∧ c ≤ maxLen ∧ w.heap[g]? = some (.cells cur 5 (0, 0)) ∧ cur.size = c ∧ cur.toList.take s.size = Lib.strCells s := by
  obtain ⟨g', c', cur, e, h1, h2, h3, h4, h5, h6⟩ := h
  injection e with e1 e2 e3
  injection e1 with e1
  injection e1 with e1
  subst e1 e3
  exact ⟨cur, h1, h2, h3, h4, h5, h6⟩
set_option maxRecDepth 100000 in
set_option maxHeartbeats 4000000 in
theorem again_any (a b c d r : Int) (one two : Nat) (w : World) (hone : one < 65536) (htwo : two < 65536) :
    Calls Try.prog 6 #[.agg #[.int .i64 a, .int .i64 b], .agg #[.int .i64 c, .int .i64 d], .int .i64 r, .int .u16 (one : Int), .int .u16 (two : Int)] w fun x w' => x = .returned (.bool true) ∧ Below w.heap.size w w' := by
  have HR1 := Lib.hid (fun X => rright_any a b X)
  have HR2 := Lib.hid (fun X => rright_any c d X)
  have HR3 := Lib.hid (fun X => rright_any c r X)
  cases hr1 : rightB a b with
  | false =>
    rw [hr1] at HR1
    go_enter Try.func6, Try.ntmps6
    go_wp2_with fail
    refine (awake_any _).mono ?_
    rintro x w1 ⟨rfl, hb1⟩
    obtain ⟨c00, c01, c10, c11, c20, c21⟩ := box3_cells hb1
    have HB1 := Lib.hid (box_below (box_below (box_below hb1)))
    clear hb1
    go_wp2_with fail
    refine (HR1.out _).mono ?_
    rintro x w2 ⟨rfl, hb2⟩
    go_wp2_with fail
    refine (awake_any _).mono ?_
    rintro x w9 ⟨rfl, hb9⟩
    go_wp2_with fail
    go_ret
    exact ⟨rfl, bl (bl HB1.out hb2) hb9⟩
  | true =>
    cases hr2 : rightB c d with
    | false =>
      rw [hr1] at HR1
      rw [hr2] at HR2
      go_enter Try.func6, Try.ntmps6
      go_wp2_with fail
      refine (awake_any _).mono ?_
      rintro x w1 ⟨rfl, hb1⟩
      obtain ⟨c00, c01, c10, c11, c20, c21⟩ := box3_cells hb1
      have HB1 := Lib.hid (box_below (box_below (box_below hb1)))
      clear hb1
      go_wp2_with fail
      refine (HR1.out _).mono ?_
      rintro x w2 ⟨rfl, hb2⟩
      obtain ⟨d00, d01, d10, d11, d20, d21⟩ := cells6_below ⟨c00, c01, c10, c11, c20, c21⟩ hb2
      have HB2 := Lib.hid (bl HB1.out hb2)
      clear c00 c01 c10 c11 c20 c21 hb2
      go_wp2_with fail
      refine (HR2.out _).mono ?_
      rintro x w3 ⟨rfl, hb3⟩
      go_wp2_with fail
      refine (awake_any _).mono ?_
      rintro x w9 ⟨rfl, hb9⟩
      go_wp2_with fail
      go_ret
      exact ⟨rfl, bl (bl HB2.out hb3) hb9⟩
    | true =>
      cases hr3 : rightB c r with
      | false =>
        rw [hr1] at HR1
        rw [hr2] at HR2
        rw [hr3] at HR3
        go_enter Try.func6, Try.ntmps6
        go_wp2_with fail
        refine (awake_any _).mono ?_
        rintro x w1 ⟨rfl, hb1⟩
        obtain ⟨c00, c01, c10, c11, c20, c21⟩ := box3_cells hb1
        have HB1 := Lib.hid (box_below (box_below (box_below hb1)))
        clear hb1
        go_wp2_with fail
        refine (HR1.out _).mono ?_
        rintro x w2 ⟨rfl, hb2⟩
        obtain ⟨d00, d01, d10, d11, d20, d21⟩ := cells6_below ⟨c00, c01, c10, c11, c20, c21⟩ hb2
        have HB2 := Lib.hid (bl HB1.out hb2)
        clear c00 c01 c10 c11 c20 c21 hb2
        go_wp2_with fail
        refine (HR2.out _).mono ?_
        rintro x w3 ⟨rfl, hb3⟩
        obtain ⟨e00, e01, e10, e11, e20, e21⟩ := cells6_below ⟨d00, d01, d10, d11, d20, d21⟩ hb3
        have HB3 := Lib.hid (bl HB2.out hb3)
        clear d00 d01 d10 d11 d20 d21 hb3
        go_wp2_with fail
        refine (HR3.out _).mono ?_
        rintro x w4 ⟨rfl, hb4⟩
        go_wp2_with fail
        refine (awake_any _).mono ?_
        rintro x w9 ⟨rfl, hb9⟩
        go_wp2_with fail
        go_ret
        exact ⟨rfl, bl (bl HB3.out hb4) hb9⟩
      | true =>
        rw [hr1] at HR1
        rw [hr2] at HR2
        rw [hr3] at HR3
        by_cases hle : c ≤ a
        · have t1 : decide (c ≤ a) = true := decide_eq_true hle
          go_enter Try.func6, Try.ntmps6
          go_wp2_with fail
          refine (awake_any _).mono ?_
          rintro x w1 ⟨rfl, hb1⟩
          obtain ⟨c00, c01, c10, c11, c20, c21⟩ := box3_cells hb1
          have HB1 := Lib.hid (box_below (box_below (box_below hb1)))
          clear hb1
          go_wp2_with fail
          refine (HR1.out _).mono ?_
          rintro x w2 ⟨rfl, hb2⟩
          obtain ⟨d00, d01, d10, d11, d20, d21⟩ := cells6_below ⟨c00, c01, c10, c11, c20, c21⟩ hb2
          have HB2 := Lib.hid (bl HB1.out hb2)
          clear c00 c01 c10 c11 c20 c21 hb2
          go_wp2_with fail
          refine (HR2.out _).mono ?_
          rintro x w3 ⟨rfl, hb3⟩
          obtain ⟨e00, e01, e10, e11, e20, e21⟩ := cells6_below ⟨d00, d01, d10, d11, d20, d21⟩ hb3
          have HB3 := Lib.hid (bl HB2.out hb3)
          clear d00 d01 d10 d11 d20 d21 hb3
          go_wp2_with fail
          refine (HR3.out _).mono ?_
          rintro x w4 ⟨rfl, hb4⟩
          obtain ⟨f00, f01, f10, f11, f20, f21⟩ := cells6_below ⟨e00, e01, e10, e11, e20, e21⟩ hb4
          have HB4 := Lib.hid (bl HB3.out hb4)
          clear e00 e01 e10 e11 e20 e21 hb4
          go_wp2_with fail
          refine (awake_any _).mono ?_
          rintro x w9 ⟨rfl, hb9⟩
          go_wp2_with fail
          go_ret
          exact ⟨rfl, bl HB4.out hb9⟩
        · have t1 : decide (c ≤ a) = false := decide_eq_false hle
          obtain ⟨a, b, rfl, rfl⟩ := right_nat hr1
          obtain ⟨c, d, rfl, rfl⟩ := right_nat hr2
          obtain ⟨c', r, hc', rfl⟩ := right_nat hr3
          obtain rfl : c = c' := by omega
          clear hc'
          have hlt : a < c := by omega
          have HE1 := Lib.hid (fun X => encode_ok a b X hr1)
          have HE2 := Lib.hid (fun X => encode_ok c d X hr2)
          have HE3 := Lib.hid (fun X => encode_ok c r X hr3)
          have HLAW := Lib.hid (fun p q (hp : p ≤ 256) (hq : q ≤ 256) t (ht : t = _) => again_law hr1 hr2 hr3 hlt hp hq (t := t) ht)
          clear hr1 hr2 hr3
          go_enter Try.func6, Try.ntmps6
          go_wp2_with fail
          refine (awake_any _).mono ?_
          rintro x w1 ⟨rfl, hb1⟩
          obtain ⟨c00, c01, c10, c11, c20, c21⟩ := box3_cells hb1
          have HB1 := Lib.hid (box_below (box_below (box_below hb1)))
          clear hb1
          go_wp2_with fail
          refine (HR1.out _).mono ?_
          rintro x w2 ⟨rfl, hb2⟩
          obtain ⟨d00, d01, d10, d11, d20, d21⟩ := cells6_below ⟨c00, c01, c10, c11, c20, c21⟩ hb2
          have HB2 := Lib.hid (bl HB1.out hb2)
          clear c00 c01 c10 c11 c20 c21 hb2
          go_wp2_with fail
          refine (HR2.out _).mono ?_
          rintro x w3 ⟨rfl, hb3⟩
          obtain ⟨e00, e01, e10, e11, e20, e21⟩ := cells6_below ⟨d00, d01, d10, d11, d20, d21⟩ hb3
          have HB3 := Lib.hid (bl HB2.out hb3)
          clear d00 d01 d10 d11 d20 d21 hb3
          go_wp2_with fail
          refine (HR3.out _).mono ?_
          rintro x w4 ⟨rfl, hb4⟩
          obtain ⟨f00, f01, f10, f11, f20, f21⟩ := cells6_below ⟨e00, e01, e10, e11, e20, e21⟩ hb4
          have HB4 := Lib.hid (bl HB3.out hb4)
          clear e00 e01 e10 e11 e20 e21 hb4
          have hlow := World.block_lt_of_cell? _ _ f20
          have hlow : w.heap.size + 1 + 1 < w4.heap.size := hlow
          go_wp2_with fail
          refine (HE1.out _).mono ?_
          rintro x w5 ⟨v5, rfl, hv5, hb5⟩
          obtain ⟨g5, c5, rfl⟩ := hv5.shape (enc_size a b)
          have hs5 := hb5.size
          obtain ⟨h00, h01, h10, h11, h20, h21⟩ := cells6_below ⟨f00, f01, f10, f11, f20, f21⟩ hb5
          have HB5 := Lib.hid (bl HB4.out hb5)
          clear f00 f01 f10 f11 f20 f21 hb5
          go_wp2_with fail
          refine (HE2.out _).mono ?_
          rintro x w6 ⟨v6, rfl, hv6, hb6⟩
          obtain ⟨g6, c6, rfl⟩ := hv6.shape (enc_size c d)
          have hv56 := hv5.below hb6
          have hs6 := hb6.size
          obtain ⟨k00, k01, k10, k11, k20, k21⟩ := cells6_below ⟨h00, h01, h10, h11, h20, h21⟩ hb6
          have HB6 := Lib.hid (bl HB5.out hb6)
          clear h00 h01 h10 h11 h20 h21 hb6
          go_wp2_with fail
          refine (HE3.out _).mono ?_
          rintro x w7 ⟨v7, rfl, hv7, hb7⟩
          obtain ⟨g7, c7, rfl⟩ := hv7.shape (enc_size c r)
          have hv57 := hv56.below hb7
          have hv67 := hv6.below hb7
          have hs7 := hb7.size
          obtain ⟨l00, l01, l10, l11, l20, l21⟩ := cells6_below ⟨k00, k01, k10, k11, k20, k21⟩ hb7
          have HB7 := Lib.hid (bl HB6.out hb7)
          clear k00 k01 k10 k11 k20 k21 hb7
          have hlt5 := Lib.hid (⟨(own_block hv5).2.1, hs6, hs5, hs7⟩ : _ ∧ _ ∧ _ ∧ _)
          clear hv5 hv56 hv6
          rw [enc_eq] at hv57 hv67 hv7
          obtain ⟨g5', c5', cur, e5, hg5, hcap5, hcm5, hblk5, hcs5, htk5⟩ := hv57
          injection e5 with e51 e52 e53
          injection e51 with e51
          injection e51 with e51
          subst e51 e53
          clear e52
          rw [ofNats_size, encN_length] at hcap5 htk5
          have hg6 := own_block hv67
          have hg7 := own_block hv7
          rw [ofNats_size, encN_length] at hg6 hg7
          obtain ⟨hg61, hg62, hc6⟩ := hg6
          obtain ⟨hg71, hg72, hc7⟩ := hg7
          have hww4 : w4.heap.size ≤ g5 := hg5
          have hg5lt := lt_of_some hblk5
          have h67 : g5 < g7 := by
            have := hlt5.out
            omega
          obtain ⟨p, hp⟩ : ∃ p, p = one % 257 := ⟨_, rfl⟩
          have hrem : (one : Int) % 257 = (p : Int) := by omega
          have hp256 : p ≤ 256 := by omega
          obtain ⟨q, hq⟩ : ∃ q, q = two % 257 := ⟨_, rfl⟩
          have hrem2 : (two : Int) % 257 = (q : Int) := by omega
          have hq256 : q ≤ 256 := by omega
          clear hp hq
          have hblk5' : w7.heap[g5]? = some (.cells cur.toList.toArray 5 (0, 0)) := by rw [Array.toArray_toList]; exact hblk5
          have hcl : ((Lib.strCells (ofNats (encN c d))).take p).length = Nat.min p 256 := by rw [List.length_take, Lib.strCells_length, ofNats_size, encN_length]
          have hcl2 : ((Lib.strCells (ofNats (encN c d))).take p).length ≤ cur.toList.length := by rw [hcl, Array.length_toList, hcs5]; have : Nat.min p 256 ≤ 256 := Nat.min_le_right _ _; omega
          have hrp := RdB.prefix hv67.rds p
          have hone1 : ∀ v ∈ (Lib.strCells (ofNats (encN c d))).take p, v.oneCell' = true := fun v hv => Lib.strCells_oneCell _ v (List.mem_of_mem_take hv)
          have HMIX := Lib.hid (fun (w' : World) (h : w'.heap[g5]? = _) => own_mix (w' := w') (base := w4.heap.size) (g := g5) (c := c5) (cur := cur.toList) (encN_length c d) (encN_lt c d) (encN_lt a b) hp256 (encN_length a b) hg5 hcap5 hcm5 (by rw [Array.length_toList, hcs5]) htk5 h)
          have HV7 := Lib.hid hv7
          have HH := Lib.hid (⟨l00, l01, l10, l11, l20, l21⟩ : _ ∧ _ ∧ _ ∧ _ ∧ _ ∧ _)
          have HCL := Lib.hid hcl
          clear hv67 hv7 hcs5 htk5 hg5 hblk5 l00 l01 l10 l11 l20 l21 hcl
          go_upto_region 10 with ((with_reducible refine wpList_copy_row rfl _ _ 25 25 rfl 5 Try.underlying25 infoOne g5 256 c5 p c6 (some ⟨g6, 0, none⟩) (by simp [Act.eval]) (by simp [Act.eval]) cur.toList 5 hblk5' ((Lib.strCells (ofNats (encN c d))).take p) HCL.out hrp hcl2 hone1 ?_); intro w8 hch8 hsz8 hnew8)
          have hv8 := HMIX.out w8 hnew8
          obtain ⟨cur8, hb8, hcap8, hcm8, hblk8, hcs8, htk8⟩ := own_open hv8
          rw [ofNats_size, mix_length _ _ p (encN_length _ _) (encN_length _ _) hp256] at htk8
          have hblk8' : w8.heap[g5]? = some (.cells cur8.toList.toArray 5 (0, 0)) := by (rw [Array.toArray_toList]; exact hblk8)
          have hv78 := HV7.out.chg hch8 (fun k hk => by have h1 := hlt5.out; have h2 : k = g5 := hk; omega)
          have hrq := RdB.prefix hv78.rds q
          have HCLQ : Hid (((Lib.strCells (ofNats (encN c r))).take q).length = Nat.min q 256) := Lib.hid (by rw [List.length_take, Lib.strCells_length, ofNats_size, encN_length])
          have hclq : ((Lib.strCells (ofNats (encN c r))).take q).length ≤ cur8.toList.length := (by rw [HCLQ.out, Array.length_toList, hcs8]; have : Nat.min q 256 ≤ 256 := Nat.min_le_right _ _; omega)
          have hone2 : ∀ v ∈ (Lib.strCells (ofNats (encN c r))).take q, v.oneCell' = true := (fun v hv => Lib.strCells_oneCell _ v (List.mem_of_mem_take hv))
          have HMIX2 := Lib.hid (fun (w' : World) (h : w'.heap[g5]? = _) => own_mix (w' := w') (base := w4.heap.size) (g := g5) (c := c5) (cur := cur8.toList) (encN_length c r) (encN_lt c r) (mix_lt (p := p) (encN_lt c d) (encN_lt a b)) hq256 (mix_length _ _ p (encN_length c d) (encN_length a b) hp256) hb8 hcap5 hcm8 (by rw [Array.length_toList, hcs8]) htk8 h)
          clear hv8 hblk8 hcs8 htk8 hnew8 hv78
          go_wp2_with ((with_reducible refine wpList_copy_row rfl _ _ 25 25 rfl 5 Try.underlying25 infoOne g5 256 c5 q c7 (some ⟨g7, 0, none⟩) (by simp [Act.eval]) (by simp [Act.eval]) cur8.toList 5 hblk8' ((Lib.strCells (ofNats (encN c r))).take q) HCLQ.out hrq hclq hone2 ?_); intro w9 hch9 hsz9 hnew9)
          have hv9 := HMIX2.out w9 hnew9
          obtain ⟨t, ht⟩ : ∃ t, t = mix (encN c r) (mix (encN c d) (encN a b) p) q := ⟨_, rfl⟩
          have hmsz : (ofNats t).size = 256 := by rw [ht, ofNats_size, mix_length _ _ q (encN_length _ _) (mix_length _ _ p (encN_length _ _) (encN_length _ _) hp256) hq256]
          rw [← ht] at hv9
          have hdec := decode_any (some ⟨g5, 0, none⟩) c5 (ofNats t) w9 hv9.rds (by rw [hmsz]; decide) (fun h => by cases h) (fun ad h => by cases h; rfl)
          rw [hmsz] at hdec
          refine hdec.mono ?_
          rintro x w10 ⟨hyes, hno, hb10⟩
          have hfar : ∀ k, k < w4.heap.size → w9.heap[k]? = w7.heap[k]? := fun k hk => (hch9.block k (by have := hch8.size; omega) (by omega)).trans (hch8.block k (by omega) (by omega))
          obtain ⟨m00, m01, m10, m11, m20, m21⟩ := HH.out
          have hk9 : w9.cell? ⟨w.heap.size, 0, none⟩ = _ ∧ w9.cell? ⟨w.heap.size, 1, none⟩ = _ ∧ w9.cell? ⟨w.heap.size + 1, 0, none⟩ = _ ∧ w9.cell? ⟨w.heap.size + 1, 1, none⟩ = _ ∧ w9.cell? ⟨w.heap.size + 1 + 1, 0, none⟩ = _ ∧ w9.cell? ⟨w.heap.size + 1 + 1, 1, none⟩ = _ := ⟨(World.cell?_of_block (hfar w.heap.size (by omega))).trans m00, (World.cell?_of_block (hfar w.heap.size (by omega))).trans m01, (World.cell?_of_block (hfar (w.heap.size + 1) (by omega))).trans m10, (World.cell?_of_block (hfar (w.heap.size + 1) (by omega))).trans m11, (World.cell?_of_block (hfar (w.heap.size + 1 + 1) (by omega))).trans m20, (World.cell?_of_block (hfar (w.heap.size + 1 + 1) (by omega))).trans m21⟩
          obtain ⟨n00, n01, n10, n11, n20, n21⟩ := cells6_below hk9 hb10
          have q00 := fun X Y => cell_alloc (cell_alloc n00 X) Y
          have q01 := fun X Y => cell_alloc (cell_alloc n01 X) Y
          have q10 := fun X Y => cell_alloc (cell_alloc n10 X) Y
          have q11 := fun X Y => cell_alloc (cell_alloc n11 X) Y
          have q20 := fun X Y => cell_alloc (cell_alloc n20 X) Y
          have q21 := fun X Y => cell_alloc (cell_alloc n21 X) Y
          have HB10 := Lib.hid (bl (hch9.below (hch8.below HB7.out (fun k hk => by omega) HB7.out.size) (fun k hk => by omega) (Nat.le_trans HB7.out.size hch8.size)) hb10)
          have u1 : ((c : Int) == (a : Int)) = false := by rw [beq_eq_false_iff_ne]; omega
          have u2 : (c == a) = false := by rw [beq_eq_false_iff_ne]; omega
          have HT := Lib.hid ht
          clear hk9 hb10 hch9 hch8 hsz9 hsz8 hnew9 hv9 hdec hmsz n00 n01 n10 n11 n20 n21 m00 m01 m10 m11 m20 m21 hfar ht
          by_cases hok : decOk (ofNats t)
          · have hx := hyes hok
            subst hx
            rcases HLAW.out p q hp256 hq256 t HT.out hok with ⟨hV, hR⟩ | ⟨hV, hR⟩ | ⟨hV, hR⟩
            · rw [hV, hR]
              clear hV hR hyes hno hok
              go_wp2_with fail
              go_ret
              exact ⟨rfl, below_al (below_al HB10.out _) _⟩
            · rw [hV, hR]
              clear hV hR hyes hno hok
              go_wp2_with fail
              go_ret
              exact ⟨rfl, below_al (below_al HB10.out _) _⟩
            · rw [hV, hR]
              clear hV hR hyes hno hok
              by_cases hrd : r = d
              · subst hrd
                go_wp2_with fail
                go_ret
                exact ⟨rfl, below_al (below_al HB10.out _) _⟩
              · have u3 : ((r : Int) == (d : Int)) = false := by rw [beq_eq_false_iff_ne]; omega
                have u4 : (r == d) = false := by rw [beq_eq_false_iff_ne]; exact hrd
                go_wp2_with fail
                go_ret
                exact ⟨rfl, below_al (below_al HB10.out _) _⟩
          · have hx := hno hok
            subst hx
            clear hyes hno hok
            go_wp2_with fail
            go_ret
            exact ⟨rfl, below_al (below_al HB10.out _) _⟩
theorem again_row (o1 o2 : Int × Int) (r one two : Int) (w : World) (w1 : (Lit.int .u16 one).wf = true) (w2 : (Lit.int .u16 two).wf = true) :
    Calls Try.prog 6 #[.agg #[.int .i64 o1.1, .int .i64 o1.2], .agg #[.int .i64 o2.1, .int .i64 o2.2], .int .i64 r, .int .u16 one, .int .u16 two] w fun x w' => x = .returned (.bool true) ∧ Below w.heap.size w w' := by
  obtain ⟨p, rfl, hp⟩ := u16_nat w1
  obtain ⟨q, rfl, hq⟩ := u16_nat w2
  exact again_any _ _ _ _ _ p q w hp hq
end Go.Proofs.Ytpjgmcoimniheaa.Mt
