/- The laws of torn meta pages, by walks. -/
import Derived.Test.YtpjgmcoimniheaaMtU
namespace Go.Proofs.Ytpjgmcoimniheaa.Mt
open Go.RowKit Go.Proofs.Ytpjgmcoimniheaa.By
set_option linter.unusedSimpArgs false
set_option linter.unusedVariables false

theorem box2_cells {w W : World} {a b c d : Value} {t u : TypeId} (hb : Below ((w.alloc (.cells #[a, b] t)).alloc (.cells #[c, d] u)).heap.size ((w.alloc (.cells #[a, b] t)).alloc (.cells #[c, d] u)) W) : W.cell? ⟨w.heap.size, 0, none⟩ = some a ∧ W.cell? ⟨w.heap.size, 1, none⟩ = some b ∧ W.cell? ⟨w.heap.size + 1, 0, none⟩ = some c ∧ W.cell? ⟨w.heap.size + 1, 1, none⟩ = some d := by
  have h1 := new_later (box_below hb)
  have h2 := new_later hb
  rw [World.size_alloc] at h2
  exact ⟨cell_at h1 0, cell_at h1 1, cell_at h2 0, cell_at h2 1⟩
theorem cells4_below {w W : World} {a b c d : Addr} {v1 v2 v3 v4 : Value} (h : w.cell? a = some v1 ∧ w.cell? b = some v2 ∧ w.cell? c = some v3 ∧ w.cell? d = some v4) (hb : Below w.heap.size w W) : W.cell? a = some v1 ∧ W.cell? b = some v2 ∧ W.cell? c = some v3 ∧ W.cell? d = some v4 :=
  ⟨(hb.cell (World.block_lt_of_cell? w _ h.1)).trans h.1, (hb.cell (World.block_lt_of_cell? w _ h.2.1)).trans h.2.1, (hb.cell (World.block_lt_of_cell? w _ h.2.2.1)).trans h.2.2.1, (hb.cell (World.block_lt_of_cell? w _ h.2.2.2)).trans h.2.2.2⟩
theorem RdB.prefix {w : World} {g : Nat} {s : ByteArray} (h : RdB w (some ⟨g, 0, none⟩) s) (p : Nat) : 0 < ((Lib.strCells s).take p).length → ∃ ad, some (⟨g, 0, none⟩ : Addr) = some ad ∧ ∀ (j : Nat) (v : Value), ((Lib.strCells s).take p)[j]? = some v → w.cell? (ad.add j) = some v := by
  intro hp
  obtain ⟨ad, he, hc⟩ := h (by rw [List.length_take, Lib.strCells_length] at hp; omega)
  refine ⟨ad, he, fun j v hj => hc j v ?_⟩
  rw [List.getElem?_take] at hj
  split at hj
  · exact hj
  · cases hj
set_option maxRecDepth 100000 in
set_option maxHeartbeats 2000000 in
theorem torn_any (a b c d : Int) (part : Nat) (w : World) (hpart : part < 65536) :
    Calls Try.prog 5 #[.agg #[.int .i64 a, .int .i64 b], .agg #[.int .i64 c, .int .i64 d], .int .u16 (part : Int)] w fun x w' => x = .returned (.bool true) ∧ Below w.heap.size w w' := by
  have HR1 := Lib.hid (fun X => rright_any a b X)
  have HR2 := Lib.hid (fun X => rright_any c d X)
  cases hr1 : rightB a b with
  | false =>
    rw [hr1] at HR1
    go_enter Try.func5, Try.ntmps5
    go_wp2_with fail
    refine (awake_any _).mono ?_
    rintro x w1 ⟨rfl, hb1⟩
    obtain ⟨c00, c01, c10, c11⟩ := box2_cells hb1
    have HB1 := Lib.hid (box_below (box_below hb1))
    clear hb1
    go_wp2_with fail
    refine (HR1.out _).mono ?_
    rintro x w2 ⟨rfl, hb2⟩
    go_wp2_with fail
    refine (awake_any _).mono ?_
    rintro x w9 ⟨rfl, hb9⟩
    go_wp2_with fail
    go_ret
    exact ⟨rfl, bl (bl HB1.out hb2) hb9⟩
  | true =>
    cases hr2 : rightB c d with
    | false =>
      rw [hr1] at HR1
      rw [hr2] at HR2
      go_enter Try.func5, Try.ntmps5
      go_wp2_with fail
      refine (awake_any _).mono ?_
      rintro x w1 ⟨rfl, hb1⟩
      obtain ⟨c00, c01, c10, c11⟩ := box2_cells hb1
      have HB1 := Lib.hid (box_below (box_below hb1))
      clear hb1
      go_wp2_with fail
      refine (HR1.out _).mono ?_
      rintro x w2 ⟨rfl, hb2⟩
      obtain ⟨d00, d01, d10, d11⟩ := cells4_below ⟨c00, c01, c10, c11⟩ hb2
      have HBX := Lib.hid (bl HB1.out hb2)
      clear c00 c01 c10 c11
      go_wp2_with fail
      refine (HR2.out _).mono ?_
      rintro x w3 ⟨rfl, hb3⟩
      go_wp2_with fail
      refine (awake_any _).mono ?_
      rintro x w9 ⟨rfl, hb9⟩
      go_wp2_with fail
      go_ret
      exact ⟨rfl, bl (bl HBX.out hb3) hb9⟩
    | true =>
      rw [hr1] at HR1
      rw [hr2] at HR2
      by_cases hle : c ≤ a
      · have t1 : decide (c ≤ a) = true := decide_eq_true hle
        go_enter Try.func5, Try.ntmps5
        go_wp2_with fail
        refine (awake_any _).mono ?_
        rintro x w1 ⟨rfl, hb1⟩
        obtain ⟨c00, c01, c10, c11⟩ := box2_cells hb1
        have HB1 := Lib.hid (box_below (box_below hb1))
        clear hb1
        go_wp2_with fail
        refine (HR1.out _).mono ?_
        rintro x w2 ⟨rfl, hb2⟩
        obtain ⟨d00, d01, d10, d11⟩ := cells4_below ⟨c00, c01, c10, c11⟩ hb2
        have HBX := Lib.hid (bl HB1.out hb2)
        clear c00 c01 c10 c11
        go_wp2_with fail
        refine (HR2.out _).mono ?_
        rintro x w3 ⟨rfl, hb3⟩
        obtain ⟨e00, e01, e10, e11⟩ := cells4_below ⟨d00, d01, d10, d11⟩ hb3
        go_wp2_with fail
        refine (awake_any _).mono ?_
        rintro x w9 ⟨rfl, hb9⟩
        go_wp2_with fail
        go_ret
        exact ⟨rfl, bl (bl HBX.out hb3) hb9⟩
      · have t1 : decide (c ≤ a) = false := decide_eq_false hle
        obtain ⟨a, b, rfl, rfl⟩ := right_nat hr1
        obtain ⟨c, d, rfl, rfl⟩ := right_nat hr2
        have hlt : a < c := by omega
        have HE1 := Lib.hid (fun X => encode_ok a b X hr1)
        have HE2 := Lib.hid (fun X => encode_ok c d X hr2)
        have HLAW := Lib.hid (fun p (hp : p ≤ 256) => torn_law hr1 hr2 hlt hp)
        clear hr1 hr2
        go_enter Try.func5, Try.ntmps5
        go_wp2_with fail
        refine (awake_any _).mono ?_
        rintro x w1 ⟨rfl, hb1⟩
        obtain ⟨c00, c01, c10, c11⟩ := box2_cells hb1
        have HB1 := Lib.hid (box_below (box_below hb1))
        clear hb1
        go_wp2_with fail
        refine (HR1.out _).mono ?_
        rintro x w2 ⟨rfl, hb2⟩
        obtain ⟨d00, d01, d10, d11⟩ := cells4_below ⟨c00, c01, c10, c11⟩ hb2
        have HBX := Lib.hid (bl HB1.out hb2)
        clear c00 c01 c10 c11
        go_wp2_with fail
        refine (HR2.out _).mono ?_
        rintro x w3 ⟨rfl, hb3⟩
        obtain ⟨e00, e01, e10, e11⟩ := cells4_below ⟨d00, d01, d10, d11⟩ hb3
        have HB3 := Lib.hid (bl HBX.out hb3)
        have EKEEP := Lib.hid e10
        clear d00 d01 d10 d11 hb3 hb2
        go_wp2_with fail
        refine (HE1.out _).mono ?_
        rintro x w4 ⟨v4, rfl, hv4, hb4⟩
        obtain ⟨g4, c4, rfl⟩ := hv4.shape (enc_size a b)
        obtain ⟨f00, f01, f10, f11⟩ := cells4_below ⟨e00, e01, e10, e11⟩ hb4
        have HB4 := Lib.hid (bl HB3.out hb4)
        clear e00 e01 e10 e11 hb4
        go_wp2_with fail
        refine (HE2.out _).mono ?_
        rintro x w5 ⟨v5, rfl, hv5, hb5⟩
        obtain ⟨g5, c5, rfl⟩ := hv5.shape (enc_size c d)
        obtain ⟨h00, h01, h10, h11⟩ := cells4_below ⟨f00, f01, f10, f11⟩ hb5
        have hv4' := hv4.below hb5
        have HB5 := Lib.hid (bl HB4.out hb5)
        rw [enc_eq] at hv4' hv5
        obtain ⟨g4', c4', cur, e4, hg4, hcap4, hcm4, hblk4, hcs4, htk4⟩ := hv4'
        injection e4 with e41 e42 e43
        injection e41 with e41
        injection e41 with e41
        subst e41 e43
        clear e42
        rw [ofNats_size, encN_length] at hcap4 htk4
        have hc5 : 256 ≤ c5 := by obtain ⟨_, c', _, e5, _, h, _⟩ := hv5; injection e5 with _ _ e53; subst e53; rw [ofNats_size, encN_length] at h; exact h
        obtain ⟨p, hp⟩ : ∃ p, p = part % 257 := ⟨_, rfl⟩
        have hrem : (part : Int) % 257 = (p : Int) := by omega
        have hp256 : p ≤ 256 := by omega
        have hblk4' : w5.heap[g4]? = some (.cells cur.toList.toArray 5 (0, 0)) := by rw [Array.toArray_toList]; exact hblk4
        have hcl : ((Lib.strCells (ofNats (encN c d))).take p).length = Nat.min p 256 := by rw [List.length_take, Lib.strCells_length, ofNats_size, encN_length]
        have hcl2 : ((Lib.strCells (ofNats (encN c d))).take p).length ≤ cur.toList.length := by rw [hcl, Array.length_toList, hcs4]; have : Nat.min p 256 ≤ 256 := Nat.min_le_right _ _; omega
        have hrp := RdB.prefix hv5.rds p
        have hone : ∀ v ∈ (Lib.strCells (ofNats (encN c d))).take p, v.oneCell' = true := fun v hv => Lib.strCells_oneCell _ v (List.mem_of_mem_take hv)
        have HMIX := Lib.hid (fun (w' : World) (h : w'.heap[g4]? = _) => own_mix (w' := w') (base := w3.heap.size) (g := g4) (c := c4) (cur := cur.toList) (encN_length c d) (encN_lt c d) (encN_lt a b) hp256 (encN_length a b) hg4 hcap4 hcm4 (by rw [Array.length_toList, hcs4]) htk4 h)
        have hg4lt := lt_of_some hblk4
        have hww3 : w3.heap.size ≤ g4 := hg4
        have hlow : w.heap.size + 1 < g4 := by
          have h1 := World.block_lt_of_cell? _ _ EKEEP.out
          have h2 : w.heap.size + 1 < w3.heap.size := h1
          omega
        have HP := Lib.hid hp
        clear hv4 hv5 hb5 f00 f01 f10 f11 hcs4 htk4 hg4 hblk4 hp
        have HH := Lib.hid (⟨h00, h01, h10, h11⟩ : _ ∧ _ ∧ _ ∧ _)
        clear h00 h01 h10 h11
        have HCL := Lib.hid hcl
        clear hcl
        go_wp2_with (with_reducible refine wpList_copy_row rfl _ _ 25 25 rfl 5 Try.underlying25 infoOne g4 256 c4 p c5 (some ⟨g5, 0, none⟩) (by simp [Act.eval]) (by simp [Act.eval]) cur.toList 5 hblk4' ((Lib.strCells (ofNats (encN c d))).take p) HCL.out hrp hcl2 hone ?_; intro w6 hch6 hsz6 hnew6)
        have hv6 := HMIX.out w6 hnew6
        have hmsz : (ofNats (mix (encN c d) (encN a b) p)).size = 256 := by rw [ofNats_size, mix_length _ _ p (encN_length _ _) (encN_length _ _) hp256]
        have hdec := decode_any (some ⟨g4, 0, none⟩) c4 (ofNats (mix (encN c d) (encN a b) p)) w6 hv6.rds (by rw [hmsz]; decide) (fun h => by cases h) (fun ad h => by cases h; rfl)
        rw [hmsz] at hdec
        refine hdec.mono ?_
        rintro x w7 ⟨hyes, hno, hb7⟩
        have hne1 : w.heap.size ≠ g4 := by omega
        have hne2 : w.heap.size + 1 ≠ g4 := by omega
        have hk6 : w6.cell? ⟨w.heap.size, 0, none⟩ = _ ∧ w6.cell? ⟨w.heap.size, 1, none⟩ = _ ∧ w6.cell? ⟨w.heap.size + 1, 0, none⟩ = _ ∧ w6.cell? ⟨w.heap.size + 1, 1, none⟩ = _ := ⟨(World.cell?_of_block (hch6.block w.heap.size (by omega) hne1)).trans HH.out.1, (World.cell?_of_block (hch6.block w.heap.size (by omega) hne1)).trans HH.out.2.1, (World.cell?_of_block (hch6.block (w.heap.size + 1) (by omega) hne2)).trans HH.out.2.2.1, (World.cell?_of_block (hch6.block (w.heap.size + 1) (by omega) hne2)).trans HH.out.2.2.2⟩
        obtain ⟨k00, k01, k10, k11⟩ := cells4_below hk6 hb7
        have l00 := fun X => cell_alloc k00 X
        have l01 := fun X => cell_alloc k01 X
        have l10 := fun X => cell_alloc k10 X
        have l11 := fun X => cell_alloc k11 X
        have HB7 := Lib.hid (bl (hch6.below HB5.out (fun k hk => by omega) HB5.out.size) hb7)
        have u1 : ((c : Int) == (a : Int)) = false := by rw [beq_eq_false_iff_ne]; omega
        have u2 : (c == a) = false := by rw [beq_eq_false_iff_ne]; omega
        clear hk6 hb7 hch6 hsz6 hnew6 hv6 hdec hmsz k00 k01 k10 k11 hne1 hne2
        by_cases hok : decOk (ofNats (mix (encN c d) (encN a b) p))
        · have hx := hyes hok
          subst hx
          rcases HLAW.out p hp256 hok with ⟨hV, hR⟩ | ⟨hV, hR⟩
          all_goals
            rw [hV, hR]
            clear hV hR hyes hno hok
            go_wp2_with fail
            go_ret
            exact ⟨rfl, below_al HB7.out _⟩
        · have hx := hno hok
          subst hx
          clear hyes hno hok
          go_wp2_with fail
          go_ret
          exact ⟨rfl, below_al HB7.out _⟩
theorem torn_row (o1 o2 : Int × Int) (part : Int) (w : World) (wp : (Lit.int .u16 part).wf = true) :
    Calls Try.prog 5 #[.agg #[.int .i64 o1.1, .int .i64 o1.2], .agg #[.int .i64 o2.1, .int .i64 o2.2], .int .u16 part] w fun x w' => x = .returned (.bool true) ∧ Below w.heap.size w w' := by
  obtain ⟨p, rfl, hp⟩ := u16_nat wp
  exact torn_any _ _ _ _ p w hp
end Go.Proofs.Ytpjgmcoimniheaa.Mt
