import Derived.Test.YtpgpphmpnebafaaGreatCmZ
import Derived.Deep.SlicePairs
set_option maxRecDepth 100000
/- fsck's bare: is a page of zeros?, by walks. -/
namespace Go.Proofs.YtpgpphmpnebafaaGreat.Fk
open Go.RowKit Go.Proofs.YtpgpphmpnebafaaGreat.By Go.Proofs.YtpgpphmpnebafaaGreat.Mt Go.Proofs.YtpgpphmpnebafaaGreat.Fm Go.Proofs.YtpgpphmpnebafaaGreat.Lg
set_option linter.unusedSimpArgs false
set_option linter.unusedVariables false
set_option maxRecDepth 100000

theorem nz_any (v : Nat) (w : World) : Calls Tryz.prog 75 #[.int .u8 (v : Int)] w fun x w' => x = .returned (.bool (decide (v ≠ 0))) ∧ w = w' := by
  by_cases h : v = 0
  · subst h
    go_enter Tryz.func75, Tryz.ntmps75
    go_wp2_with fail
    go_ret
    exact ⟨rfl, rfl⟩
  · have hv : ¬ ((v : Int) = 0) := by omega
    go_enter Tryz.func75, Tryz.ntmps75
    go_wp2_with fail
    go_ret
    exact ⟨by simp [h], rfl⟩
def IdxPost (m : Nat) (f : Nat → Nat) (w : World) (x : Ending) (w' : World) : Prop := ∃ r : Int, x = .returned (.int .i64 r) ∧ (0 ≤ r ↔ ∃ j, j < m ∧ f j ≠ 0) ∧ w = w'
set_option maxHeartbeats 1000000 in
theorem index_any (g m c : Nat) (f : Nat → Nat) (w : World) (hm : m ≤ 1000000) (hc : ∀ j, j < m → w.cell? ⟨g, j, none⟩ = some (.int .u8 (f j : Int))) : Calls Tryz.prog 109 #[.slice (some ⟨g, 0, none⟩) m c, .func (.func 75) #[] #[]] w (IdxPost m f w) := by
  have HC := Lib.hid hc
  have HM := Lib.hid hm
  have HN := Lib.hid (fun v => nz_any v w)
  clear hc hm
  go_enter Tryz.func109, Tryz.ntmps109
  go_wp2_with fail
  go_loopw [8] (fun i wr => ∃ k : Nat, k ≤ m ∧ i = .int .i64 (k : Int) ∧ (∀ j, j < k → f j = 0) ∧ wr = w) (fun i _ => m - (intOf i).toNat)
  case atStart => exact ⟨0, Nat.zero_le _, rfl, fun j hj => by omega, rfl⟩
  case round =>
    obtain ⟨k, hk, rfl, hz, rfl⟩ := hrel
    have hm5 : m ≤ 1000000 := HM.out
    have HZ := Lib.hid hz
    clear hz
    by_cases hlt : k < m
    · have ht1 : decide ((k : Int) < (m : Int)) = true := decide_eq_true (by omega)
      have ht2 : decide (k < m) = true := decide_eq_true hlt
      have hcell := HC.out k hlt
      by_cases hf : f k = 0
      · go_wp2_with fail
        refine (HN.out 0).mono ?_
        rintro x w1 ⟨rfl, rfl⟩
        have hd : decide ((0 : Nat) ≠ 0) = false := rfl
        go_wp2_with fail
        go_roundw
        case rel =>
          refine ⟨k + 1, by omega, by go_num, fun j hj => ?_, by first | rfl | trivial⟩
          rcases Nat.lt_or_ge j k with h | h
          · exact HZ.out j h
          · obtain rfl : j = k := by omega
            exact hf
        case measure => simp [intOf]; omega
      · go_wp2_with fail
        refine (HN.out (f k)).mono ?_
        rintro x w1 ⟨rfl, rfl⟩
        have hd : decide (f k ≠ 0) = true := by simp [hf]
        go_wp2_with fail
        go_ret
        exact ⟨(k : Int), rfl, ⟨fun _ => ⟨k, hlt, hf⟩, fun _ => by omega⟩, rfl⟩
    · have ht1 : decide ((k : Int) < (m : Int)) = false := decide_eq_false (by omega)
      have ht2 : decide (k < m) = false := decide_eq_false hlt
      have hkm := Lib.hid (show k = m by omega)
      go_wp2_with fail
      go_ret
      exact ⟨-1, rfl, ⟨fun h => absurd h (by omega), fun ⟨j, hj, hne⟩ => absurd (HZ.out j (by rw [hkm.out]; exact hj)) hne⟩, rfl⟩
theorem contains_any (g m c : Nat) (f : Nat → Nat) (b : Bool) (w : World) (hm : m ≤ 1000000) (hc : ∀ j, j < m → w.cell? ⟨g, j, none⟩ = some (.int .u8 (f j : Int))) (hb : b = true ↔ ∃ j, j < m ∧ f j ≠ 0) : Calls Tryz.prog 74 #[.slice (some ⟨g, 0, none⟩) m c, .func (.func 75) #[] #[]] w fun x w' => x = .returned (.bool b) ∧ w = w' := by
  have H := Lib.hid (index_any g m c f w hm hc)
  have HB := Lib.hid hb
  clear hm hc hb
  go_enter Tryz.func74, Tryz.ntmps74
  go_wp2_with fail
  refine H.out.mono ?_
  rintro x w1 ⟨r, rfl, hr, rfl⟩
  have hd := Lib.hid (show decide ((0 : Int) ≤ r) = b by
    rw [← hr] at HB
    have h := HB.out
    cases b
    · exact decide_eq_false (fun h2 => by simpa using h.2 h2)
    · exact decide_eq_true (h.1 rfl))
  clear hr
  go_wp2_with fail
  go_ret
  exact ⟨by rw [← hd.out]; rfl, rfl⟩
end Go.Proofs.YtpgpphmpnebafaaGreat.Fk

/- fsck's bare on a device that was just formatted, by a walk. -/
namespace Go.Proofs.YtpgpphmpnebafaaGreat.Fk
open Go.RowKit Go.Proofs.YtpgpphmpnebafaaGreat.By Go.Proofs.YtpgpphmpnebafaaGreat.Mt Go.Proofs.YtpgpphmpnebafaaGreat.Fm Go.Proofs.YtpgpphmpnebafaaGreat.Lg Go.Proofs.YtpgpphmpnebafaaGreat.Cm
set_option linter.unusedSimpArgs false
set_option linter.unusedVariables false
set_option maxRecDepth 100000

theorem infoInt : (Tryz.prog.info? 3).map (fun i => (i.zero, i.size, i.bytes)) = some (some (.int .i64 0), 1, 8) := by kernel_rfl
def mk1 (a b : Int) (k : Nat) : Int := if k = 1 then a else b
def mks (f : Nat → Int) (k : Nat) : List Value := (List.range k).map fun j => .int .i64 (f j)
theorem mks_length (f : Nat → Int) (k : Nat) : (mks f k).length = k := by unfold mks; rw [List.length_map, List.length_range]
theorem mks_next (f : Nat → Int) (k : Nat) : mks f (k + 1) = mks f k ++ [.int .i64 (f k)] := by unfold mks; rw [List.range_succ, List.map_append]; rfl
theorem mks_at (f : Nat → Int) (k i : Nat) (h : i < k) : (mks f k)[i]? = some (.int .i64 (f i)) := by unfold mks; rw [List.getElem?_map, List.getElem?_range h]; rfl
theorem page_zero (j : Nat) : (nats Dv.zeroPage).getD j 0 = 0 := by
  have : nats Dv.zeroPage = List.replicate 256 0 := by kernel_rfl
  rw [this, List.getD_eq_getElem?_getD, List.getElem?_replicate]
  split <;> rfl
theorem fmt_page (n k : Nat) (h2 : 2 ≤ n) (hk : k < n) : ∃ s, (fmtP n).getD k ByteArray.empty = s ∧ s.size = 256 ∧ (decide (k = 1) = true ↔ ∃ j, j < 256 ∧ (nats s).getD j 0 ≠ 0) := by
  by_cases h : k = 1
  · subst h
    exact ⟨enc 1 0, fmtP_one n h2, enc_size 1 0, ⟨fun _ => ⟨3, by omega, by decide +kernel⟩, fun _ => rfl⟩⟩
  · refine ⟨Dv.zeroPage, ?_, Dv.zeroPage_size, ⟨fun hd => absurd (of_decide_eq_true hd) h, fun ⟨j, _, hne⟩ => absurd (page_zero j) hne⟩⟩
    unfold fmtP
    show ((List.replicate n Dv.zeroPage).set 1 (enc 1 0)).getD k ByteArray.empty = Dv.zeroPage
    rw [List.getD_eq_getElem?_getD, List.getElem?_set_ne (by omega), List.getElem?_replicate, if_pos hk]; rfl
theorem own_cells {w : World} {base g m c : Nat} {s : ByteArray} (h : OwnB w base (.slice (some ⟨g, 0, none⟩) m c) s) (j : Nat) (hj : j < s.size) : w.cell? ⟨g, j, none⟩ = some (.int .u8 (((nats s).getD j 0 : Nat) : Int)) := by
  obtain ⟨ad, hA, hc⟩ := h.rds (by omega)
  injection hA with hA
  subst hA
  have := hc j (.int .u8 (((nats s).getD j 0 : Nat) : Int)) (by
    unfold Lib.strCells nats
    rw [List.getElem?_map, List.getD_eq_getElem?_getD, List.getElem?_map]
    have hl : j < s.data.toList.length := by rw [← size_data]; exact hj
    rw [List.getElem?_eq_getElem hl]; rfl)
  rwa [add_plain] at this
/-- A page is read, and looked at. -/
def BareRel (w : World) (f : Nat → Int) (k : Nat) (v : Value) (wr : World) : Prop := wr.ownsRow w.heap.size 3 1 v k (mks f k) ∧ Below w.heap.size w wr
theorem bare_next {w w1 w2 W : World} {f : Nat → Int} {k : Nat} {v v' : Value} (h : BareRel w f k v w1) (hb : Below w1.heap.size w1 W) (h2 : w2.ownsRow w.heap.size 3 1 v' (k + 1) (mks f k ++ [.int .i64 (f k)])) (hg : W.grownBy w2 v.ownBlock) : BareRel w f (k + 1) v' w2 := by
  have hfrom : ∀ k, v.ownBlock = some k → w.heap.size ≤ k := by
    intro k hk
    rcases h.1.2 with ⟨hv, _⟩ | ⟨g, _, _, hv, hg', _⟩
    · rw [hv] at hk; simp [Value.ownBlock] at hk
    · rw [hv] at hk; have : g = k := by simpa [Value.ownBlock] using hk
      omega
  exact ⟨by rw [mks_next]; exact h2, (bl h.2 hb).grown hg (by have := h.2.size; have := hb.size; omega) hfrom⟩
def BarePost (w : World) (n : Nat) (x : Ending) (w' : World) : Prop := ∃ v, x = .returned v ∧ BareRel w (mk1 4 0) n v w'
set_option maxHeartbeats 4000000 in
theorem bare_fmt (n b : Nat) (F : Nat → Prop) (w : World) (hd : Dv.Dev w F b (fmtP n) []) (h2 : 2 ≤ n) (h512 : n ≤ 512) : Calls Tryz.prog 44 #[.pointer (some ⟨b, 0, none⟩)] w (BarePost w n) := by
  obtain ⟨i0, hi0, hz0, hz1, hz2⟩ := info_parts infoInt
  have hpg := fun (X : World) (hb : Below w.heap.size w X) => Dv.pages_any (hd.below hb)
  rw [fmtP_length] at hpg
  have HP := Lib.hid hpg
  have HR := Lib.hid (fun (k : Nat) (hk : k < n) (X : World) (hb : Below w.heap.size w X) => Dv.read_ok (hd.below hb) k (by rw [fmtP_length]; exact hk) (by simp))
  have HL := Lib.hid (And.intro h2 h512)
  have H0 : Hid (BareRel w (mk1 4 0) 0 (.slice none 0 0) w) := Lib.hid ⟨World.ownsRow_nil _ _ _ _, Below.refl _ _⟩
  clear hpg hd h2 h512
  go_enter Tryz.func44, Tryz.ntmps44
  go_wp2_with fail
  refine (HP.out _ (Below.refl _ _)).mono ?_
  rintro x w1 ⟨rfl, rfl⟩
  go_wp2_with fail
  go_loopw [3, 10] (fun v i wr => ∃ k : Nat, k ≤ n ∧ i = .int .i64 (k : Int) ∧ BareRel w (mk1 4 0) k v wr) (fun _ i _ => n - (intOf i).toNat)
  case atStart => exact ⟨0, Nat.zero_le _, rfl, H0.out⟩
  case round =>
    obtain ⟨k, hk, rfl, hrel⟩ := hrel
    have hn5 : n ≤ 512 := HL.out.2
    have HREL := Lib.hid hrel
    by_cases hlt : k < n
    · have ht1 : decide ((k : Int) < (n : Int)) = true := decide_eq_true (by omega)
      have ht2 : decide (k < n) = true := decide_eq_true hlt
      obtain ⟨s, hs, hsz, hnz⟩ := fmt_page n k HL.out.1 hlt
      have hrd := HR.out k hlt wr hrel.2
      rw [Dv.dRead_nil, hs] at hrd
      have HRD := Lib.hid hrd
      have HNZ := Lib.hid hnz
      have HSZ := Lib.hid hsz
      clear hrel hs hsz hnz hrd
      go_wp2_with fail
      refine HRD.out.mono ?_
      rintro x w1 ⟨vb, rfl, hvb, hb1⟩
      obtain ⟨g, c, rfl⟩ := Dv.OwnB.shape hvb HSZ.out
      have HC := Lib.hid (contains_any g 256 c (fun j => (nats s).getD j 0) (decide (k = 1)) w1 (by omega) (fun j hj => own_cells hvb j (by rw [HSZ.out]; exact hj)) HNZ.out)
      have HB1 := Lib.hid hb1
      clear hvb hb1
      go_wp2_with fail
      refine HC.out.mono ?_
      rintro x w9 ⟨rfl, rfl⟩
      by_cases hk1 : k = 1
      · have hd : decide (k = 1) = true := decide_eq_true hk1
        have HK := Lib.hid hk1
        clear hk1
        have hown := own_below HREL.out.1 (below_al HB1.out (.cells #[.int .i64 4] 3 (0, 0)))
        have hsz1 := Nat.le_trans HREL.out.2.size HB1.out.size
        go_wp2_with (at_builtin; refine wpList_append_own _ rfl _ _ 30 rfl w.heap.size 3 i0 (.int .i64 0) 1 8 Tryz.underlying30 hi0 hz0 hz1 hz2 rfl (by decide) u3 k (mks (mk1 4 0) k) rfl hown ⟨w1.heap.size, 0, none⟩ 1 1 [.int .i64 4] rfl rfl (fun j u hj => (by rw [add_plain, cell_at (new_block w1 (.cells #[.int .i64 4] 3 (0, 0)))]; simpa using hj)) (by simp [Value.oneCell']) (by unfold maxLen; omega) (by omega) (by rw [World.size_alloc]; omega) ?_; intro v2 w2 hown2 hgr2 hnil2)
        have HF := Lib.hid (bare_next HREL.out (below_al HB1.out (.cells #[.int .i64 4] 3 (0, 0))) (by rw [show mk1 4 0 k = 4 from by unfold mk1; rw [if_pos HK.out]]; exact hown2) hgr2)
        clear hown hown2 hgr2 hnil2
        go_wp2_with fail
        go_roundw
        case rel => exact ⟨k + 1, by omega, by go_num, HF.out⟩
        case measure => simp [intOf]; omega
      · have hd : decide (k = 1) = false := decide_eq_false hk1
        have HK := Lib.hid hk1
        clear hk1
        have hown := own_below HREL.out.1 (below_al HB1.out (.cells #[.int .i64 0] 3 (0, 0)))
        have hsz1 := Nat.le_trans HREL.out.2.size HB1.out.size
        go_wp2_with (at_builtin; refine wpList_append_own _ rfl _ _ 30 rfl w.heap.size 3 i0 (.int .i64 0) 1 8 Tryz.underlying30 hi0 hz0 hz1 hz2 rfl (by decide) u3 k (mks (mk1 4 0) k) rfl hown ⟨w1.heap.size, 0, none⟩ 1 1 [.int .i64 0] rfl rfl (fun j u hj => (by rw [add_plain, cell_at (new_block w1 (.cells #[.int .i64 0] 3 (0, 0)))]; simpa using hj)) (by simp [Value.oneCell']) (by unfold maxLen; omega) (by omega) (by rw [World.size_alloc]; omega) ?_; intro v2 w2 hown2 hgr2 hnil2)
        have HF := Lib.hid (bare_next HREL.out (below_al HB1.out (.cells #[.int .i64 0] 3 (0, 0))) (by rw [show mk1 4 0 k = 0 from by unfold mk1; rw [if_neg HK.out]]; exact hown2) hgr2)
        clear hown hown2 hgr2 hnil2
        go_wp2_with fail
        go_roundw
        case rel => exact ⟨k + 1, by omega, by go_num, HF.out⟩
        case measure => simp [intOf]; omega
    · have ht1 : decide ((k : Int) < (n : Int)) = false := decide_eq_false (by omega)
      have ht2 : decide (k < n) = false := decide_eq_false hlt
      have hkn := Lib.hid (show k = n by omega)
      clear hrel
      go_wp2_with fail
      go_ret
      exact ⟨_, rfl, by rw [← hkn.out]; exact HREL.out⟩
end Go.Proofs.YtpgpphmpnebafaaGreat.Fk

/- fsck's mark, Map, Count and Whole, by walks. -/
namespace Go.Proofs.YtpgpphmpnebafaaGreat.Fk
open Go.RowKit Go.Proofs.YtpgpphmpnebafaaGreat.By Go.Proofs.YtpgpphmpnebafaaGreat.Mt Go.Proofs.YtpgpphmpnebafaaGreat.Fm Go.Proofs.YtpgpphmpnebafaaGreat.Lg Go.Proofs.YtpgpphmpnebafaaGreat.Cm
set_option linter.unusedSimpArgs false
set_option linter.unusedVariables false
set_option maxRecDepth 100000

theorem infoByte : (Tryz.prog.info? 5).map (fun i => (i.zero, i.size, i.bytes)) = some (some (.int .u8 0), 1, 1) := by kernel_rfl
theorem mark_nil (R : Option Addr) (m : Int) (w : World) : Calls Tryz.prog 49 #[.pointer R, .slice none 0 0, .int .i64 m] w fun x w' => x = .returned (.tuple #[]) ∧ w = w' := by
  go_enter Tryz.func49, Tryz.ntmps49
  go_wp2_with fail
  refine wp_loop_rounds 1 ?_
  rw [rounds_succ]
  go_wp2_with fail
  go_end0
  exact ⟨rfl, rfl⟩
theorem mark_one (R gp op cp gm n cm : Nat) (m : Int) (e b o : Value) (T : TypeId) (w : World) (hn : 2 ≤ n) (hR : w.heap[R]? = some (.cells #[e, b, .slice (some ⟨gm, 0, none⟩) n cm] T (0, 0))) (hp : w.cell? ⟨gp, op, none⟩ = some (.int .i64 1)) (hm : w.cell? ⟨gm, 1, none⟩ = some o) (hf : w.frozen? ⟨gm, 1, none⟩ = false) :
    Calls Tryz.prog 49 #[.pointer (some ⟨R, 0, none⟩), .slice (some ⟨gp, op, none⟩) 1 cp, .int .i64 m] w fun x w' => x = .returned (.tuple #[]) ∧ w.setCell ⟨gm, 1, none⟩ (.int .i64 m) = w' := by
  have c2 := cell_at hR 2
  have t1 : decide ((1 : Int) < (n : Int)) = true := decide_eq_true (by omega)
  have t2 : decide (1 < n) = true := decide_eq_true (by omega)
  clear hR
  go_enter Tryz.func49, Tryz.ntmps49
  go_wp2_with fail
  refine wp_loop_rounds 2 ?_
  rw [rounds_succ]
  go_wp2_with fail
  rw [rounds_succ]
  go_wp2_with fail
  go_end0
  exact ⟨rfl, rfl⟩
theorem whole_nil (w : World) : Calls Tryz.prog 11 #[.agg #[.slice none 0 0, .int .i64 0, .slice none 0 0]] w fun x w' => x = .returned (.bool false) ∧ Below w.heap.size w w' := by
  go_enter Tryz.func11, Tryz.ntmps11
  go_wp2_with fail
  go_region
  go_wp2_with fail
  go_ret
  exact ⟨rfl, by repeat (first | exact Below.refl _ _ | apply below_dr | apply below_dn | apply below_al)⟩
theorem count_nil (m : Int) (w : World) : Calls Tryz.prog 13 #[.agg #[.slice none 0 0, .int .i64 0, .slice none 0 0], .int .i64 m] w fun x w' => x = .returned (.int .i64 0) ∧ Below w.heap.size w w' := by
  go_enter Tryz.func13, Tryz.ntmps13
  go_wp2_with fail
  refine wp_loop_rounds 1 ?_
  rw [rounds_succ]
  go_wp2_with fail
  go_ret
  exact ⟨rfl, by repeat (first | exact Below.refl _ _ | apply below_dr | apply below_dn | apply below_al)⟩
theorem map_nil (w : World) : Calls Tryz.prog 12 #[.agg #[.slice none 0 0, .int .i64 0, .slice none 0 0]] w fun x w' => x = .returned (.string ⟨#[]⟩) ∧ Below w.heap.size w w' := by
  have hcv : ∀ X : World, (convert 22 9 (.slice none 0 0)).run Tryz.prog X = .ok (.string ⟨#[]⟩) X := fun X => own_conv_nil X
  go_enter Tryz.func12, Tryz.ntmps12
  go_wp2_with fail
  refine wp_loop_rounds 1 ?_
  rw [rounds_succ]
  go_wp2_with fail
  go_ret
  exact ⟨rfl, by repeat (first | exact Below.refl _ _ | apply below_dr | apply below_dn | apply below_al)⟩
/-- The letters of a formatted device's marks. -/
def bks (k : Nat) : List Value := (List.range k).map fun j => .int .u8 (mk1 77 46 j)
theorem bks_next (k : Nat) : bks (k + 1) = bks k ++ [.int .u8 (mk1 77 46 k)] := by unfold bks; rw [List.range_succ, List.map_append]; rfl
def MapRel (w : World) (k : Nat) (v : Value) (wr : World) : Prop := wr.ownsRow w.heap.size 5 1 v k (bks k) ∧ Below w.heap.size w wr
theorem map_next {w w1 w2 W : World} {k : Nat} {v v' : Value} (h : MapRel w k v w1) (hb : Below w1.heap.size w1 W) (h2 : w2.ownsRow w.heap.size 5 1 v' (k + 1) (bks k ++ [.int .u8 (mk1 77 46 k)])) (hg : W.grownBy w2 v.ownBlock) : MapRel w (k + 1) v' w2 :=
  ⟨by rw [bks_next]; exact h2, (bl h.2 hb).grown hg (by have := h.2.size; have := hb.size; omega) (own_from h.1)⟩
set_option maxHeartbeats 4000000 in
theorem map_fmt (e : Value) (bs : Int) (gm cm : Nat) (w : World) (hc : ∀ j, j < 4 → w.cell? ⟨gm, j, none⟩ = some (.int .i64 (mk1 1 0 j))) : Calls Tryz.prog 12 #[.agg #[e, .int .i64 bs, .slice (some ⟨gm, 0, none⟩) 4 cm]] w fun x w' => x = .returned (.string ⟨#[46, 77, 46, 46]⟩) ∧ Below w.heap.size w w' := by
  obtain ⟨i0, hi0, hz0, hz1, hz2⟩ := info_parts infoByte
  have hx0 : ((((⟨#[46, 77, 76, 79, 68]⟩ : ByteArray)[0]'(by decide)).toNat : Nat) : Int) = 46 := by decide +kernel
  have hx1 : ((((⟨#[46, 77, 76, 79, 68]⟩ : ByteArray)[1]'(by decide)).toNat : Nat) : Int) = 77 := by decide +kernel
  have HC := Lib.hid hc
  clear hc
  go_enter Tryz.func12, Tryz.ntmps12
  go_wp2_with fail
  have H0 : Hid (MapRel w 0 (.slice none 0 0) (w.alloc (.cells #[e, .int .i64 bs, .slice (some ⟨gm, 0, none⟩) 4 cm] 32 (0, 0)))) := Lib.hid ⟨World.ownsRow_nil _ _ _ _, below_al (Below.refl _ _) _⟩
  go_loopw [3, 9] (fun v i wr => ∃ k : Nat, k ≤ 4 ∧ i = .int .i64 (k : Int) ∧ MapRel w k v wr) (fun _ i _ => 4 - (intOf i).toNat)
  case atStart => exact ⟨0, Nat.zero_le _, rfl, H0.out⟩
  case round =>
    obtain ⟨k, hk, rfl, hrel⟩ := hrel
    have HREL := Lib.hid hrel
    clear hrel
    by_cases hlt : k < 4
    · have ht1 : decide ((k : Int) < (4 : Int)) = true := decide_eq_true (by omega)
      have ht2 : decide (k < 4) = true := decide_eq_true hlt
      by_cases hk1 : k = 1
      · have HK := Lib.hid hk1
        clear hk1
        have hcell : w.cell? ⟨gm, k, none⟩ = some (.int .i64 1) := by rw [HC.out k hlt, show mk1 1 0 k = 1 from by unfold mk1; rw [if_pos HK.out]]
        have hcl := (HREL.out.2.cell (World.block_lt_of_cell? w _ hcell)).trans hcell
        have hown := own_below HREL.out.1 (below_al (Below.refl _ wr) (.cells #[.int .u8 77] 5 (0, 0)))
        have hsz1 := HREL.out.2.size
        go_wp2_with (at_builtin; refine wpList_append_own _ rfl _ _ 22 rfl w.heap.size 5 i0 (.int .u8 0) 1 1 Tryz.underlying22 hi0 hz0 hz1 hz2 rfl (by decide) u3 k (bks k) rfl hown ⟨wr.heap.size, 0, none⟩ 1 1 [.int .u8 77] rfl rfl (fun j u hj => (by rw [add_plain, cell_at (new_block wr (.cells #[.int .u8 77] 5 (0, 0)))]; simpa using hj)) (by simp [Value.oneCell']) (by unfold maxLen; omega) (by omega) (by rw [World.size_alloc]; omega) ?_; intro v2 w2 hown2 hgr2 hnil2)
        have HF := Lib.hid (map_next HREL.out (below_al (Below.refl _ wr) (.cells #[.int .u8 77] 5 (0, 0))) (by rw [show mk1 77 46 k = 77 from by unfold mk1; rw [if_pos HK.out]]; exact hown2) hgr2)
        clear hown hown2 hgr2 hnil2 hcell hcl
        go_wp2_with fail
        go_roundw
        case rel => exact ⟨k + 1, by omega, by go_num, HF.out⟩
        case measure => simp [intOf]; omega
      · have HK := Lib.hid hk1
        clear hk1
        have hcell : w.cell? ⟨gm, k, none⟩ = some (.int .i64 0) := by rw [HC.out k hlt, show mk1 1 0 k = 0 from by unfold mk1; rw [if_neg HK.out]]
        have hcl := (HREL.out.2.cell (World.block_lt_of_cell? w _ hcell)).trans hcell
        have hown := own_below HREL.out.1 (below_al (Below.refl _ wr) (.cells #[.int .u8 46] 5 (0, 0)))
        have hsz1 := HREL.out.2.size
        go_wp2_with (at_builtin; refine wpList_append_own _ rfl _ _ 22 rfl w.heap.size 5 i0 (.int .u8 0) 1 1 Tryz.underlying22 hi0 hz0 hz1 hz2 rfl (by decide) u3 k (bks k) rfl hown ⟨wr.heap.size, 0, none⟩ 1 1 [.int .u8 46] rfl rfl (fun j u hj => (by rw [add_plain, cell_at (new_block wr (.cells #[.int .u8 46] 5 (0, 0)))]; simpa using hj)) (by simp [Value.oneCell']) (by unfold maxLen; omega) (by omega) (by rw [World.size_alloc]; omega) ?_; intro v2 w2 hown2 hgr2 hnil2)
        have HF := Lib.hid (map_next HREL.out (below_al (Below.refl _ wr) (.cells #[.int .u8 46] 5 (0, 0))) (by rw [show mk1 77 46 k = 46 from by unfold mk1; rw [if_neg HK.out]]; exact hown2) hgr2)
        clear hown hown2 hgr2 hnil2 hcell hcl
        go_wp2_with fail
        go_roundw
        case rel => exact ⟨k + 1, by omega, by go_num, HF.out⟩
        case measure => simp [intOf]; omega
    · have ht1 : decide ((k : Int) < (4 : Int)) = false := decide_eq_false (by omega)
      have ht2 : decide (k < 4) = false := decide_eq_false hlt
      have hcv := own_conv (s := ⟨#[46, 77, 46, 46]⟩) (show wr.ownsRow w.heap.size 5 1 u3 4 (bks 4) by rw [← show k = 4 by omega]; exact HREL.out.1)
      go_wp2_with fail
      go_ret
      exact ⟨rfl, HREL.out.2⟩
end Go.Proofs.YtpgpphmpnebafaaGreat.Fk

/- fsck.Check, by walks. -/
namespace Go.Proofs.YtpgpphmpnebafaaGreat.Fk
open Go.RowKit Go.Proofs.YtpgpphmpnebafaaGreat.By Go.Proofs.YtpgpphmpnebafaaGreat.Mt Go.Proofs.YtpgpphmpnebafaaGreat.Fm Go.Proofs.YtpgpphmpnebafaaGreat.Lg Go.Proofs.YtpgpphmpnebafaaGreat.Cm
set_option linter.unusedSimpArgs false
set_option linter.unusedVariables false
set_option maxRecDepth 100000

theorem check_few (D : Option Addr) (m : Nat) (w : World) (hm : m < 2) (hp : ∀ X, Below w.heap.size w X → Calls Tryz.prog 41 #[.pointer D] X fun x w' => x = .returned (.int .i64 (m : Int)) ∧ X = w') : Calls Tryz.prog 10 #[.pointer D] w fun x w' => x = .returned (.agg #[.slice none 0 0, .int .i64 0, .slice none 0 0]) ∧ Below w.heap.size w w' := by
  have t1 : decide ((m : Int) < 2) = true := decide_eq_true (by omega)
  have t2 : decide (m < 2) = true := decide_eq_true hm
  have HP := Lib.hid hp
  clear hp
  go_enter Tryz.func10, Tryz.ntmps10
  go_wp2_with fail
  refine (HP.out _ (below_al (Below.refl _ _) _)).mono ?_
  rintro x w1 ⟨rfl, rfl⟩
  go_wp2_with fail
  have hb := new_block w (.cells #[.slice none 0 0, .int .i64 0, .slice none 0 0] 32 (0, 0))
  have c0 := cell_at hb 0
  have c1 := cell_at hb 1
  have c2 := cell_at hb 2
  exact bodyPost_ret (v := .agg #[.slice none 0 0, .int .i64 0, .slice none 0 0]) (by simp [results, Tryz.results10, go_sem, c0, c1, c2]) rfl ⟨rfl, by repeat (first | exact Below.refl _ _ | apply below_dr | apply below_dn | apply below_al)⟩
def CheckPost (w : World) (x : Ending) (w' : World) : Prop := ∃ (e : Value) (gm cm : Nat), x = .returned (.agg #[e, .int .i64 1, .slice (some ⟨gm, 0, none⟩) 4 cm]) ∧ (∀ j, j < 4 → w'.cell? ⟨gm, j, none⟩ = some (.int .i64 (mk1 1 0 j))) ∧ Below w.heap.size w w'
theorem own_one {w : World} {base n : Nat} {v : Value} {xs : List Value} (h : w.ownsRow base 3 1 v n xs) (hn : 0 < n) : ∃ g c cur, v = .slice (some ⟨g, 0, none⟩) n c ∧ base ≤ g ∧ w.heap[g]? = some (.cells cur 3 (0, 0)) ∧ cur.toList.take n = xs := by
  have hl := h.1
  rcases h.2 with ⟨_, h0⟩ | ⟨g, c, cur, hv, hg, hh, _, _, _, h5⟩
  · rw [h0] at hl; simp at hl; omega
  · exact ⟨g, c, cur, hv, hg, hh, by rw [Nat.mul_one] at h5; exact h5⟩
theorem take_at {cur : Array Value} {n j : Nat} {xs : List Value} (h : cur.toList.take n = xs) (hj : j < n) : cur[j]? = xs[j]? := by
  rw [← h, List.getElem?_take, if_pos hj]; simp
theorem app_one {w4 w5 : World} {M B C D : Obj} {r : Obj} {i j k : Nat} (hgr : ((w4.alloc M).alloc r).grownBy w5 none) (hB : w4.heap[i]? = some B) (hC : w4.heap[j]? = some C) (hD : w4.heap[k]? = some D) :
    w5.heap[i]? = some B ∧ w5.heap[w4.heap.size]? = some M ∧ w5.heap[j]? = some C ∧ w5.heap[k]? = some D ∧ Below w4.heap.size w4 w5 := by
  have hx : Below ((w4.alloc M).alloc r).heap.size ((w4.alloc M).alloc r) w5 := (Below.refl _ _).grown hgr (Nat.le_refl _) (fun k hk => by cases hk)
  have h4 : Below w4.heap.size w4 w5 := bl (below_al (below_al (Below.refl _ w4) M) r) hx
  refine ⟨(h4.block _ (lt_of_some hB)).trans hB, ?_, (h4.block _ (lt_of_some hC)).trans hC, (h4.block _ (lt_of_some hD)).trans hD, h4⟩
  have hM : ((w4.alloc M).alloc r).heap[w4.heap.size]? = some M := ((below_al (Below.refl _ (w4.alloc M)) r).block _ (by rw [World.size_alloc]; omega)).trans (new_block w4 M)
  exact (hx.block _ (lt_of_some hM)).trans hM
theorem app_two {w6 w7 : World} {r : Obj} (hgr : (w6.alloc r).grownBy w7 none) : Below w6.heap.size w6 w7 :=
  bl (below_al (Below.refl _ w6) r) ((Below.refl _ _).grown hgr (Nat.le_refl _) (fun k hk => by cases hk))
theorem marks_at {cur : Array Value} (h : cur.toList.take 4 = mks (mk1 4 0) 4) (j : Nat) (hj : j < 4) : (cur.setIfInBounds 1 (.int .i64 1))[j]? = some (.int .i64 (mk1 1 0 j)) := by
  have h1 : ∀ i, i < 4 → cur[i]? = some (.int .i64 (mk1 4 0 i)) := fun i hi => (take_at h hi).trans (mks_at _ _ _ hi)
  have hsz : 1 < cur.size := (Array.getElem?_eq_some_iff.1 (h1 1 (by omega))).1
  by_cases hj1 : j = 1
  · subst hj1
    rw [Array.getElem?_setIfInBounds_self_of_lt hsz]; rfl
  · rw [Array.getElem?_setIfInBounds_ne (by omega), h1 j hj]
    unfold mk1
    rw [if_neg hj1, if_neg hj1]
set_option maxHeartbeats 4000000 in
theorem check_fmt (b : Nat) (F : Nat → Prop) (w : World) (hd : Dv.Dev w F b (fmtP 4) []) : Calls Tryz.prog 10 #[.pointer (some ⟨b, 0, none⟩)] w (CheckPost w) := by
  obtain ⟨i0, hi0, hz0, hz1, hz2⟩ := info_parts infoInt
  have hpg := fun (X : World) (hb : Below w.heap.size w X) => Dv.pages_any (hd.below hb)
  rw [fmtP_length] at hpg
  have hr0 := fun (X : World) (hb : Below w.heap.size w X) => Dv.read_ok (hd.below hb) 0 (by rw [fmtP_length]; omega) (by simp)
  have hr1 := fun (X : World) (hb : Below w.heap.size w X) => Dv.read_ok (hd.below hb) 1 (by rw [fmtP_length]; omega) (by simp)
  simp only [Dv.dRead_nil, fmtP_zero 4 (by omega), fmtP_one 4 (by omega)] at hr0 hr1
  have HP := Lib.hid hpg
  have HR0 := Lib.hid hr0
  have HR1 := Lib.hid hr1
  have HBA := Lib.hid (fun X (hb : Below w.heap.size w X) => bare_fmt 4 b F X (hd.below hb) (by omega) (by omega))
  have HT := Lib.hid (fun X => tree_zero (some ⟨b, 0, none⟩) X)
  have HSL : Hid (∀ X : World, Calls Tryz.prog 46 #[.int .i64 1] X fun x w' => x = .returned (.int .i64 1) ∧ X = w') := Lib.hid (fun X => slot_any 1 X)
  clear hpg hr0 hr1 hd
  go_enter Tryz.func10, Tryz.ntmps10
  go_wp2_with fail
  refine (HP.out _ (below_al (Below.refl _ _) _)).mono ?_
  rintro x w1 ⟨rfl, rfl⟩
  have HZ := Lib.hid (new_block w (.cells #[.slice none 0 0, .int .i64 0, .slice none 0 0] 32 (0, 0)))
  have HBZ := Lib.hid (below_al (Below.refl w.heap.size w) (.cells #[.slice none 0 0, .int .i64 0, .slice none 0 0] 32 (0, 0)))
  go_wp2_with fail
  refine (HR0.out _ HBZ.out).mono ?_
  rintro x w1 ⟨va, rfl, hva, hb1⟩
  obtain ⟨ga, ca, rfl⟩ := Dv.OwnB.shape hva Dv.zeroPage_size
  have HVA := Lib.hid hva
  have HB1 := Lib.hid (bl HBZ.out hb1)
  have HZ1 := Lib.hid ((hb1.block _ (lt_of_some HZ.out)).trans HZ.out)
  clear hva hb1
  go_wp2_with fail
  refine (HR1.out _ HB1.out).mono ?_
  rintro x w2 ⟨vb, rfl, hvb, hb2⟩
  obtain ⟨gb, cb, rfl⟩ := Dv.OwnB.shape hvb (enc_size 1 0)
  have HVA2 := Lib.hid (Dv.OwnB.below HVA.out hb2)
  have HVB := Lib.hid hvb
  have HB2 := Lib.hid (bl HB1.out hb2)
  have HZ2 := Lib.hid ((hb2.block _ (lt_of_some HZ1.out)).trans HZ1.out)
  clear hvb hb2 HVA HB1 HZ1
  go_wp2_with fail
  refine (HBA.out _ HB2.out).mono ?_
  rintro x w3 ⟨vm, rfl, hvm, hb3⟩
  obtain ⟨gm, cm, cur, rfl, hgm, hkm, htk⟩ := own_one hvm (by omega)
  have HVA3 := Lib.hid (Dv.OwnB.below HVA2.out hb3)
  have HVB3 := Lib.hid (Dv.OwnB.below HVB.out hb3)
  have HB3 := Lib.hid (bl HB2.out hb3)
  have HZ3 := Lib.hid ((hb3.block _ (lt_of_some HZ2.out)).trans HZ2.out)
  have HKM := Lib.hid hkm
  have HTK := Lib.hid htk
  have HGM := Lib.hid (show w.heap.size < gm by have := lt_of_some HZ2.out; omega)
  clear hvm hb3 hkm htk hgm HVA2 HVB HB2 HZ2
  have hRb := below_al (Below.refl w3.heap.size w3) (.cells #[.slice none 0 0, .int .i64 0, .slice (some ⟨gm, 0, none⟩) 4 cm] 32 (0, 0))
  have hna := newest_any (some ⟨ga, 0, none⟩) (some ⟨gb, 0, none⟩) ca cb Dv.zeroPage (enc 1 0) (w3.alloc (.cells #[.slice none 0 0, .int .i64 0, .slice (some ⟨gm, 0, none⟩) 4 cm] 32 (0, 0))) ((Dv.OwnB.below HVA3.out hRb).rds) ((Dv.OwnB.below HVB3.out hRb).rds) (by rw [Dv.zeroPage_size]; omega) (by rw [enc_size]; omega) (by simp) (by simp) (by simp) (by simp)
  rw [Dv.zeroPage_size, enc_size, both_fmt] at hna
  simp only [List.length_cons, List.length_nil, Nat.zero_add] at hna
  have HNA := Lib.hid hna
  have HRB := Lib.hid hRb
  clear hna hRb HVA3 HVB3
  go_wp2_with fail
  refine HNA.out.mono ?_
  rintro x w4 ⟨A, k, rfl, hm, hk1, hk2, hb4⟩
  obtain ⟨g, off, rfl, hm0, hm1⟩ := hm 0 (1, 0) rfl
  simp only [Nat.zero_mul, Nat.add_zero] at hm0 hm1
  have hb34 := bl HRB.out hb4
  have HB4 := Lib.hid (bl HB3.out hb34)
  have HZ4 := Lib.hid ((hb34.block _ (lt_of_some HZ3.out)).trans HZ3.out)
  have HKM4 := Lib.hid ((hb34.block _ (lt_of_some HKM.out)).trans HKM.out)
  have hR4 := (hb4.block _ (lt_of_some (new_block w3 _))).trans (new_block w3 (.cells #[.slice none 0 0, .int .i64 0, .slice (some ⟨gm, 0, none⟩) 4 cm] 32 (0, 0)))
  have HR4 := Lib.hid hR4
  have hRl := lt_of_some hR4
  have r0 := cell_at hR4 0
  have r1 := cell_at hR4 1
  have rf0 := frozen_at hR4 0
  have rf1 := frozen_at hR4 1
  have HNE := Lib.hid (And.intro (lt_of_some HZ3.out) (lt_of_some HKM.out))
  clear hm hk1 hk2 hb4 hb34 hR4 HNA HRB HB3 HZ3 HKM
  go_wp2_with fail
  refine wp_loop_rounds 2 ?_
  rw [rounds_succ]
  go_wp2_with (at_builtin; refine wpList_append_own _ rfl _ _ 30 rfl w4.heap.size 3 i0 (.int .i64 0) 1 8 Tryz.underlying30 hi0 hz0 hz1 hz2 rfl (by decide) (.slice none 0 0) 0 [] rfl (World.ownsRow_nil _ _ _ _) ⟨w4.heap.size + 1, 0, none⟩ 1 1 [.int .i64 1] rfl rfl (fun j u hj => (by rw [add_plain, cell_at (blk2 w4 (.cells #[.int .i64 1, .int .i64 0] 117 (0, 0)) (.cells #[.int .i64 1] 3 (0, 0)))]; simpa using hj)) (by simp [Value.oneCell']) (by unfold maxLen; omega) (by omega) (by rw [World.size_alloc, World.size_alloc]; omega) ?_; intro v5 w5 hown5 hgr5 hnil5; clear hnil5; obtain ⟨g5, c5, cur5, rfl, hg5, hk5, ht5⟩ := own_one (show w5.ownsRow w4.heap.size 3 1 v5 1 [.int .i64 1] from hown5) (by omega); clear hown5 hg5 hk5 ht5; obtain ⟨kR5, kM5, kZ5, kK5, hb5⟩ := app_one hgr5 HR4.out HZ4.out HKM4.out; have s0 := cell_at kR5 0; have sf0 := frozen_at kR5 0; have m0 := cell_at kM5 0; have hMR : w3.heap.size ≠ w4.heap.size := by omega)
  have kR6 := heap_setCell_self w5 w3.heap.size 0 _ _ (.slice (some ⟨g5, 0, none⟩) 1 c5) kR5
  have kM6 := (heap_setCell_ne w5 w3.heap.size 0 w4.heap.size (.slice (some ⟨g5, 0, none⟩) 1 c5) (Ne.symm hMR)).trans kM5
  have kZ6 := (heap_setCell_ne w5 w3.heap.size 0 w.heap.size (.slice (some ⟨g5, 0, none⟩) 1 c5) (by have := HNE.out.1; omega)).trans kZ5
  have kK6 := (heap_setCell_ne w5 w3.heap.size 0 gm (.slice (some ⟨g5, 0, none⟩) 1 c5) (by have := HNE.out.2; omega)).trans kK5
  have hb6 : Below w.heap.size w (w5.setCell ⟨w3.heap.size, 0, none⟩ (.slice (some ⟨g5, 0, none⟩) 1 c5)) := below_st (bl HB4.out hb5) (p := ⟨w3.heap.size, 0, none⟩) (by have := HNE.out.1; show w.heap.size ≤ w3.heap.size; omega) _
  clear s0 sf0 m0 kR5 kM5 kZ5 kK5 hb5 r0 r1 rf0 rf1 hRl
  revert kR6 kM6 kZ6 kK6 hb6
  generalize w5.setCell ⟨w3.heap.size, 0, none⟩ (.slice (some ⟨g5, 0, none⟩) 1 c5) = w6
  intro kR6 kM6 kZ6 kK6 hb6
  have HR6 := Lib.hid kR6
  have HM6 := Lib.hid kM6
  have HZ6 := Lib.hid kZ6
  have HK6 := Lib.hid kK6
  have HB6 := Lib.hid hb6
  clear kR6 kM6 kZ6 kK6 hb6 hgr5
  refine (HSL.out _).mono ?_
  rintro x w9 ⟨rfl, rfl⟩
  go_wp2_with (at_builtin; refine wpList_append_own _ rfl _ _ 30 rfl w6.heap.size 3 i0 (.int .i64 0) 1 8 Tryz.underlying30 hi0 hz0 hz1 hz2 rfl (by decide) (.slice none 0 0) 0 [] rfl (World.ownsRow_nil _ _ _ _) ⟨w6.heap.size, 0, none⟩ 1 1 [.int .i64 1] rfl rfl (fun j u hj => (by rw [add_plain, cell_at (new_block w6 (.cells #[.int .i64 1] 3 (0, 0)))]; simpa using hj)) (by simp [Value.oneCell']) (by unfold maxLen; omega) (by omega) (by rw [World.size_alloc]; omega) ?_; intro v7 w7 hown7 hgr7 hnil7; clear hnil7; obtain ⟨g7, c7, cur7, rfl, hg7, hk7, ht7⟩ := own_one (show w7.ownsRow w6.heap.size 3 1 v7 1 [.int .i64 1] from hown7) (by omega); clear hown7; have hb7 := app_two hgr7; clear hgr7; have m1 := cell_at ((hb7.block _ (lt_of_some HM6.out)).trans HM6.out) 1)
  refine (HT.out _).mono ?_
  rintro x w8 ⟨p, rfl, hp, hpb, hb8⟩
  have hb68 := bl hb7 hb8
  have HR8 := Lib.hid ((hb68.block _ (lt_of_some HR6.out)).trans HR6.out)
  have HM8 := Lib.hid ((hb68.block _ (lt_of_some HM6.out)).trans HM6.out)
  have HZ8 := Lib.hid ((hb68.block _ (lt_of_some HZ6.out)).trans HZ6.out)
  have HK8 := Lib.hid ((hb68.block _ (lt_of_some HK6.out)).trans HK6.out)
  have HG8 := Lib.hid ((hb8.block _ (lt_of_some hk7)).trans hk7)
  have HB8 := Lib.hid (bl HB6.out hb68)
  have HP8 := Lib.hid hp
  have r1 := cell_at HR8.out 1
  have hcx : ∀ X, Below w8.heap.size w8 X → X.cell? ⟨w4.heap.size, 0, none⟩ = some (.int .i64 1) := fun X hX => cell_at ((hX.block _ (lt_of_some HM8.out)).trans HM8.out) 0
  have HA := Lib.hid (fun X (hX : Below w8.heap.size w8 X) => all_nil p X (cell_at ((hX.block _ (lt_of_some HP8.out)).trans HP8.out) 0))
  have HT7 := Lib.hid ht7
  have HG7 := Lib.hid hg7
  have HNE7 := Lib.hid (And.intro (lt_of_some HR6.out) (lt_of_some HK6.out))
  clear hp hpb hb8 hb68 hb7 m1 ht7 hk7 hg7 HR6 HM6 HZ6 HK6 HB6 HB4 HZ4 HKM4 HR4
  go_wp2_with fail
  refine wp_region_held_drew (S := (fun X => X.cell? ⟨w4.heap.size, 0, none⟩ = some (.int .i64 1))) (by kernel_rfl) ((by first | assumption | exact hcx _ (by repeat (first | exact Below.refl _ _ | assumption | apply below_dr | apply below_dn | apply below_al)))) (fun hHeld => ?_)
  try simp only [Act.put, List.setIfInBounds_toArray, List.set_cons_zero, List.set_cons_succ]
  refine wpAnyH_take (i := 0) (v := ?_) (by simp only [List.getElem?_toArray, List.getElem?_cons_succ, List.getElem?_cons_zero]; rfl) (by kernel_rfl) (by kernel_rfl) (by kernel_rfl) (by exact fun _ _ _ h => h) (Or.inl ⟨by rfl, ?_⟩) (by assumption) ?_
  rotate_left
  · intro w hSw; (try dsimp only at hSw); go_simp; try with_reducible rfl
  try simp only [Act.put, List.setIfInBounds_toArray, List.set_cons_zero, List.set_cons_succ]
  refine wpAnyH_take (i := 1) (v := ?_) (by simp only [List.getElem?_toArray, List.getElem?_cons_succ, List.getElem?_cons_zero]; rfl) (by kernel_rfl) (by kernel_rfl) (by kernel_rfl) (by exact fun _ _ _ h => h) (Or.inl ⟨by rfl, ?_⟩) (by assumption) ?_
  rotate_left
  · intro w hSw; (try dsimp only at hSw); go_simp; try with_reducible rfl
  try simp only [Act.put, List.setIfInBounds_toArray, List.set_cons_zero, List.set_cons_succ]
  refine wpAnyH_take (i := 2) (v := ?_) (by simp only [List.getElem?_toArray, List.getElem?_cons_succ, List.getElem?_cons_zero]; rfl) (by kernel_rfl) (by kernel_rfl) (by kernel_rfl) (by exact fun _ _ _ h => h) (Or.inl ⟨by rfl, ?_⟩) (by assumption) ?_
  rotate_left
  · intro w hSw; (try dsimp only at hSw); go_simp; try with_reducible rfl
  try simp only [Act.put, List.setIfInBounds_toArray, List.set_cons_zero, List.set_cons_succ]
  refine wpAnyH_ready (rs := [3]) (by kernel_rfl) (by simp) ?_
  refine AllReadyH.cons (by simp only [List.getElem?_toArray, List.getElem?_cons_succ, List.getElem?_cons_zero]; rfl) (fun K hK => ?_) AllReadyH.nil
  go_simp
  refine (HA.out _ (by repeat (first | exact Below.refl _ _ | assumption | apply below_dr | apply below_dn | apply below_al))).mono ?_; rintro x w9 ⟨rfl, hb9⟩; have hb89 : Below w8.heap.size w8 w9 := bl (by repeat (first | exact Below.refl _ _ | assumption | apply below_dr | apply below_dn | apply below_al)) hb9; have q1 := cell_at ((hb89.block _ (lt_of_some HR8.out)).trans HR8.out) 1; have qf := frozen_at ((hb89.block _ (lt_of_some HR8.out)).trans HR8.out) 1; have qm := hcx _ hb89; have qs : (w9.setCell ⟨w3.heap.size, 1, none⟩ (.int .i64 1)).cell? ⟨w4.heap.size, 0, none⟩ = some (.int .i64 1) := (World.cell?_setCell_other _ _ _ _ (by intro e; injection e with e1; omega)).trans qm
  try go_simp
  refine hK.out _ _ ((by first | assumption | exact hcx _ (by repeat (first | exact Below.refl _ _ | assumption | apply below_dr | apply below_dn | apply below_al)))) (fun hHeld => ?_)
  clear hK K
  try simp only [Act.put, List.setIfInBounds_toArray, List.set_cons_zero, List.set_cons_succ]
  refine wpAnyH_take (i := 4) (v := ?_) (by simp only [List.getElem?_toArray, List.getElem?_cons_succ, List.getElem?_cons_zero]; rfl) (by kernel_rfl) (by kernel_rfl) (by kernel_rfl) (by exact fun _ _ _ h => h) (Or.inl ⟨by rfl, ?_⟩) (by assumption) ?_
  rotate_left
  · intro w hSw; (try dsimp only at hSw); go_simp; try with_reducible rfl
  try simp only [Act.put, List.setIfInBounds_toArray, List.set_cons_zero, List.set_cons_succ]
  refine wpAnyH_ready (rs := [5]) (by kernel_rfl) (by simp) ?_
  refine AllReadyH.cons (by simp only [List.getElem?_toArray, List.getElem?_cons_succ, List.getElem?_cons_zero]; rfl) (fun K hK => ?_) AllReadyH.nil
  go_simp
  refine hK.out _ _ ((by first | assumption | exact hcx _ (by repeat (first | exact Below.refl _ _ | assumption | apply below_dr | apply below_dn | apply below_al)))) (fun hHeld => ?_)
  clear hK K
  try simp only [Act.put, List.setIfInBounds_toArray, List.set_cons_zero, List.set_cons_succ]
  refine wpAnyH_take (i := 6) (v := ?_) (by simp only [List.getElem?_toArray, List.getElem?_cons_succ, List.getElem?_cons_zero]; rfl) (by kernel_rfl) (by kernel_rfl) (by kernel_rfl) (by exact fun _ _ _ h => h) (Or.inl ⟨by rfl, ?_⟩) (by assumption) ?_
  rotate_left
  · intro w hSw; (try dsimp only at hSw); go_simp; try with_reducible rfl
  try simp only [Act.put, List.setIfInBounds_toArray, List.set_cons_zero, List.set_cons_succ]
  refine wpAnyH_done (by kernel_rfl) ?_ _
  go_wp2_with fail
  have kR10 := heap_setCell_self w9 w3.heap.size 1 _ _ (.int .i64 1) ((hb89.block _ (lt_of_some HR8.out)).trans HR8.out)
  have kZ10 := (heap_setCell_ne w9 w3.heap.size 1 w.heap.size (.int .i64 1) (by have := HNE.out.1; omega)).trans ((hb89.block _ (lt_of_some HZ8.out)).trans HZ8.out)
  have kK10 := (heap_setCell_ne w9 w3.heap.size 1 gm (.int .i64 1) (by have := HNE.out.2; omega)).trans ((hb89.block _ (lt_of_some HK8.out)).trans HK8.out)
  have kG10 := (heap_setCell_ne w9 w3.heap.size 1 g7 (.int .i64 1) (by have := HNE7.out.1; have := HG7.out; omega)).trans ((hb89.block _ (lt_of_some HG8.out)).trans HG8.out)
  have hb10 : Below w.heap.size w (w9.setCell ⟨w3.heap.size, 1, none⟩ (.int .i64 1)) := below_st (bl HB8.out hb89) (p := ⟨w3.heap.size, 1, none⟩) (by have := HNE.out.1; show w.heap.size ≤ w3.heap.size; omega) _
  clear q1 qf qm qs hcx r1 hb89 hHeld
  revert kR10 kZ10 kK10 kG10 hb10
  generalize w9.setCell ⟨w3.heap.size, 1, none⟩ (.int .i64 1) = w10
  intro kR10 kZ10 kK10 kG10 hb10
  have hg0 : w10.cell? ⟨g7, 0, none⟩ = some (.int .i64 1) := (cell_at kG10 0).trans (take_at HT7.out (by omega))
  have hm0 : w10.cell? ⟨gm, 1, none⟩ = some (.int .i64 4) := (cell_at kK10 1).trans ((take_at HTK.out (by omega)).trans (mks_at _ _ _ (by omega)))
  have HMK := Lib.hid (mark_one w3.heap.size g7 0 c7 gm 4 cm 1 _ _ _ _ w10 (by omega) kR10 hg0 hm0 (frozen_at kK10 1))
  have kR11 := (heap_setCell_ne w10 gm 1 w3.heap.size (.int .i64 1) (by have := HNE.out.2; omega)).trans kR10
  have kZ11 := (heap_setCell_ne w10 gm 1 w.heap.size (.int .i64 1) (by have := HGM.out; omega)).trans kZ10
  have kK11 := heap_setCell_self w10 gm 1 _ _ (.int .i64 1) kK10
  have hb11 : Below w.heap.size w (w10.setCell ⟨gm, 1, none⟩ (.int .i64 1)) := below_st hb10 (p := ⟨gm, 1, none⟩) (by have := HGM.out; show w.heap.size ≤ gm; omega) _
  have HR11 := Lib.hid kR11
  have HZ11 := Lib.hid kZ11
  have HK11 := Lib.hid kK11
  have HB11 := Lib.hid hb11
  clear kR10 kZ10 kK10 kG10 hb10 hg0 hm0 kR11 kZ11 kK11 hb11
  rw [rounds_succ]
  go_wp2_with fail
  refine (mark_nil _ _ _).mono ?_
  rintro x w12 ⟨rfl, rfl⟩
  go_wp2_with fail
  refine (mark_nil _ _ _).mono ?_
  rintro x w12 ⟨rfl, rfl⟩
  go_wp2_with fail
  refine HMK.out.mono ?_
  rintro x w11 ⟨rfl, hw11⟩
  rw [hw11] at HR11 HZ11 HK11 HB11
  have r0 := cell_at HR11.out 0
  have r1 := cell_at HR11.out 1
  have r2 := cell_at HR11.out 2
  have z0 := cell_at HZ11.out 0
  have z1 := cell_at HZ11.out 1
  have z2 := cell_at HZ11.out 2
  have zf0 := frozen_at HZ11.out 0
  have zf1 := frozen_at HZ11.out 1
  have zf2 := frozen_at HZ11.out 2
  clear hw11
  go_wp2_with fail
  have kF := heap_setCell_self _ w.heap.size 2 _ _ (.slice (some ⟨gm, 0, none⟩) 4 cm) (heap_setCell_self _ w.heap.size 1 _ _ (.int .i64 1) (heap_setCell_self w11 w.heap.size 0 _ _ (.slice (some ⟨g5, 0, none⟩) 1 c5) HZ11.out))
  have y0 := cell_at kF 0
  have y1 := cell_at kF 1
  have y2 := cell_at kF 2
  refine bodyPost_ret (v := .agg #[.slice (some ⟨g5, 0, none⟩) 1 c5, .int .i64 1, .slice (some ⟨gm, 0, none⟩) 4 cm]) (by simp [results, Tryz.results10, go_sem, y0, y1, y2]) rfl ⟨_, gm, cm, rfl, fun j hj => ?_, ?_⟩
  · have hgz := HGM.out
    exact (cell_at ((heap_setCell_ne _ w.heap.size 2 gm _ (by omega)).trans ((heap_setCell_ne _ w.heap.size 1 gm _ (by omega)).trans ((heap_setCell_ne w11 w.heap.size 0 gm _ (by omega)).trans HK11.out))) j).trans (marks_at HTK.out j hj)
  · exact below_st (below_st (below_st HB11.out (p := ⟨w.heap.size, 0, none⟩) (Nat.le_refl _) _) (p := ⟨w.heap.size, 1, none⟩) (Nat.le_refl _) _) (p := ⟨w.heap.size, 2, none⟩) (Nat.le_refl _) _
end Go.Proofs.YtpgpphmpnebafaaGreat.Fk

/- law25's awake and FsckNil, by walks. -/
namespace Go.Proofs.YtpgpphmpnebafaaGreat.Fk
open Go.RowKit Go.Proofs.YtpgpphmpnebafaaGreat.By Go.Proofs.YtpgpphmpnebafaaGreat.Mt Go.Proofs.YtpgpphmpnebafaaGreat.Fm Go.Proofs.YtpgpphmpnebafaaGreat.Lg Go.Proofs.YtpgpphmpnebafaaGreat.Cm
set_option linter.unusedSimpArgs false
set_option linter.unusedVariables false
set_option maxRecDepth 100000

set_option maxHeartbeats 1000000 in
theorem awake25_any (w : World) : Calls Tryz.prog 7 #[] w fun x w' => x = .returned (.bool true) ∧ Below w.heap.size w w' := by
  have HF := Lib.hid (fun X => format_ok 4 X (by omega) (by omega))
  go_enter Tryz.func7, Tryz.ntmps7
  go_wp2_with fail
  refine (HF.out _).mono ?_
  rintro x w1 ⟨b, rfl, hd1, hb1⟩
  have HO := Lib.hid (check_fmt b _ w1 hd1)
  have HB1 := Lib.hid hb1
  clear hd1 hb1
  go_wp2_with fail
  refine HO.out.mono ?_
  rintro x w2 ⟨e, gm, cm, rfl, hc, hb2⟩
  have HM := Lib.hid (map_fmt e 1 gm cm w2 hc)
  have HB2 := Lib.hid (bl HB1.out hb2)
  clear hc hb2
  go_wp2_with fail
  refine HM.out.mono ?_
  rintro x w3 ⟨rfl, hb3⟩
  have HB3 := Lib.hid (bl HB2.out hb3)
  clear hb3
  go_wp2_with fail
  go_ret
  exact ⟨rfl, HB3.out⟩
/-- A device of few pages, whatever waits. -/
def FewDev (w : World) (b : Nat) (w' : World) : Prop := (∃ (F : Nat → Prop) (P : List ByteArray) (Q : List (Nat × ByteArray)), Dv.Dev w' F b P Q ∧ P.length < 2) ∧ Below w.heap.size w w'
def WrPost (w : World) (b : Nat) (x : Ending) (w' : World) : Prop := (∃ e, x = .returned (.int .i64 e)) ∧ FewDev w b w'
theorem write_few {w w1 : World} {b : Nat} {P : List ByteArray} (hd : Dv.Dev w1 (fun k => w.heap.size ≤ k) b P []) (hb : Below w.heap.size w w1) (hP : P.length < 2) (i : Int) (A : Option Addr) (c : Nat) (s : ByteArray) (hr : RdB w1 A s) (hs : s.size ≤ 1000000) :
    Calls Tryz.prog 9 #[.pointer (some ⟨b, 0, none⟩), .int .i64 i, .slice A s.size c] w1 (WrPost w b) := by
  by_cases h : i < 0 ∨ (P.length : Int) ≤ i ∨ s.size ≠ 256
  · refine (Dv.write_bad hd i A s.size c (by omega) h).mono ?_
    rintro x w2 ⟨rfl, rfl⟩
    exact ⟨⟨_, rfl⟩, ⟨_, _, _, hd, hP⟩, hb⟩
  · obtain ⟨k, rfl⟩ : ∃ k : Nat, i = k := ⟨i.toNat, by omega⟩
    obtain ⟨ad, rfl, _⟩ := hr (by omega)
    refine (Dv.write_ok hd k (by omega) ad c s (by omega) (rd_dv hr) (by simp)).mono ?_
    rintro x w2 ⟨rfl, hd2, hc2⟩
    exact ⟨⟨_, rfl⟩, ⟨_, _, _, hd2, hP⟩, hc2.below hb (fun k hk => hk) hb.size⟩
set_option maxHeartbeats 4000000 in
theorem fsckNil_any (p i : Int) (A : Option Addr) (c : Nat) (s : ByteArray) (w : World) (hr : RdB w A s) (hs : s.size ≤ 9223372036854775807) : Calls Tryz.prog 3 #[.int .u8 p, .agg #[.int .i64 i, .slice A s.size c]] w fun x w' => x = .returned (.bool true) ∧ Below w.heap.size w w' := by
  have HAW := Lib.hid (fun X => awake25_any X)
  have HN := Lib.hid (fun n X => Dv.new_any n X)
  have HR := Lib.hid hr
  obtain ⟨n, hn⟩ : ∃ n, n = s.size := ⟨_, rfl⟩
  rw [← hn] at hs ⊢
  have HSN := Lib.hid hn
  clear hr hn
  by_cases hl : 2000 < n
  · have t1 : decide ((2000 : Int) < (n : Int)) = true := decide_eq_true (by omega)
    have t2 : decide (2000 < n) = true := decide_eq_true hl
    go_enter Tryz.func3, Tryz.ntmps3
    go_wp2_with fail
    refine (HAW.out _).mono ?_
    rintro x w1 ⟨rfl, hb1⟩
    have kS := (hb1.block w.heap.size (by rw [World.size_alloc]; omega)).trans (new_block w (.cells #[.int .i64 i, .slice A n c] 24 (0, 0)))
    have c1 := cell_at kS 1
    have HB1 := Lib.hid (bl (below_al (Below.refl _ w) _) hb1)
    clear kS hb1
    go_wp2_with fail
    refine (HAW.out _).mono ?_
    rintro x w2 ⟨rfl, hb2⟩
    have HB2 := Lib.hid (bl HB1.out hb2)
    clear hb2
    go_wp2_with fail
    go_ret
    exact ⟨rfl, HB2.out⟩
  · have t1 : decide ((2000 : Int) < (n : Int)) = false := decide_eq_false (by omega)
    have t2 : decide (2000 < n) = false := decide_eq_false hl
    have HL := Lib.hid hl
    clear hl
    go_enter Tryz.func3, Tryz.ntmps3
    go_wp2_with fail
    refine (HAW.out _).mono ?_
    rintro x w1 ⟨rfl, hb1⟩
    have kS := (hb1.block w.heap.size (by rw [World.size_alloc]; omega)).trans (new_block w (.cells #[.int .i64 i, .slice A n c] 24 (0, 0)))
    have c1 := cell_at kS 1
    have HS1 := Lib.hid kS
    have HB1 := Lib.hid (bl (below_al (Below.refl _ w) _) hb1)
    clear kS hb1
    go_wp2_with fail
    refine (HN.out _ _).mono ?_
    rintro x w2 ⟨b, rfl, hd2, hb2⟩
    have hq : (wrap64 p).tmod 2 < 2 := Int.tmod_lt_of_pos _ (by omega)
    have hP : (List.replicate (Dv.clamp ((wrap64 p).tmod 2)) Dv.zeroPage).length < 2 := by
      rw [List.length_replicate]; unfold Dv.clamp; omega
    have kS2 := (hb2.block _ (lt_of_some HS1.out)).trans HS1.out
    have d0 := cell_at kS2 0
    have d1 := cell_at kS2 1
    have hB2 := bl HB1.out hb2
    have HWR := Lib.hid (write_few (hd2.mono (fun k hk => Nat.le_trans HB1.out.size hk)) hB2 hP i A c s (HR.out.below hB2) (by have := HL.out; have := HSN.out; omega))
    rw [← HSN.out] at HWR
    clear hd2 hb2 hP hq kS2 hB2
    go_wp2_with fail
    refine HWR.out.mono ?_
    rintro x w3 ⟨⟨e, rfl⟩, ⟨F, P, Q, hd3, hP3⟩, hb3⟩
    have HC1 := Lib.hid (check_few none 0 w3 (by omega) (fun X _ => Dv.pages_nil X))
    have HC2 := Lib.hid (fun X (hX : Below w3.heap.size w3 X) => check_few (some ⟨b, 0, none⟩) P.length X hP3 (fun Y hY => Dv.pages_any (hd3.below (bl hX hY))))
    have HB3 := Lib.hid hb3
    have HWH := Lib.hid (fun X => whole_nil X)
    have HMP := Lib.hid (fun X => map_nil X)
    have HCT := Lib.hid (fun X => count_nil 0 X)
    clear hd3 hP3 hb3 c1 d0 d1
    go_wp2_with fail
    refine HC1.out.mono ?_
    rintro x w4 ⟨rfl, hb4⟩
    have HB4 := Lib.hid hb4
    clear hb4
    go_wp2_with fail
    refine (HC2.out _ HB4.out).mono ?_
    rintro x w5 ⟨rfl, hb5⟩
    have HB5 := Lib.hid (bl HB3.out (bl HB4.out hb5))
    clear hb5
    go_wp2_with fail
    have HX5 := Lib.hid (show ((w5.alloc (.cells #[.slice none 0 0, .int .i64 0, .slice none 0 0] 32 (0, 0))).alloc (.cells #[.slice none 0 0, .int .i64 0, .slice none 0 0] 32 (0, 0))).heap[w5.heap.size]? = some (.cells #[.slice none 0 0, .int .i64 0, .slice none 0 0] 32 (0, 0)) from ((below_al (Below.refl _ (w5.alloc (.cells #[.slice none 0 0, .int .i64 0, .slice none 0 0] 32 (0, 0)))) (.cells #[.slice none 0 0, .int .i64 0, .slice none 0 0] 32 (0, 0))).block _ (by rw [World.size_alloc]; omega)).trans (new_block w5 _))
    have HBX := Lib.hid (bl HB5.out (below_al (below_al (Below.refl _ w5) (.cells #[.slice none 0 0, .int .i64 0, .slice none 0 0] 32 (0, 0))) (.cells #[.slice none 0 0, .int .i64 0, .slice none 0 0] 32 (0, 0))))
    refine (HWH.out _).mono ?_
    rintro x w6 ⟨rfl, hb6⟩
    have HX6 := Lib.hid ((hb6.block _ (lt_of_some HX5.out)).trans HX5.out)
    have e0 := cell_at HX6.out 0
    have e1 := cell_at HX6.out 1
    have e2 := cell_at HX6.out 2
    have HB6 := Lib.hid (bl HBX.out hb6)
    clear hb6
    go_wp2_with fail
    refine (HMP.out _).mono ?_
    rintro x w7 ⟨rfl, hb7⟩
    have HX7 := Lib.hid ((hb7.block _ (lt_of_some HX6.out)).trans HX6.out)
    have HB7 := Lib.hid (bl HB6.out hb7)
    clear hb7 e0 e1 e2
    have e0 := cell_at HX7.out 0
    have e1 := cell_at HX7.out 1
    have e2 := cell_at HX7.out 2
    go_wp2_with fail
    refine (HCT.out _).mono ?_
    rintro x w8 ⟨rfl, hb8⟩
    have HB8 := Lib.hid (bl HB7.out hb8)
    clear hb8 e0 e1 e2
    go_wp2_with fail
    go_ret
    exact ⟨rfl, HB8.out⟩
end Go.Proofs.YtpgpphmpnebafaaGreat.Fk

/- A page that is to be written as the caller hands it in: its cells, read. -/
namespace Go.Proofs.YtpgpphmpnebafaaGreat.Fk
open Go.RowKit Go.Deep Go.ChangeShapes Go.WideShapes Go.Proofs.YtpgpphmpnebafaaGreat.By Go.Proofs.YtpgpphmpnebafaaGreat.Mt
set_option linter.unusedSimpArgs false
set_option linter.unusedVariables false
set_option maxRecDepth 100000

structure WrR where
  page : Int
  A : Option Addr
  cap : Nat
  s : ByteArray
structure WrW (w : World) (o : WrR) : Prop where
  rd : RdB w o.A o.s
  sz : o.s.size ≤ 9223372036854775807
theorem add_plain2 (g off j : Nat) : (⟨g, off, none⟩ : Addr).add j = ⟨g, off + j, none⟩ := by unfold Addr.add; split <;> simp_all
section
variable {H : Type} {enc : TypeId × Value → H} {w : World} {base : Nat} {spare : Nat → Bool} {held : Bool}
def fieldsOf : TypeDesc → List (TypeId × Nat)
  | .struct fs => fs.toList.map (fun (f : Field) => (f.type, f.offset))
  | _ => []
/-- The bytes that a caller hands in. -/
theorem open_bytes {fuel : Nat} {A : Option Addr} {len cap : Nat} {x : DataW H × List MemPlace} (h : DataW.trod enc Tryz.prog w base spare held fuel 22 [.slice A len cap] = some x) :
    ∃ l : List Nat, l.length = len ∧ len ≤ cap ∧ cap ≤ maxLen ∧ (∀ c ∈ l, c < 256) ∧ ∀ (k c : Nat), l[k]? = some c → ∃ g off, A = some ⟨g, off, none⟩ ∧ w.cell? ⟨g, off + k, none⟩ = some (.int .u8 (c : Int)) := by
  rcases open_slice Tryz.underlying22 h with ⟨hc, _⟩ | ⟨a, len', cap', m, n, D, Pl, hc, _, hlc, hm, hmm, _, hx⟩
  · injection hc with hc _
    injection hc with h1 h2 h3
    subst h1 h2 h3
    exact ⟨[], rfl, Nat.le_refl _, Nat.zero_le _, fun c hc => by simp at hc, fun k c hk => by simp at hk⟩
  · injection hc with hc _
    injection hc with h1 h2 h3
    subst h1 h2 h3
    have hlm : len ≤ m := by rw [hmm]; split <;> omega
    obtain ⟨g, off, sp⟩ := a
    have c5 : Tryz.prog.cellsOf 5 = 1 := by kernel_rfl
    have each0 : ∀ i, i < len → ∃ c : Nat, c < 256 ∧ w.cell? ((⟨g, off, sp⟩ : Addr).add i) = some (.int .u8 (c : Int)) := by
      intro i hi
      obtain ⟨cs', h1, h2⟩ := hx i (by omega)
      rw [c5, Nat.mul_one] at h1
      obtain ⟨z, rfl, -, hw⟩ := DataW.trod_int Tryz.underlying5 h2
      have e0 : IntKind.u8.min = 0 := rfl
      have e1 : IntKind.u8.max = 255 := rfl
      simp only [Lit.wf, Bool.and_eq_true, decide_eq_true_eq, e0, e1] at hw
      have hz : ((z.toNat : Nat) : Int) = z := Int.toNat_of_nonneg hw.1
      exact ⟨z.toNat, by omega, by rw [hz]; exact cell_of_cells?_one h1⟩
    have hsp0 : 0 < len → sp = none := by
      intro h0l
      obtain ⟨c, _, h0⟩ := each0 0 h0l
      simpa [Addr.add] using World.cell?_spot h0
    have each : ∀ i, i < len → sp = none ∧ ∃ c : Nat, c < 256 ∧ w.cell? ⟨g, off + i, none⟩ = some (.int .u8 (c : Int)) := by
      intro i hi
      have hsp := hsp0 (by omega)
      subst hsp
      obtain ⟨c, hc, h0⟩ := each0 i hi
      rw [add_plain2] at h0
      exact ⟨rfl, c, hc, h0⟩
    obtain ⟨q, hq⟩ : ∃ q : Nat → Nat, ∀ i, i < len → sp = none ∧ q i < 256 ∧ w.cell? ⟨g, off + i, none⟩ = some (.int .u8 (q i : Int)) := ⟨fun i => if h : i < len then (each i h).2.choose else 0, fun i hi => by
      have := (each i hi).2.choose_spec
      refine ⟨(each i hi).1, ?_⟩
      simpa [hi] using this⟩
    refine ⟨(List.range len).map q, by simp, hlc, hm, fun c hc => ?_, fun k c hk => ?_⟩
    · obtain ⟨i, hi, rfl⟩ := List.mem_map.1 hc
      exact (hq i (List.mem_range.1 hi)).2.1
    · have hk2 := (List.getElem?_eq_some_iff.1 hk).1
      have hkl : k < len := by simpa using hk2
      rw [List.getElem?_map, List.getElem?_range hkl] at hk
      have : q k = c := Option.some.inj hk
      subst this
      obtain ⟨rfl, _, h1⟩ := hq k hkl
      exact ⟨g, off, rfl, h1⟩
theorem write_struct : (Tryz.prog.underlying 24).map fieldsOf = some [(3, 0), (22, 1)] := by kernel_rfl
theorem write_cells : Tryz.prog.cellsOf 24 = 2 ∧ Tryz.prog.cellsOf 3 = 1 ∧ Tryz.prog.cellsOf 22 = 1 := ⟨by kernel_rfl, by kernel_rfl, by kernel_rfl⟩
theorem open_write {n : Nat} {cs : List Value} {y : DataW H × List MemPlace} (hl : cs.length = 2) (h : DataW.trod enc Tryz.prog w base spare held n 24 cs = some y) :
    ∃ o : WrR, cs = [.int .i64 o.page, .slice o.A o.s.size o.cap] ∧ WrW w o := by
  obtain ⟨fs, hfs⟩ : ∃ fs, Tryz.prog.underlying 24 = some (.struct fs) := ⟨_, Tryz.underlying24⟩
  have hs := write_struct
  rw [hfs] at hs
  obtain ⟨-, c3, c22⟩ := write_cells
  obtain ⟨xs, k, _, _, _, hxl, hf⟩ := DataW.trod_struct hfs h
  have hs' : fs.toList.map (fun (f : Field) => (f.type, f.offset)) = [(3, 0), (22, 1)] := Option.some.inj hs
  have hfl : fs.size = 2 := by have := congrArg List.length hs'; simpa using this
  have at' : ∀ (j : Nat) (t : TypeId) (o : Nat), ([(3, 0), (22, 1)] : List (TypeId × Nat))[j]? = some (t, o) → ∃ f : Field, fs[j]? = some f ∧ f.type = t ∧ f.offset = o := by
    intro j t o hj
    rw [← hs', List.getElem?_map] at hj
    cases hfj : fs.toList[j]? with
    | none => rw [hfj] at hj; cases hj
    | some f =>
      rw [hfj] at hj
      have : (f.type, f.offset) = (t, o) := Option.some.inj hj
      exact ⟨f, by rw [← Array.getElem?_toList]; exact hfj, congrArg Prod.fst this, congrArg Prod.snd this⟩
  have hx5 : xs.length = 2 := hxl.trans hfl
  match cs, hl, xs, hx5 with
  | [v0, v1], _, [x0, x1], _ =>
    have get : ∀ (j : Nat) (t : TypeId) (o : Nat), ([(3, 0), (22, 1)] : List (TypeId × Nat))[j]? = some (t, o) → DataW.trod enc Tryz.prog w base spare held k t (([v0, v1].drop o).take (Tryz.prog.cellsOf t)) = [x0, x1][j]? := by
      intro j t o hj
      obtain ⟨f, hf1, rfl, rfl⟩ := at' j t o hj
      exact hf j f hf1
    have g0 := get 0 _ _ rfl
    have g1 := get 1 _ _ rfl
    rw [c3] at g0
    rw [c22] at g1
    obtain ⟨m0, h0, -, w0⟩ := DataW.trod_int Tryz.underlying3 g0
    simp only [List.drop_succ_cons, List.drop_zero, List.take_succ_cons, List.take_zero, List.cons.injEq, and_true] at h0 g1
    subst h0
    obtain ⟨A, len, cap, rfl⟩ : ∃ A len cap, v1 = .slice A len cap := by
      rcases open_slice Tryz.underlying22 g1 with ⟨hc, _⟩ | ⟨a, len', cap', m, n, D, Pl, hc, _, _, _, _, _, _⟩
      · injection hc with hc _
        exact ⟨_, _, _, hc⟩
      · injection hc with hc _
        exact ⟨_, _, _, hc⟩
    obtain ⟨l, hll, hlc, hcm, hlt, hcell⟩ := open_bytes g1
    refine ⟨⟨m0, A, cap, ofNats l⟩, by rw [ofNats_size, hll], ⟨fun hp => ?_, ?_⟩⟩
    · have hp2 : 0 < l.length := by rw [← ofNats_size]; exact hp
      obtain ⟨g, off, hA, _⟩ := hcell 0 _ (List.getElem?_eq_getElem hp2)
      refine ⟨⟨g, off, none⟩, hA, fun j u hj => ?_⟩
      have hj' : (Lib.strCells (ofNats l))[j]? = some u := hj
      rw [cells_nats, nats_ofNats l hlt, List.getElem?_map] at hj'
      cases hlj : l[j]? with
      | none => rw [hlj] at hj'; cases hj'
      | some c =>
        rw [hlj] at hj'
        have hu : Value.int .u8 (c : Int) = u := Option.some.inj hj'
        subst hu
        obtain ⟨g', off', hA', hc'⟩ := hcell j c hlj
        rw [hA] at hA'
        injection hA' with hA'
        injection hA' with e1 e2 _
        subst e1 e2
        rw [add_plain2]
        exact hc'
    · show (ofNats l).size ≤ _
      rw [ofNats_size, hll]
      unfold maxLen at hcm
      omega
theorem open_write_val {v : Value} {b0 : Nat} {r : Reach} {fuel : Nat} {x : DataW H × List MemPlace} (hv : Value.okWide Tryz.prog w r b0 24 v) (h : DataW.trod enc Tryz.prog w base spare held fuel 24 v.cells.toList = some x) :
    ∃ o : WrR, v = .agg #[.int .i64 o.page, .slice o.A o.s.size o.cap] ∧ WrW w o := by
  obtain ⟨cs, rfl, hsz⟩ := okWide_struct Tryz.underlying24 hv
  rw [write_cells.1] at hsz
  obtain ⟨o, ho, hw⟩ := open_write (cs := cs.toList) (by simpa using hsz) h
  refine ⟨o, ?_, hw⟩
  congr 1
  exact Array.toList_inj.1 ho
end
end Go.Proofs.YtpgpphmpnebafaaGreat.Fk
