/- A meta page's bytes, by a walk. -/
import Derived.Test.YtpgpphmpnebafaaGreatMtS
import Derived.Test.YtpgpphmpnebafaaGreatWZeros
import Derived.Deep.RegionHeld3
import Derived.Lib.AppendZeros
import Derived.Lib.AppendStr
namespace Go.Proofs.YtpgpphmpnebafaaGreat.Mt
open Go.RowKit Go.Proofs.YtpgpphmpnebafaaGreat.By
open Go.Proofs.YtpgpphmpnebafaaGreatW.PrintWords (run_append_zeros)
set_option linter.unusedSimpArgs false
set_option linter.unusedVariables false
set_option maxRecDepth 100000

def markS : ByteArray := ⟨#[115, 97, 112, 119, 111, 111, 100]⟩
def markN : List Nat := [115, 97, 112, 119, 111, 111, 100]
theorem markS_size : markS.size = 7 := rfl
theorem markS_eq : markS = ofNats markN := by rfl
/-- What is sealed of a meta page. -/
def bodyN (e r : Nat) : List Nat := be4 e ++ markN ++ be2 r ++ List.replicate 235 0
theorem bodyN_length (e r : Nat) : (bodyN e r).length = 248 := by unfold bodyN; rw [List.length_append, List.length_append, List.length_append, List.length_replicate]; rfl
theorem bodyN_lt (e r : Nat) : ∀ c ∈ bodyN e r, c < 256 := by
  intro c hc
  unfold bodyN at hc
  simp only [List.mem_append, or_assoc] at hc
  rcases hc with h | h | h | h
  · exact be4_lt e c h
  · unfold markN at h; simp at h; omega
  · exact be2_lt r c h
  · rw [(List.mem_replicate.1 h).2]; decide
theorem sealed_size (s : ByteArray) : (sealed s).size = s.size + 4 := by unfold sealed; rw [ByteArray.size_append, ofNats_size]; rfl
/-- A meta page's bytes. -/
def enc (e r : Nat) : ByteArray := sealed (ofNats (bodyN e r)) ++ ofNats (be4 e)
theorem enc_size (e r : Nat) : (enc e r).size = 256 := by unfold enc; rw [ByteArray.size_append, sealed_size, ofNats_size, ofNats_size, bodyN_length]; rfl
def rightB (e r : Int) : Bool := decide (1 ≤ e) && decide (e ≤ 1073741824) && (decide (r = 0) || (decide (2 ≤ r) && decide (r < 512)))
set_option maxHeartbeats 1000000 in
theorem right_any (e r : Int) (w : World) : Calls Tryz.prog 89 #[.agg #[.int .i64 e, .int .i64 r]] w fun x w' => x = .returned (.bool (rightB e r)) ∧ Below w.heap.size w w' := by
  by_cases h1 : 1 ≤ e
  · by_cases h2 : e ≤ 1073741824
    · by_cases h3 : r = 0
      · have t1 : decide (1 ≤ e) = true := decide_eq_true (by omega)
        have t1' : decide (0 < e) = true := decide_eq_true (by omega)
        have t2 : decide (e ≤ 1073741824) = true := decide_eq_true (by omega)
        have t3 : (r == 0) = true := beq_iff_eq.2 (by omega)
        have t3' : decide (r = 0) = true := decide_eq_true (by omega)
        have HE : Hid (rightB e r = true) := Lib.hid (by unfold rightB; simp only [t1, t2, t3']; simp)
        clear h1 h2 h3
        go_enter Tryz.func89, Tryz.ntmps89
        go_wp2_with fail
        go_ret
        exact ⟨by rw [HE.out]; rfl, below_al (Below.refl _ _) _⟩
      · by_cases h4 : 2 ≤ r
        · by_cases h5 : r < 512
          · have t1 : decide (1 ≤ e) = true := decide_eq_true (by omega)
            have t1' : decide (0 < e) = true := decide_eq_true (by omega)
            have t2 : decide (e ≤ 1073741824) = true := decide_eq_true (by omega)
            have t3 : (r == 0) = false := beq_eq_false_iff_ne.2 (by omega)
            have t3' : decide (r = 0) = false := decide_eq_false (by omega)
            have t4 : decide (2 ≤ r) = true := decide_eq_true (by omega)
            have t4' : decide (1 < r) = true := decide_eq_true (by omega)
            have t5 : decide (r < 512) = true := decide_eq_true (by omega)
            have HE : Hid (rightB e r = true) := Lib.hid (by unfold rightB; simp only [t1, t2, t3', t4, t5]; simp)
            clear h1 h2 h3 h4 h5
            go_enter Tryz.func89, Tryz.ntmps89
            go_wp2_with fail
            go_ret
            exact ⟨by rw [HE.out]; rfl, below_al (Below.refl _ _) _⟩
          · have t1 : decide (1 ≤ e) = true := decide_eq_true (by omega)
            have t1' : decide (0 < e) = true := decide_eq_true (by omega)
            have t2 : decide (e ≤ 1073741824) = true := decide_eq_true (by omega)
            have t3 : (r == 0) = false := beq_eq_false_iff_ne.2 (by omega)
            have t3' : decide (r = 0) = false := decide_eq_false (by omega)
            have t4 : decide (2 ≤ r) = true := decide_eq_true (by omega)
            have t4' : decide (1 < r) = true := decide_eq_true (by omega)
            have t5 : decide (r < 512) = false := decide_eq_false (by omega)
            have HE : Hid (rightB e r = false) := Lib.hid (by unfold rightB; simp only [t1, t2, t3', t4, t5]; simp)
            clear h1 h2 h3 h4 h5
            go_enter Tryz.func89, Tryz.ntmps89
            go_wp2_with fail
            go_ret
            exact ⟨by rw [HE.out]; rfl, below_al (Below.refl _ _) _⟩
        · have t1 : decide (1 ≤ e) = true := decide_eq_true (by omega)
          have t1' : decide (0 < e) = true := decide_eq_true (by omega)
          have t2 : decide (e ≤ 1073741824) = true := decide_eq_true (by omega)
          have t3 : (r == 0) = false := beq_eq_false_iff_ne.2 (by omega)
          have t3' : decide (r = 0) = false := decide_eq_false (by omega)
          have t4 : decide (2 ≤ r) = false := decide_eq_false (by omega)
          have t4' : decide (1 < r) = false := decide_eq_false (by omega)
          have HE : Hid (rightB e r = false) := Lib.hid (by unfold rightB; simp only [t1, t2, t3', t4]; simp)
          clear h1 h2 h3 h4
          go_enter Tryz.func89, Tryz.ntmps89
          go_wp2_with fail
          go_ret
          exact ⟨by rw [HE.out]; rfl, below_al (Below.refl _ _) _⟩
    · have t1 : decide (1 ≤ e) = true := decide_eq_true (by omega)
      have t1' : decide (0 < e) = true := decide_eq_true (by omega)
      have t2 : decide (e ≤ 1073741824) = false := decide_eq_false (by omega)
      have HE : Hid (rightB e r = false) := Lib.hid (by unfold rightB; simp only [t1, t2]; simp)
      clear h1 h2
      go_enter Tryz.func89, Tryz.ntmps89
      go_wp2_with fail
      go_ret
      exact ⟨by rw [HE.out]; rfl, below_al (Below.refl _ _) _⟩
  · have t1 : decide (1 ≤ e) = false := decide_eq_false (by omega)
    have t1' : decide (0 < e) = false := decide_eq_false (by omega)
    have HE : Hid (rightB e r = false) := Lib.hid (by unfold rightB; simp only [t1]; simp)
    clear h1
    go_enter Tryz.func89, Tryz.ntmps89
    go_wp2_with fail
    go_ret
    exact ⟨by rw [HE.out]; rfl, below_al (Below.refl _ _) _⟩
theorem empty_app (s : ByteArray) : ByteArray.empty ++ s = s := by apply ba_ext; rw [ByteArray.data_append, Array.toList_append]; rfl
theorem zero_cells (n : Nat) : (Builtin.zeroCells (Value.int .u8 0).cells n).toList = List.replicate n (Value.int .u8 0) := by
  have e : (Value.int .u8 0).cells = #[Value.int .u8 0] := rfl
  rw [e]
  unfold Builtin.zeroCells
  rw [Array.toList_map, Array.toList_range, List.eq_replicate_iff]
  refine ⟨by simp, fun b hb => ?_⟩
  obtain ⟨i, _, rfl⟩ := List.mem_map.1 hb
  simp [Nat.mod_one]
theorem zeros_cells (n : Nat) : (Builtin.zeroCells (Value.int .u8 0).cells n).toList = Lib.strCells (ofNats (List.replicate n 0)) := by
  rw [cells_ofNats _ (fun c hc => by rw [(List.mem_replicate.1 hc).2]; decide), List.map_replicate, zero_cells]; rfl
theorem own_from {w : World} {base n : Nat} {v : Value} {xs : List Value} (h : w.ownsRow base 5 1 v n xs) : ∀ k, v.ownBlock = some k → base ≤ k := by
  intro j hj
  rcases h.2 with ⟨hv, _⟩ | ⟨g, _, _, hv, hg', _⟩
  · rw [hv] at hj; simp [Value.ownBlock] at hj
  · rw [hv] at hj; have : g = j := by simpa [Value.ownBlock] using hj
    omega
theorem box_cell {w W : World} {a b : Value} {t : TypeId} (hb : Below (w.alloc (.cells #[a, b] t)).heap.size (w.alloc (.cells #[a, b] t)) W) : W.cell? ⟨w.heap.size, 0, none⟩ = some a ∧ W.cell? ⟨w.heap.size, 1, none⟩ = some b := by
  have h := new_later hb
  exact ⟨cell_at h 0, cell_at h 1⟩
theorem encode_bad (e r : Int) (w : World) (h : rightB e r = false) :
    Calls Tryz.prog 55 #[.agg #[.int .i64 e, .int .i64 r]] w fun x w' => x = .returned (.tuple #[.slice none 0 0, .int .i64 1]) ∧ Below w.heap.size w w' := by
  have HR := Lib.hid (fun X => right_any e r X)
  rw [h] at HR
  go_enter Tryz.func55, Tryz.ntmps55
  go_wp2_with fail
  refine (HR.out _).mono ?_
  rintro x w1 ⟨rfl, hb1⟩
  go_wp2_with fail
  go_ret2
  exact ⟨rfl, (below_al (Below.refl w.heap.size w) _).trans (hb1.mono (by rw [World.size_alloc]; omega))⟩
set_option maxRecDepth 100000 in
set_option maxHeartbeats 2000000 in
theorem encode_ok (e r : Nat) (w : World) (h : rightB e r = true) :
    Calls Tryz.prog 55 #[.agg #[.int .i64 (e : Int), .int .i64 (r : Int)]] w fun x w' => ∃ v, x = .returned (.tuple #[v, .int .i64 0]) ∧ OwnB w' w.heap.size v (enc e r) ∧ Below w.heap.size w w' := by
  obtain ⟨i0, hi, hz0, hz1, hz2⟩ := info_parts infoByte
  have HR := Lib.hid (fun X => right_any e r X)
  rw [h] at HR
  have he : e ≤ 1073741824 ∧ r < 512 := by
    unfold rightB at h
    simp only [Bool.and_eq_true, Bool.or_eq_true, decide_eq_true_eq] at h
    omega
  obtain ⟨he1, he2⟩ := he
  clear h
  go_enter Tryz.func55, Tryz.ntmps55
  go_wp2_with fail
  refine (HR.out _).mono ?_
  rintro x w1 ⟨rfl, hb1⟩
  obtain ⟨hc0, hc1⟩ := box_cell hb1
  have hb01 := (below_al (Below.refl w.heap.size w) (.cells #[.int .i64 (e : Int), .int .i64 (r : Int)] 117)).trans (hb1.mono (by rw [World.size_alloc]; omega))
  have hp : Calls Tryz.prog 90 #[.slice none 0 0, .int .i64 (e : Int)] w1 _ := put32_any none 0 ByteArray.empty e w1 (fun h => absurd h (by decide)) (by decide) (by omega) (fun _ => rfl)
  rw [empty_app] at hp
  have HB01 := Lib.hid hb01
  clear hb1 hb01
  go_wp2_with fail
  refine hp.mono ?_
  rintro x w2 ⟨v2, rfl, hv2, hb2⟩
  have hown2 := hv2.own
  rw [ofNats_size, show (be4 e).length = 4 from rfl] at hown2
  have hc12 := (hb2.cell (World.block_lt_of_cell? w1 _ hc1)).trans hc1
  have hc02 := (hb2.cell (World.block_lt_of_cell? w1 _ hc0)).trans hc0
  have hs2 := hb2.size
  have HB02 := Lib.hid (bl HB01.out hb2)
  have HB2 := Lib.hid hb2
  have HC0 := Lib.hid hc0
  have HC1 := Lib.hid hc1
  clear hp hc0 hc1 hv2 hb2
  go_wp2_with (at_builtin; refine Lib.wpList_append_own_string _ rfl _ _ 22 9 rfl w1.heap.size 5 i0 Tryz.underlying22 Tryz.underlying9 hi hz0 hz1 hz2 v2 4 (Lib.strCells (ofNats (be4 e))) rfl hown2 markS rfl (by unfold maxLen; rw [markS_size]; omega) (by rw [markS_size]; omega) hs2 ?_; intro v3 w3 hown3 hgr3 hnil3; have hb3 : Below w1.heap.size w1 w3 := HB2.out.grown hgr3 hs2 (own_from hown2); have hc13 := (hb3.cell (World.block_lt_of_cell? w1 _ HC1.out)).trans HC1.out; have hc03 := (hb3.cell (World.block_lt_of_cell? w1 _ HC0.out)).trans HC0.out)
  have hne3 : v3 ≠ .slice none 0 0 := fun e => by have := (hnil3.1 e).2; rw [markS_size] at this; omega
  rw [markS_eq, ← cells_append, ← ofNats_append] at hown3
  have hv3 : OwnB w3 w1.heap.size v3 (ofNats (be4 e ++ markN)) := ownB_of hown3 hne3
  obtain ⟨g3, c3, rfl⟩ := hv3.shape (n := 11) (ofNats_size _)
  have hp : Calls Tryz.prog 91 #[.slice (some ⟨g3, 0, none⟩) 11 c3, .int .i64 (r : Int)] w3 _ := put16_any (some ⟨g3, 0, none⟩) c3 (ofNats (be4 e ++ markN)) r w3 hv3.rds (by rw [ofNats_size]; exact Nat.le_trans (Nat.le_refl 11) (by decide)) (by omega) (fun h => by cases h)
  rw [← ofNats_append] at hp
  have HB03 := Lib.hid (bl HB01.out hb3)
  clear hown2 hown3 hgr3 hnil3 hne3 hc12 hc02 hs2
  go_wp2_with fail
  refine hp.mono ?_
  rintro x w4 ⟨v4, rfl, hv4, hb4⟩
  have hc14 := (hb4.cell (World.block_lt_of_cell? w3 _ hc13)).trans hc13
  have hc04 := (hb4.cell (World.block_lt_of_cell? w3 _ hc03)).trans hc03
  obtain ⟨g4, c4, rfl⟩ := hv4.shape (n := 13) (ofNats_size _)
  have hown4 := hv4.own
  rw [ofNats_size, show (be4 e ++ markN ++ be2 r).length = 13 from rfl] at hown4
  obtain ⟨v5, w5, hrun5, hown5, hgr5, hat5⟩ := run_append_zeros (P := Tryz.prog) w4 w3.heap.size 22 3 22 5 i0 (.int .u8 0) 1 1 Tryz.underlying22 Tryz.underlying3 hi hz0 hz1 hz2 rfl (by decide) (by decide) (.slice (some ⟨g4, 0, none⟩) 13 c4) 13 (Lib.strCells (ofNats (be4 e ++ markN ++ be2 r))) hown4 .i64 235 (fun u hu => by rw [zero_cells] at hu; rw [(List.mem_replicate.1 hu).2]; rfl) (by decide) hb4.size
  have HRUN := Lib.hid hrun5
  have hb5 : Below w3.heap.size w3 w5 := hb4.grown hgr5 hb4.size (own_from hown4)
  have hc15 := (hb5.cell (World.block_lt_of_cell? w3 _ hc13)).trans hc13
  have hc05 := (hb5.cell (World.block_lt_of_cell? w3 _ hc03)).trans hc03
  rw [zeros_cells, ← cells_append, ← ofNats_append] at hown5
  have hne5 : v5 ≠ .slice none 0 0 := fun e => by have := hown5.1; rw [e] at hown5; rcases hown5.2 with ⟨_, h0⟩ | ⟨_, _, _, hv, _⟩; omega; cases hv
  have hv5 : OwnB w5 w3.heap.size v5 (ofNats (bodyN e r)) := ownB_of hown5 hne5
  obtain ⟨g5, c5, rfl⟩ := hv5.shape (n := 248) (by rw [ofNats_size, bodyN_length])
  have HSE : Hid (∀ X, Below w5.heap.size w5 X → Calls Tryz.prog 92 #[.slice (some ⟨g5, 0, none⟩) 248 c5] X fun x w' => ∃ v, x = .returned v ∧ OwnB w' X.heap.size v (sealed (ofNats (bodyN e r))) ∧ Below X.heap.size X w') := Lib.hid (fun X hX => by
    have := seal_any ⟨g5, 0, none⟩ c5 (ofNats (bodyN e r)) X (hv5.rds.below hX) (by rw [ofNats_size, bodyN_length]; decide)
    rwa [ofNats_size, bodyN_length] at this)
  have HW := Lib.hid (bl HB03.out hb5)
  have hcb := fun X (hX : Below w5.heap.size w5 X) => (hX.cell (World.block_lt_of_cell? w5 _ hc05)).trans hc05
  clear hp hv4 hv5 hown4 hown5 hgr5 hat5 hne5 hb4 hb5 hc15 hc05 hc13 hc03 hrun5 hb3 hv3
  go_wp2_with (at_builtin; refine Lib.wpList_append_run _ rfl _ _ 22 3 rfl _ _ rfl rfl _ _ HRUN.out ?_)
  clear hc14 hc04
  refine wp_region_held_drew (S := (fun X => Below w5.heap.size w5 X)) (by kernel_rfl) (((by repeat (first | exact Below.refl _ _ | assumption | apply below_dr | apply below_dn | apply below_al)) : Below w5.heap.size w5 _)) (fun hHeld => ?_)
  try simp only [Act.put, List.setIfInBounds_toArray, List.set_cons_zero, List.set_cons_succ]
  refine wpAnyH_take (i := 0) (v := ?_) (by simp only [List.getElem?_toArray, List.getElem?_cons_succ, List.getElem?_cons_zero]; rfl) (by kernel_rfl) (by kernel_rfl) (by kernel_rfl) (by exact fun _ _ _ h => h) (Or.inl ⟨by rfl, ?_⟩) (by assumption) ?_
  rotate_left
  · intro w hSw; (try dsimp only at hSw); go_simp; try with_reducible rfl
  try simp only [Act.put, List.setIfInBounds_toArray, List.set_cons_zero, List.set_cons_succ]
  refine wpAnyH_take (i := 2) (v := ?_) (by simp only [List.getElem?_toArray, List.getElem?_cons_succ, List.getElem?_cons_zero]; rfl) (by kernel_rfl) (by kernel_rfl) (by kernel_rfl) (by exact fun _ _ _ h => h) (Or.inl ⟨by rfl, ?_⟩) (by assumption) ?_
  rotate_left
  · intro w hSw; (try dsimp only at hSw); go_simp; try with_reducible rfl
  try simp only [Act.put, List.setIfInBounds_toArray, List.set_cons_zero, List.set_cons_succ]
  refine wpAnyH_take (i := 3) (v := ?_) (by simp only [List.getElem?_toArray, List.getElem?_cons_succ, List.getElem?_cons_zero]; rfl) (by kernel_rfl) (by kernel_rfl) (by kernel_rfl) (by exact fun _ _ _ h => h) (Or.inl ⟨by rfl, ?_⟩) (by assumption) ?_
  rotate_left
  · intro w hSw; (try dsimp only at hSw); go_simp; try with_reducible rfl
  try simp only [Act.put, List.setIfInBounds_toArray, List.set_cons_zero, List.set_cons_succ]
  refine wpAnyH_ready (rs := [1]) (by kernel_rfl) (by simp) ?_
  refine AllReadyH.cons (by simp only [List.getElem?_toArray, List.getElem?_cons_succ, List.getElem?_cons_zero]; rfl) (fun K hK => ?_) AllReadyH.nil
  go_simp
  refine (HSE.out _ (by repeat (first | exact Below.refl _ _ | assumption | apply below_dr | apply below_dn | apply below_al))).mono ?_; rintro e w6 ⟨v6, rfl, hv6, hb6⟩; have hb56 : Below w5.heap.size w5 w6 := bl (by repeat (first | exact Below.refl _ _ | assumption | apply below_dr | apply below_dn | apply below_al)) hb6; obtain ⟨g6, c6, rfl⟩ := hv6.shape (s := sealed (ofNats (bodyN e r))) (by rw [sealed_size, ofNats_size, bodyN_length]); have hp6 := put32_any (some ⟨g6, 0, none⟩) c6 (sealed (ofNats (bodyN e r))) e w6 hv6.rds (by rw [sealed_size, ofNats_size, bodyN_length]; decide) (by omega) (fun h => by cases h); rw [sealed_size, ofNats_size, bodyN_length] at hp6
  try go_simp
  refine hK.out _ _ (((by repeat (first | exact Below.refl _ _ | assumption | apply below_dr | apply below_dn | apply below_al)) : Below w5.heap.size w5 _)) (fun hHeld => ?_)
  clear hK K
  try simp only [Act.put, List.setIfInBounds_toArray, List.set_cons_zero, List.set_cons_succ]
  refine wpAnyH_ready (rs := [4]) (by kernel_rfl) (by simp) ?_
  refine AllReadyH.cons (by simp only [List.getElem?_toArray, List.getElem?_cons_succ, List.getElem?_cons_zero]; rfl) (fun K hK => ?_) AllReadyH.nil
  go_simp
  refine hp6.mono ?_; rintro e2 w7 ⟨v7, rfl, hv7, hb7⟩; have hb57 : Below w5.heap.size w5 w7 := bl hb56 hb7
  try go_simp
  refine hK.out _ _ (((by repeat (first | exact Below.refl _ _ | assumption | apply below_dr | apply below_dn | apply below_al)) : Below w5.heap.size w5 _)) (fun hHeld => ?_)
  clear hK K
  try simp only [Act.put, List.setIfInBounds_toArray, List.set_cons_zero, List.set_cons_succ]
  refine wpAnyH_take (i := 5) (v := ?_) (by simp only [List.getElem?_toArray, List.getElem?_cons_succ, List.getElem?_cons_zero]; rfl) (by kernel_rfl) (by kernel_rfl) (by kernel_rfl) (by exact fun _ _ _ h => h) (Or.inl ⟨by rfl, ?_⟩) (by assumption) ?_
  rotate_left
  · intro w hSw; (try dsimp only at hSw); go_simp; try with_reducible rfl
  try simp only [Act.put, List.setIfInBounds_toArray, List.set_cons_zero, List.set_cons_succ]
  refine wpAnyH_take (i := 6) (v := ?_) (by simp only [List.getElem?_toArray, List.getElem?_cons_succ, List.getElem?_cons_zero]; rfl) (by kernel_rfl) (by kernel_rfl) (by kernel_rfl) (by exact fun _ _ _ h => h) (Or.inl ⟨by rfl, ?_⟩) (by assumption) ?_
  rotate_left
  · intro w hSw; (try dsimp only at hSw); go_simp; try with_reducible rfl
  try simp only [Act.put, List.setIfInBounds_toArray, List.set_cons_zero, List.set_cons_succ]
  refine wpAnyH_done (by kernel_rfl) ?_ _
  go_wp2_with fail
  go_ret2
  exact ⟨v7, rfl, hv7.lower (Nat.le_trans HW.out.size (hb56.size)), bl HW.out (bl (by repeat (first | exact Below.refl _ _ | assumption | apply below_dr | apply below_dn | apply below_al)) (by repeat (first | exact Below.refl _ _ | assumption | apply below_dr | apply below_dn | apply below_al)))⟩
end Go.Proofs.YtpgpphmpnebafaaGreat.Mt
