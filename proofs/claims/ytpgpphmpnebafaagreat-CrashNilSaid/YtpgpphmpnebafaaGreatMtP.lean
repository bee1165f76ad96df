/- fix.put, Put32, Put16: a number's lowest bytes behind others, by walks. -/
import Derived.Test.YtpgpphmpnebafaaGreatMtW
namespace Go.Proofs.YtpgpphmpnebafaaGreat.Mt
open Go.RowKit Go.Proofs.YtpgpphmpnebafaaGreat.By
set_option linter.unusedSimpArgs false
set_option linter.unusedVariables false
set_option maxRecDepth 100000
/-- What the loop of fix.put keeps: k of the bytes are there. -/
def PutRel (w : World) (s : ByteArray) (l : List Nat) (k : Nat) (v : Value) (wr : World) : Prop := (wr.ownsRow w.heap.size 5 1 v (s ++ ofNats (l.take k)).size (Lib.strCells (s ++ ofNats (l.take k))) ∧ v ≠ .slice none 0 0) ∧ Below w.heap.size w wr
theorem ofNats_nil : ofNats [] = ByteArray.empty := rfl
theorem rd_some {w : World} {ad : Addr} {s : ByteArray} (h : RdB w (some ad) s) : ∀ (j : Nat) (u : Value), (Lib.strCells s)[j]? = some u → w.cell? (ad.add j) = some u := by
  intro j u hj
  have h1 := (List.getElem?_eq_some_iff.1 hj).1
  rw [Lib.strCells_length] at h1
  obtain ⟨a, hA, hc⟩ := h (by omega)
  injection hA with hA
  subst hA
  exact hc j u hj
theorem put_grown {w wr w1 : World} {base n : Nat} {u : Value} {xs : List Value} {o : Obj} (hb : Below base w wr) (hown : wr.ownsRow base 5 1 u n xs) (hg : (wr.alloc o).grownBy w1 u.ownBlock) (hB : base ≤ wr.heap.size := by exact Below.size ‹_›) : Below base w w1 := by
  refine (hb.alloc hB o).grown hg (by rw [World.size_alloc]; omega) (fun j hj => ?_)
  rcases hown.2 with ⟨hv, _⟩ | ⟨g, _, _, hv, hg', _⟩
  · rw [hv] at hj; simp [Value.ownBlock] at hj
  · rw [hv] at hj; have : g = j := by simpa [Value.ownBlock] using hj
    omega
set_option maxRecDepth 100000 in
set_option maxHeartbeats 2000000 in
theorem put4_any (Ao : Option Addr) (c : Nat) (s : ByteArray) (n : Nat) (w : World) (hr : RdB w Ao s) (hs : s.size ≤ 1000000) (hn : n < 4294967296) (hc0 : Ao = none → c = 0) :
    Calls Tryz.prog 127 #[.slice Ao s.size c, .int .i64 (n : Int), .int .i64 4] w fun e w' => ∃ v, e = .returned v ∧ OwnB w' w.heap.size v (s ++ ofNats (be4 n)) ∧ Below w.heap.size w w' := by
  obtain ⟨i0, hi, hz0, hz1, hz2⟩ := info_parts infoByte
  obtain ⟨w1, hrun, hown, hgr⟩ := run_make_own (P := Tryz.prog) (w := w) w.heap.size 22 5 i0 (.int .u8 0) 1 Tryz.underlying22 hi hz0 hz1 .i64 .i64 (s.size + 4) (by rw [hz2]; omega) (by unfold maxLen; omega) (Nat.le_refl _)
  rw [show (((s.size + 4 : Nat)) : Int) = (s.size : Int) + 4 from by omega] at hrun
  have hb1 := grown_none hgr
  have hs1 := hb1.size
  have hr1 := hr.below hb1
  cases Ao with
  | none =>
    have hse := RdB.none_empty hr1
    have hc00 := hc0 rfl
    subst hse hc00
    have HP0 : Hid (PutRel w ByteArray.empty (be4 n) 0 (.slice (some ⟨w.heap.size, 0, none⟩) 0 4) w1) := Lib.hid ⟨⟨hown, fun h => by cases h⟩, hb1⟩
    have HO := Lib.hid (show w1.ownsRow w.heap.size 5 1 (.slice (some ⟨w.heap.size, 0, none⟩) 0 4) 0 [] from hown)
    rw [show ((ByteArray.empty.size : Nat) : Int) + 4 = 4 from rfl] at hrun
    obtain ⟨s, hse⟩ : ∃ s, s = ByteArray.empty := ⟨_, rfl⟩
    rw [← hse] at HP0 ⊢
    have hz : s.size = 0 := by rw [hse]; rfl
    have hz9 : s.size ≤ 1000000 := by omega
    have HZ := Lib.hid hz
    rw [hz]
    clear hc0 hr1 hr hown hgr hz hs hse hb1
    go_enter Tryz.func127, Tryz.ntmps127
    go_wp2_with (at_builtin; refine wpList_append_own_none rfl _ _ 22 rfl w.heap.size 5 i0 1 Tryz.underlying22 hi (.slice (some ⟨w.heap.size, 0, none⟩) 0 4) 0 [] rfl HO.out rfl ?_)
    go_loopw [7, 8] (fun v i wr => ∃ k : Nat, k ≤ 4 ∧ i = .int .i64 ((3 : Int) - k) ∧ PutRel w s (be4 n) k v wr) (fun _ i _ => (intOf i + 1).toNat)
    case atStart => exact ⟨0, by omega, rfl, HP0.out⟩
    case round =>
      obtain ⟨k, hk, rfl, ⟨hown, hvn⟩, hbw⟩ := hrel
      have hsz : (s ++ ofNats ((be4 n).take k)).size ≤ 1000010 := by rw [ByteArray.size_append, ofNats_size, List.length_take]; omega
      have HS := Lib.hid hsz
      by_cases hlt : k < 4
      · by_cases hk0 : k = 0
        · subst hk0
          have hvb : IntKind.u8.wrap ((n : Int) / 16777216) = ((n / 16777216 % 256 : Nat) : Int) := by rw [IntKind.wrap_u8]; omega
          have hnx : s ++ ofNats ((be4 n).take 0) ++ ofNats [n / 16777216 % 256] = s ++ ofNats ((be4 n).take 1) := by rw [ByteArray.append_assoc, ← ofNats_append]; rfl
          have HN := Lib.hid hnx
          have HO := Lib.hid hown
          clear hnx hown
          obtain ⟨S, hS⟩ : ∃ S, S = s ++ ofNats ((be4 n).take 0) := ⟨_, rfl⟩
          rw [← hS] at HO HN HS
          have hsle := HS.out
          clear hS
          go_wp2_with (at_builtin; refine wpList_append_own _ rfl _ _ 22 rfl w.heap.size 5 i0 (.int .u8 0) 1 1 Tryz.underlying22 hi hz0 hz1 hz2 rfl (by decide) u7 S.size (Lib.strCells S) rfl (own_below HO.out (below_al (Below.refl _ _) _)) ⟨wr.heap.size, 0, none⟩ 1 1 [.int .u8 ((n / 16777216 % 256 : Nat) : Int)] rfl rfl (one_cell (cell_at (new_block wr _) 0)) (fun u hu => by rw [List.mem_singleton.1 hu]; rfl) (by unfold maxLen; omega) (by omega) (by rw [World.size_alloc]; have := hbw.size; omega) ?_; intro v1 w1' hown1 hgr1 hnil1)
          have hown2 := row_snoc hown1 (by omega)
          rw [HN.out] at hown2
          have hb2 := put_grown (u := u7) hbw HO.out hgr1
          have hv2 : v1 ≠ .slice none 0 0 := fun e => by have := (hnil1.1 e).2; omega
          have HF := Lib.hid (⟨⟨hown2, hv2⟩, hb2⟩ : PutRel w s (be4 n) 1 v1 w1')
          clear hown1 hgr1 hnil1 hown2 hb2 hv2
          go_wp2_with fail
          go_roundw
          case rel => exact ⟨1, by omega, by go_num, HF.out⟩
          case measure => simp [intOf]
        by_cases hk1 : k = 1
        · subst hk1
          have hvb : IntKind.u8.wrap ((n : Int) / 65536) = ((n / 65536 % 256 : Nat) : Int) := by rw [IntKind.wrap_u8]; omega
          have hnx : s ++ ofNats ((be4 n).take 1) ++ ofNats [n / 65536 % 256] = s ++ ofNats ((be4 n).take 2) := by rw [ByteArray.append_assoc, ← ofNats_append]; rfl
          have HN := Lib.hid hnx
          have HO := Lib.hid hown
          clear hnx hown
          obtain ⟨S, hS⟩ : ∃ S, S = s ++ ofNats ((be4 n).take 1) := ⟨_, rfl⟩
          rw [← hS] at HO HN HS
          have hsle := HS.out
          clear hS
          go_wp2_with (at_builtin; refine wpList_append_own _ rfl _ _ 22 rfl w.heap.size 5 i0 (.int .u8 0) 1 1 Tryz.underlying22 hi hz0 hz1 hz2 rfl (by decide) u7 S.size (Lib.strCells S) rfl (own_below HO.out (below_al (Below.refl _ _) _)) ⟨wr.heap.size, 0, none⟩ 1 1 [.int .u8 ((n / 65536 % 256 : Nat) : Int)] rfl rfl (one_cell (cell_at (new_block wr _) 0)) (fun u hu => by rw [List.mem_singleton.1 hu]; rfl) (by unfold maxLen; omega) (by omega) (by rw [World.size_alloc]; have := hbw.size; omega) ?_; intro v1 w1' hown1 hgr1 hnil1)
          have hown2 := row_snoc hown1 (by omega)
          rw [HN.out] at hown2
          have hb2 := put_grown (u := u7) hbw HO.out hgr1
          have hv2 : v1 ≠ .slice none 0 0 := fun e => by have := (hnil1.1 e).2; omega
          have HF := Lib.hid (⟨⟨hown2, hv2⟩, hb2⟩ : PutRel w s (be4 n) 2 v1 w1')
          clear hown1 hgr1 hnil1 hown2 hb2 hv2
          go_wp2_with fail
          go_roundw
          case rel => exact ⟨2, by omega, by go_num, HF.out⟩
          case measure => simp [intOf]
        by_cases hk2 : k = 2
        · subst hk2
          have hvb : IntKind.u8.wrap ((n : Int) / 256) = ((n / 256 % 256 : Nat) : Int) := by rw [IntKind.wrap_u8]; omega
          have hnx : s ++ ofNats ((be4 n).take 2) ++ ofNats [n / 256 % 256] = s ++ ofNats ((be4 n).take 3) := by rw [ByteArray.append_assoc, ← ofNats_append]; rfl
          have HN := Lib.hid hnx
          have HO := Lib.hid hown
          clear hnx hown
          obtain ⟨S, hS⟩ : ∃ S, S = s ++ ofNats ((be4 n).take 2) := ⟨_, rfl⟩
          rw [← hS] at HO HN HS
          have hsle := HS.out
          clear hS
          go_wp2_with (at_builtin; refine wpList_append_own _ rfl _ _ 22 rfl w.heap.size 5 i0 (.int .u8 0) 1 1 Tryz.underlying22 hi hz0 hz1 hz2 rfl (by decide) u7 S.size (Lib.strCells S) rfl (own_below HO.out (below_al (Below.refl _ _) _)) ⟨wr.heap.size, 0, none⟩ 1 1 [.int .u8 ((n / 256 % 256 : Nat) : Int)] rfl rfl (one_cell (cell_at (new_block wr _) 0)) (fun u hu => by rw [List.mem_singleton.1 hu]; rfl) (by unfold maxLen; omega) (by omega) (by rw [World.size_alloc]; have := hbw.size; omega) ?_; intro v1 w1' hown1 hgr1 hnil1)
          have hown2 := row_snoc hown1 (by omega)
          rw [HN.out] at hown2
          have hb2 := put_grown (u := u7) hbw HO.out hgr1
          have hv2 : v1 ≠ .slice none 0 0 := fun e => by have := (hnil1.1 e).2; omega
          have HF := Lib.hid (⟨⟨hown2, hv2⟩, hb2⟩ : PutRel w s (be4 n) 3 v1 w1')
          clear hown1 hgr1 hnil1 hown2 hb2 hv2
          go_wp2_with fail
          go_roundw
          case rel => exact ⟨3, by omega, by go_num, HF.out⟩
          case measure => simp [intOf]
        by_cases hk3 : k = 3
        · subst hk3
          have hvb : IntKind.u8.wrap ((n : Int)) = ((n % 256 : Nat) : Int) := by rw [IntKind.wrap_u8]; omega
          have hnx : s ++ ofNats ((be4 n).take 3) ++ ofNats [n % 256] = s ++ ofNats ((be4 n).take 4) := by rw [ByteArray.append_assoc, ← ofNats_append]; rfl
          have HN := Lib.hid hnx
          have HO := Lib.hid hown
          clear hnx hown
          obtain ⟨S, hS⟩ : ∃ S, S = s ++ ofNats ((be4 n).take 3) := ⟨_, rfl⟩
          rw [← hS] at HO HN HS
          have hsle := HS.out
          clear hS
          go_wp2_with (at_builtin; refine wpList_append_own _ rfl _ _ 22 rfl w.heap.size 5 i0 (.int .u8 0) 1 1 Tryz.underlying22 hi hz0 hz1 hz2 rfl (by decide) u7 S.size (Lib.strCells S) rfl (own_below HO.out (below_al (Below.refl _ _) _)) ⟨wr.heap.size, 0, none⟩ 1 1 [.int .u8 ((n % 256 : Nat) : Int)] rfl rfl (one_cell (cell_at (new_block wr _) 0)) (fun u hu => by rw [List.mem_singleton.1 hu]; rfl) (by unfold maxLen; omega) (by omega) (by rw [World.size_alloc]; have := hbw.size; omega) ?_; intro v1 w1' hown1 hgr1 hnil1)
          have hown2 := row_snoc hown1 (by omega)
          rw [HN.out] at hown2
          have hb2 := put_grown (u := u7) hbw HO.out hgr1
          have hv2 : v1 ≠ .slice none 0 0 := fun e => by have := (hnil1.1 e).2; omega
          have HF := Lib.hid (⟨⟨hown2, hv2⟩, hb2⟩ : PutRel w s (be4 n) 4 v1 w1')
          clear hown1 hgr1 hnil1 hown2 hb2 hv2
          go_wp2_with fail
          go_roundw
          case rel => exact ⟨4, by omega, by go_num, HF.out⟩
          case measure => simp [intOf]
        omega
      · have hk4 : k = 4 := by omega
        subst hk4
        have HF := Lib.hid (show OwnB wr w.heap.size u7 (s ++ ofNats (be4 n)) from ownB_of hown hvn)
        clear hown
        go_wp2_with fail
        go_ret
        exact ⟨u7, rfl, HF.out, hbw⟩
  | some ad =>
    have hn1 := rd_some hr1
    have HN1 := Lib.hid hn1
    have HO := Lib.hid hown
    have HB1 := Lib.hid hb1
    clear hc0 hr1 hr hown hgr hn1 hb1
    go_enter Tryz.func127, Tryz.ntmps127
    go_wp2_with (at_builtin; refine wpList_append_own _ rfl _ _ 22 rfl w.heap.size 5 i0 (.int .u8 0) 1 1 Tryz.underlying22 hi hz0 hz1 hz2 rfl (by decide) (.slice (some ⟨w.heap.size, 0, none⟩) 0 (s.size + 4)) 0 [] rfl HO.out ad s.size c (Lib.strCells s) rfl (by rw [Lib.strCells_length, Nat.mul_one]) HN1.out (Lib.strCells_oneCell s) (by unfold maxLen; omega) (by omega) hs1 ?_; intro v2 w2 hown2 hgr2 hnil2)
    have hb2w : Below w.heap.size w w2 := HB1.out.grown hgr2 hs1 (fun k hk => by have : w.heap.size = k := (by simpa [Value.ownBlock] using hk); omega)
    have HP0 : Hid (PutRel w s (be4 n) 0 v2 w2) := Lib.hid ⟨⟨by simpa [ofNats_nil, ByteArray.append_empty] using hown2, fun e => by have := (hnil2.1 e).1; cases this⟩, hb2w⟩
    clear hown2 hgr2 hnil2 HO HN1 hs1 hb2w
    go_wp2_with fail
    go_loopw [7, 8] (fun v i wr => ∃ k : Nat, k ≤ 4 ∧ i = .int .i64 ((3 : Int) - k) ∧ PutRel w s (be4 n) k v wr) (fun _ i _ => (intOf i + 1).toNat)
    case atStart => exact ⟨0, by omega, rfl, HP0.out⟩
    case round =>
      obtain ⟨k, hk, rfl, ⟨hown, hvn⟩, hbw⟩ := hrel
      have hsz : (s ++ ofNats ((be4 n).take k)).size ≤ 1000010 := by rw [ByteArray.size_append, ofNats_size, List.length_take]; omega
      have HS := Lib.hid hsz
      by_cases hlt : k < 4
      · by_cases hk0 : k = 0
        · subst hk0
          have hvb : IntKind.u8.wrap ((n : Int) / 16777216) = ((n / 16777216 % 256 : Nat) : Int) := by rw [IntKind.wrap_u8]; omega
          have hnx : s ++ ofNats ((be4 n).take 0) ++ ofNats [n / 16777216 % 256] = s ++ ofNats ((be4 n).take 1) := by rw [ByteArray.append_assoc, ← ofNats_append]; rfl
          have HN := Lib.hid hnx
          have HO := Lib.hid hown
          clear hnx hown
          obtain ⟨S, hS⟩ : ∃ S, S = s ++ ofNats ((be4 n).take 0) := ⟨_, rfl⟩
          rw [← hS] at HO HN HS
          have hsle := HS.out
          clear hS
          go_wp2_with (at_builtin; refine wpList_append_own _ rfl _ _ 22 rfl w.heap.size 5 i0 (.int .u8 0) 1 1 Tryz.underlying22 hi hz0 hz1 hz2 rfl (by decide) u7 S.size (Lib.strCells S) rfl (own_below HO.out (below_al (Below.refl _ _) _)) ⟨wr.heap.size, 0, none⟩ 1 1 [.int .u8 ((n / 16777216 % 256 : Nat) : Int)] rfl rfl (one_cell (cell_at (new_block wr _) 0)) (fun u hu => by rw [List.mem_singleton.1 hu]; rfl) (by unfold maxLen; omega) (by omega) (by rw [World.size_alloc]; have := hbw.size; omega) ?_; intro v1 w1' hown1 hgr1 hnil1)
          have hown2 := row_snoc hown1 (by omega)
          rw [HN.out] at hown2
          have hb2 := put_grown (u := u7) hbw HO.out hgr1
          have hv2 : v1 ≠ .slice none 0 0 := fun e => by have := (hnil1.1 e).2; omega
          have HF := Lib.hid (⟨⟨hown2, hv2⟩, hb2⟩ : PutRel w s (be4 n) 1 v1 w1')
          clear hown1 hgr1 hnil1 hown2 hb2 hv2
          go_wp2_with fail
          go_roundw
          case rel => exact ⟨1, by omega, by go_num, HF.out⟩
          case measure => simp [intOf]
        by_cases hk1 : k = 1
        · subst hk1
          have hvb : IntKind.u8.wrap ((n : Int) / 65536) = ((n / 65536 % 256 : Nat) : Int) := by rw [IntKind.wrap_u8]; omega
          have hnx : s ++ ofNats ((be4 n).take 1) ++ ofNats [n / 65536 % 256] = s ++ ofNats ((be4 n).take 2) := by rw [ByteArray.append_assoc, ← ofNats_append]; rfl
          have HN := Lib.hid hnx
          have HO := Lib.hid hown
          clear hnx hown
          obtain ⟨S, hS⟩ : ∃ S, S = s ++ ofNats ((be4 n).take 1) := ⟨_, rfl⟩
          rw [← hS] at HO HN HS
          have hsle := HS.out
          clear hS
          go_wp2_with (at_builtin; refine wpList_append_own _ rfl _ _ 22 rfl w.heap.size 5 i0 (.int .u8 0) 1 1 Tryz.underlying22 hi hz0 hz1 hz2 rfl (by decide) u7 S.size (Lib.strCells S) rfl (own_below HO.out (below_al (Below.refl _ _) _)) ⟨wr.heap.size, 0, none⟩ 1 1 [.int .u8 ((n / 65536 % 256 : Nat) : Int)] rfl rfl (one_cell (cell_at (new_block wr _) 0)) (fun u hu => by rw [List.mem_singleton.1 hu]; rfl) (by unfold maxLen; omega) (by omega) (by rw [World.size_alloc]; have := hbw.size; omega) ?_; intro v1 w1' hown1 hgr1 hnil1)
          have hown2 := row_snoc hown1 (by omega)
          rw [HN.out] at hown2
          have hb2 := put_grown (u := u7) hbw HO.out hgr1
          have hv2 : v1 ≠ .slice none 0 0 := fun e => by have := (hnil1.1 e).2; omega
          have HF := Lib.hid (⟨⟨hown2, hv2⟩, hb2⟩ : PutRel w s (be4 n) 2 v1 w1')
          clear hown1 hgr1 hnil1 hown2 hb2 hv2
          go_wp2_with fail
          go_roundw
          case rel => exact ⟨2, by omega, by go_num, HF.out⟩
          case measure => simp [intOf]
        by_cases hk2 : k = 2
        · subst hk2
          have hvb : IntKind.u8.wrap ((n : Int) / 256) = ((n / 256 % 256 : Nat) : Int) := by rw [IntKind.wrap_u8]; omega
          have hnx : s ++ ofNats ((be4 n).take 2) ++ ofNats [n / 256 % 256] = s ++ ofNats ((be4 n).take 3) := by rw [ByteArray.append_assoc, ← ofNats_append]; rfl
          have HN := Lib.hid hnx
          have HO := Lib.hid hown
          clear hnx hown
          obtain ⟨S, hS⟩ : ∃ S, S = s ++ ofNats ((be4 n).take 2) := ⟨_, rfl⟩
          rw [← hS] at HO HN HS
          have hsle := HS.out
          clear hS
          go_wp2_with (at_builtin; refine wpList_append_own _ rfl _ _ 22 rfl w.heap.size 5 i0 (.int .u8 0) 1 1 Tryz.underlying22 hi hz0 hz1 hz2 rfl (by decide) u7 S.size (Lib.strCells S) rfl (own_below HO.out (below_al (Below.refl _ _) _)) ⟨wr.heap.size, 0, none⟩ 1 1 [.int .u8 ((n / 256 % 256 : Nat) : Int)] rfl rfl (one_cell (cell_at (new_block wr _) 0)) (fun u hu => by rw [List.mem_singleton.1 hu]; rfl) (by unfold maxLen; omega) (by omega) (by rw [World.size_alloc]; have := hbw.size; omega) ?_; intro v1 w1' hown1 hgr1 hnil1)
          have hown2 := row_snoc hown1 (by omega)
          rw [HN.out] at hown2
          have hb2 := put_grown (u := u7) hbw HO.out hgr1
          have hv2 : v1 ≠ .slice none 0 0 := fun e => by have := (hnil1.1 e).2; omega
          have HF := Lib.hid (⟨⟨hown2, hv2⟩, hb2⟩ : PutRel w s (be4 n) 3 v1 w1')
          clear hown1 hgr1 hnil1 hown2 hb2 hv2
          go_wp2_with fail
          go_roundw
          case rel => exact ⟨3, by omega, by go_num, HF.out⟩
          case measure => simp [intOf]
        by_cases hk3 : k = 3
        · subst hk3
          have hvb : IntKind.u8.wrap ((n : Int)) = ((n % 256 : Nat) : Int) := by rw [IntKind.wrap_u8]; omega
          have hnx : s ++ ofNats ((be4 n).take 3) ++ ofNats [n % 256] = s ++ ofNats ((be4 n).take 4) := by rw [ByteArray.append_assoc, ← ofNats_append]; rfl
          have HN := Lib.hid hnx
          have HO := Lib.hid hown
          clear hnx hown
          obtain ⟨S, hS⟩ : ∃ S, S = s ++ ofNats ((be4 n).take 3) := ⟨_, rfl⟩
          rw [← hS] at HO HN HS
          have hsle := HS.out
          clear hS
          go_wp2_with (at_builtin; refine wpList_append_own _ rfl _ _ 22 rfl w.heap.size 5 i0 (.int .u8 0) 1 1 Tryz.underlying22 hi hz0 hz1 hz2 rfl (by decide) u7 S.size (Lib.strCells S) rfl (own_below HO.out (below_al (Below.refl _ _) _)) ⟨wr.heap.size, 0, none⟩ 1 1 [.int .u8 ((n % 256 : Nat) : Int)] rfl rfl (one_cell (cell_at (new_block wr _) 0)) (fun u hu => by rw [List.mem_singleton.1 hu]; rfl) (by unfold maxLen; omega) (by omega) (by rw [World.size_alloc]; have := hbw.size; omega) ?_; intro v1 w1' hown1 hgr1 hnil1)
          have hown2 := row_snoc hown1 (by omega)
          rw [HN.out] at hown2
          have hb2 := put_grown (u := u7) hbw HO.out hgr1
          have hv2 : v1 ≠ .slice none 0 0 := fun e => by have := (hnil1.1 e).2; omega
          have HF := Lib.hid (⟨⟨hown2, hv2⟩, hb2⟩ : PutRel w s (be4 n) 4 v1 w1')
          clear hown1 hgr1 hnil1 hown2 hb2 hv2
          go_wp2_with fail
          go_roundw
          case rel => exact ⟨4, by omega, by go_num, HF.out⟩
          case measure => simp [intOf]
        omega
      · have hk4 : k = 4 := by omega
        subst hk4
        have HF := Lib.hid (show OwnB wr w.heap.size u7 (s ++ ofNats (be4 n)) from ownB_of hown hvn)
        clear hown
        go_wp2_with fail
        go_ret
        exact ⟨u7, rfl, HF.out, hbw⟩
set_option maxRecDepth 100000 in
set_option maxHeartbeats 2000000 in
theorem put2_any (Ao : Option Addr) (c : Nat) (s : ByteArray) (n : Nat) (w : World) (hr : RdB w Ao s) (hs : s.size ≤ 1000000) (hn : n < 4294967296) (hc0 : Ao = none → c = 0) :
    Calls Tryz.prog 127 #[.slice Ao s.size c, .int .i64 (n : Int), .int .i64 2] w fun e w' => ∃ v, e = .returned v ∧ OwnB w' w.heap.size v (s ++ ofNats (be2 n)) ∧ Below w.heap.size w w' := by
  obtain ⟨i0, hi, hz0, hz1, hz2⟩ := info_parts infoByte
  obtain ⟨w1, hrun, hown, hgr⟩ := run_make_own (P := Tryz.prog) (w := w) w.heap.size 22 5 i0 (.int .u8 0) 1 Tryz.underlying22 hi hz0 hz1 .i64 .i64 (s.size + 2) (by rw [hz2]; omega) (by unfold maxLen; omega) (Nat.le_refl _)
  rw [show (((s.size + 2 : Nat)) : Int) = (s.size : Int) + 2 from by omega] at hrun
  have hb1 := grown_none hgr
  have hs1 := hb1.size
  have hr1 := hr.below hb1
  cases Ao with
  | none =>
    have hse := RdB.none_empty hr1
    have hc00 := hc0 rfl
    subst hse hc00
    have HP0 : Hid (PutRel w ByteArray.empty (be2 n) 0 (.slice (some ⟨w.heap.size, 0, none⟩) 0 2) w1) := Lib.hid ⟨⟨hown, fun h => by cases h⟩, hb1⟩
    have HO := Lib.hid (show w1.ownsRow w.heap.size 5 1 (.slice (some ⟨w.heap.size, 0, none⟩) 0 2) 0 [] from hown)
    rw [show ((ByteArray.empty.size : Nat) : Int) + 2 = 2 from rfl] at hrun
    obtain ⟨s, hse⟩ : ∃ s, s = ByteArray.empty := ⟨_, rfl⟩
    rw [← hse] at HP0 ⊢
    have hz : s.size = 0 := by rw [hse]; rfl
    have hz9 : s.size ≤ 1000000 := by omega
    have HZ := Lib.hid hz
    rw [hz]
    clear hc0 hr1 hr hown hgr hz hs hse hb1
    go_enter Tryz.func127, Tryz.ntmps127
    go_wp2_with (at_builtin; refine wpList_append_own_none rfl _ _ 22 rfl w.heap.size 5 i0 1 Tryz.underlying22 hi (.slice (some ⟨w.heap.size, 0, none⟩) 0 2) 0 [] rfl HO.out rfl ?_)
    go_loopw [7, 8] (fun v i wr => ∃ k : Nat, k ≤ 2 ∧ i = .int .i64 ((1 : Int) - k) ∧ PutRel w s (be2 n) k v wr) (fun _ i _ => (intOf i + 1).toNat)
    case atStart => exact ⟨0, by omega, rfl, HP0.out⟩
    case round =>
      obtain ⟨k, hk, rfl, ⟨hown, hvn⟩, hbw⟩ := hrel
      have hsz : (s ++ ofNats ((be2 n).take k)).size ≤ 1000010 := by rw [ByteArray.size_append, ofNats_size, List.length_take]; omega
      have HS := Lib.hid hsz
      by_cases hlt : k < 2
      · by_cases hk0 : k = 0
        · subst hk0
          have hvb : IntKind.u8.wrap ((n : Int) / 256) = ((n / 256 % 256 : Nat) : Int) := by rw [IntKind.wrap_u8]; omega
          have hnx : s ++ ofNats ((be2 n).take 0) ++ ofNats [n / 256 % 256] = s ++ ofNats ((be2 n).take 1) := by rw [ByteArray.append_assoc, ← ofNats_append]; rfl
          have HN := Lib.hid hnx
          have HO := Lib.hid hown
          clear hnx hown
          obtain ⟨S, hS⟩ : ∃ S, S = s ++ ofNats ((be2 n).take 0) := ⟨_, rfl⟩
          rw [← hS] at HO HN HS
          have hsle := HS.out
          clear hS
          go_wp2_with (at_builtin; refine wpList_append_own _ rfl _ _ 22 rfl w.heap.size 5 i0 (.int .u8 0) 1 1 Tryz.underlying22 hi hz0 hz1 hz2 rfl (by decide) u7 S.size (Lib.strCells S) rfl (own_below HO.out (below_al (Below.refl _ _) _)) ⟨wr.heap.size, 0, none⟩ 1 1 [.int .u8 ((n / 256 % 256 : Nat) : Int)] rfl rfl (one_cell (cell_at (new_block wr _) 0)) (fun u hu => by rw [List.mem_singleton.1 hu]; rfl) (by unfold maxLen; omega) (by omega) (by rw [World.size_alloc]; have := hbw.size; omega) ?_; intro v1 w1' hown1 hgr1 hnil1)
          have hown2 := row_snoc hown1 (by omega)
          rw [HN.out] at hown2
          have hb2 := put_grown (u := u7) hbw HO.out hgr1
          have hv2 : v1 ≠ .slice none 0 0 := fun e => by have := (hnil1.1 e).2; omega
          have HF := Lib.hid (⟨⟨hown2, hv2⟩, hb2⟩ : PutRel w s (be2 n) 1 v1 w1')
          clear hown1 hgr1 hnil1 hown2 hb2 hv2
          go_wp2_with fail
          go_roundw
          case rel => exact ⟨1, by omega, by go_num, HF.out⟩
          case measure => simp [intOf]
        by_cases hk1 : k = 1
        · subst hk1
          have hvb : IntKind.u8.wrap ((n : Int)) = ((n % 256 : Nat) : Int) := by rw [IntKind.wrap_u8]; omega
          have hnx : s ++ ofNats ((be2 n).take 1) ++ ofNats [n % 256] = s ++ ofNats ((be2 n).take 2) := by rw [ByteArray.append_assoc, ← ofNats_append]; rfl
          have HN := Lib.hid hnx
          have HO := Lib.hid hown
          clear hnx hown
          obtain ⟨S, hS⟩ : ∃ S, S = s ++ ofNats ((be2 n).take 1) := ⟨_, rfl⟩
          rw [← hS] at HO HN HS
          have hsle := HS.out
          clear hS
          go_wp2_with (at_builtin; refine wpList_append_own _ rfl _ _ 22 rfl w.heap.size 5 i0 (.int .u8 0) 1 1 Tryz.underlying22 hi hz0 hz1 hz2 rfl (by decide) u7 S.size (Lib.strCells S) rfl (own_below HO.out (below_al (Below.refl _ _) _)) ⟨wr.heap.size, 0, none⟩ 1 1 [.int .u8 ((n % 256 : Nat) : Int)] rfl rfl (one_cell (cell_at (new_block wr _) 0)) (fun u hu => by rw [List.mem_singleton.1 hu]; rfl) (by unfold maxLen; omega) (by omega) (by rw [World.size_alloc]; have := hbw.size; omega) ?_; intro v1 w1' hown1 hgr1 hnil1)
          have hown2 := row_snoc hown1 (by omega)
          rw [HN.out] at hown2
          have hb2 := put_grown (u := u7) hbw HO.out hgr1
          have hv2 : v1 ≠ .slice none 0 0 := fun e => by have := (hnil1.1 e).2; omega
          have HF := Lib.hid (⟨⟨hown2, hv2⟩, hb2⟩ : PutRel w s (be2 n) 2 v1 w1')
          clear hown1 hgr1 hnil1 hown2 hb2 hv2
          go_wp2_with fail
          go_roundw
          case rel => exact ⟨2, by omega, by go_num, HF.out⟩
          case measure => simp [intOf]
        omega
      · have hk4 : k = 2 := by omega
        subst hk4
        have HF := Lib.hid (show OwnB wr w.heap.size u7 (s ++ ofNats (be2 n)) from ownB_of hown hvn)
        clear hown
        go_wp2_with fail
        go_ret
        exact ⟨u7, rfl, HF.out, hbw⟩
  | some ad =>
    have hn1 := rd_some hr1
    have HN1 := Lib.hid hn1
    have HO := Lib.hid hown
    have HB1 := Lib.hid hb1
    clear hc0 hr1 hr hown hgr hn1 hb1
    go_enter Tryz.func127, Tryz.ntmps127
    go_wp2_with (at_builtin; refine wpList_append_own _ rfl _ _ 22 rfl w.heap.size 5 i0 (.int .u8 0) 1 1 Tryz.underlying22 hi hz0 hz1 hz2 rfl (by decide) (.slice (some ⟨w.heap.size, 0, none⟩) 0 (s.size + 2)) 0 [] rfl HO.out ad s.size c (Lib.strCells s) rfl (by rw [Lib.strCells_length, Nat.mul_one]) HN1.out (Lib.strCells_oneCell s) (by unfold maxLen; omega) (by omega) hs1 ?_; intro v2 w2 hown2 hgr2 hnil2)
    have hb2w : Below w.heap.size w w2 := HB1.out.grown hgr2 hs1 (fun k hk => by have : w.heap.size = k := (by simpa [Value.ownBlock] using hk); omega)
    have HP0 : Hid (PutRel w s (be2 n) 0 v2 w2) := Lib.hid ⟨⟨by simpa [ofNats_nil, ByteArray.append_empty] using hown2, fun e => by have := (hnil2.1 e).1; cases this⟩, hb2w⟩
    clear hown2 hgr2 hnil2 HO HN1 hs1 hb2w
    go_wp2_with fail
    go_loopw [7, 8] (fun v i wr => ∃ k : Nat, k ≤ 2 ∧ i = .int .i64 ((1 : Int) - k) ∧ PutRel w s (be2 n) k v wr) (fun _ i _ => (intOf i + 1).toNat)
    case atStart => exact ⟨0, by omega, rfl, HP0.out⟩
    case round =>
      obtain ⟨k, hk, rfl, ⟨hown, hvn⟩, hbw⟩ := hrel
      have hsz : (s ++ ofNats ((be2 n).take k)).size ≤ 1000010 := by rw [ByteArray.size_append, ofNats_size, List.length_take]; omega
      have HS := Lib.hid hsz
      by_cases hlt : k < 2
      · by_cases hk0 : k = 0
        · subst hk0
          have hvb : IntKind.u8.wrap ((n : Int) / 256) = ((n / 256 % 256 : Nat) : Int) := by rw [IntKind.wrap_u8]; omega
          have hnx : s ++ ofNats ((be2 n).take 0) ++ ofNats [n / 256 % 256] = s ++ ofNats ((be2 n).take 1) := by rw [ByteArray.append_assoc, ← ofNats_append]; rfl
          have HN := Lib.hid hnx
          have HO := Lib.hid hown
          clear hnx hown
          obtain ⟨S, hS⟩ : ∃ S, S = s ++ ofNats ((be2 n).take 0) := ⟨_, rfl⟩
          rw [← hS] at HO HN HS
          have hsle := HS.out
          clear hS
          go_wp2_with (at_builtin; refine wpList_append_own _ rfl _ _ 22 rfl w.heap.size 5 i0 (.int .u8 0) 1 1 Tryz.underlying22 hi hz0 hz1 hz2 rfl (by decide) u7 S.size (Lib.strCells S) rfl (own_below HO.out (below_al (Below.refl _ _) _)) ⟨wr.heap.size, 0, none⟩ 1 1 [.int .u8 ((n / 256 % 256 : Nat) : Int)] rfl rfl (one_cell (cell_at (new_block wr _) 0)) (fun u hu => by rw [List.mem_singleton.1 hu]; rfl) (by unfold maxLen; omega) (by omega) (by rw [World.size_alloc]; have := hbw.size; omega) ?_; intro v1 w1' hown1 hgr1 hnil1)
          have hown2 := row_snoc hown1 (by omega)
          rw [HN.out] at hown2
          have hb2 := put_grown (u := u7) hbw HO.out hgr1
          have hv2 : v1 ≠ .slice none 0 0 := fun e => by have := (hnil1.1 e).2; omega
          have HF := Lib.hid (⟨⟨hown2, hv2⟩, hb2⟩ : PutRel w s (be2 n) 1 v1 w1')
          clear hown1 hgr1 hnil1 hown2 hb2 hv2
          go_wp2_with fail
          go_roundw
          case rel => exact ⟨1, by omega, by go_num, HF.out⟩
          case measure => simp [intOf]
        by_cases hk1 : k = 1
        · subst hk1
          have hvb : IntKind.u8.wrap ((n : Int)) = ((n % 256 : Nat) : Int) := by rw [IntKind.wrap_u8]; omega
          have hnx : s ++ ofNats ((be2 n).take 1) ++ ofNats [n % 256] = s ++ ofNats ((be2 n).take 2) := by rw [ByteArray.append_assoc, ← ofNats_append]; rfl
          have HN := Lib.hid hnx
          have HO := Lib.hid hown
          clear hnx hown
          obtain ⟨S, hS⟩ : ∃ S, S = s ++ ofNats ((be2 n).take 1) := ⟨_, rfl⟩
          rw [← hS] at HO HN HS
          have hsle := HS.out
          clear hS
          go_wp2_with (at_builtin; refine wpList_append_own _ rfl _ _ 22 rfl w.heap.size 5 i0 (.int .u8 0) 1 1 Tryz.underlying22 hi hz0 hz1 hz2 rfl (by decide) u7 S.size (Lib.strCells S) rfl (own_below HO.out (below_al (Below.refl _ _) _)) ⟨wr.heap.size, 0, none⟩ 1 1 [.int .u8 ((n % 256 : Nat) : Int)] rfl rfl (one_cell (cell_at (new_block wr _) 0)) (fun u hu => by rw [List.mem_singleton.1 hu]; rfl) (by unfold maxLen; omega) (by omega) (by rw [World.size_alloc]; have := hbw.size; omega) ?_; intro v1 w1' hown1 hgr1 hnil1)
          have hown2 := row_snoc hown1 (by omega)
          rw [HN.out] at hown2
          have hb2 := put_grown (u := u7) hbw HO.out hgr1
          have hv2 : v1 ≠ .slice none 0 0 := fun e => by have := (hnil1.1 e).2; omega
          have HF := Lib.hid (⟨⟨hown2, hv2⟩, hb2⟩ : PutRel w s (be2 n) 2 v1 w1')
          clear hown1 hgr1 hnil1 hown2 hb2 hv2
          go_wp2_with fail
          go_roundw
          case rel => exact ⟨2, by omega, by go_num, HF.out⟩
          case measure => simp [intOf]
        omega
      · have hk4 : k = 2 := by omega
        subst hk4
        have HF := Lib.hid (show OwnB wr w.heap.size u7 (s ++ ofNats (be2 n)) from ownB_of hown hvn)
        clear hown
        go_wp2_with fail
        go_ret
        exact ⟨u7, rfl, HF.out, hbw⟩

end Go.Proofs.YtpgpphmpnebafaaGreat.Mt
