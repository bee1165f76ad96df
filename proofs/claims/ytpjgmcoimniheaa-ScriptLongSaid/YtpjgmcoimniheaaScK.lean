/- The law that of more than 4096 bytes the first 4096 count: by a walk. -/
import Derived.Test.YtpjgmcoimniheaaScI
import Derived.Test.YtpjgmcoimniheaaMrA
import Derived.Deep.RegionHeld3
namespace Go.Proofs.Ytpjgmcoimniheaa.Sc
open Go.RowKit Go.Proofs.Ytpjgmcoimniheaa.By Go.Proofs.Ytpjgmcoimniheaa.Mt
set_option linter.unusedSimpArgs false
set_option linter.unusedVariables false

set_option maxRecDepth 100000 in
set_option maxHeartbeats 4000000 in
theorem long_big (b : ByteArray) (n : Nat) (w : World) (h : 5000 < b.size) : Calls Try.prog 12 #[.string b, .int .u8 (n : Int)] w fun x w' => x = .returned (.bool true) ∧ Below w.heap.size w w' := by
  have t : decide (5000 < b.size) = true := decide_eq_true h
  have ti : decide ((5000 : Int) < (b.size : Int)) = true := decide_eq_true (by omega)
  go_enter Try.func12, Try.ntmps12
  go_wp2_with fail
  refine (awake_any _).mono ?_
  rintro x w1 ⟨rfl, hb1⟩
  go_wp2_with fail
  refine (awake_any _).mono ?_
  rintro x w2 ⟨rfl, hb2⟩
  go_wp2_with fail
  go_ret
  exact ⟨rfl, bl hb1 hb2⟩
set_option maxRecDepth 100000 in
set_option maxHeartbeats 4000000 in
theorem long_none (b : ByteArray) (n : Nat) (w : World) (h : b.size = 0) : Calls Try.prog 12 #[.string b, .int .u8 (n : Int)] w fun x w' => x = .returned (.bool true) ∧ Below w.heap.size w w' := by
  have t : decide (5000 < b.size) = false := decide_eq_false (by omega)
  have ti : decide ((5000 : Int) < (b.size : Int)) = false := decide_eq_false (by omega)
  have u : (b.size == 0) = true := beq_iff_eq.2 h
  have ui : ((b.size : Int) == 0) = true := beq_iff_eq.2 (by omega)
  clear h
  go_enter Try.func12, Try.ntmps12
  go_wp2_with fail
  refine (awake_any _).mono ?_
  rintro x w1 ⟨rfl, hb1⟩
  go_wp2_with fail
  refine (awake_any _).mono ?_
  rintro x w2 ⟨rfl, hb2⟩
  go_wp2_with fail
  go_ret
  exact ⟨rfl, bl hb1 hb2⟩
theorem conv_one_dr (W : World) (b : Nat) (hb : b < 256) : (convert 25 9 (.slice (some ⟨W.heap.size, 0, none⟩) 1 1)).run Try.prog (W.alloc (.cells #[.int .u8 (b : Int)] 5)).drew = .ok (.string (ofNats [b])) (W.alloc (.cells #[.int .u8 (b : Int)] 5)).drew := by
  have h := conv_bytes (W := (W.alloc (.cells #[.int .u8 (b : Int)] 5)).drew) (A := some ⟨W.heap.size, 0, none⟩) (s := ofNats [b]) (RdB.of_block (show (W.alloc (.cells #[.int .u8 (b : Int)] 5)).drew.heap[W.heap.size]? = _ from new_block W _) (by rw [cells_ofNats _ (by simpa using hb)]; rfl)) (fun ad h => by cases h; rfl) 1
  exact h
theorem cut_first (s t : ByteArray) (h : s.size = 4096) : cutN (s ++ t) = cutN s := by
  unfold cutN
  rw [nats_append, List.take_append_of_le_length (by rw [nats_length]; omega)]
set_option maxRecDepth 100000 in
set_option maxHeartbeats 4000000 in
theorem long_mid (b : ByteArray) (n : Nat) (w : World) (h1 : 0 < b.size) (h2 : b.size ≤ 5000) (hn : n < 256) : Calls Try.prog 12 #[.string b, .int .u8 (n : Int)] w fun x w' => x = .returned (.bool true) ∧ Below w.heap.size w w' := by
  have t : decide (5000 < b.size) = false := decide_eq_false (by omega)
  have ti : decide ((5000 : Int) < (b.size : Int)) = false := decide_eq_false (by omega)
  have u : (b.size == 0) = false := beq_eq_false_iff_ne.2 (by omega)
  have ui : ((b.size : Int) == 0) = false := beq_eq_false_iff_ne.2 (by omega)
  go_enter Try.func12, Try.ntmps12
  go_wp2_with fail
  refine (awake_any _).mono ?_
  rintro x w1 ⟨rfl, hb1⟩
  have HB1 := Lib.hid hb1
  clear hb1
  go_wp2_with fail
  go_loop [5] (fun v => ∃ s : ByteArray, v = .string s ∧ s.size ≤ 9096) (fun v => match v with | .string s => 4096 - s.size | _ => 0)
  case atStart => exact ⟨b, rfl, by omega⟩
  case round =>
    obtain ⟨s, rfl, hs⟩ := hrel
    by_cases hlt : s.size < 4096
    · have v1 : decide (s.size < 4096) = true := decide_eq_true hlt
      have v2 : decide ((s.size : Int) < 4096) = true := decide_eq_true (by omega)
      have hov : ¬ 9223372036854775807 < s.size + b.size := by omega
      go_wp2_with fail
      go_round
      case rel => exact ⟨s ++ b, rfl, by rw [ByteArray.size_append]; omega⟩
      case measure => simp only [ByteArray.size_append]; omega
    · have v1 : decide (s.size < 4096) = false := decide_eq_false hlt
      have v2 : decide ((s.size : Int) < 4096) = false := decide_eq_false (by omega)
      have hs4 : (4096 : Int) ≤ (s.size : Int) := by omega
      obtain ⟨q, hq⟩ : ∃ q, s.extract 0 4096 = q := ⟨_, rfl⟩
      have hqs : q.size = 4096 := by rw [← hq, ext_size]; omega
      obtain ⟨c2, W2, hcv, hbc, hcm, hrd, hbW, hltW⟩ := conv_in_cap w1 q (by omega)
      have HB2 := Lib.hid (bl HB1.out hbW)
      have HD := Lib.hid (decode_str w1.heap.size c2 q W2 hrd hbc hcm hltW)
      have HQS := Lib.hid hqs
      clear hbW hrd hbc hcm hltW hqs
      go_wp2_with fail
      refine HD.out.mono ?_
      rintro x w3 ⟨A3, c3, rfl, hst3, hb3⟩
      have HB3 := Lib.hid (bl HB2.out hb3)
      have HS3 := Lib.hid hst3
      clear hb3 hst3 hcv HD
      go_wp2_with fail
      have hco := fun X : World => conv_one_dr X n hn
      obtain ⟨r, hr⟩ : ∃ r, ofNats [n] = r := ⟨_, rfl⟩
      have hrs : r.size = 1 := by rw [← hr, ofNats_size]; rfl
      rw [hr] at hco
      have hov1 : ¬ 9223372036854775807 < q.size + r.size := by have := HQS.out; omega
      have hov2 : ¬ 9223372036854775807 < q.size + r.size + b.size := by have := HQS.out; omega
      have HRS := Lib.hid hrs
      clear hr hrs
      refine wp_region_held_drew (S := (fun X => Below w3.heap.size w3 X)) (by kernel_rfl) (((by repeat (first | exact Below.refl _ _ | assumption | apply below_dr | apply below_dn | apply below_al)) : Below w3.heap.size w3 _)) (fun hHeld => ?_)
      try simp only [Act.put, List.setIfInBounds_toArray, List.set_cons_zero, List.set_cons_succ]
      refine wpAnyH_take (i := 0) (v := ?_) (by simp only [List.getElem?_toArray, List.getElem?_cons_succ, List.getElem?_cons_zero]; rfl) (by kernel_rfl) (by kernel_rfl) (by kernel_rfl) (by exact fun _ _ _ h => h) (Or.inl ⟨by rfl, ?_⟩) (by assumption) ?_
      rotate_left
      · intro w hSw; (try dsimp only at hSw); go_simp; try with_reducible rfl
      try simp only [Act.put, List.setIfInBounds_toArray, List.set_cons_zero, List.set_cons_succ]
      refine wpAnyH_take (i := 1) (v := ?_) (by simp only [List.getElem?_toArray, List.getElem?_cons_succ, List.getElem?_cons_zero]; rfl) (by kernel_rfl) (by kernel_rfl) (by kernel_rfl) (by exact fun _ _ _ h => h) (Or.inl ⟨by rfl, ?_⟩) (by assumption) ?_
      rotate_left
      · intro w hSw; (try dsimp only at hSw); go_simp; try with_reducible rfl
      try simp only [Act.put, List.setIfInBounds_toArray, List.set_cons_zero, List.set_cons_succ]
      refine wpAnyH_take (i := 2) (v := ?_) (by simp only [List.getElem?_toArray, List.getElem?_cons_succ, List.getElem?_cons_zero]; rfl) (by kernel_rfl) (by kernel_rfl) (by kernel_rfl) (by exact fun _ _ _ h => h) (Or.inl ⟨by rfl, ?_⟩) (by assumption) ?_
      rotate_left
      · intro w hSw; (try dsimp only at hSw); go_simp; try with_reducible rfl
      try simp only [Act.put, List.setIfInBounds_toArray, List.set_cons_zero, List.set_cons_succ]
      refine wpAnyH_take (i := 6) (v := ?_) (by simp only [List.getElem?_toArray, List.getElem?_cons_succ, List.getElem?_cons_zero]; rfl) (by kernel_rfl) (by kernel_rfl) (by kernel_rfl) (by exact fun _ _ _ h => h) (Or.inl ⟨by rfl, ?_⟩) (by assumption) ?_
      rotate_left
      · intro w hSw; (try dsimp only at hSw); go_simp; try with_reducible rfl
      try simp only [Act.put, List.setIfInBounds_toArray, List.set_cons_zero, List.set_cons_succ]
      refine wpAnyH_ready (rs := [3]) (by kernel_rfl) (by simp) ?_
      refine AllReadyH.cons (by simp only [List.getElem?_toArray, List.getElem?_cons_succ, List.getElem?_cons_zero]; rfl) (fun K hK => ?_) AllReadyH.nil
      go_simp
      refine hK.out _ _ (((by repeat (first | exact Below.refl _ _ | assumption | apply below_dr | apply below_dn | apply below_al)) : Below w3.heap.size w3 _)) (fun hHeld => ?_)
      clear hK K
      try simp only [Act.put, List.setIfInBounds_toArray, List.set_cons_zero, List.set_cons_succ]
      refine wpAnyH_ready (rs := [4]) (by kernel_rfl) (by simp) ?_
      refine AllReadyH.cons (by simp only [List.getElem?_toArray, List.getElem?_cons_succ, List.getElem?_cons_zero]; rfl) (fun K hK => ?_) AllReadyH.nil
      go_simp
      refine hK.out _ _ (((by repeat (first | exact Below.refl _ _ | assumption | apply below_dr | apply below_dn | apply below_al)) : Below w3.heap.size w3 _)) (fun hHeld => ?_)
      clear hK K
      try simp only [Act.put, List.setIfInBounds_toArray, List.set_cons_zero, List.set_cons_succ]
      refine wpAnyH_take (i := 5) (v := ?_) (by simp only [List.getElem?_toArray, List.getElem?_cons_succ, List.getElem?_cons_zero]; rfl) (by kernel_rfl) (by kernel_rfl) (by kernel_rfl) (by exact fun _ _ _ h => h) (Or.inl ⟨by rfl, ?_⟩) (by assumption) ?_
      rotate_left
      · intro w hSw; (try dsimp only at hSw); go_simp; try with_reducible rfl
      try simp only [Act.put, List.setIfInBounds_toArray, List.set_cons_zero, List.set_cons_succ]
      refine wpAnyH_take (i := 7) (v := ?_) (by simp only [List.getElem?_toArray, List.getElem?_cons_succ, List.getElem?_cons_zero]; rfl) (by kernel_rfl) (by kernel_rfl) (by kernel_rfl) (by exact fun _ _ _ h => h) (Or.inl ⟨by rfl, ?_⟩) (by assumption) ?_
      rotate_left
      · intro w hSw; (try dsimp only at hSw); go_simp; try with_reducible rfl
      try simp only [Act.put, List.setIfInBounds_toArray, List.set_cons_zero, List.set_cons_succ]
      obtain ⟨c5, W5, hcv5, hbc5, hcm5, hrd5, hbW5, hlt5⟩ := conv_in_cap (w3.alloc (.cells #[.int .u8 (n : Int)] 5)).drew (q ++ r ++ b) (by rw [ByteArray.size_append, ByteArray.size_append]; have := HQS.out; have := HRS.out; omega)
      have hb35 : Below w3.heap.size w3 W5 := bl (below_dr (below_al (Below.refl _ _) _)) hbW5
      have e5 : (w3.alloc (.cells #[.int .u8 (n : Int)] 5)).drew.heap.size = w3.heap.size + 1 := World.size_alloc w3 _
      rw [e5] at hcv5 hrd5 hlt5
      have HCUT := Lib.hid (show cutN (q ++ r ++ b) = cutN q by rw [ByteArray.append_assoc]; exact cut_first q _ HQS.out)
      have hb35' := hb35.size
      clear hbW5 e5
      have hd6 := decode_str (w3.heap.size + 1) c5 (q ++ r ++ b) W5 hrd5 hbc5 hcm5 hlt5
      rw [HCUT.out, ByteArray.size_append, ByteArray.size_append] at hd6
      have HD6 := Lib.hid hd6
      clear hd6 hrd5 hbc5 hcm5
      refine wpAnyH_ready (rs := [8]) (by kernel_rfl) (by simp) ?_
      refine AllReadyH.cons (by simp only [List.getElem?_toArray, List.getElem?_cons_succ, List.getElem?_cons_zero]; rfl) (fun K hK => ?_) AllReadyH.nil
      go_simp
      refine hK.out _ _ (((by repeat (first | exact Below.refl _ _ | assumption | apply below_dr | apply below_dn | apply below_al)) : Below w3.heap.size w3 _)) (fun hHeld => ?_)
      clear hK K
      try simp only [Act.put, List.setIfInBounds_toArray, List.set_cons_zero, List.set_cons_succ]
      refine wpAnyH_ready (rs := [9]) (by kernel_rfl) (by simp) ?_
      refine AllReadyH.cons (by simp only [List.getElem?_toArray, List.getElem?_cons_succ, List.getElem?_cons_zero]; rfl) (fun K hK => ?_) AllReadyH.nil
      go_simp
      refine HD6.out.mono ?_; rintro x w6 ⟨A6, c6, rfl, hst6, hb6⟩; have hb36 : Below w3.heap.size w3 w6 := bl hb35 hb6
      try go_simp
      refine hK.out _ _ (((by repeat (first | exact Below.refl _ _ | assumption | apply below_dr | apply below_dn | apply below_al)) : Below w3.heap.size w3 _)) (fun hHeld => ?_)
      clear hK K
      try simp only [Act.put, List.setIfInBounds_toArray, List.set_cons_zero, List.set_cons_succ]
      refine wpAnyH_take (i := 10) (v := ?_) (by simp only [List.getElem?_toArray, List.getElem?_cons_succ, List.getElem?_cons_zero]; rfl) (by kernel_rfl) (by kernel_rfl) (by kernel_rfl) (by exact fun _ _ _ h => h) (Or.inl ⟨by rfl, ?_⟩) (by assumption) ?_
      rotate_left
      · intro w hSw; (try dsimp only at hSw); go_simp; try with_reducible rfl
      try simp only [Act.put, List.setIfInBounds_toArray, List.set_cons_zero, List.set_cons_succ]
      refine wpAnyH_take (i := 11) (v := ?_) (by simp only [List.getElem?_toArray, List.getElem?_cons_succ, List.getElem?_cons_zero]; rfl) (by kernel_rfl) (by kernel_rfl) (by kernel_rfl) (by exact fun _ _ _ h => h) (Or.inl ⟨by rfl, ?_⟩) (by assumption) ?_
      rotate_left
      · intro w hSw; (try dsimp only at hSw); go_simp; try with_reducible rfl
      try simp only [Act.put, List.setIfInBounds_toArray, List.set_cons_zero, List.set_cons_succ]
      refine wpAnyH_take (i := 12) (v := ?_) (by simp only [List.getElem?_toArray, List.getElem?_cons_succ, List.getElem?_cons_zero]; rfl) (by kernel_rfl) (by kernel_rfl) (by kernel_rfl) (by exact fun _ _ _ h => h) (Or.inl ⟨by rfl, ?_⟩) (by assumption) ?_
      rotate_left
      · intro w hSw; (try dsimp only at hSw); go_simp; try with_reducible rfl
      try simp only [Act.put, List.setIfInBounds_toArray, List.set_cons_zero, List.set_cons_succ]
      refine wpAnyH_ready (rs := [13]) (by kernel_rfl) (by simp) ?_
      refine AllReadyH.cons (by simp only [List.getElem?_toArray, List.getElem?_cons_succ, List.getElem?_cons_zero]; rfl) (fun K hK => ?_) AllReadyH.nil
      go_simp
      refine hK.out _ _ (((by repeat (first | exact Below.refl _ _ | assumption | apply below_dr | apply below_dn | apply below_al)) : Below w3.heap.size w3 _)) (fun hHeld => ?_)
      clear hK K
      try simp only [Act.put, List.setIfInBounds_toArray, List.set_cons_zero, List.set_cons_succ]
      refine wpAnyH_ready (rs := [14]) (by kernel_rfl) (by simp) ?_
      refine AllReadyH.cons (by simp only [List.getElem?_toArray, List.getElem?_cons_succ, List.getElem?_cons_zero]; rfl) (fun K hK => ?_) AllReadyH.nil
      go_simp
      refine hK.out _ _ (((by repeat (first | exact Below.refl _ _ | assumption | apply below_dr | apply below_dn | apply below_al)) : Below w3.heap.size w3 _)) (fun hHeld => ?_)
      clear hK K
      try simp only [Act.put, List.setIfInBounds_toArray, List.set_cons_zero, List.set_cons_succ]
      refine wpAnyH_done (by kernel_rfl) ?_ _
      have HB6 := Lib.hid (bl HB3.out hb36)
      have HS3' := Lib.hid (HS3.out.below hb36)
      have HS6 := Lib.hid hst6
      clear hb36 hst6 hb35 hb35'
      have hL := steps_le q
      generalize decA (cutN q).tail = L at hL HS3' HS6 ⊢
      generalize pagesA (cutN q) = P
      go_wp2_with fail
      go_loopw [63] (fun i wr => ∃ j : Nat, j ≤ (L).length ∧ i = .int .i64 (j : Int) ∧ Below w6.heap.size w6 wr) (fun i _ => (L).length - (intOf i).toNat)
      case atStart => exact ⟨0, Nat.zero_le _, rfl, Below.refl _ _⟩
      case round =>
        obtain ⟨j, hj, rfl, hbw⟩ := hrel
        by_cases hlt : j < (L).length
        · have u1 : decide (j < (L).length) = true := decide_eq_true hlt
          have u2 : decide ((j : Int) < ((L).length : Int)) = true := decide_eq_true (by omega)
          have i1 : (0 : Int) ≤ (j : Int) := by omega
          have i2 : (j : Int) < ((L).length : Int) := by omega
          obtain ⟨s, hs⟩ : ∃ s, (L)[j]? = some s := ⟨_, List.getElem?_eq_getElem hlt⟩
          obtain ⟨g1, rfl, h1⟩ := HS3'.out j s hs
          obtain ⟨g2, rfl, h2⟩ := HS6.out j s hs
          have c0 : wr.cell? ⟨g1, j * 8, none⟩ = some (.int .i64 (s.kind : Int)) := (hbw.cell (World.block_lt_of_cell? _ _ (h1 0 _ rfl))).trans (h1 0 _ rfl)
          have c1 : wr.cell? ⟨g1, j * 8 + 1, none⟩ = some (.int .i64 (s.who : Int)) := (hbw.cell (World.block_lt_of_cell? _ _ (h1 1 _ rfl))).trans (h1 1 _ rfl)
          have c2 : wr.cell? ⟨g1, j * 8 + 2, none⟩ = some (.int .i64 (s.xk : Int)) := (hbw.cell (World.block_lt_of_cell? _ _ (h1 2 _ rfl))).trans (h1 2 _ rfl)
          have c3 : wr.cell? ⟨g1, j * 8 + 3, none⟩ = some (.string (ofNats s.key)) := (hbw.cell (World.block_lt_of_cell? _ _ (h1 3 _ rfl))).trans (h1 3 _ rfl)
          have c4 : wr.cell? ⟨g1, j * 8 + 4, none⟩ = some (.string (ofNats s.val)) := (hbw.cell (World.block_lt_of_cell? _ _ (h1 4 _ rfl))).trans (h1 4 _ rfl)
          have c5 : wr.cell? ⟨g1, j * 8 + 5, none⟩ = some (.int .u64 (s.keep : Int)) := (hbw.cell (World.block_lt_of_cell? _ _ (h1 5 _ rfl))).trans (h1 5 _ rfl)
          have c6 : wr.cell? ⟨g1, j * 8 + 6, none⟩ = some (.int .i64 (s.torn : Int)) := (hbw.cell (World.block_lt_of_cell? _ _ (h1 6 _ rfl))).trans (h1 6 _ rfl)
          have c7 : wr.cell? ⟨g1, j * 8 + 7, none⟩ = some (.int .i64 (s.part : Int)) := (hbw.cell (World.block_lt_of_cell? _ _ (h1 7 _ rfl))).trans (h1 7 _ rfl)
          have d0 : wr.cell? ⟨g2, j * 8, none⟩ = some (.int .i64 (s.kind : Int)) := (hbw.cell (World.block_lt_of_cell? _ _ (h2 0 _ rfl))).trans (h2 0 _ rfl)
          have d1 : wr.cell? ⟨g2, j * 8 + 1, none⟩ = some (.int .i64 (s.who : Int)) := (hbw.cell (World.block_lt_of_cell? _ _ (h2 1 _ rfl))).trans (h2 1 _ rfl)
          have d2 : wr.cell? ⟨g2, j * 8 + 2, none⟩ = some (.int .i64 (s.xk : Int)) := (hbw.cell (World.block_lt_of_cell? _ _ (h2 2 _ rfl))).trans (h2 2 _ rfl)
          have d3 : wr.cell? ⟨g2, j * 8 + 3, none⟩ = some (.string (ofNats s.key)) := (hbw.cell (World.block_lt_of_cell? _ _ (h2 3 _ rfl))).trans (h2 3 _ rfl)
          have d4 : wr.cell? ⟨g2, j * 8 + 4, none⟩ = some (.string (ofNats s.val)) := (hbw.cell (World.block_lt_of_cell? _ _ (h2 4 _ rfl))).trans (h2 4 _ rfl)
          have d5 : wr.cell? ⟨g2, j * 8 + 5, none⟩ = some (.int .u64 (s.keep : Int)) := (hbw.cell (World.block_lt_of_cell? _ _ (h2 5 _ rfl))).trans (h2 5 _ rfl)
          have d6 : wr.cell? ⟨g2, j * 8 + 6, none⟩ = some (.int .i64 (s.torn : Int)) := (hbw.cell (World.block_lt_of_cell? _ _ (h2 6 _ rfl))).trans (h2 6 _ rfl)
          have d7 : wr.cell? ⟨g2, j * 8 + 7, none⟩ = some (.int .i64 (s.part : Int)) := (hbw.cell (World.block_lt_of_cell? _ _ (h2 7 _ rfl))).trans (h2 7 _ rfl)
          have HW := Lib.hid hbw
          clear h1 h2 hs hbw
          go_wp2_with fail
          go_quiet (fail)
          go_wp2_with fail
          go_roundw
          case rel => exact ⟨j + 1, by omega, by go_num, below_dn HW.out _⟩
          case measure => simp [intOf]; omega
        · have u1 : decide (j < (L).length) = false := decide_eq_false hlt
          have u2 : decide ((j : Int) < ((L).length : Int)) = false := decide_eq_false (by omega)
          go_wp2_with fail
          go_ret
          exact ⟨rfl, bl HB6.out hbw⟩
theorem long_any (b : ByteArray) (n : Nat) (w : World) (hn : n < 256) : Calls Try.prog 12 #[.string b, .int .u8 (n : Int)] w fun x w' => x = .returned (.bool true) ∧ Below w.heap.size w w' := by
  by_cases h : 5000 < b.size
  · exact long_big b n w h
  · by_cases h0 : b.size = 0
    · exact long_none b n w h0
    · exact long_mid b n w (by omega) (by omega) hn
theorem long_row (b : ByteArray) (n : Int) (hw : (Lit.int .u8 n).wf = true) (w : World) : Calls Try.prog 12 #[.string b, .int .u8 n] w fun x w' => x = .returned (.bool true) ∧ Below w.heap.size w w' := by
  obtain ⟨m, rfl, hm⟩ := u8_nat hw
  exact long_any b m w hm
end Go.Proofs.Ytpjgmcoimniheaa.Sc
