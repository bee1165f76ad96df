/- The document's device, by walks: writes, reads, Sync. -/
import Derived.Test.YtpdhfnpnilpipaaDrW
namespace Go.Proofs.Ytpdhfnpnilpipaa.Dv
open Go.RowKit
set_option linter.unusedSimpArgs false
set_option linter.unusedVariables false

section
variable {F : Nat → Prop} {b : Nat} {P : List ByteArray} {Q : List (Nat × ByteArray)} {w : World}
set_option maxHeartbeats 400000 in
theorem rwrite_bad (hd : RDev w F b P Q) (i : Int) (s : ByteArray) (hn : s.size ≤ 9223372036854775807) (h : i < 0 ∨ (P.length : Int) ≤ i ∨ s.size ≠ 256) :
    Calls Try.prog 36 #[.pointer (some ⟨b, 0, none⟩), .int .i64 i, .string s] w fun e w' => e = .returned (.int .i64 1) ∧ w = w' := by
  obtain ⟨vp, vw, hd, hf⟩ := hd
  have hc0 := cell_at hd.blk 0
  obtain ⟨Ap, cp, rfl, hcp⟩ := own_slice hd.rowP
  have hsm := hd.small
  clear hd hf
  by_cases h0 : i < 0
  · have t0 : decide (i < 0) = true := decide_eq_true h0
    clear h
    go_enter Try.func36, Try.ntmps36
    go_wp2
    go_ret
    exact ⟨rfl, rfl⟩
  · have t0 : decide (i < 0) = false := decide_eq_false h0
    by_cases h1 : (P.length : Int) ≤ i
    · have t1 : decide ((P.length : Int) ≤ i) = true := decide_eq_true h1
      clear h
      go_enter Try.func36, Try.ntmps36
      go_wp2
      go_ret
      exact ⟨rfl, rfl⟩
    · have t1 : decide ((P.length : Int) ≤ i) = false := decide_eq_false h1
      have t2 : ((s.size : Int) != 256) = true := by rw [bne_iff_ne]; omega
      clear h
      go_enter Try.func36, Try.ntmps36
      go_wp2
      go_ret
      exact ⟨rfl, rfl⟩
theorem rwrite_dev {w W w2 : World} {vp vw v' : Value} (hd : RDevAt w b vp vw P Q) (hf : ∀ k, rfoot b vp vw k → F k) {i : Nat} {s : ByteArray} (hi : i < P.length) (hs0 : s.size = 256)
    {g cap H : Nat} (hgr : W.grownBy w2 vw.ownBlock) (hv : v' = .slice (some ⟨g, 0, none⟩) (Q.length + 1) cap)
    (hown : w2.ownsRow 0 81 2 v' (Q.length + 1) (rCells Q ++ [.int .i64 (i : Int), .string s])) (hat : vw.ownBlock = some g ∨ g = H) (hH : w.heap.size ≤ H) (hb2 : Below w.heap.size w W) :
    RDev (w2.setCell ⟨b, 1, none⟩ v') (fun k => F k ∨ w.heap.size ≤ k) b P (Q ++ [(i, s)]) ∧ Chg F w (w2.setCell ⟨b, 1, none⟩ v') := by
  refine ⟨⟨vp, v', hd.pushWrite hb2 hi hs0 hv hown hgr, ?_⟩, ?_⟩
  · intro k hk
    rcases hk with rfl | hk | hk
    · exact .inl (hf _ (.inl rfl))
    · exact .inl (hf k (.inr (.inl hk)))
    · have : g = k := by rw [hv] at hk; simpa [Value.ownBlock] using hk
      subst this
      rcases hat with hat | hat
      · exact .inl (hf g (.inr (.inr hat)))
      · right; omega
  · exact Chg.setCell ((Chg.of_below hb2 F).trans (Chg.of_grown hgr (F := F) fun k hk => hf k (.inr (.inr hk))) (fun j hj => .inl hj)) (.inl (hf b (.inl rfl))) _
set_option maxHeartbeats 1000000 in
theorem rwrite_ok (hd : RDev w F b P Q) (i : Nat) (hi : i < P.length) (s : ByteArray) (hs0 : s.size = 256) (hQ : Q.length ≤ 1000000) :
    Calls Try.prog 36 #[.pointer (some ⟨b, 0, none⟩), .int .i64 (i : Int), .string s] w fun e w' => e = .returned (.int .i64 0) ∧ RDev w' (fun k => F k ∨ w.heap.size ≤ k) b P (Q ++ [(i, s)]) ∧ Chg F w w' := by
  obtain ⟨vp, vw, hd, hf⟩ := hd
  obtain ⟨i0, hi0, hz0, hz1, hz2⟩ := info_parts infoRWrite
  have hc0 := cell_at hd.blk 0
  have hc1 := cell_at hd.blk 1
  obtain ⟨Ap, cp, rfl, hcp⟩ := own_slice hd.rowP
  have hsm := hd.small
  have HD := Lib.hid hd
  have HF := Lib.hid hf
  have hrow := hd.rowQ
  have t0 : decide ((i : Int) < 0) = false := decide_eq_false (by omega)
  have t1 : decide (P.length ≤ i) = false := decide_eq_false (by omega)
  have t2 : decide ((P.length : Int) ≤ (i : Int)) = false := decide_eq_false (by omega)
  have t3 : ((s.size : Int) != 256) = false := by rw [hs0]; rfl
  have HS := Lib.hid hs0
  have hca := fun X => cell_alloc hc1 X
  have hcb := fun X Y => cell_alloc (hca X) Y
  have hszle : s.size ≤ 256 := by omega
  clear hd hf hs0
  go_enter Try.func36, Try.ntmps36
  go_wp2_with (at_builtin; refine wpList_append_lies _ rfl _ _ 45 rfl 0 81 i0 (.agg #[.int .i64 0, .string ByteArray.empty]) 2 24 Try.underlying45 hi0 hz0 hz1 hz2 rfl (by decide) vw Q.length (rCells Q) rfl (own_below hrow (by repeat (first | exact Below.refl _ _ | apply below_dr | apply below_al))) ⟨w.heap.size, 0, none⟩ 1 1 [.int .i64 (i : Int), .string s] rfl rfl (two_cells (by simp) (by simp)) (by simp [Value.oneCell']) (by decide) (by unfold maxLen; omega) (by omega) (Nat.zero_le _) (w.heap.size + 1) (by simp) ?_; intro g cap w2 hown hgr hat hlt2; have hbk := HD.out.blk_grownW hgr (by repeat (first | exact Below.refl _ _ | apply below_dr | apply below_al)); have hc2 := cell_at hbk 1; have hf2 := frozen_at hbk 1)
  go_ret
  exact ⟨rfl, rwrite_dev HD.out HF.out hi HS.out hgr rfl hown hat (by omega) (by repeat (first | exact Below.refl _ _ | apply below_dr | apply below_al))⟩
set_option maxHeartbeats 400000 in
theorem rread_bad (hd : RDev w F b P Q) (i : Int) (h : i < 0 ∨ (P.length : Int) ≤ i) :
    Calls Try.prog 37 #[.pointer (some ⟨b, 0, none⟩), .int .i64 i] w fun e w' => e = .returned (.tuple #[.string ByteArray.empty, .int .i64 1]) ∧ w = w' := by
  obtain ⟨vp, vw, hd, hf⟩ := hd
  have hc0 := cell_at hd.blk 0
  obtain ⟨Ap, cp, rfl, hcp⟩ := own_slice hd.rowP
  have hsm := hd.small
  clear hd hf
  by_cases h0 : i < 0
  · have t0 : decide (i < 0) = true := decide_eq_true h0
    clear h
    go_enter Try.func37, Try.ntmps37
    go_wp2
    go_ret2
    exact ⟨rfl, rfl⟩
  · have t0 : decide (i < 0) = false := decide_eq_false h0
    have t1 : decide ((P.length : Int) ≤ i) = true := decide_eq_true (by omega)
    clear h
    go_enter Try.func37, Try.ntmps37
    go_wp2
    go_ret2
    exact ⟨rfl, rfl⟩
set_option maxHeartbeats 1000000 in
theorem rread_ok (hd : RDev w F b P Q) (i : Nat) (hi : i < P.length) (hQ : Q.length ≤ 1000000) :
    Calls Try.prog 37 #[.pointer (some ⟨b, 0, none⟩), .int .i64 (i : Int)] w fun e w' => e = .returned (.tuple #[.string (dRead P Q i), .int .i64 0]) ∧ w = w' := by
  obtain ⟨vp, vw, hd, hf⟩ := hd
  have hc0 := cell_at hd.blk 0
  have hc1 := cell_at hd.blk 1
  obtain ⟨gp, cp, rfl, hcp, _⟩ := hd.pageAt hi
  obtain ⟨Aw, cw, rfl, hcw⟩ := own_slice hd.rowQ
  have hsm := hd.small
  have t0 : decide ((i : Int) < 0) = false := decide_eq_false (by omega)
  have t1 : decide (P.length ≤ i) = false := decide_eq_false (by omega)
  have t2 : decide ((P.length : Int) ≤ (i : Int)) = false := decide_eq_false (by omega)
  have hiI : (i : Int) < (P.length : Int) := by omega
  have hrd0 : P.getD i ByteArray.empty = dRead P (Q.take 0) i := by rw [List.take_zero]; rfl
  rw [hrd0] at hcp
  have HD := Lib.hid hd
  have HQ := Lib.hid (fun q hq => (hd.sizeQ q hq).1)
  clear hd hf hrd0
  go_enter Try.func37, Try.ntmps37
  go_wp2_with fail
  go_loop [6, 31] (fun s k => ∃ n : Nat, n ≤ Q.length ∧ k = .int .i64 n ∧ s = .string (dRead P (Q.take n) i)) (fun _ k => Q.length - (intOf k).toNat)
  case atStart => exact ⟨0, Nat.zero_le _, rfl, rfl⟩
  case round =>
    obtain ⟨n, hn, rfl, rfl⟩ := hrel
    by_cases hlt : n < Q.length
    · obtain ⟨q, hq⟩ : ∃ q, Q[n]? = some q := ⟨_, List.getElem?_eq_getElem hlt⟩
      obtain ⟨gw, cw', hv, m1, m2⟩ := HD.out.writeAt hq
      injection hv with hv _ hv2
      subst hv hv2
      have hql := HQ.out q (List.mem_of_getElem? hq)
      by_cases hqi : q.1 = i
      · have tq : ((q.1 : Int) == (i : Int)) = true := by rw [hqi]; simp
        have hstep : dRead P (Q.take (n + 1)) i = q.2 := by
          rw [take_snoc _ _ _ hq]
          have := dRead_hit P (Q.take n) q hql
          rwa [hqi] at this
        have HS := Lib.hid hstep
        clear hstep hqi hq hql
        go_wp2
        go_round
        case rel => exact ⟨n + 1, by omega, by go_num, by rw [HS.out]⟩
        case measure => simp [intOf]; omega
      · have tq : ((q.1 : Int) == (i : Int)) = false := by rw [beq_eq_false_iff_ne]; omega
        have hstep : dRead P (Q.take (n + 1)) i = dRead P (Q.take n) i := by rw [take_snoc _ _ _ hq]; exact dRead_miss P (Q.take n) q i hqi
        have HS := Lib.hid hstep
        clear hstep hqi hq hql
        go_wp2
        go_round
        case rel => exact ⟨n + 1, by omega, by go_num, by rw [HS.out]⟩
        case measure => simp [intOf]; omega
    · have hnq : n = Q.length := by omega
      have hst : dRead P (Q.take n) i = dRead P Q i := by rw [hnq, List.take_length]
      rw [hst]
      clear hnq hst
      go_wp2
      go_ret2
      exact ⟨rfl, rfl⟩
end
end Go.Proofs.Ytpdhfnpnilpipaa.Dv
