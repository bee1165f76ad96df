/- The document's Decode of a script, by a walk. -/
import Derived.Test.YtpjgmcoimniheaaScG
namespace Go.Proofs.Ytpjgmcoimniheaa.Sc
open Go.RowKit Go.Proofs.Ytpjgmcoimniheaa.By Go.Proofs.Ytpjgmcoimniheaa.Mt
set_option linter.unusedSimpArgs false
set_option linter.unusedVariables false

theorem infoRStep : (Try.prog.info? 67).map (fun i => (i.zero, i.size, i.bytes)) = some (some (.agg #[.int .i64 0, .int .i64 0, .int .i64 0, .string ⟨#[]⟩, .string ⟨#[]⟩, .int .u64 0, .int .i64 0, .int .i64 0]), 8, 80) := by kernel_rfl
def rfLen (w : World) (R : Nat) : Nat := match w.cell? ⟨R, 0, none⟩ with | some (.string s) => (match w.cell? ⟨R, 1, none⟩ with | some (.int _ a) => s.size - a.toNat | _ => 0) | _ => 0
theorem rfLen_of {w : World} {R : Nat} {s : ByteArray} {l : List Nat} {o : Bool} (h : RfR w R s l o) : rfLen w R = l.length := by
  obtain ⟨a, h1, h2, rfl⟩ := h
  unfold rfLen
  rw [show w.cell? ⟨R, 0, none⟩ = some (.string s) from cell_at h1 0, show w.cell? ⟨R, 1, none⟩ = some (.int .i64 (a : Int)) from cell_at h1 1, List.length_drop, nats_length]
  simp
def RLoop (w : World) (s : ByteArray) (l0 : List Nat) (R : Nat) (v : Value) (wr : World) (l : List Nat) : Prop := ∃ (acc : List Stp) (o : Bool), RfR wr R s l o ∧ (l ≠ [] → o = false) ∧ decA l0 = acc ++ decA l ∧ acc.length + l.length ≤ 5000 ∧ wr.ownsRow (R + 1) 67 8 v acc.length (stpCells acc) ∧ Below w.heap.size w wr
theorem RLoop.len {w wr : World} {s : ByteArray} {l0 l : List Nat} {R : Nat} {v : Value} (h : RLoop w s l0 R v wr l) : rfLen wr R = l.length := by obtain ⟨_, _, h1, _⟩ := h; exact rfLen_of h1
theorem RLoop.start {w w1 : World} {s : ByteArray} {l : List Nat} {R : Nat} (h : RfR w1 R s l.tail (false || l.isEmpty)) (hl : l.length ≤ 5000) (hb : Below w.heap.size w w1) : RLoop w s l.tail R (.slice none 0 0) w1 l.tail := ⟨[], _, h, fun h0 => by cases l with | nil => exact absurd rfl h0 | cons _ _ => rfl, rfl, by rw [List.length_tail, List.length_nil]; omega, World.ownsRow_nil _ _ _ _, hb⟩
theorem rentry_agg {w : World} {R : Nat} {s : ByteArray} {l : List Nat} {o : Bool} {k : Nat} (h : RfR w R s l o) (hs : s.size ≤ 1000000) (h1 : 1 ≤ k) (h5 : k ≤ 5) {E : Rd Stp} (hE : entryR k l o = E) : Calls Try.prog 49 #[.pointer (some ⟨R, 0, none⟩), .int .i64 (k : Int)] w fun x w' => x = .returned (.agg #[.int .i64 (E.v.kind : Int), .int .i64 (E.v.who : Int), .int .i64 (E.v.xk : Int), .string (ofNats E.v.key), .string (ofNats E.v.val), .int .u64 (E.v.keep : Int), .int .i64 (E.v.torn : Int), .int .i64 (E.v.part : Int)]) ∧ RfR w' R s E.l E.o ∧ Chg (· = R) w w' := by subst hE; exact rentry_any h hs k h1 h5
theorem RLoop.skip {w w1 wr : World} {s : ByteArray} {l0 l : List Nat} {R : Nat} {v : Value} {acc : List Stp} (hs : RfR w1 R s l.tail false) (hd0 : decA l0 = acc ++ decA l) (hlen : acc.length + l.length ≤ 5000) (hown : wr.ownsRow (R + 1) 67 8 v acc.length (stpCells acc)) (hb : Below w.heap.size w wr) (hR : w.heap.size ≤ R) (hch : Chg (· = R) wr w1) (h0 : l ≠ []) (hk : hd l < 1 ∨ 5 < hd l) : RLoop w s l0 R v w1 l.tail :=
  ⟨acc, false, hs, fun _ => rfl, by rw [hd0, decA_skip h0 hk], by rw [List.length_tail]; omega, own_chg hown hch (fun k hk => by omega), hch.below hb (fun k hk => by omega) hb.size⟩
theorem RLoop.more {w w2 wr W : World} {s : ByteArray} {l0 l : List Nat} {R : Nat} {v v1 : Value} {acc : List Stp} {E : Rd Stp} {X Y : Obj} (hE : entryR (hd l) l.tail false = E) (hs : RfR w2 R s E.l false) (hd0 : decA l0 = acc ++ decA l) (hlen : acc.length + l.length ≤ 5000) (hown : wr.ownsRow (R + 1) 67 8 v acc.length (stpCells acc)) (hb : Below w.heap.size w w2) (hR : w.heap.size ≤ R) (h0 : l ≠ []) (h1 : 1 ≤ hd l) (h5 : hd l ≤ 5) (ho : E.o = false) (hown1 : W.ownsRow (R + 1) 67 8 v1 (acc.length + 1) (stpCells acc ++ stpL E.v)) (hgr : ((w2.alloc X).alloc Y).grownBy W v.ownBlock) : RLoop w s l0 R v1 W E.l := by
  subst hE
  have hfrom := own_from_le hown
  have hle := entryR_le (hd l) l.tail false
  have ht : l.tail.length = l.length - 1 := List.length_tail
  have hp : 0 < l.length := List.length_pos_iff.2 h0
  have hR2 := hs.lt
  refine ⟨acc ++ [(entryR (hd l) l.tail false).v], false, ?_, fun _ => rfl, by rw [hd0, decA_cons h0 h1 h5 ho, List.append_assoc]; rfl, by rw [List.length_append, List.length_singleton]; omega, by rw [stpCells_snoc, List.length_append]; exact hown1, (below_al (below_al hb X) Y).grown hgr (by rw [World.size_alloc, World.size_alloc]; have := hb.size; omega) (fun k hk => by have := hfrom k hk; omega)⟩
  have h3 := (hs.al X).al Y
  obtain ⟨a, e1, e2, e3⟩ := h3
  exact ⟨a, (hgr.block R (lt_of_some e1) (fun e => by have := hfrom R e.symm; omega)).trans e1, e2, e3⟩
theorem rdec_out {w w' : World} {l : List Nat} {R : Nat} {A : Option Addr} {c n : Nat} {acc : List Stp} (hd0 : decA l.tail = acc) (hown : w'.ownsRow (R + 1) 67 8 (.slice A n c) n (stpCells acc)) (hn : n = acc.length) (hb : Below w.heap.size w w') : DecR w l (.returned (.tuple #[.int .i64 (pagesA l : Int), .slice A n c])) w' := by
  subst hn
  subst hd0
  exact ⟨A, c, rfl, steps_of_row hown, hb⟩
theorem RfR.empty {w : World} {R : Nat} {s : ByteArray} {l : List Nat} {o : Bool} (h : RfR w R s l o) : ∃ a : Nat, w.cell? ⟨R, 0, none⟩ = some (.string s) ∧ w.cell? ⟨R, 1, none⟩ = some (.int .i64 (a : Int)) ∧ w.cell? ⟨R, 2, none⟩ = some (.bool o) ∧ l.length = s.size - a ∧ a ≤ s.size := by
  obtain ⟨a, h1, h2, rfl⟩ := h
  exact ⟨a, cell_at h1 0, cell_at h1 1, cell_at h1 2, by rw [List.length_drop, nats_length], h2⟩
set_option maxRecDepth 100000 in
set_option maxHeartbeats 4000000 in
theorem rdecode_small (b : ByteArray) (w : World) (hl : b.size ≤ 4096) (s : ByteArray) (hs : s = b) :
    Calls Try.prog 30 #[.string b] w (DecR w (nats s)) := by
  obtain ⟨i0, hi0, hz0, hz1, hz2⟩ := info_parts infoRStep
  have hsz : s.size ≤ 4096 := by rw [hs]; exact hl
  have hb0 : hd (nats s) < 256 := hd_lt (nats_lt s)
  have hq1 : decide ((4096 : Int) < (b.size : Int)) = false := decide_eq_false (by omega)
  have hq2 : decide (4096 < b.size) = false := decide_eq_false (by omega)
  subst hs
  have hs0 : RfR (w.alloc (.cells #[.string s, .int .i64 0, .bool false] 93 (0, 0))) w.heap.size s (nats s) false := ⟨0, new_block w _, Nat.zero_le _, rfl⟩
  have H1 := Lib.hid (next_any hs0 (by omega))
  have HSZ : Hid (s.size ≤ 1000000) := Lib.hid (by omega)
  have HLL : Hid ((nats s).length ≤ 5000) := Lib.hid (by rw [nats_length]; omega)
  obtain ⟨l, hlz⟩ : ∃ l, nats s = l := ⟨_, rfl⟩
  rw [hlz] at H1 HLL hb0 ⊢
  have HP : Hid (pagesA l = 2 + 2 * hd l) := Lib.hid rfl
  clear hs0 hlz 
  go_enter Try.func30, Try.ntmps30
  go_wp2_with fail
  refine H1.out.mono ?_
  rintro x w1 ⟨rfl, hs1, hch1⟩
  have HS0 := Lib.hid (RLoop.start hs1 HLL.out (chg_box2 hch1))
  clear hs1 hch1
  go_wp2_with fail
  go_loopw [6] (fun v wr => ∃ l1 : List Nat, RLoop w s l.tail w.heap.size v wr l1) (fun _ wr => rfLen wr w.heap.size)
  case atStart => exact ⟨_, HS0.out⟩
  case round =>
    obtain ⟨l1, acc, ob, hS, hob, hd0, hlen, hown, hbw⟩ := hrel
    obtain ⟨A2, c3, rfl, hc3⟩ := own_slice hown
    by_cases h0 : l1 = []
    · subst h0
      obtain ⟨a, c0, c1, c2, hla, has⟩ := hS.empty
      rw [List.length_nil] at hla
      have t1 : decide ((a : Int) < (s.size : Int)) = false := decide_eq_false (by omega)
      have t2 : decide (a < s.size) = false := decide_eq_false (by omega)
      rw [decA_nil, List.append_nil] at hd0
      have HO := Lib.hid hown
      have HB := Lib.hid hbw
      have HD := Lib.hid hd0
      clear hS hown hbw hd0 hla has hob
      go_wp2_with fail
      go_ret2
      have h9 := rdec_out (l := l) HD.out HO.out rfl HB.out
      rw [HP.out] at h9
      exact h9
    · have hp : 0 < l1.length := List.length_pos_iff.2 h0
      obtain ⟨a, c0, c1, c2, hla, has⟩ := hS.empty
      have t1 : decide ((a : Int) < (s.size : Int)) = true := decide_eq_true (by omega)
      have t2 : decide (a < s.size) = true := decide_eq_true (by omega)
      have hobf := hob h0
      subst hobf
      have hM := rfLen_of hS
      have H2 := next_any hS HSZ.out
      have hem : l1.isEmpty = false := by cases l1 with | nil => exact absurd rfl h0 | cons _ _ => rfl
      rw [hem, Bool.or_false] at H2
      have H2 := Lib.hid H2
      have HO := Lib.hid hown
      have HB := Lib.hid hbw
      have HD := Lib.hid hd0
      have HLN := Lib.hid hlen
      have HM := Lib.hid hM
      have H0 := Lib.hid h0
      have hb1 : hd l1 < 256 := hd_lt hS.bytes
      clear hS hown hbw hd0 hlen hM hem h0 hla has hob
      by_cases hk : hd l1 < 1 ∨ 5 < hd l1
      · have hk' : hd l1 = 0 ∨ 6 ≤ hd l1 := by omega
        have HK := Lib.hid hk
        clear hk
        rcases hk' with hk' | hk'
        · have u1 : decide ((hd l1 : Int) < 1) = true := decide_eq_true (by omega)
          have u2 : decide (hd l1 < 1) = true := decide_eq_true (by omega)
          have HK2 := Lib.hid hk'
          clear hk'
          go_wp2_with fail
          refine H2.out.mono ?_
          rintro x w2 ⟨rfl, hs2, hch2⟩
          have hF := RLoop.skip hs2 HD.out HLN.out HO.out HB.out (Nat.le_refl _) hch2 H0.out HK.out
          have HF := Lib.hid hF
          have HM2 := Lib.hid (rfLen_of hs2)
          clear hs2 hch2 hF
          go_wp2_with fail
          go_roundw
          case rel => exact ⟨_, HF.out⟩
          case measure => rw [HM2.out, HM.out, List.length_tail]; omega
        · have u1 : decide ((hd l1 : Int) < 1) = false := decide_eq_false (by omega)
          have u2 : decide (hd l1 < 1) = false := decide_eq_false (by omega)
          have u3 : decide ((5 : Int) < (hd l1 : Int)) = true := decide_eq_true (by omega)
          have u4 : decide (5 < hd l1) = true := decide_eq_true (by omega)
          have HK2 := Lib.hid hk'
          clear hk'
          go_wp2_with fail
          refine H2.out.mono ?_
          rintro x w2 ⟨rfl, hs2, hch2⟩
          have hF := RLoop.skip hs2 HD.out HLN.out HO.out HB.out (Nat.le_refl _) hch2 H0.out HK.out
          have HF := Lib.hid hF
          have HM2 := Lib.hid (rfLen_of hs2)
          clear hs2 hch2 hF
          go_wp2_with fail
          go_roundw
          case rel => exact ⟨_, HF.out⟩
          case measure => rw [HM2.out, HM.out, List.length_tail]; omega
      · have u1 : decide ((hd l1 : Int) < 1) = false := decide_eq_false (by omega)
        have u2 : decide (hd l1 < 1) = false := decide_eq_false (by omega)
        have u3 : decide ((5 : Int) < (hd l1 : Int)) = false := decide_eq_false (by omega)
        have u4 : decide (5 < hd l1) = false := decide_eq_false (by omega)
        have HK1 : Hid (1 ≤ hd l1 ∧ hd l1 ≤ 5) := Lib.hid (by omega)
        obtain ⟨E, hE⟩ : ∃ E, entryR (hd l1) l1.tail false = E := ⟨_, rfl⟩
        have HE := Lib.hid hE
        have hle := entryR_le (hd l1) l1.tail false
        rw [hE, List.length_tail] at hle
        have HLE := Lib.hid hle
        clear hk hE hle
        go_wp2_with fail
        refine H2.out.mono ?_
        rintro x w2 ⟨rfl, hs2, hch2⟩
        have HO2 := Lib.hid (own_chg HO.out hch2 (fun k hk => by omega))
        have HB2 := Lib.hid (below_ch HB.out (Nat.le_refl _) hch2)
        have H3 := Lib.hid (rentry_agg hs2 HSZ.out HK1.out.1 HK1.out.2 HE.out)
        clear hs2 hch2
        go_wp2_with fail
        refine H3.out.mono ?_
        rintro x w3 ⟨rfl, hs3, hch3⟩
        have hown3 := own_chg HO2.out hch3 (fun k hk => by omega)
        have hb3 := below_ch HB2.out (Nat.le_refl _) hch3
        obtain ⟨a3, c0', c1', hc1', -, -⟩ := hs3.empty
        have hsz := hs3.lt
        clear hch3
        cases ho : E.o with
        | true =>
          rw [ho] at hc1'
          have hdE := HD.out
          rw [decA_end H0.out HK1.out.1 HK1.out.2 (by rw [HE.out]; exact ho), List.append_nil] at hdE
          have HDE := Lib.hid hdE
          have HO3 := Lib.hid (own_below hown3 (below_al (Below.refl _ _) (.cells #[.int .i64 (E.v.kind : Int), .int .i64 (E.v.who : Int), .int .i64 (E.v.xk : Int), .string (ofNats E.v.key), .string (ofNats E.v.val), .int .u64 (E.v.keep : Int), .int .i64 (E.v.torn : Int), .int .i64 (E.v.part : Int)] 67 (0, 0))))
          have HB3 := Lib.hid (below_al hb3 (.cells #[.int .i64 (E.v.kind : Int), .int .i64 (E.v.who : Int), .int .i64 (E.v.xk : Int), .string (ofNats E.v.key), .string (ofNats E.v.val), .int .u64 (E.v.keep : Int), .int .i64 (E.v.torn : Int), .int .i64 (E.v.part : Int)] 67 (0, 0)))
          clear hs3 hown3 hb3 hdE ho
          go_wp2_with fail
          go_ret2
          have h9 := rdec_out (l := l) HDE.out HO3.out rfl HB3.out
          rw [HP.out] at h9
          exact h9
        | false =>
          rw [ho] at hc1'
          have HS3 := Lib.hid (show RfR w3 w.heap.size s E.l false by rw [← ho]; exact hs3)
          have HEO := Lib.hid ho
          have HB3 := Lib.hid hb3
          have hacc : acc.length ≤ 5000 := by have := HLN.out; omega
          clear hs3 hb3 ho
          go_wp2_with (at_builtin; refine wpList_append_own _ rfl _ _ 60 rfl (w.heap.size + 1) 67 i0 (.agg #[.int .i64 0, .int .i64 0, .int .i64 0, .string ⟨#[]⟩, .string ⟨#[]⟩, .int .u64 0, .int .i64 0, .int .i64 0]) 8 80 Try.underlying60 hi0 hz0 hz1 hz2 rfl (by decide) (.slice A2 acc.length c3) acc.length (stpCells acc) rfl (own_below hown3 (below_al (below_al (Below.refl _ _) _) _)) ⟨w3.heap.size + 1, 0, none⟩ 1 1 (stpL E.v) rfl rfl (news_of (cs := (stpL E.v).toArray) (new_block2 w3 _ _)) (fun u hu => by simp [stpL] at hu; rcases hu with rfl | rfl | rfl | rfl | rfl | rfl | rfl | rfl <;> rfl) (by unfold maxLen; omega) (by omega) (by rw [World.size_alloc, World.size_alloc]; omega) ?_; intro v1 w4 hown4 hgr4 hnil4)
          have hF := RLoop.more HE.out HS3.out HD.out HLN.out HO.out HB3.out (Nat.le_refl _) H0.out HK1.out.1 HK1.out.2 HEO.out hown4 hgr4
          have HF := Lib.hid hF
          clear hown4 hgr4 hnil4 hown3
          go_wp2_with fail
          go_roundw
          case rel => exact ⟨_, HF.out⟩
          case measure => rw [HF.out.len, HM.out]; have := HLE.out; omega
set_option maxRecDepth 100000 in
set_option maxHeartbeats 4000000 in
theorem rdecode_big (b : ByteArray) (w : World) (hl : 4096 < b.size) (s : ByteArray) (hs : s = b.extract 0 4096) :
    Calls Try.prog 30 #[.string b] w (DecR w (nats s)) := by
  obtain ⟨i0, hi0, hz0, hz1, hz2⟩ := info_parts infoRStep
  have hsz : s.size ≤ 4096 := by rw [hs]; rw [ext_size]; omega
  have hb0 : hd (nats s) < 256 := hd_lt (nats_lt s)
  have hq1 : decide ((4096 : Int) < (b.size : Int)) = true := decide_eq_true (by omega)
  have hq2 : decide (4096 < b.size) = true := decide_eq_true (by omega)
  have hx : b.extract 0 4096 = s := hs.symm
  have hb4 : (4096 : Int) ≤ (b.size : Int) := by omega
  have hs0 : RfR (w.alloc (.cells #[.string s, .int .i64 0, .bool false] 93 (0, 0))) w.heap.size s (nats s) false := ⟨0, new_block w _, Nat.zero_le _, rfl⟩
  have H1 := Lib.hid (next_any hs0 (by omega))
  have HSZ : Hid (s.size ≤ 1000000) := Lib.hid (by omega)
  have HLL : Hid ((nats s).length ≤ 5000) := Lib.hid (by rw [nats_length]; omega)
  obtain ⟨l, hlz⟩ : ∃ l, nats s = l := ⟨_, rfl⟩
  rw [hlz] at H1 HLL hb0 ⊢
  have HP : Hid (pagesA l = 2 + 2 * hd l) := Lib.hid rfl
  clear hs0 hlz hs
  go_enter Try.func30, Try.ntmps30
  go_wp2_with fail
  refine H1.out.mono ?_
  rintro x w1 ⟨rfl, hs1, hch1⟩
  have HS0 := Lib.hid (RLoop.start hs1 HLL.out (chg_box2 hch1))
  clear hs1 hch1
  go_wp2_with fail
  go_loopw [6] (fun v wr => ∃ l1 : List Nat, RLoop w s l.tail w.heap.size v wr l1) (fun _ wr => rfLen wr w.heap.size)
  case atStart => exact ⟨_, HS0.out⟩
  case round =>
    obtain ⟨l1, acc, ob, hS, hob, hd0, hlen, hown, hbw⟩ := hrel
    obtain ⟨A2, c3, rfl, hc3⟩ := own_slice hown
    by_cases h0 : l1 = []
    · subst h0
      obtain ⟨a, c0, c1, c2, hla, has⟩ := hS.empty
      rw [List.length_nil] at hla
      have t1 : decide ((a : Int) < (s.size : Int)) = false := decide_eq_false (by omega)
      have t2 : decide (a < s.size) = false := decide_eq_false (by omega)
      rw [decA_nil, List.append_nil] at hd0
      have HO := Lib.hid hown
      have HB := Lib.hid hbw
      have HD := Lib.hid hd0
      clear hS hown hbw hd0 hla has hob
      go_wp2_with fail
      go_ret2
      have h9 := rdec_out (l := l) HD.out HO.out rfl HB.out
      rw [HP.out] at h9
      exact h9
    · have hp : 0 < l1.length := List.length_pos_iff.2 h0
      obtain ⟨a, c0, c1, c2, hla, has⟩ := hS.empty
      have t1 : decide ((a : Int) < (s.size : Int)) = true := decide_eq_true (by omega)
      have t2 : decide (a < s.size) = true := decide_eq_true (by omega)
      have hobf := hob h0
      subst hobf
      have hM := rfLen_of hS
      have H2 := next_any hS HSZ.out
      have hem : l1.isEmpty = false := by cases l1 with | nil => exact absurd rfl h0 | cons _ _ => rfl
      rw [hem, Bool.or_false] at H2
      have H2 := Lib.hid H2
      have HO := Lib.hid hown
      have HB := Lib.hid hbw
      have HD := Lib.hid hd0
      have HLN := Lib.hid hlen
      have HM := Lib.hid hM
      have H0 := Lib.hid h0
      have hb1 : hd l1 < 256 := hd_lt hS.bytes
      clear hS hown hbw hd0 hlen hM hem h0 hla has hob
      by_cases hk : hd l1 < 1 ∨ 5 < hd l1
      · have hk' : hd l1 = 0 ∨ 6 ≤ hd l1 := by omega
        have HK := Lib.hid hk
        clear hk
        rcases hk' with hk' | hk'
        · have u1 : decide ((hd l1 : Int) < 1) = true := decide_eq_true (by omega)
          have u2 : decide (hd l1 < 1) = true := decide_eq_true (by omega)
          have HK2 := Lib.hid hk'
          clear hk'
          go_wp2_with fail
          refine H2.out.mono ?_
          rintro x w2 ⟨rfl, hs2, hch2⟩
          have hF := RLoop.skip hs2 HD.out HLN.out HO.out HB.out (Nat.le_refl _) hch2 H0.out HK.out
          have HF := Lib.hid hF
          have HM2 := Lib.hid (rfLen_of hs2)
          clear hs2 hch2 hF
          go_wp2_with fail
          go_roundw
          case rel => exact ⟨_, HF.out⟩
          case measure => rw [HM2.out, HM.out, List.length_tail]; omega
        · have u1 : decide ((hd l1 : Int) < 1) = false := decide_eq_false (by omega)
          have u2 : decide (hd l1 < 1) = false := decide_eq_false (by omega)
          have u3 : decide ((5 : Int) < (hd l1 : Int)) = true := decide_eq_true (by omega)
          have u4 : decide (5 < hd l1) = true := decide_eq_true (by omega)
          have HK2 := Lib.hid hk'
          clear hk'
          go_wp2_with fail
          refine H2.out.mono ?_
          rintro x w2 ⟨rfl, hs2, hch2⟩
          have hF := RLoop.skip hs2 HD.out HLN.out HO.out HB.out (Nat.le_refl _) hch2 H0.out HK.out
          have HF := Lib.hid hF
          have HM2 := Lib.hid (rfLen_of hs2)
          clear hs2 hch2 hF
          go_wp2_with fail
          go_roundw
          case rel => exact ⟨_, HF.out⟩
          case measure => rw [HM2.out, HM.out, List.length_tail]; omega
      · have u1 : decide ((hd l1 : Int) < 1) = false := decide_eq_false (by omega)
        have u2 : decide (hd l1 < 1) = false := decide_eq_false (by omega)
        have u3 : decide ((5 : Int) < (hd l1 : Int)) = false := decide_eq_false (by omega)
        have u4 : decide (5 < hd l1) = false := decide_eq_false (by omega)
        have HK1 : Hid (1 ≤ hd l1 ∧ hd l1 ≤ 5) := Lib.hid (by omega)
        obtain ⟨E, hE⟩ : ∃ E, entryR (hd l1) l1.tail false = E := ⟨_, rfl⟩
        have HE := Lib.hid hE
        have hle := entryR_le (hd l1) l1.tail false
        rw [hE, List.length_tail] at hle
        have HLE := Lib.hid hle
        clear hk hE hle
        go_wp2_with fail
        refine H2.out.mono ?_
        rintro x w2 ⟨rfl, hs2, hch2⟩
        have HO2 := Lib.hid (own_chg HO.out hch2 (fun k hk => by omega))
        have HB2 := Lib.hid (below_ch HB.out (Nat.le_refl _) hch2)
        have H3 := Lib.hid (rentry_agg hs2 HSZ.out HK1.out.1 HK1.out.2 HE.out)
        clear hs2 hch2
        go_wp2_with fail
        refine H3.out.mono ?_
        rintro x w3 ⟨rfl, hs3, hch3⟩
        have hown3 := own_chg HO2.out hch3 (fun k hk => by omega)
        have hb3 := below_ch HB2.out (Nat.le_refl _) hch3
        obtain ⟨a3, c0', c1', hc1', -, -⟩ := hs3.empty
        have hsz := hs3.lt
        clear hch3
        cases ho : E.o with
        | true =>
          rw [ho] at hc1'
          have hdE := HD.out
          rw [decA_end H0.out HK1.out.1 HK1.out.2 (by rw [HE.out]; exact ho), List.append_nil] at hdE
          have HDE := Lib.hid hdE
          have HO3 := Lib.hid (own_below hown3 (below_al (Below.refl _ _) (.cells #[.int .i64 (E.v.kind : Int), .int .i64 (E.v.who : Int), .int .i64 (E.v.xk : Int), .string (ofNats E.v.key), .string (ofNats E.v.val), .int .u64 (E.v.keep : Int), .int .i64 (E.v.torn : Int), .int .i64 (E.v.part : Int)] 67 (0, 0))))
          have HB3 := Lib.hid (below_al hb3 (.cells #[.int .i64 (E.v.kind : Int), .int .i64 (E.v.who : Int), .int .i64 (E.v.xk : Int), .string (ofNats E.v.key), .string (ofNats E.v.val), .int .u64 (E.v.keep : Int), .int .i64 (E.v.torn : Int), .int .i64 (E.v.part : Int)] 67 (0, 0)))
          clear hs3 hown3 hb3 hdE ho
          go_wp2_with fail
          go_ret2
          have h9 := rdec_out (l := l) HDE.out HO3.out rfl HB3.out
          rw [HP.out] at h9
          exact h9
        | false =>
          rw [ho] at hc1'
          have HS3 := Lib.hid (show RfR w3 w.heap.size s E.l false by rw [← ho]; exact hs3)
          have HEO := Lib.hid ho
          have HB3 := Lib.hid hb3
          have hacc : acc.length ≤ 5000 := by have := HLN.out; omega
          clear hs3 hb3 ho
          go_wp2_with (at_builtin; refine wpList_append_own _ rfl _ _ 60 rfl (w.heap.size + 1) 67 i0 (.agg #[.int .i64 0, .int .i64 0, .int .i64 0, .string ⟨#[]⟩, .string ⟨#[]⟩, .int .u64 0, .int .i64 0, .int .i64 0]) 8 80 Try.underlying60 hi0 hz0 hz1 hz2 rfl (by decide) (.slice A2 acc.length c3) acc.length (stpCells acc) rfl (own_below hown3 (below_al (below_al (Below.refl _ _) _) _)) ⟨w3.heap.size + 1, 0, none⟩ 1 1 (stpL E.v) rfl rfl (news_of (cs := (stpL E.v).toArray) (new_block2 w3 _ _)) (fun u hu => by simp [stpL] at hu; rcases hu with rfl | rfl | rfl | rfl | rfl | rfl | rfl | rfl <;> rfl) (by unfold maxLen; omega) (by omega) (by rw [World.size_alloc, World.size_alloc]; omega) ?_; intro v1 w4 hown4 hgr4 hnil4)
          have hF := RLoop.more HE.out HS3.out HD.out HLN.out HO.out HB3.out (Nat.le_refl _) H0.out HK1.out.1 HK1.out.2 HEO.out hown4 hgr4
          have HF := Lib.hid hF
          clear hown4 hgr4 hnil4 hown3
          go_wp2_with fail
          go_roundw
          case rel => exact ⟨_, HF.out⟩
          case measure => rw [HF.out.len, HM.out]; have := HLE.out; omega
end Go.Proofs.Ytpjgmcoimniheaa.Sc
