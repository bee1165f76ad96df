/- The program's Decode of a script, by a walk. -/
import Derived.Test.YtpjgmcoimniheaaDoorScF
namespace Go.Proofs.YtpjgmcoimniheaaDoor.Sc
open Go.RowKit Go.Proofs.YtpjgmcoimniheaaDoor.By Go.Proofs.YtpjgmcoimniheaaDoor.Mt
set_option linter.unusedSimpArgs false
set_option linter.unusedVariables false

theorem infoStep : (Tryd.prog.info? 34).map (fun i => (i.zero, i.size, i.bytes)) = some (some (.agg #[.int .i64 0, .int .i64 0, .int .i64 0, .string ⟨#[]⟩, .string ⟨#[]⟩, .int .u64 0, .int .i64 0, .int .i64 0]), 8, 80) := by kernel_rfl
/-- What a call of Decode leaves. -/
def DecR (w : World) (l : List Nat) (x : Ending) (w' : World) : Prop := ∃ A c, x = .returned (.tuple #[.int .i64 (pagesA l : Int), .slice A (decA l.tail).length c]) ∧ StepsAt w' A (decA l.tail) ∧ Below w.heap.size w w'
def DLoop (w : World) (l0 : List Nat) (R : Nat) (v : Value) (wr : World) (l : List Nat) : Prop := ∃ acc : List Stp, ScR wr (R + 1) R l false ∧ decA l0 = acc ++ decA l ∧ acc.length + l.length ≤ 5000 ∧ wr.ownsRow (R + 1) 34 8 v acc.length (stpCells acc) ∧ Below w.heap.size w wr
theorem DLoop.start {w w1 : World} {l0 l : List Nat} {R : Nat} {o : Bool} (h : ScR w1 (R + 1) R l o) (hd0 : decA l0 = decA l) (hl : l.length ≤ 5000) (hb : Below w.heap.size w w1) (hR : w.heap.size ≤ R) : DLoop w l0 R (.slice none 0 0) (w1.setCell ⟨R, 1, none⟩ (.bool false)) l := ⟨[], h.setO false, hd0, by simpa using hl, World.ownsRow_nil _ _ _ _, below_st hb (p := ⟨R, 1, none⟩) hR _⟩
theorem entry_agg {w : World} {B R : Nat} {l : List Nat} {o : Bool} {k : Nat} (h : ScR w B R l o) (hB : B ≤ w.heap.size) (h1 : 1 ≤ k) (h5 : k ≤ 5) {E : Rd Stp} (hE : entryR k l o = E) : Calls Tryd.prog 15 #[.pointer (some ⟨R, 0, none⟩), .int .i64 (k : Int)] w fun x w' => x = .returned (.agg #[.int .i64 (E.v.kind : Int), .int .i64 (E.v.who : Int), .int .i64 (E.v.xk : Int), .string (ofNats E.v.key), .string (ofNats E.v.val), .int .u64 (E.v.keep : Int), .int .i64 (E.v.torn : Int), .int .i64 (E.v.part : Int)]) ∧ ScR w' B R E.l E.o ∧ Chg (· = R) w w' := by subst hE; exact entry_any h hB k h1 h5
theorem DLoop.skip {w w1 wr : World} {l0 l : List Nat} {R : Nat} {v : Value} {acc : List Stp} (hs : ScR w1 (R + 1) R l.tail false) (hd0 : decA l0 = acc ++ decA l) (hlen : acc.length + l.length ≤ 5000) (hown : wr.ownsRow (R + 1) 34 8 v acc.length (stpCells acc)) (hb : Below w.heap.size w wr) (hR : w.heap.size ≤ R) (hch : Chg (· = R) wr w1) (h0 : l ≠ []) (hk : hd l < 1 ∨ 5 < hd l) : DLoop w l0 R v w1 l.tail :=
  ⟨acc, hs, by rw [hd0, decA_skip h0 hk], by rw [List.length_tail]; omega, own_chg hown hch (fun k hk => by omega), hch.below hb (fun k hk => by omega) hb.size⟩
theorem DLoop.len {w wr : World} {l0 l : List Nat} {R : Nat} {v : Value} (h : DLoop w l0 R v wr l) : scLen wr R = l.length := by obtain ⟨_, h1, _⟩ := h; exact scLen_of h1
theorem DLoop.more {w w2 wr W : World} {l0 l : List Nat} {R : Nat} {v v1 : Value} {acc : List Stp} {E : Rd Stp} {X Y : Obj} (hE : entryR (hd l) l.tail false = E) (hs : ScR w2 (R + 1) R E.l false) (hd0 : decA l0 = acc ++ decA l) (hlen : acc.length + l.length ≤ 5000) (hown : wr.ownsRow (R + 1) 34 8 v acc.length (stpCells acc)) (hb : Below w.heap.size w w2) (hR : w.heap.size ≤ R) (h0 : l ≠ []) (h1 : 1 ≤ hd l) (h5 : hd l ≤ 5) (ho : E.o = false) (hown1 : W.ownsRow (R + 1) 34 8 v1 (acc.length + 1) (stpCells acc ++ stpL E.v)) (hgr : ((w2.alloc X).alloc Y).grownBy W v.ownBlock) : DLoop w l0 R v1 W E.l := by
  subst hE
  have hfrom := own_from_le hown
  have hle := entryR_le (hd l) l.tail false
  have ht : l.tail.length = l.length - 1 := List.length_tail
  have hp : 0 < l.length := List.length_pos_iff.2 h0
  have hR2 := hs.lt
  refine ⟨acc ++ [(entryR (hd l) l.tail false).v], ?_, by rw [hd0, decA_cons h0 h1 h5 ho, List.append_assoc]; rfl, by rw [List.length_append, List.length_singleton]; omega, by rw [stpCells_snoc, List.length_append]; exact hown1, (below_al (below_al hb X) Y).grown hgr (by rw [World.size_alloc, World.size_alloc]; have := hb.size; omega) (fun k hk => by have := hfrom k hk; omega)⟩
  have h3 := (hs.al X).al Y
  obtain ⟨g, f, c, e1, e2, e3, e4, hgB, hRB, e5, e6⟩ := h3
  refine ⟨g, f, c, (hgr.block R (lt_of_some e1) (fun e => by have := hfrom R e.symm; omega)).trans e1, e2, e3, e4, hgB, hRB, fun j x hj => ?_, e6⟩
  have h7 := e5 j x hj
  exact (World.cell?_of_block (hgr.block g (World.block_lt_of_cell? _ _ h7) (fun e => by have := hfrom g e.symm; omega))).trans h7
theorem chg_box2 {w w1 : World} {X : Obj} (h : Chg (· = w.heap.size) (w.alloc X) w1) : Below w.heap.size w w1 := h.below (below_al (Below.refl _ w) X) (fun k hk => by omega) (by rw [World.size_alloc]; omega)
theorem below_ch {w wr w1 : World} {R : Nat} (hb : Below w.heap.size w wr) (hR : w.heap.size ≤ R) (hch : Chg (· = R) wr w1) : Below w.heap.size w w1 := hch.below hb (fun k hk => by omega) hb.size
theorem dec_out {w w' : World} {l : List Nat} {R : Nat} {A : Option Addr} {c n : Nat} {acc : List Stp} (hd0 : decA l.tail = acc) (hown : w'.ownsRow (R + 1) 34 8 (.slice A n c) n (stpCells acc)) (hn : n = acc.length) (hb : Below w.heap.size w w') : DecR w l (.returned (.tuple #[.int .i64 (pagesA l : Int), .slice A n c])) w' := by
  subst hn
  subst hd0
  exact ⟨A, c, rfl, steps_of_row hown, hb⟩
set_option maxRecDepth 100000 in
set_option maxHeartbeats 4000000 in
theorem decode_small (g f c : Nat) (l : List Nat) (w : World) (hl : l.length ≤ 4096) (hlc : l.length ≤ c) (hcm : c ≤ maxLen) (hcs : ∀ (j x : Nat), l[j]? = some x → w.cell? ⟨g, f + j, none⟩ = some (.int .u8 (x : Int))) (h256 : ∀ x ∈ l, x < 256) (hg : g < w.heap.size) :
    Calls Tryd.prog 7 #[.slice (some ⟨g, f, none⟩) l.length c] w (DecR w l) := by
  obtain ⟨i0, hi0, hz0, hz1, hz2⟩ := info_parts infoStep
  have hb0 : hd l < 256 := hd_lt h256
  have hst : ∀ X : World, (Instr.slice 41 (.slice (some ⟨g, f, none⟩) l.length c) none (some (.int .i64 (l.length : Int))) none).run Tryd.prog X = .ok (.slice (some ⟨g, f, none⟩) l.length c) X := slice_to g f l.length c l.length (by omega)
  have hlm : l.length ≤ c := by omega
  have hl5 : l.length ≤ 4096 := by omega
  have hs0 : ScR (w.alloc (.cells #[.slice (some ⟨g, f, none⟩) l.length c, .bool false] 49 (0, 0))) (w.heap.size + 1) w.heap.size l false := ⟨g, f, c, new_block w _, hlm, hcm, by omega, by omega, by omega, fun j x hj => cell_alloc (hcs j x hj) _, h256⟩
  have H1 := Lib.hid (one_any hs0)
  have HL := Lib.hid hl5
  have HP : Hid (pagesA l = 2 + 2 * hd l) := Lib.hid rfl
  have HTL : Hid (decA l = decA l) := Lib.hid rfl
  clear hcs h256 hcm hlc hlm hs0
  go_enter Tryd.func7, Tryd.ntmps7
  go_wp2_with fail
  refine H1.out.mono ?_
  rintro x w1 ⟨rfl, hs1, hch1⟩
  have HS1 := Lib.hid hs1
  have HC1b : Hid (Below w.heap.size w w1) := Lib.hid ((chg_box2 hch1))
  obtain ⟨g1, f1, c1, hc0, hc1, hf0, hf1, hlc, hcm, hgR, hcs⟩ := hs1.cells
  clear hcs hgR hs1 hch1 hlc hcm hc0 hf0
  go_wp2_with fail
  clear hc1 hf1
  have HS0 := Lib.hid (DLoop.start (w := w) (l0 := l.tail) (R := w.heap.size) HS1.out rfl (by rw [List.length_tail]; have := HL.out; omega) HC1b.out (Nat.le_refl _))
  go_loopw [6] (fun v wr => ∃ l1 : List Nat, DLoop w l.tail w.heap.size v wr l1) (fun _ wr => scLen wr w.heap.size)
  case atStart => exact ⟨_, HS0.out⟩
  case round =>
    obtain ⟨l1, acc, hS, hd0, hlen, hown, hbw⟩ := hrel
    obtain ⟨A2, c3, rfl, hc3⟩ := own_slice hown
    by_cases h0 : l1 = []
    · subst h0
      obtain ⟨g2, f2, c2, hc0, hc1, hf0, hf1, hlc2, hcm2, -, -⟩ := hS.cells
      rw [List.length_nil] at hc0
      rw [decA_nil, List.append_nil] at hd0
      have HO := Lib.hid hown
      have HB := Lib.hid hbw
      have HD := Lib.hid hd0
      clear hS hown hbw hd0
      go_wp2_with fail
      go_ret2
      have h9 := dec_out (l := l) HD.out HO.out rfl HB.out
      rw [HP.out] at h9
      exact h9
    · have hp : 0 < l1.length := List.length_pos_iff.2 h0
      have t1 : decide ((0 : Int) < (l1.length : Int)) = true := decide_eq_true (by omega)
      have t2 : decide (0 < l1.length) = true := decide_eq_true hp
      have hM := scLen_of hS
      have H2 := one_any hS
      have hem : l1.isEmpty = false := by cases l1 with | nil => exact absurd rfl h0 | cons _ _ => rfl
      rw [hem, Bool.or_false] at H2
      have H2 := Lib.hid H2
      obtain ⟨g2, f2, c2, hc0, hc1, hf0, hf1, hlc2, hcm2, -, -⟩ := hS.cells
      have HO := Lib.hid hown
      have HB := Lib.hid hbw
      have HD := Lib.hid hd0
      have HLN := Lib.hid hlen
      have HM := Lib.hid hM
      have H0 := Lib.hid h0
      have hb1 : hd l1 < 256 := hd_lt hS.bytes
      clear hS hown hbw hd0 hlen hM hem h0
      by_cases hk : hd l1 < 1 ∨ 5 < hd l1
      · have hk' : hd l1 = 0 ∨ 6 ≤ hd l1 := by omega
        have HK := Lib.hid hk
        clear hk
        rcases hk' with hk' | hk'
        · have u1 : decide ((hd l1 : Int) < 1) = true := decide_eq_true (by omega)
          have u2 : decide (hd l1 < 1) = true := decide_eq_true (by omega)
          have HK2 := Lib.hid hk'
          clear hk'
          go_wp2_with fail
          refine H2.out.mono ?_
          rintro x w2 ⟨rfl, hs2, hch2⟩
          have hF := DLoop.skip hs2 HD.out HLN.out HO.out HB.out (Nat.le_refl _) hch2 H0.out HK.out
          have HF := Lib.hid hF
          have HM2 := Lib.hid (scLen_of hs2)
          clear hs2 hch2 hF
          go_wp2_with fail
          go_roundw
          case rel => exact ⟨_, HF.out⟩
          case measure => rw [HM2.out, HM.out, List.length_tail]; omega
        · have u1 : decide ((hd l1 : Int) < 1) = false := decide_eq_false (by omega)
          have u2 : decide (hd l1 < 1) = false := decide_eq_false (by omega)
          have u3 : decide ((5 : Int) < (hd l1 : Int)) = true := decide_eq_true (by omega)
          have u4 : decide (5 < hd l1) = true := decide_eq_true (by omega)
          have HK2 := Lib.hid hk'
          clear hk'
          go_wp2_with fail
          refine H2.out.mono ?_
          rintro x w2 ⟨rfl, hs2, hch2⟩
          have hF := DLoop.skip hs2 HD.out HLN.out HO.out HB.out (Nat.le_refl _) hch2 H0.out HK.out
          have HF := Lib.hid hF
          have HM2 := Lib.hid (scLen_of hs2)
          clear hs2 hch2 hF
          go_wp2_with fail
          go_roundw
          case rel => exact ⟨_, HF.out⟩
          case measure => rw [HM2.out, HM.out, List.length_tail]; omega
      · have u1 : decide ((hd l1 : Int) < 1) = false := decide_eq_false (by omega)
        have u2 : decide (hd l1 < 1) = false := decide_eq_false (by omega)
        have u3 : decide ((5 : Int) < (hd l1 : Int)) = false := decide_eq_false (by omega)
        have u4 : decide (5 < hd l1) = false := decide_eq_false (by omega)
        have HK1 : Hid (1 ≤ hd l1 ∧ hd l1 ≤ 5) := Lib.hid (by omega)
        obtain ⟨E, hE⟩ : ∃ E, entryR (hd l1) l1.tail false = E := ⟨_, rfl⟩
        have HE := Lib.hid hE
        have hle := entryR_le (hd l1) l1.tail false
        rw [hE, List.length_tail] at hle
        have HLE := Lib.hid hle
        clear hk hE hle
        go_wp2_with fail
        refine H2.out.mono ?_
        rintro x w2 ⟨rfl, hs2, hch2⟩
        have HO2 := Lib.hid (own_chg HO.out hch2 (fun k hk => by omega))
        have HB2 := Lib.hid (below_ch HB.out (Nat.le_refl _) hch2)
        have H3 := Lib.hid (entry_agg hs2 (by have := hs2.lt; omega) HK1.out.1 HK1.out.2 HE.out)
        clear hs2 hch2
        go_wp2_with fail
        refine H3.out.mono ?_
        rintro x w3 ⟨rfl, hs3, hch3⟩
        have hown3 := own_chg HO2.out hch3 (fun k hk => by omega)
        have hb3 := below_ch HB2.out (Nat.le_refl _) hch3
        obtain ⟨g4, f4, c4, hc0', hc1', hf0', hf1', hlc4, hcm4, -, -⟩ := hs3.cells
        have hsz := hs3.lt
        clear hch3
        cases ho : E.o with
        | true =>
          rw [ho] at hc1'
          have hdE := HD.out
          rw [decA_end H0.out HK1.out.1 HK1.out.2 (by rw [HE.out]; exact ho), List.append_nil] at hdE
          have HDE := Lib.hid hdE
          have HO3 := Lib.hid (own_below hown3 (below_al (Below.refl _ _) (.cells #[.int .i64 (E.v.kind : Int), .int .i64 (E.v.who : Int), .int .i64 (E.v.xk : Int), .string (ofNats E.v.key), .string (ofNats E.v.val), .int .u64 (E.v.keep : Int), .int .i64 (E.v.torn : Int), .int .i64 (E.v.part : Int)] 34 (0, 0))))
          have HB3 := Lib.hid (below_al hb3 (.cells #[.int .i64 (E.v.kind : Int), .int .i64 (E.v.who : Int), .int .i64 (E.v.xk : Int), .string (ofNats E.v.key), .string (ofNats E.v.val), .int .u64 (E.v.keep : Int), .int .i64 (E.v.torn : Int), .int .i64 (E.v.part : Int)] 34 (0, 0)))
          clear hs3 hown3 hb3 hdE ho
          go_wp2_with fail
          go_ret2
          have h9 := dec_out (l := l) HDE.out HO3.out rfl HB3.out
          rw [HP.out] at h9
          exact h9
        | false =>
          rw [ho] at hc1'
          have HS3 := Lib.hid (show ScR w3 (w.heap.size + 1) w.heap.size E.l false by rw [← ho]; exact hs3)
          have HEO := Lib.hid ho
          have HB3 := Lib.hid hb3
          have hacc : acc.length ≤ 5000 := by have := HLN.out; omega
          clear hs3 hb3 ho
          go_wp2_with (at_builtin; refine wpList_append_own _ rfl _ _ 38 rfl (w.heap.size + 1) 34 i0 (.agg #[.int .i64 0, .int .i64 0, .int .i64 0, .string ⟨#[]⟩, .string ⟨#[]⟩, .int .u64 0, .int .i64 0, .int .i64 0]) 8 80 Tryd.underlying38 hi0 hz0 hz1 hz2 rfl (by decide) (.slice A2 acc.length c3) acc.length (stpCells acc) rfl (own_below hown3 (below_al (below_al (Below.refl _ _) _) _)) ⟨w3.heap.size + 1, 0, none⟩ 1 1 (stpL E.v) rfl rfl (news_of (cs := (stpL E.v).toArray) (new_block2 w3 _ _)) (fun u hu => by simp [stpL] at hu; rcases hu with rfl | rfl | rfl | rfl | rfl | rfl | rfl | rfl <;> rfl) (by unfold maxLen; omega) (by omega) (by rw [World.size_alloc, World.size_alloc]; omega) ?_; intro v1 w4 hown4 hgr4 hnil4)
          have hF := DLoop.more HE.out HS3.out HD.out HLN.out HO.out HB3.out (Nat.le_refl _) H0.out HK1.out.1 HK1.out.2 HEO.out hown4 hgr4
          have HF := Lib.hid hF
          clear hown4 hgr4 hnil4 hown3
          go_wp2_with fail
          go_roundw
          case rel => exact ⟨_, HF.out⟩
          case measure => rw [HF.out.len, HM.out]; have := HLE.out; omega
set_option maxRecDepth 100000 in
set_option maxHeartbeats 4000000 in
theorem decode_big (g f c : Nat) (l : List Nat) (w : World) (n : Nat) (hn : 4096 < n) (hl : l.length = 4096) (hlc : n ≤ c) (hcm : c ≤ maxLen) (hcs : ∀ (j x : Nat), l[j]? = some x → w.cell? ⟨g, f + j, none⟩ = some (.int .u8 (x : Int))) (h256 : ∀ x ∈ l, x < 256) (hg : g < w.heap.size) :
    Calls Tryd.prog 7 #[.slice (some ⟨g, f, none⟩) n c] w (DecR w l) := by
  obtain ⟨i0, hi0, hz0, hz1, hz2⟩ := info_parts infoStep
  have hb0 : hd l < 256 := hd_lt h256
  have hst : ∀ X : World, (Instr.slice 41 (.slice (some ⟨g, f, none⟩) n c) none (some (.int .i64 (4096 : Int))) none).run Tryd.prog X = .ok (.slice (some ⟨g, f, none⟩) 4096 c) X := slice_to g f n c 4096 (by omega)
  have hlm : l.length ≤ c := by omega
  have hl5 : l.length ≤ 4096 := by omega
  have hs0 : ScR (w.alloc (.cells #[.slice (some ⟨g, f, none⟩) l.length c, .bool false] 49 (0, 0))) (w.heap.size + 1) w.heap.size l false := ⟨g, f, c, new_block w _, hlm, hcm, by omega, by omega, by omega, fun j x hj => cell_alloc (hcs j x hj) _, h256⟩
  rw [hl] at hs0
  have H1 := Lib.hid (one_any hs0)
  have HL := Lib.hid hl5
  have HP : Hid (pagesA l = 2 + 2 * hd l) := Lib.hid rfl
  have HTL : Hid (decA l = decA l) := Lib.hid rfl
  clear hcs h256 hcm hlc hlm hs0 hl hl5
  go_enter Tryd.func7, Tryd.ntmps7
  go_wp2_with fail
  refine H1.out.mono ?_
  rintro x w1 ⟨rfl, hs1, hch1⟩
  have HS1 := Lib.hid hs1
  have HC1b : Hid (Below w.heap.size w w1) := Lib.hid ((chg_box2 hch1))
  obtain ⟨g1, f1, c1, hc0, hc1, hf0, hf1, hlc, hcm, hgR, hcs⟩ := hs1.cells
  clear hcs hgR hs1 hch1 hlc hcm hc0 hf0
  go_wp2_with fail
  clear hc1 hf1
  have HS0 := Lib.hid (DLoop.start (w := w) (l0 := l.tail) (R := w.heap.size) HS1.out rfl (by rw [List.length_tail]; have := HL.out; omega) HC1b.out (Nat.le_refl _))
  go_loopw [6] (fun v wr => ∃ l1 : List Nat, DLoop w l.tail w.heap.size v wr l1) (fun _ wr => scLen wr w.heap.size)
  case atStart => exact ⟨_, HS0.out⟩
  case round =>
    obtain ⟨l1, acc, hS, hd0, hlen, hown, hbw⟩ := hrel
    obtain ⟨A2, c3, rfl, hc3⟩ := own_slice hown
    by_cases h0 : l1 = []
    · subst h0
      obtain ⟨g2, f2, c2, hc0, hc1, hf0, hf1, hlc2, hcm2, -, -⟩ := hS.cells
      rw [List.length_nil] at hc0
      rw [decA_nil, List.append_nil] at hd0
      have HO := Lib.hid hown
      have HB := Lib.hid hbw
      have HD := Lib.hid hd0
      clear hS hown hbw hd0
      go_wp2_with fail
      go_ret2
      have h9 := dec_out (l := l) HD.out HO.out rfl HB.out
      rw [HP.out] at h9
      exact h9
    · have hp : 0 < l1.length := List.length_pos_iff.2 h0
      have t1 : decide ((0 : Int) < (l1.length : Int)) = true := decide_eq_true (by omega)
      have t2 : decide (0 < l1.length) = true := decide_eq_true hp
      have hM := scLen_of hS
      have H2 := one_any hS
      have hem : l1.isEmpty = false := by cases l1 with | nil => exact absurd rfl h0 | cons _ _ => rfl
      rw [hem, Bool.or_false] at H2
      have H2 := Lib.hid H2
      obtain ⟨g2, f2, c2, hc0, hc1, hf0, hf1, hlc2, hcm2, -, -⟩ := hS.cells
      have HO := Lib.hid hown
      have HB := Lib.hid hbw
      have HD := Lib.hid hd0
      have HLN := Lib.hid hlen
      have HM := Lib.hid hM
      have H0 := Lib.hid h0
      have hb1 : hd l1 < 256 := hd_lt hS.bytes
      clear hS hown hbw hd0 hlen hM hem h0
      by_cases hk : hd l1 < 1 ∨ 5 < hd l1
      · have hk' : hd l1 = 0 ∨ 6 ≤ hd l1 := by omega
        have HK := Lib.hid hk
        clear hk
        rcases hk' with hk' | hk'
        · have u1 : decide ((hd l1 : Int) < 1) = true := decide_eq_true (by omega)
          have u2 : decide (hd l1 < 1) = true := decide_eq_true (by omega)
          have HK2 := Lib.hid hk'
          clear hk'
          go_wp2_with fail
          refine H2.out.mono ?_
          rintro x w2 ⟨rfl, hs2, hch2⟩
          have hF := DLoop.skip hs2 HD.out HLN.out HO.out HB.out (Nat.le_refl _) hch2 H0.out HK.out
          have HF := Lib.hid hF
          have HM2 := Lib.hid (scLen_of hs2)
          clear hs2 hch2 hF
          go_wp2_with fail
          go_roundw
          case rel => exact ⟨_, HF.out⟩
          case measure => rw [HM2.out, HM.out, List.length_tail]; omega
        · have u1 : decide ((hd l1 : Int) < 1) = false := decide_eq_false (by omega)
          have u2 : decide (hd l1 < 1) = false := decide_eq_false (by omega)
          have u3 : decide ((5 : Int) < (hd l1 : Int)) = true := decide_eq_true (by omega)
          have u4 : decide (5 < hd l1) = true := decide_eq_true (by omega)
          have HK2 := Lib.hid hk'
          clear hk'
          go_wp2_with fail
          refine H2.out.mono ?_
          rintro x w2 ⟨rfl, hs2, hch2⟩
          have hF := DLoop.skip hs2 HD.out HLN.out HO.out HB.out (Nat.le_refl _) hch2 H0.out HK.out
          have HF := Lib.hid hF
          have HM2 := Lib.hid (scLen_of hs2)
          clear hs2 hch2 hF
          go_wp2_with fail
          go_roundw
          case rel => exact ⟨_, HF.out⟩
          case measure => rw [HM2.out, HM.out, List.length_tail]; omega
      · have u1 : decide ((hd l1 : Int) < 1) = false := decide_eq_false (by omega)
        have u2 : decide (hd l1 < 1) = false := decide_eq_false (by omega)
        have u3 : decide ((5 : Int) < (hd l1 : Int)) = false := decide_eq_false (by omega)
        have u4 : decide (5 < hd l1) = false := decide_eq_false (by omega)
        have HK1 : Hid (1 ≤ hd l1 ∧ hd l1 ≤ 5) := Lib.hid (by omega)
        obtain ⟨E, hE⟩ : ∃ E, entryR (hd l1) l1.tail false = E := ⟨_, rfl⟩
        have HE := Lib.hid hE
        have hle := entryR_le (hd l1) l1.tail false
        rw [hE, List.length_tail] at hle
        have HLE := Lib.hid hle
        clear hk hE hle
        go_wp2_with fail
        refine H2.out.mono ?_
        rintro x w2 ⟨rfl, hs2, hch2⟩
        have HO2 := Lib.hid (own_chg HO.out hch2 (fun k hk => by omega))
        have HB2 := Lib.hid (below_ch HB.out (Nat.le_refl _) hch2)
        have H3 := Lib.hid (entry_agg hs2 (by have := hs2.lt; omega) HK1.out.1 HK1.out.2 HE.out)
        clear hs2 hch2
        go_wp2_with fail
        refine H3.out.mono ?_
        rintro x w3 ⟨rfl, hs3, hch3⟩
        have hown3 := own_chg HO2.out hch3 (fun k hk => by omega)
        have hb3 := below_ch HB2.out (Nat.le_refl _) hch3
        obtain ⟨g4, f4, c4, hc0', hc1', hf0', hf1', hlc4, hcm4, -, -⟩ := hs3.cells
        have hsz := hs3.lt
        clear hch3
        cases ho : E.o with
        | true =>
          rw [ho] at hc1'
          have hdE := HD.out
          rw [decA_end H0.out HK1.out.1 HK1.out.2 (by rw [HE.out]; exact ho), List.append_nil] at hdE
          have HDE := Lib.hid hdE
          have HO3 := Lib.hid (own_below hown3 (below_al (Below.refl _ _) (.cells #[.int .i64 (E.v.kind : Int), .int .i64 (E.v.who : Int), .int .i64 (E.v.xk : Int), .string (ofNats E.v.key), .string (ofNats E.v.val), .int .u64 (E.v.keep : Int), .int .i64 (E.v.torn : Int), .int .i64 (E.v.part : Int)] 34 (0, 0))))
          have HB3 := Lib.hid (below_al hb3 (.cells #[.int .i64 (E.v.kind : Int), .int .i64 (E.v.who : Int), .int .i64 (E.v.xk : Int), .string (ofNats E.v.key), .string (ofNats E.v.val), .int .u64 (E.v.keep : Int), .int .i64 (E.v.torn : Int), .int .i64 (E.v.part : Int)] 34 (0, 0)))
          clear hs3 hown3 hb3 hdE ho
          go_wp2_with fail
          go_ret2
          have h9 := dec_out (l := l) HDE.out HO3.out rfl HB3.out
          rw [HP.out] at h9
          exact h9
        | false =>
          rw [ho] at hc1'
          have HS3 := Lib.hid (show ScR w3 (w.heap.size + 1) w.heap.size E.l false by rw [← ho]; exact hs3)
          have HEO := Lib.hid ho
          have HB3 := Lib.hid hb3
          have hacc : acc.length ≤ 5000 := by have := HLN.out; omega
          clear hs3 hb3 ho
          go_wp2_with (at_builtin; refine wpList_append_own _ rfl _ _ 38 rfl (w.heap.size + 1) 34 i0 (.agg #[.int .i64 0, .int .i64 0, .int .i64 0, .string ⟨#[]⟩, .string ⟨#[]⟩, .int .u64 0, .int .i64 0, .int .i64 0]) 8 80 Tryd.underlying38 hi0 hz0 hz1 hz2 rfl (by decide) (.slice A2 acc.length c3) acc.length (stpCells acc) rfl (own_below hown3 (below_al (below_al (Below.refl _ _) _) _)) ⟨w3.heap.size + 1, 0, none⟩ 1 1 (stpL E.v) rfl rfl (news_of (cs := (stpL E.v).toArray) (new_block2 w3 _ _)) (fun u hu => by simp [stpL] at hu; rcases hu with rfl | rfl | rfl | rfl | rfl | rfl | rfl | rfl <;> rfl) (by unfold maxLen; omega) (by omega) (by rw [World.size_alloc, World.size_alloc]; omega) ?_; intro v1 w4 hown4 hgr4 hnil4)
          have hF := DLoop.more HE.out HS3.out HD.out HLN.out HO.out HB3.out (Nat.le_refl _) H0.out HK1.out.1 HK1.out.2 HEO.out hown4 hgr4
          have HF := Lib.hid hF
          clear hown4 hgr4 hnil4 hown3
          go_wp2_with fail
          go_roundw
          case rel => exact ⟨_, HF.out⟩
          case measure => rw [HF.out.len, HM.out]; have := HLE.out; omega
end Go.Proofs.YtpjgmcoimniheaaDoor.Sc
