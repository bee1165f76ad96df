/- A meta page out of bytes, by walks. -/
import Derived.Test.YtpgpphmpnebafaaGreatMtR
import Derived.Lib.OthersKept
namespace Go.Proofs.YtpgpphmpnebafaaGreat.Mt
open Go.RowKit Go.Proofs.YtpgpphmpnebafaaGreat.By
set_option linter.unusedSimpArgs false
set_option linter.unusedVariables false
set_option maxRecDepth 100000

set_option maxHeartbeats 400000 in
theorem read_any (A : Addr) (c : Nat) (s : ByteArray) (w : World) (hr : RdB w (some A) s) (hs : s.size ≤ 1000000) :
    Calls Tryz.prog 110 #[.slice (some A) s.size c] w fun x w' => ∃ R, x = .returned (.pointer (some ⟨R, 0, none⟩)) ∧ w.heap.size ≤ R ∧ Rdr w' R s 0 0 ∧ Below w.heap.size w w' := by
  have HC := Lib.hid (clone_any A c s w hr hs)
  clear hr
  go_enter Tryz.func110, Tryz.ntmps110
  go_wp2_with fail
  refine HC.out.mono ?_
  rintro x w1 ⟨v, rfl, hv, hb⟩
  obtain ⟨g, cap, cur, rfl, hg, hcap, hcm, hblk, hcs, htk⟩ := hv
  go_wp2_with fail
  go_ret
  refine ⟨w1.heap.size, rfl, hb.size, ⟨some ⟨g, 0, none⟩, cap, ?_, hcap, hcm, ?_, ?_, Nat.zero_le _⟩, below_al hb _⟩
  · exact new_block w1 _
  · exact (RdB.of_block hblk htk).below (below_al (Below.refl _ _) _)
  · intro ad h
    injection h with h
    exact ⟨g, h.symm, by have := lt_of_some hblk; omega⟩
set_option maxHeartbeats 400000 in
theorem clone_nil (w : World) : Calls Tryz.prog 42 #[.slice none 0 0] w fun x w' => x = .returned (.slice none 0 0) ∧ w = w' := by
  have heq := fun wx : World => Lib.run_eql_slice_nil (P := Tryz.prog) wx 22 5 none 0 0 0 0 Tryz.underlying22
  go_enter Tryz.func42, Tryz.ntmps42
  go_wp2
  go_ret
  exact ⟨rfl, rfl⟩
set_option maxHeartbeats 400000 in
theorem read_nil (w : World) : Calls Tryz.prog 110 #[.slice none 0 0] w fun x w' => ∃ R, x = .returned (.pointer (some ⟨R, 0, none⟩)) ∧ w.heap.size ≤ R ∧ Rdr w' R ByteArray.empty 0 0 ∧ Below w.heap.size w w' := by
  go_enter Tryz.func110, Tryz.ntmps110
  go_wp2_with fail
  refine (clone_nil _).mono ?_
  rintro x w1 ⟨rfl, rfl⟩
  go_wp2_with fail
  go_ret
  refine ⟨w.heap.size, rfl, Nat.le_refl _, ⟨none, 0, new_block w _, Nat.le_refl _, Nat.zero_le _, fun h => absurd h (by decide), fun ad h => (by cases h), Nat.zero_le _⟩, below_al (Below.refl _ _) _⟩
theorem read_opt (Ao : Option Addr) (c : Nat) (s : ByteArray) (w : World) (hr : RdB w Ao s) (hs : s.size ≤ 1000000) (hc0 : Ao = none → c = 0) :
    Calls Tryz.prog 110 #[.slice Ao s.size c] w fun x w' => ∃ R, x = .returned (.pointer (some ⟨R, 0, none⟩)) ∧ w.heap.size ≤ R ∧ Rdr w' R s 0 0 ∧ Below w.heap.size w w' := by
  cases Ao with
  | some A => exact read_any A c s w hr hs
  | none =>
    have := RdB.none_empty hr
    subst this
    rw [hc0 rfl]
    exact read_nil w
section
variable {w w1 : World} {R I a e k m : Nat} {s t : ByteArray}
theorem cell_iter {p : Nat} {ad : Addr} {v : Value} (hk : w.heap[I]? = some (.stringIter t p)) (h : w.cell? ad = some v) : ad.block ≠ I := by
  intro he
  subst he
  simp [World.cell?, hk] at h
theorem iter_other {p q : Nat} (hk : w.heap[I]? = some (.stringIter t p)) {j : Nat} (hj : j ≠ I) : (w.iterAt I t q).heap[j]? = w.heap[j]? := by
  show (w.heap.setIfInBounds I _)[j]? = _
  rw [Array.getElem?_setIfInBounds_ne (fun h => hj h.symm)]
theorem iter_size (q : Nat) : (w.iterAt I t q).heap.size = w.heap.size := by
  show (w.heap.setIfInBounds I _).size = _
  simp
theorem iter_chg {p q : Nat} (hk : w.heap[I]? = some (.stringIter t p)) : Chg (· = I) w (w.iterAt I t q) := ⟨rfl, rfl, rfl, by rw [iter_size]; exact Nat.le_refl _, fun j _ hj => iter_other hk hj⟩
/-- What a change elsewhere leaves of a reader. -/
theorem Rdr.other {F : Nat → Prop} (h : Rdr w R s a e) (hb : Chg F w w1) (hR : ¬ F R) (hF : ∀ ad v, w.cell? ad = some v → F ad.block → ad.block = R) : Rdr w1 R s a e := by
  obtain ⟨g, cap, h1, h2, h3, h4, h5, h6⟩ := h
  refine ⟨g, cap, (hb.block R (lt_of_some h1) hR).trans h1, h2, h3, ?_, h5, h6⟩
  intro hp
  obtain ⟨ad, he, hc⟩ := h4 hp
  refine ⟨ad, he, fun j u hj => ?_⟩
  have h7 := hc j u hj
  refine (World.cell?_of_block (hb.block _ (World.block_lt_of_cell? w _ h7) (fun hf => ?_))).trans h7
  have h8 := hF _ _ h7 hf
  obtain ⟨g', rfl, hg'⟩ := h5 ad he
  rw [add_plain] at h8
  exact hg' h8
theorem Rdr.other8 {F : Nat → Prop} (h : Rdr w R s a e) (hb : Chg F w w1) (hR : ¬ F R) (hF : ∀ (ad : Addr) (c : Nat), w.cell? ad = some (.int .u8 (c : Int)) → ¬ F ad.block) : Rdr w1 R s a e := by
  obtain ⟨g, cap, h1, h2, h3, h4, h5, h6⟩ := h
  refine ⟨g, cap, (hb.block R (lt_of_some h1) hR).trans h1, h2, h3, ?_, h5, h6⟩
  intro hp
  obtain ⟨ad, he, hc⟩ := h4 hp
  refine ⟨ad, he, fun j u hj => ?_⟩
  have h7 := hc j u hj
  have h8 : ∃ c : Nat, u = .int .u8 (c : Int) := by
    rw [cells_nats, List.getElem?_map] at hj
    cases hn : (nats s)[j]? with
    | none => rw [hn] at hj; cases hj
    | some n => rw [hn] at hj; exact ⟨n, (Option.some.inj hj).symm⟩
  obtain ⟨c, rfl⟩ := h8
  exact (World.cell?_of_block (hb.block _ (World.block_lt_of_cell? w _ h7) (hF _ c h7))).trans h7
theorem no_byte {M : Nat} {x y : Int} {T : TypeId} (hM : w.heap[M]? = some (.cells #[.int .i64 x, .int .i64 y] T (0, 0))) (ad : Addr) (c : Nat) (h : w.cell? ad = some (.int .u8 (c : Int))) : ¬ ad.block = M := by
  intro he
  obtain ⟨b, o, sp⟩ := ad
  have hsp : sp = none := by simpa using World.cell?_spot h
  subst hsp
  have hb : b = M := he
  subst hb
  rw [cell_at hM] at h
  match o, h with
  | 0, h => simp at h
  | 1, h => simp at h
  | n + 2, h => simp at h
theorem two_set {b : Nat} {x y : Value} {T : TypeId} (h : w.heap[b]? = some (.cells #[x, y] T (0, 0))) (u v : Value) : ((w.setCell ⟨b, 0, none⟩ u).setCell ⟨b, 1, none⟩ v).cell? ⟨b, 0, none⟩ = some u ∧ ((w.setCell ⟨b, 0, none⟩ u).setCell ⟨b, 1, none⟩ v).cell? ⟨b, 1, none⟩ = some v := by
  have h1 := heap_setCell_self w b 0 _ _ u h
  have h2 := heap_setCell_self _ b 1 _ _ v h1
  exact ⟨cell_at h2 0, cell_at h2 1⟩
theorem Rdr.iter {p q : Nat} (h : Rdr w R s a e) (hk : w.heap[I]? = some (.stringIter t p)) : Rdr (w.iterAt I t q) R s a e := by
  refine h.other (iter_chg hk) (fun he => ?_) (fun ad v hc hf => absurd hf (cell_iter hk hc))
  obtain ⟨g, cap, h1, _⟩ := h
  rw [← he, h1] at hk
  cases hk
/-- How far a reader is that came through m bytes, or not. -/
def Came (s : ByteArray) (k a e : Nat) : Prop := (e = 0 → a = k ∧ k ≤ s.size) ∧ (k ≤ s.size → e = 0)
theorem came_zero : Came s 0 0 0 := ⟨fun _ => ⟨rfl, Nat.zero_le _⟩, fun _ => rfl⟩
theorem came_step (h : Came s k a e) : Came s (k + m) (tkA s a e m) (tkE s a e m) := by
  unfold tkA tkE
  by_cases he : e = 0
  · obtain ⟨ha, hk⟩ := h.1 he
    subst ha
    simp only [he, ne_eq, not_true_eq_false, if_false]
    by_cases hlt : s.size < a + m
    · rw [if_pos hlt, if_pos hlt]
      exact ⟨fun h => absurd h (by decide), fun h => by omega⟩
    · rw [if_neg hlt, if_neg hlt]
      exact ⟨fun _ => ⟨rfl, by omega⟩, fun _ => rfl⟩
  · simp only [he, ne_eq, not_false_eq_true, if_true]
    exact ⟨fun h => absurd h he, fun h2 => absurd (h.2 (by omega)) he⟩
end
theorem ret_bool {a b : Bool} (h : a = b) : Ending.returned (.bool a) = .returned (.bool b) := by rw [h]
theorem equal_any (A B : Option Addr) (c d : Nat) (s t : ByteArray) (w : World) (hs : RdB w A s) (ht : RdB w B t) (hA : ∀ ad, A = some ad → ad.spot = none) (hB : ∀ ad, B = some ad → ad.spot = none) : Calls Tryz.prog 115 #[.slice A s.size c, .slice B t.size d] w fun x w' => x = .returned (.bool (decide (s = t))) ∧ Below w.heap.size w w' := by
  have h1 := fun X (hX : Below w.heap.size w X) => conv_bytes (hs.below hX) hA c
  have h2 := fun X (hX : Below w.heap.size w X) => conv_bytes (ht.below hX) hB d
  have h3 := h1 w (Below.refl _ _)
  have h4 := h2 w (Below.refl _ _)
  have h5 := h1 w.drew (below_dr (Below.refl _ _))
  have h6 := h2 w.drew (below_dr (Below.refl _ _))
  have h7 := h2 w.drew.drew (below_dr (below_dr (Below.refl _ _)))
  have e : (s.toList == t.toList) = decide (s = t) := by
    rw [Lib.toList_data, Lib.toList_data]
    by_cases hst : s = t
    · subst hst; simp
    · rw [decide_eq_false hst, beq_eq_false_iff_ne]
      intro he
      exact hst (ba_ext he)
  have HE := Lib.hid e
  clear e
  go_enter Tryz.func115, Tryz.ntmps115
  go_wp2_with fail
  go_ret
  exact ⟨ret_bool HE.out, Below.refl _ _⟩
/-- The epoch and the root that bytes tell. -/
def decV (s : ByteArray) : Nat := num ((nats s).take 4)
def decR (s : ByteArray) : Nat := num (((nats s).drop 11).take 2)
def decOk (s : ByteArray) : Prop := 13 ≤ s.size ∧ rightB (decV s) (decR s) = true ∧ enc (decV s) (decR s) = s
def posOf (w : World) (I : Nat) : Nat := match w.heap[I]? with | some (.stringIter _ p) => p | _ => 0
def MarkRel (w : World) (R I M : Nat) (s : ByteArray) (V p : Nat) (wr : World) : Prop := p ≤ 7 ∧ wr.heap[I]? = some (.stringIter markS p) ∧ (∃ a e, Rdr wr R s a e ∧ Came s (4 + p) a e) ∧ Below w.heap.size w wr ∧ wr.heap[M]? = some (.cells #[.int .i64 (V : Int), .int .i64 0] 117 (0, 0)) ∧ wr.heap[w.heap.size]? = some (.cells #[.int .i64 0, .int .i64 0] 117 (0, 0))
theorem posOf_at {w : World} {I p : Nat} {t : ByteArray} (h : w.heap[I]? = some (.stringIter t p)) : posOf w I = p := by unfold posOf; rw [h]
theorem mark_ascii (p : Nat) (h : p < markS.size) : (markS[p]'h).toNat < 128 := by
  rw [markS_size] at h
  have hp : p = 0 ∨ p = 1 ∨ p = 2 ∨ p = 3 ∨ p = 4 ∨ p = 5 ∨ p = 6 := by omega
  rcases hp with rfl | rfl | rfl | rfl | rfl | rfl | rfl
  · exact (by decide : (markS[0]'(by decide)).toNat < 128)
  · exact (by decide : (markS[1]'(by decide)).toNat < 128)
  · exact (by decide : (markS[2]'(by decide)).toNat < 128)
  · exact (by decide : (markS[3]'(by decide)).toNat < 128)
  · exact (by decide : (markS[4]'(by decide)).toNat < 128)
  · exact (by decide : (markS[5]'(by decide)).toNat < 128)
  · exact (by decide : (markS[6]'(by decide)).toNat < 128)
/-- A call of a Take, on a reader that came so far or not. -/
theorem came8 {w : World} {R a e k : Nat} {s : ByteArray} (h : Rdr w R s a e) (hc : Came s k a e) (hs : s.size ≤ 1000000) : Calls Tryz.prog 112 #[.pointer (some ⟨R, 0, none⟩)] w fun x w' => (∃ v : Nat, x = .returned (.int .i64 (v : Int))) ∧ (∃ a e, Rdr w' R s a e ∧ Came s (k + 1) a e) ∧ Chg (· = R) w w' :=
  (take8_any h hs).mono fun x w' ⟨h1, h2, h3⟩ => ⟨⟨_, h1⟩, ⟨_, _, h2, came_step hc⟩, h3⟩
theorem num_two (l : List Nat) (h : ∀ c ∈ l, c < 256) (hl : l.length ≤ 2) : num l < 65536 := Nat.lt_of_lt_of_le (num_lt l h) (Nat.pow_le_pow_right (n := 256) (by decide) hl)
theorem num_four (l : List Nat) (h : ∀ c ∈ l, c < 256) (hl : l.length ≤ 4) : num l < 4294967296 := Nat.lt_of_lt_of_le (num_lt l h) (Nat.pow_le_pow_right (n := 256) (by decide) hl)
theorem tkV_lt2 (s : ByteArray) (a e : Nat) : tkV s a e 2 < 65536 := by
  unfold tkV
  split
  · decide
  · split
    · decide
    · exact num_two _ (fun c hc => nats_lt s c (List.mem_of_mem_drop (List.mem_of_mem_take hc))) (List.length_take_le _ _)
/-- What the end of Decode answers. -/
def DecPost (w : World) (s : ByteArray) (x : Ending) (w' : World) : Prop := (decOk s → x = .returned (.tuple #[.agg #[.int .i64 (decV s : Int), .int .i64 (decR s : Int)], .int .i64 0])) ∧ (¬ decOk s → x = .returned (.tuple #[.agg #[.int .i64 0, .int .i64 0], .int .i64 3])) ∧ Below w.heap.size w w'
set_option maxRecDepth 100000 in
set_option maxHeartbeats 4000000 in
theorem decode_any (Ao : Option Addr) (c : Nat) (s : ByteArray) (w : World) (hr : RdB w Ao s) (hs : s.size ≤ 1000000) (hc0 : Ao = none → c = 0) (hsp : ∀ ad, Ao = some ad → ad.spot = none) :
    Calls Tryz.prog 76 #[.slice Ao s.size c] w (DecPost w s) := by
  have HSP := Lib.hid hsp
  have HC0 := Lib.hid hc0
  clear hsp hc0
  have HR := Lib.hid (fun X (hX : Below w.heap.size w X) => read_opt Ao c s X (hr.below hX) hs HC0.out)
  have HRD := Lib.hid hr
  clear hr
  go_enter Tryz.func76, Tryz.ntmps76
  go_wp2_with fail
  refine (HR.out _ (below_al (Below.refl _ _) _)).mono ?_
  rintro x w1 ⟨R, rfl, hR, hr1, hb1⟩
  have hres1 := new_later hb1
  have hb01 : Below w.heap.size w w1 := (below_al (Below.refl w.heap.size w) _).trans (hb1.mono (by rw [World.size_alloc]; omega))
  have hR' : w.heap.size < R := by rw [World.size_alloc] at hR; omega
  have ht := take32_any hr1 hs
  have HR1 := Lib.hid hr1
  have HRES := Lib.hid hres1
  have HB1 := Lib.hid hb01
  clear hr1 hres1 hb01 hb1 hR
  go_wp2_with fail
  refine ht.mono ?_
  rintro x w2 ⟨rfl, hr2, hc2⟩
  have hres2 := (hc2.block _ (lt_of_some HRES.out) (by omega)).trans HRES.out
  have hb2 := hc2.below HB1.out (fun k hk => by omega) HB1.out.size
  have hcm2 : Came s (0 + 4) _ _ := came_step (m := 4) (came_zero (s := s))
  obtain ⟨V, hV⟩ : ∃ V, V = tkV s 0 0 4 := ⟨_, rfl⟩
  rw [← hV]
  have HR2 := Lib.hid hr2
  have HRES2 := Lib.hid hres2
  have HB2 := Lib.hid hb2
  have HC2 := Lib.hid hcm2
  have HV := Lib.hid hV
  have hsz2 := hc2.size
  have hRw : R < w2.heap.size := by obtain ⟨_, _, h1, _⟩ := hr2; exact lt_of_some h1
  clear ht hr2 hres2 hc2 hb2 hcm2 hV
  go_wp2_with fail
  have hstart : MarkRel w R (w2.heap.size + 1) w2.heap.size s V 0 ((w2.alloc (.cells #[.int .i64 (V : Int), .int .i64 0] 117)).iter markS 0) := by
    have e1 := World.iter_heap (w2.alloc (.cells #[.int .i64 (V : Int), .int .i64 0] 117)) markS 0
    rw [World.size_alloc] at e1
    have e2 : Below (w2.alloc (.cells #[.int .i64 (V : Int), .int .i64 0] 117)).heap.size (w2.alloc (.cells #[.int .i64 (V : Int), .int .i64 0] 117)) ((w2.alloc (.cells #[.int .i64 (V : Int), .int .i64 0] 117)).iter markS 0) := below_al (Below.refl _ _) _
    have e3 : Below w2.heap.size w2 ((w2.alloc (.cells #[.int .i64 (V : Int), .int .i64 0] 117)).iter markS 0) := below_al (below_al (Below.refl _ _) _) _
    exact ⟨Nat.zero_le _, e1, ⟨_, _, HR2.out.below e3, HC2.out⟩, bl HB2.out e3, new_later e2, (e3.block _ (lt_of_some HRES2.out)).trans HRES2.out⟩
  have HS := Lib.hid hstart
  clear hstart
  go_loopw [14] (fun t wr => ∃ p, MarkRel w R (w2.heap.size + 1) w2.heap.size s V p wr) (fun _ wr => 7 - posOf wr (w2.heap.size + 1))
  case atStart => exact ⟨0, HS.out⟩
  case round =>
    obtain ⟨p, hp7, hI, ⟨a, e, hrd, hcm⟩, hbw, hM, hres⟩ := hrel
    have hpos := posOf_at hI
    by_cases hp : p < 7
    · have hnx := fun ty => Lib.run_next_ascii_at (P := Tryz.prog) wr (w2.heap.size + 1) markS p ty hI (by rw [markS_size]; exact hp) (mark_ascii p _)
      have hrd' := hrd.iter (q := p + 1) hI
      have hc8 := came8 hrd' hcm hs
      have hIt := Lib.iterAt_heap wr (w2.heap.size + 1) markS p (p + 1) hI
      have hch := iter_chg (q := p + 1) hI
      have HP := Lib.hid hpos
      have HI := Lib.hid hIt
      have HCH := Lib.hid hch
      have HM := Lib.hid hM
      have HRS := Lib.hid hres
      have HBW := Lib.hid hbw
      clear hpos hI hrd hcm hbw hM hres hrd' hIt hch
      go_wp2_with fail
      refine hc8.mono ?_
      rintro x w3 ⟨⟨v, rfl⟩, ⟨a', e', hr3, hcm3⟩, hc3⟩
      have hRI : R ≠ w2.heap.size + 1 := by omega
      have hI3 := (hc3.block _ (lt_of_some HI.out) (fun h => hRI h.symm)).trans HI.out
      have hsw : wr.heap.size ≤ w3.heap.size := Nat.le_trans HCH.out.size hc3.size
      have hfar : ∀ k, k < wr.heap.size → k ≠ w2.heap.size + 1 → k ≠ R → w3.heap[k]? = wr.heap[k]? := fun k hk h1 h2 => (hc3.block k (Nat.lt_of_lt_of_le hk HCH.out.size) h2).trans (HCH.out.block k hk h1)
      have hM3 := (hfar _ (lt_of_some HM.out) (by omega) (by omega)).trans HM.out
      have hres3 := (hfar _ (lt_of_some HRS.out) (by omega) (by omega)).trans HRS.out
      have hb3 : Below w.heap.size w w3 := hc3.below (HCH.out.below HBW.out (fun k hk => by omega) HBW.out.size) (fun k hk => by omega) (Nat.le_trans HBW.out.size HCH.out.size)
      have HF : Hid (MarkRel w R (w2.heap.size + 1) w2.heap.size s V (p + 1) w3) := Lib.hid ⟨by omega, hI3, ⟨a', e', hr3, by rw [show 4 + (p + 1) = 4 + p + 1 from by omega]; exact hcm3⟩, hb3, hM3, hres3⟩
      have HP3 := Lib.hid (posOf_at hI3)
      clear hnx hc8 hr3 hcm3 hc3 hI3 hM3 hres3 hb3 hfar
      go_wp2_with fail
      go_roundw
      case rel => exact ⟨p + 1, HF.out⟩
      case measure => rw [HP3.out, HP.out]; omega
    · have hnx := fun ty => Lib.run_next_end_at (P := Tryz.prog) wr (w2.heap.size + 1) markS p ty hI (by rw [markS_size]; exact hp)
      have hp77 : p = 7 := by omega
      subst hp77
      have ht := take16_any hrd hs
      have HCM := Lib.hid hcm
      have HM := Lib.hid hM
      have HRS := Lib.hid hres
      have HBW := Lib.hid hbw
      clear hpos hI hrd hcm hbw hM hres
      go_wp2_with fail
      refine ht.mono ?_
      rintro x w3 ⟨rfl, hr3, hc3⟩
      have hcf : Came s 13 _ _ := came_step (m := 2) HCM.out
      obtain ⟨aF, haF⟩ : ∃ aF, aF = tkA s a e 2 := ⟨_, rfl⟩
      obtain ⟨eF, heF⟩ : ∃ eF, eF = tkE s a e 2 := ⟨_, rfl⟩
      obtain ⟨rt, hrt⟩ : ∃ rt, rt = tkV s a e 2 := ⟨_, rfl⟩
      have hrtl : rt < 65536 := by rw [hrt]; exact tkV_lt2 s a e
      rw [← haF, ← heF] at hcf hr3
      rw [← hrt]
      have hbig : 13 ≤ s.size → V = decV s ∧ rt = decR s := by
        intro h13
        have he0 := HCM.out.2 (by omega)
        have ha0 := (HCM.out.1 he0).1
        subst he0 ha0
        refine ⟨?_, ?_⟩
        · rw [HV.out]; unfold tkV; rw [if_neg (by simp), if_neg (by omega)]; rfl
        · rw [hrt]; unfold tkV; rw [if_neg (by simp), if_neg (by omega)]; rfl
      have hMR : w2.heap.size ≠ R := by omega
      have hM3 := (hc3.block _ (lt_of_some HM.out) hMR).trans HM.out
      have hres3 := (hc3.block _ (lt_of_some HRS.out) (by omega)).trans HRS.out
      have hb3 : Below w.heap.size w w3 := hc3.below HBW.out (fun k hk => by omega) HBW.out.size
      have cM0 := cell_at hM3 0
      have cM1 := cell_at hM3 1
      have fM1 := frozen_at hM3 1
      have hww2 := HB2.out.size
      have hr4 := fun v => hr3.other8 (w1 := w3.setCell ⟨w2.heap.size, 1, none⟩ v) (F := (· = w2.heap.size)) (Chg.setCell (Chg.refl (· = w2.heap.size) w3) (p := ⟨w2.heap.size, 1, none⟩) (.inl rfl) v) (fun h => hMR h.symm) (no_byte hM3)
      have hres4 := fun v => (heap_setCell_ne w3 w2.heap.size 1 w.heap.size v (by have := lt_of_some HRES2.out; omega)).trans hres3
      have hb4 := fun v => hb3.setCell (p := ⟨w2.heap.size, 1, none⟩) hww2 v
      have HBIG := Lib.hid hbig
      have HCF := Lib.hid hcf
      have HR4 := Lib.hid hr4
      have HRES4 := Lib.hid hres4
      have HB4 := Lib.hid hb4
      have hM4 := fun v => (show (w3.setCell ⟨w2.heap.size, 1, none⟩ v).heap[w2.heap.size]? = _ from heap_setCell_self w3 w2.heap.size 1 _ _ v hM3)
      have HM4 := Lib.hid hM4
      clear ht hnx hr3 hc3 hcf haF heF hrt hbig hM3 hres3 hb3 hr4 hres4 hb4 hM4
      go_wp2_with fail
      by_cases hright : rightB V rt = true
      · refine (encode_ok V rt _ hright).mono ?_
        rintro x w5 ⟨v5, rfl, hv5, hb5⟩
        obtain ⟨g5, c5, rfl⟩ := hv5.shape (enc_size V rt)
        have herr := err_any ((HR4.out _).below hb5)
        have hres5 := (hb5.block _ (lt_of_some (HRES4.out _))).trans (HRES4.out _)
        have cr0 := cell_at hres5 0
        have cr1 := cell_at hres5 1
        have fr0 := frozen_at hres5 0
        have fr1 := frozen_at hres5 1
        have hM5 := (hb5.block _ (lt_of_some (HM4.out _))).trans (HM4.out _)
        have cm0 := cell_at hM5 0
        have cm1 := cell_at hM5 1
        have hb05 := bl (HB4.out _) hb5
        have heq := equal_any (some ⟨g5, 0, none⟩) Ao c5 c (enc V rt) s w5 hv5.rds (HRD.out.below hb05) (fun ad h => by cases h; rfl) HSP.out
        rw [enc_size] at heq
        have HEQ := Lib.hid heq
        have HFIN5 := Lib.hid hb05
        have HV5 := Lib.hid hright
        have HM5 := Lib.hid hM5
        have HRES5 := Lib.hid hres5
        clear heq hb05 hright hM5 hres5 hv5 hb5 cM0 cM1 fM1
        by_cases heF : eF = 0
        · have t1 : ((eF : Int) != 0) = false := by rw [bne_eq_false_iff_eq]; omega
          have t2 : (eF != 0) = false := by rw [bne_eq_false_iff_eq]; exact heF
          have h13 := (HCF.out.1 heF).2
          obtain ⟨hVe, hRe⟩ := HBIG.out h13
          have HVE := Lib.hid hVe
          have HRE := Lib.hid hRe
          clear hVe hRe heF
          go_wp2_with fail
          refine herr.mono ?_
          rintro x w6 ⟨rfl, rfl⟩
          go_wp2_with fail
          refine HEQ.out.mono ?_
          rintro x w6 ⟨rfl, hb6⟩
          have hres6 := (hb6.block _ (lt_of_some HRES5.out)).trans HRES5.out
          have dr0 := cell_at hres6 0
          have dr1 := cell_at hres6 1
          have gr0 := frozen_at hres6 0
          have gr1 := frozen_at hres6 1
          have hM6 := (hb6.block _ (lt_of_some HM5.out)).trans HM5.out
          have dm0 := cell_at hM6 0
          have dm1 := cell_at hM6 1
          have HFIN := Lib.hid (bl HFIN5.out hb6)
          have HX := Lib.hid hres6
          clear hres6 hM6 hb6 cr0 cr1 fr0 fr1 cm0 cm1
          by_cases hes : enc V rt = s
          · have t3 : decide (enc V rt = s) = true := decide_eq_true hes
            have HYES : Hid (decOk s) := Lib.hid ⟨h13, by rw [← HVE.out, ← HRE.out]; exact HV5.out, by rw [← HVE.out, ← HRE.out]; exact hes⟩
            rw [t3]
            clear hes t3 h13
            go_wp2_with fail
            exact bodyPost_ret (v := .tuple #[.agg #[.int .i64 (V : Int), .int .i64 (rt : Int)], .int .i64 0]) (by obtain ⟨q0, q1⟩ := two_set HX.out (.int .i64 (V : Int)) (.int .i64 (rt : Int)); simp [results, Tryz.results76, go_sem, q0, q1]) rfl ⟨fun _ => by rw [HVE.out, HRE.out], fun h => absurd HYES.out h, by repeat (first | exact HFIN.out | (refine below_st ?_ (Nat.le_refl _) _))⟩
          · have t3 : decide (enc V rt = s) = false := decide_eq_false hes
            have HNO : Hid (¬ decOk s) := Lib.hid (fun h => hes (by rw [HVE.out, HRE.out]; exact h.2.2))
            rw [t3]
            clear hes t3 h13
            go_wp2_with fail
            exact bodyPost_ret (v := .tuple #[.agg #[.int .i64 0, .int .i64 0], .int .i64 3]) (by obtain ⟨q0, q1⟩ := two_set HX.out (.int .i64 0) (.int .i64 0); simp [results, Tryz.results76, go_sem, q0, q1]) rfl ⟨fun h => absurd h HNO.out, fun _ => rfl, by repeat (first | exact HFIN.out | (refine below_st ?_ (Nat.le_refl _) _))⟩
        · have t1 : ((eF : Int) != 0) = true := by rw [bne_iff_ne]; omega
          have t2 : (eF != 0) = true := by rw [bne_iff_ne]; exact heF
          have HNO : Hid (¬ decOk s) := Lib.hid (fun h => heF (HCF.out.2 h.1))
          have HFIN := HFIN5
          have HX := HRES5
          clear heF
          go_wp2_with fail
          refine herr.mono ?_
          rintro x w6 ⟨rfl, rfl⟩
          go_wp2_with fail
          exact bodyPost_ret (v := .tuple #[.agg #[.int .i64 0, .int .i64 0], .int .i64 3]) (by obtain ⟨q0, q1⟩ := two_set HX.out (.int .i64 0) (.int .i64 0); simp [results, Tryz.results76, go_sem, q0, q1]) rfl ⟨fun h => absurd h HNO.out, fun _ => rfl, by repeat (first | exact HFIN.out | (refine below_st ?_ (Nat.le_refl _) _))⟩
      · have hright : rightB V rt = false := by simpa using hright
        refine (encode_bad V rt _ hright).mono ?_
        rintro x w5 ⟨rfl, hb5⟩
        have herr := err_any ((HR4.out _).below hb5)
        have hres5 := (hb5.block _ (lt_of_some (HRES4.out _))).trans (HRES4.out _)
        have cr0 := cell_at hres5 0
        have cr1 := cell_at hres5 1
        have fr0 := frozen_at hres5 0
        have fr1 := frozen_at hres5 1
        have HFIN := Lib.hid (bl (HB4.out _) hb5)
        have HX := Lib.hid hres5
        have HNO : Hid (¬ decOk s) := Lib.hid (fun h => by
          obtain ⟨h1, h2⟩ := HBIG.out h.1
          have := h.2.1
          rw [← h1, ← h2, hright] at this
          cases this)
        clear hres5 hb5 cM0 cM1 fM1 hright
        by_cases heF : eF = 0
        · have t1 : ((eF : Int) != 0) = false := by rw [bne_eq_false_iff_eq]; omega
          have t2 : (eF != 0) = false := by rw [bne_eq_false_iff_eq]; exact heF
          clear heF
          go_wp2_with fail
          refine herr.mono ?_
          rintro x w6 ⟨rfl, rfl⟩
          go_wp2_with fail
          exact bodyPost_ret (v := .tuple #[.agg #[.int .i64 0, .int .i64 0], .int .i64 3]) (by obtain ⟨q0, q1⟩ := two_set HX.out (.int .i64 0) (.int .i64 0); simp [results, Tryz.results76, go_sem, q0, q1]) rfl ⟨fun h => absurd h HNO.out, fun _ => rfl, by repeat (first | exact HFIN.out | (refine below_st ?_ (Nat.le_refl _) _))⟩
        · have t1 : ((eF : Int) != 0) = true := by rw [bne_iff_ne]; omega
          have t2 : (eF != 0) = true := by rw [bne_iff_ne]; exact heF
          clear heF
          go_wp2_with fail
          refine herr.mono ?_
          rintro x w6 ⟨rfl, rfl⟩
          go_wp2_with fail
          exact bodyPost_ret (v := .tuple #[.agg #[.int .i64 0, .int .i64 0], .int .i64 3]) (by obtain ⟨q0, q1⟩ := two_set HX.out (.int .i64 0) (.int .i64 0); simp [results, Tryz.results76, go_sem, q0, q1]) rfl ⟨fun h => absurd h HNO.out, fun _ => rfl, by repeat (first | exact HFIN.out | (refine below_st ?_ (Nat.le_refl _) _))⟩
end Go.Proofs.YtpgpphmpnebafaaGreat.Mt
