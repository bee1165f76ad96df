/- A line of a script: the program's and the document's, by walks. -/
import Derived.Test.YtpjgmcoimniheaaDoorSlA
import Derived.WalkSmall
import Derived.Lib.AppendIntMem
import Derived.Shelf.Unicode.PredsPay
namespace Go.Proofs.YtpjgmcoimniheaaDoor.Sl
open Go.RowKit Go.Proofs.YtpjgmcoimniheaaDoor.By Go.Proofs.YtpjgmcoimniheaaDoor.Mt
set_option linter.unusedSimpArgs false
set_option linter.unusedVariables false

def Tab (w : World) : Prop := Lib.TabIs Tryd.prog w "internal/strconv.uint64pow10" .u64 Lib.pow10Tab
theorem Tab.below {w w1 : World} (h : Tab w) (hb : Below w.heap.size w w1) : Tab w1 := TabIs_below (P := Tryd.prog) (g := 0) (by kernel_rfl) h hb
theorem itoa_any (n : Int) (h0 : -9223372036854775808 ≤ n) (h1 : n ≤ 9223372036854775807) (w : World) (h : Tab w) : Calls Tryd.prog 9 #[.int .i64 n] w fun x w' => x = .returned (.string (dig n)) ∧ Below w.heap.size w w' :=
  (Tryd.strconv_Itoa n h0 h1 w h).mono fun x w' ⟨he, k, os, hw⟩ => ⟨he, by rw [hw]; exact Lib.below_grow _ _ (Nat.le_refl _) _ _⟩
def sp : ByteArray := ⟨#[32]⟩
def yesS (b : Bool) : ByteArray := if b then ⟨#[121, 101, 115]⟩ else ⟨#[110, 111]⟩
/-- A line up to the error. -/
def baseB (sk who err : Int) : ByteArray := wd sk kindL ++ sp ++ (if sk = 3 then ⟨#[108, 111, 115, 116]⟩ else dig who) ++ sp ++ wd err errL
def fullB (sk who err rerr : Int) (yes : Bool) (rn : Int) (val : ByteArray) : ByteArray := baseB sk who err ++ sp ++ wd rerr errL ++ sp ++ yesS yes ++ sp ++ dig rn ++ sp ++ val
def lineB (sk who err rerr : Int) (val : ByteArray) (yes : Bool) (rn : Int) (en : Bool) : ByteArray := if err = 0 ∧ ((sk = 2 ∧ en = true) ∨ sk = 4) then fullB sk who err rerr yes rn val else baseB sk who err
theorem kind_len (n : Int) : (wd n kindL).size ≤ 5 := wd_len n kindL 5 (by decide) (by intro s hs; unfold kindL at hs; simp only [List.mem_cons, List.not_mem_nil, or_false] at hs; rcases hs with rfl | rfl | rfl | rfl | rfl | rfl <;> decide)
theorem err_len (n : Int) : (wd n errL).size ≤ 7 := wd_len n errL 7 (by decide) (by intro s hs; unfold errL at hs; simp only [List.mem_cons, List.not_mem_nil, or_false] at hs; rcases hs with rfl | rfl | rfl | rfl | rfl | rfl | rfl | rfl | rfl | rfl | rfl | rfl | rfl <;> decide)
theorem new3 (w : World) (A B C : Obj) : (((w.alloc A).alloc B).alloc C).heap[w.heap.size]? = some A ∧ (((w.alloc A).alloc B).alloc C).heap[w.heap.size + 1]? = some B := by
  exact ⟨((below_al (below_al (Below.refl _ (w.alloc A)) B) C).block w.heap.size (by rw [World.size_alloc]; omega)).trans (new_block w A), ((below_al (Below.refl _ ((w.alloc A).alloc B)) C).block (w.heap.size + 1) (by rw [World.size_alloc, World.size_alloc]; omega)).trans (by have := new_block (w.alloc A) B; rwa [World.size_alloc] at this)⟩
set_option maxRecDepth 100000 in
set_option maxHeartbeats 4000000 in
theorem line_3_z (sk who xk : Int) (xkey xval : ByteArray) (keep torn part err rerr : Int) (val : ByteArray) (yes : Bool) (rn : Int) (en : Bool) (w : World) (htab : Tab w) (hwho : -9223372036854775808 ≤ who ∧ who ≤ 9223372036854775807) (hrn : -9223372036854775808 ≤ rn ∧ rn ≤ 9223372036854775807) (hval : val.size ≤ 1000000) (hsk : (sk = 3) ∧ err = 0) : Calls Tryd.prog 5 #[.agg #[.int .i64 sk, .int .i64 who, .int .i64 xk, .string xkey, .string xval, .int .u64 keep, .int .i64 torn, .int .i64 part], .agg #[.int .i64 err, .int .i64 rerr, .string val, .bool yes, .int .i64 rn, .bool en]] w fun x w' => x = .returned (.string (lineB sk who err rerr val yes rn en)) ∧ Below w.heap.size w w' := by
  have t3 : (sk == 3) = true := beq_iff_eq.2 (by omega)
  have t3' : decide (sk = 3) = true := decide_eq_true (by omega)
  have t2 : (sk == 2) = false := beq_eq_false_iff_ne.2 (by omega)
  have t2' : decide (sk = 2) = false := decide_eq_false (by omega)
  have t4 : (sk == 4) = false := beq_eq_false_iff_ne.2 (by omega)
  have t4' : decide (sk = 4) = false := decide_eq_false (by omega)
  have te : (err != 0) = false := by rw [bne_eq_false_iff_eq]; omega
  have te' : (err == 0) = true := beq_iff_eq.2 (by omega)
  have hk := kind_len sk
  have he := err_len err
  have hstr : StrsAt (((w.alloc (.cells #[.int .i64 sk, .int .i64 who, .int .i64 xk, .string xkey, .string xval, .int .u64 keep, .int .i64 torn, .int .i64 part] 34 (0, 0))).alloc (.cells #[.int .i64 err, .int .i64 rerr, .string val, .bool yes, .int .i64 rn, .bool en] 35 (0, 0))).alloc (.cells (kindL.map Value.string).toArray 9 (0, 0))) (w.heap.size + 2) kindL := by have := strs_new ((w.alloc (.cells #[.int .i64 sk, .int .i64 who, .int .i64 xk, .string xkey, .string xval, .int .u64 keep, .int .i64 torn, .int .i64 part] 34 (0, 0))).alloc (.cells #[.int .i64 err, .int .i64 rerr, .string val, .bool yes, .int .i64 rn, .bool en] 35 (0, 0))) kindL; rwa [World.size_alloc, World.size_alloc] at this
  have HW := Lib.hid (word_any sk (w.heap.size + 2) kindL _ hstr)
  obtain ⟨hA, hB⟩ := new3 w (.cells #[.int .i64 sk, .int .i64 who, .int .i64 xk, .string xkey, .string xval, .int .u64 keep, .int .i64 torn, .int .i64 part] 34 (0, 0)) (.cells #[.int .i64 err, .int .i64 rerr, .string val, .bool yes, .int .i64 rn, .bool en] 35 (0, 0)) (.cells (kindL.map Value.string).toArray 9 (0, 0))
  have HT0 := Lib.hid (htab.below (below_al (below_al (below_al (Below.refl _ w) (.cells #[.int .i64 sk, .int .i64 who, .int .i64 xk, .string xkey, .string xval, .int .u64 keep, .int .i64 torn, .int .i64 part] 34 (0, 0))) (.cells #[.int .i64 err, .int .i64 rerr, .string val, .bool yes, .int .i64 rn, .bool en] 35 (0, 0))) (.cells (kindL.map Value.string).toArray 9 (0, 0))))
  have HB0 := Lib.hid (below_al (below_al (below_al (Below.refl _ w) (.cells #[.int .i64 sk, .int .i64 who, .int .i64 xk, .string xkey, .string xval, .int .u64 keep, .int .i64 torn, .int .i64 part] 34 (0, 0))) (.cells #[.int .i64 err, .int .i64 rerr, .string val, .bool yes, .int .i64 rn, .bool en] 35 (0, 0))) (.cells (kindL.map Value.string).toArray 9 (0, 0)))
  have HA := Lib.hid hA
  have HBB := Lib.hid hB
  obtain ⟨k1, hk1⟩ : ∃ k1, k1 = wd sk kindL := ⟨_, rfl⟩
  obtain ⟨e1, he1⟩ : ∃ e1, e1 = wd err errL := ⟨_, rfl⟩
  rw [← hk1] at hk HW
  rw [← he1] at he
  have HBASE : Hid (baseB sk who err = k1 ++ sp ++ ⟨#[108, 111, 115, 116]⟩ ++ sp ++ e1) := Lib.hid (by unfold baseB; rw [if_pos (by omega), hk1, he1])
  have HLINE : Hid (lineB sk who err rerr val yes rn en = baseB sk who err) := Lib.hid (if_neg (by rintro ⟨h1, h2 | h2⟩ <;> (try omega) <;> (first | (have := h2.2; contradiction) | omega)))
  have s0 : ¬ 9223372036854775807 < k1.size + 1 := by omega
  have s1 : ¬ 9223372036854775807 < k1.size + 1 + 4 := by omega
  have s2 : ¬ 9223372036854775807 < 1 + e1.size := by omega
  have s3 : ¬ 9223372036854775807 < k1.size + 1 + 4 + (1 + e1.size) := by omega
  have HWR := Lib.hid (fun X => wrong_any err X)
  simp only [← he1] at HWR
  clear hk1 he1 hA hB hstr hk he hsk
  go_enter Tryd.func5, Tryd.ntmps5
  go_wp2_with fail
  refine HW.out.mono ?_
  rintro x w1 ⟨rfl, rfl⟩
  go_wp2_with fail
  refine (HWR.out _).mono ?_
  rintro x w3 ⟨rfl, hb3⟩
  have HB3 := Lib.hid (bl HB0.out hb3)
  have HA := Lib.hid ((hb3.block _ (lt_of_some HA.out)).trans HA.out)
  have HBB := Lib.hid ((hb3.block _ (lt_of_some HBB.out)).trans HBB.out)
  have HT3 := Lib.hid (HT0.out.below hb3)
  clear hb3
  have a0 := cell_at HA.out 0
  have a1 := cell_at HA.out 1
  have b0 := cell_at HBB.out 0
  have b1 := cell_at HBB.out 1
  have b2 := cell_at HBB.out 2
  have b3 := cell_at HBB.out 3
  have b4 := cell_at HBB.out 4
  have b5 := cell_at HBB.out 5
  go_wp2_with fail
  go_ret
  exact ⟨by rw [HLINE.out, HBASE.out]; simp only [sp, ByteArray.append_assoc]; rfl, HB3.out⟩
set_option maxRecDepth 100000 in
set_option maxHeartbeats 4000000 in
theorem line_3_n (sk who xk : Int) (xkey xval : ByteArray) (keep torn part err rerr : Int) (val : ByteArray) (yes : Bool) (rn : Int) (en : Bool) (w : World) (htab : Tab w) (hwho : -9223372036854775808 ≤ who ∧ who ≤ 9223372036854775807) (hrn : -9223372036854775808 ≤ rn ∧ rn ≤ 9223372036854775807) (hval : val.size ≤ 1000000) (hsk : (sk = 3) ∧ err ≠ 0) : Calls Tryd.prog 5 #[.agg #[.int .i64 sk, .int .i64 who, .int .i64 xk, .string xkey, .string xval, .int .u64 keep, .int .i64 torn, .int .i64 part], .agg #[.int .i64 err, .int .i64 rerr, .string val, .bool yes, .int .i64 rn, .bool en]] w fun x w' => x = .returned (.string (lineB sk who err rerr val yes rn en)) ∧ Below w.heap.size w w' := by
  have t3 : (sk == 3) = true := beq_iff_eq.2 (by omega)
  have t3' : decide (sk = 3) = true := decide_eq_true (by omega)
  have t2 : (sk == 2) = false := beq_eq_false_iff_ne.2 (by omega)
  have t2' : decide (sk = 2) = false := decide_eq_false (by omega)
  have t4 : (sk == 4) = false := beq_eq_false_iff_ne.2 (by omega)
  have t4' : decide (sk = 4) = false := decide_eq_false (by omega)
  have te : (err != 0) = true := bne_iff_ne.2 (by omega)
  have te' : (err == 0) = false := beq_eq_false_iff_ne.2 (by omega)
  have hk := kind_len sk
  have he := err_len err
  have hstr : StrsAt (((w.alloc (.cells #[.int .i64 sk, .int .i64 who, .int .i64 xk, .string xkey, .string xval, .int .u64 keep, .int .i64 torn, .int .i64 part] 34 (0, 0))).alloc (.cells #[.int .i64 err, .int .i64 rerr, .string val, .bool yes, .int .i64 rn, .bool en] 35 (0, 0))).alloc (.cells (kindL.map Value.string).toArray 9 (0, 0))) (w.heap.size + 2) kindL := by have := strs_new ((w.alloc (.cells #[.int .i64 sk, .int .i64 who, .int .i64 xk, .string xkey, .string xval, .int .u64 keep, .int .i64 torn, .int .i64 part] 34 (0, 0))).alloc (.cells #[.int .i64 err, .int .i64 rerr, .string val, .bool yes, .int .i64 rn, .bool en] 35 (0, 0))) kindL; rwa [World.size_alloc, World.size_alloc] at this
  have HW := Lib.hid (word_any sk (w.heap.size + 2) kindL _ hstr)
  obtain ⟨hA, hB⟩ := new3 w (.cells #[.int .i64 sk, .int .i64 who, .int .i64 xk, .string xkey, .string xval, .int .u64 keep, .int .i64 torn, .int .i64 part] 34 (0, 0)) (.cells #[.int .i64 err, .int .i64 rerr, .string val, .bool yes, .int .i64 rn, .bool en] 35 (0, 0)) (.cells (kindL.map Value.string).toArray 9 (0, 0))
  have HT0 := Lib.hid (htab.below (below_al (below_al (below_al (Below.refl _ w) (.cells #[.int .i64 sk, .int .i64 who, .int .i64 xk, .string xkey, .string xval, .int .u64 keep, .int .i64 torn, .int .i64 part] 34 (0, 0))) (.cells #[.int .i64 err, .int .i64 rerr, .string val, .bool yes, .int .i64 rn, .bool en] 35 (0, 0))) (.cells (kindL.map Value.string).toArray 9 (0, 0))))
  have HB0 := Lib.hid (below_al (below_al (below_al (Below.refl _ w) (.cells #[.int .i64 sk, .int .i64 who, .int .i64 xk, .string xkey, .string xval, .int .u64 keep, .int .i64 torn, .int .i64 part] 34 (0, 0))) (.cells #[.int .i64 err, .int .i64 rerr, .string val, .bool yes, .int .i64 rn, .bool en] 35 (0, 0))) (.cells (kindL.map Value.string).toArray 9 (0, 0)))
  have HA := Lib.hid hA
  have HBB := Lib.hid hB
  obtain ⟨k1, hk1⟩ : ∃ k1, k1 = wd sk kindL := ⟨_, rfl⟩
  obtain ⟨e1, he1⟩ : ∃ e1, e1 = wd err errL := ⟨_, rfl⟩
  rw [← hk1] at hk HW
  rw [← he1] at he
  have HBASE : Hid (baseB sk who err = k1 ++ sp ++ ⟨#[108, 111, 115, 116]⟩ ++ sp ++ e1) := Lib.hid (by unfold baseB; rw [if_pos (by omega), hk1, he1])
  have HLINE : Hid (lineB sk who err rerr val yes rn en = baseB sk who err) := Lib.hid (if_neg (by rintro ⟨h1, h2 | h2⟩ <;> (try omega) <;> (first | (have := h2.2; contradiction) | omega)))
  have s0 : ¬ 9223372036854775807 < k1.size + 1 := by omega
  have s1 : ¬ 9223372036854775807 < k1.size + 1 + 4 := by omega
  have s2 : ¬ 9223372036854775807 < 1 + e1.size := by omega
  have s3 : ¬ 9223372036854775807 < k1.size + 1 + 4 + (1 + e1.size) := by omega
  have HWR := Lib.hid (fun X => wrong_any err X)
  simp only [← he1] at HWR
  clear hk1 he1 hA hB hstr hk he hsk
  go_enter Tryd.func5, Tryd.ntmps5
  go_wp2_with fail
  refine HW.out.mono ?_
  rintro x w1 ⟨rfl, rfl⟩
  go_wp2_with fail
  refine (HWR.out _).mono ?_
  rintro x w3 ⟨rfl, hb3⟩
  have HB3 := Lib.hid (bl HB0.out hb3)
  have HA := Lib.hid ((hb3.block _ (lt_of_some HA.out)).trans HA.out)
  have HBB := Lib.hid ((hb3.block _ (lt_of_some HBB.out)).trans HBB.out)
  have HT3 := Lib.hid (HT0.out.below hb3)
  clear hb3
  have a0 := cell_at HA.out 0
  have a1 := cell_at HA.out 1
  have b0 := cell_at HBB.out 0
  have b1 := cell_at HBB.out 1
  have b2 := cell_at HBB.out 2
  have b3 := cell_at HBB.out 3
  have b4 := cell_at HBB.out 4
  have b5 := cell_at HBB.out 5
  go_wp2_with fail
  go_ret
  exact ⟨by rw [HLINE.out, HBASE.out]; simp only [sp, ByteArray.append_assoc]; rfl, HB3.out⟩
set_option maxRecDepth 100000 in
set_option maxHeartbeats 4000000 in
theorem line_x_z (sk who xk : Int) (xkey xval : ByteArray) (keep torn part err rerr : Int) (val : ByteArray) (yes : Bool) (rn : Int) (en : Bool) (w : World) (htab : Tab w) (hwho : -9223372036854775808 ≤ who ∧ who ≤ 9223372036854775807) (hrn : -9223372036854775808 ≤ rn ∧ rn ≤ 9223372036854775807) (hval : val.size ≤ 1000000) (hsk : (sk ≠ 2 ∧ sk ≠ 3 ∧ sk ≠ 4) ∧ err = 0) : Calls Tryd.prog 5 #[.agg #[.int .i64 sk, .int .i64 who, .int .i64 xk, .string xkey, .string xval, .int .u64 keep, .int .i64 torn, .int .i64 part], .agg #[.int .i64 err, .int .i64 rerr, .string val, .bool yes, .int .i64 rn, .bool en]] w fun x w' => x = .returned (.string (lineB sk who err rerr val yes rn en)) ∧ Below w.heap.size w w' := by
  have t3 : (sk == 3) = false := beq_eq_false_iff_ne.2 (by omega)
  have t3' : decide (sk = 3) = false := decide_eq_false (by omega)
  have t2 : (sk == 2) = false := beq_eq_false_iff_ne.2 (by omega)
  have t2' : decide (sk = 2) = false := decide_eq_false (by omega)
  have t4 : (sk == 4) = false := beq_eq_false_iff_ne.2 (by omega)
  have t4' : decide (sk = 4) = false := decide_eq_false (by omega)
  have te : (err != 0) = false := by rw [bne_eq_false_iff_eq]; omega
  have te' : (err == 0) = true := beq_iff_eq.2 (by omega)
  have hk := kind_len sk
  have he := err_len err
  have hstr : StrsAt (((w.alloc (.cells #[.int .i64 sk, .int .i64 who, .int .i64 xk, .string xkey, .string xval, .int .u64 keep, .int .i64 torn, .int .i64 part] 34 (0, 0))).alloc (.cells #[.int .i64 err, .int .i64 rerr, .string val, .bool yes, .int .i64 rn, .bool en] 35 (0, 0))).alloc (.cells (kindL.map Value.string).toArray 9 (0, 0))) (w.heap.size + 2) kindL := by have := strs_new ((w.alloc (.cells #[.int .i64 sk, .int .i64 who, .int .i64 xk, .string xkey, .string xval, .int .u64 keep, .int .i64 torn, .int .i64 part] 34 (0, 0))).alloc (.cells #[.int .i64 err, .int .i64 rerr, .string val, .bool yes, .int .i64 rn, .bool en] 35 (0, 0))) kindL; rwa [World.size_alloc, World.size_alloc] at this
  have HW := Lib.hid (word_any sk (w.heap.size + 2) kindL _ hstr)
  obtain ⟨hA, hB⟩ := new3 w (.cells #[.int .i64 sk, .int .i64 who, .int .i64 xk, .string xkey, .string xval, .int .u64 keep, .int .i64 torn, .int .i64 part] 34 (0, 0)) (.cells #[.int .i64 err, .int .i64 rerr, .string val, .bool yes, .int .i64 rn, .bool en] 35 (0, 0)) (.cells (kindL.map Value.string).toArray 9 (0, 0))
  have HT0 := Lib.hid (htab.below (below_al (below_al (below_al (Below.refl _ w) (.cells #[.int .i64 sk, .int .i64 who, .int .i64 xk, .string xkey, .string xval, .int .u64 keep, .int .i64 torn, .int .i64 part] 34 (0, 0))) (.cells #[.int .i64 err, .int .i64 rerr, .string val, .bool yes, .int .i64 rn, .bool en] 35 (0, 0))) (.cells (kindL.map Value.string).toArray 9 (0, 0))))
  have HB0 := Lib.hid (below_al (below_al (below_al (Below.refl _ w) (.cells #[.int .i64 sk, .int .i64 who, .int .i64 xk, .string xkey, .string xval, .int .u64 keep, .int .i64 torn, .int .i64 part] 34 (0, 0))) (.cells #[.int .i64 err, .int .i64 rerr, .string val, .bool yes, .int .i64 rn, .bool en] 35 (0, 0))) (.cells (kindL.map Value.string).toArray 9 (0, 0)))
  have HA := Lib.hid hA
  have HBB := Lib.hid hB
  obtain ⟨k1, hk1⟩ : ∃ k1, k1 = wd sk kindL := ⟨_, rfl⟩
  obtain ⟨e1, he1⟩ : ∃ e1, e1 = wd err errL := ⟨_, rfl⟩
  rw [← hk1] at hk HW
  rw [← he1] at he
  have hd0 := dig_len who hwho.1 hwho.2
  obtain ⟨d0, hde⟩ : ∃ d0, d0 = dig who := ⟨_, rfl⟩
  rw [← hde] at hd0
  have HBASE : Hid (baseB sk who err = k1 ++ sp ++ d0 ++ sp ++ e1) := Lib.hid (by unfold baseB; rw [if_neg (by omega), hk1, he1, hde])
  have HLINE : Hid (lineB sk who err rerr val yes rn en = baseB sk who err) := Lib.hid (if_neg (by rintro ⟨h1, h2 | h2⟩ <;> (try omega) <;> (first | (have := h2.2; contradiction) | omega)))
  have s0 : ¬ 9223372036854775807 < k1.size + 1 := by omega
  have s1 : ¬ 9223372036854775807 < k1.size + 1 + d0.size := by omega
  have s2 : ¬ 9223372036854775807 < 1 + e1.size := by omega
  have s3 : ¬ 9223372036854775807 < k1.size + 1 + d0.size + (1 + e1.size) := by omega
  have HWR := Lib.hid (fun X => wrong_any err X)
  simp only [← he1] at HWR
  have HD0 := Lib.hid (fun X (hX : Tab X) => itoa_any who hwho.1 hwho.2 X hX)
  simp only [← hde] at HD0
  clear hk1 he1 hA hB hstr hk he hde hd0 hsk
  go_enter Tryd.func5, Tryd.ntmps5
  go_wp2_with fail
  refine HW.out.mono ?_
  rintro x w1 ⟨rfl, rfl⟩
  go_wp2_with fail
  refine (HD0.out _ HT0.out).mono ?_
  rintro x w2 ⟨rfl, hb2⟩
  have HB2 := Lib.hid (bl HB0.out hb2)
  have HA := Lib.hid ((hb2.block _ (lt_of_some HA.out)).trans HA.out)
  have HBB := Lib.hid ((hb2.block _ (lt_of_some HBB.out)).trans HBB.out)
  have HT2 := Lib.hid (HT0.out.below hb2)
  clear hb2
  have a0 := cell_at HA.out 0
  have a1 := cell_at HA.out 1
  have b0 := cell_at HBB.out 0
  have b1 := cell_at HBB.out 1
  have b2 := cell_at HBB.out 2
  have b3 := cell_at HBB.out 3
  have b4 := cell_at HBB.out 4
  have b5 := cell_at HBB.out 5
  go_wp2_with fail
  refine (HWR.out _).mono ?_
  rintro x w3 ⟨rfl, hb3⟩
  have HB3 := Lib.hid (bl HB2.out hb3)
  have HA := Lib.hid ((hb3.block _ (lt_of_some HA.out)).trans HA.out)
  have HBB := Lib.hid ((hb3.block _ (lt_of_some HBB.out)).trans HBB.out)
  have HT3 := Lib.hid (HT2.out.below hb3)
  clear hb3 a0 a1 b0 b1 b2 b3 b4 b5
  have a0 := cell_at HA.out 0
  have a1 := cell_at HA.out 1
  have b0 := cell_at HBB.out 0
  have b1 := cell_at HBB.out 1
  have b2 := cell_at HBB.out 2
  have b3 := cell_at HBB.out 3
  have b4 := cell_at HBB.out 4
  have b5 := cell_at HBB.out 5
  go_wp2_with fail
  go_ret
  exact ⟨by rw [HLINE.out, HBASE.out]; simp only [sp, ByteArray.append_assoc]; rfl, HB3.out⟩
set_option maxRecDepth 100000 in
set_option maxHeartbeats 4000000 in
theorem line_x_n (sk who xk : Int) (xkey xval : ByteArray) (keep torn part err rerr : Int) (val : ByteArray) (yes : Bool) (rn : Int) (en : Bool) (w : World) (htab : Tab w) (hwho : -9223372036854775808 ≤ who ∧ who ≤ 9223372036854775807) (hrn : -9223372036854775808 ≤ rn ∧ rn ≤ 9223372036854775807) (hval : val.size ≤ 1000000) (hsk : (sk ≠ 2 ∧ sk ≠ 3 ∧ sk ≠ 4) ∧ err ≠ 0) : Calls Tryd.prog 5 #[.agg #[.int .i64 sk, .int .i64 who, .int .i64 xk, .string xkey, .string xval, .int .u64 keep, .int .i64 torn, .int .i64 part], .agg #[.int .i64 err, .int .i64 rerr, .string val, .bool yes, .int .i64 rn, .bool en]] w fun x w' => x = .returned (.string (lineB sk who err rerr val yes rn en)) ∧ Below w.heap.size w w' := by
  have t3 : (sk == 3) = false := beq_eq_false_iff_ne.2 (by omega)
  have t3' : decide (sk = 3) = false := decide_eq_false (by omega)
  have t2 : (sk == 2) = false := beq_eq_false_iff_ne.2 (by omega)
  have t2' : decide (sk = 2) = false := decide_eq_false (by omega)
  have t4 : (sk == 4) = false := beq_eq_false_iff_ne.2 (by omega)
  have t4' : decide (sk = 4) = false := decide_eq_false (by omega)
  have te : (err != 0) = true := bne_iff_ne.2 (by omega)
  have te' : (err == 0) = false := beq_eq_false_iff_ne.2 (by omega)
  have hk := kind_len sk
  have he := err_len err
  have hstr : StrsAt (((w.alloc (.cells #[.int .i64 sk, .int .i64 who, .int .i64 xk, .string xkey, .string xval, .int .u64 keep, .int .i64 torn, .int .i64 part] 34 (0, 0))).alloc (.cells #[.int .i64 err, .int .i64 rerr, .string val, .bool yes, .int .i64 rn, .bool en] 35 (0, 0))).alloc (.cells (kindL.map Value.string).toArray 9 (0, 0))) (w.heap.size + 2) kindL := by have := strs_new ((w.alloc (.cells #[.int .i64 sk, .int .i64 who, .int .i64 xk, .string xkey, .string xval, .int .u64 keep, .int .i64 torn, .int .i64 part] 34 (0, 0))).alloc (.cells #[.int .i64 err, .int .i64 rerr, .string val, .bool yes, .int .i64 rn, .bool en] 35 (0, 0))) kindL; rwa [World.size_alloc, World.size_alloc] at this
  have HW := Lib.hid (word_any sk (w.heap.size + 2) kindL _ hstr)
  obtain ⟨hA, hB⟩ := new3 w (.cells #[.int .i64 sk, .int .i64 who, .int .i64 xk, .string xkey, .string xval, .int .u64 keep, .int .i64 torn, .int .i64 part] 34 (0, 0)) (.cells #[.int .i64 err, .int .i64 rerr, .string val, .bool yes, .int .i64 rn, .bool en] 35 (0, 0)) (.cells (kindL.map Value.string).toArray 9 (0, 0))
  have HT0 := Lib.hid (htab.below (below_al (below_al (below_al (Below.refl _ w) (.cells #[.int .i64 sk, .int .i64 who, .int .i64 xk, .string xkey, .string xval, .int .u64 keep, .int .i64 torn, .int .i64 part] 34 (0, 0))) (.cells #[.int .i64 err, .int .i64 rerr, .string val, .bool yes, .int .i64 rn, .bool en] 35 (0, 0))) (.cells (kindL.map Value.string).toArray 9 (0, 0))))
  have HB0 := Lib.hid (below_al (below_al (below_al (Below.refl _ w) (.cells #[.int .i64 sk, .int .i64 who, .int .i64 xk, .string xkey, .string xval, .int .u64 keep, .int .i64 torn, .int .i64 part] 34 (0, 0))) (.cells #[.int .i64 err, .int .i64 rerr, .string val, .bool yes, .int .i64 rn, .bool en] 35 (0, 0))) (.cells (kindL.map Value.string).toArray 9 (0, 0)))
  have HA := Lib.hid hA
  have HBB := Lib.hid hB
  obtain ⟨k1, hk1⟩ : ∃ k1, k1 = wd sk kindL := ⟨_, rfl⟩
  obtain ⟨e1, he1⟩ : ∃ e1, e1 = wd err errL := ⟨_, rfl⟩
  rw [← hk1] at hk HW
  rw [← he1] at he
  have hd0 := dig_len who hwho.1 hwho.2
  obtain ⟨d0, hde⟩ : ∃ d0, d0 = dig who := ⟨_, rfl⟩
  rw [← hde] at hd0
  have HBASE : Hid (baseB sk who err = k1 ++ sp ++ d0 ++ sp ++ e1) := Lib.hid (by unfold baseB; rw [if_neg (by omega), hk1, he1, hde])
  have HLINE : Hid (lineB sk who err rerr val yes rn en = baseB sk who err) := Lib.hid (if_neg (by rintro ⟨h1, h2 | h2⟩ <;> (try omega) <;> (first | (have := h2.2; contradiction) | omega)))
  have s0 : ¬ 9223372036854775807 < k1.size + 1 := by omega
  have s1 : ¬ 9223372036854775807 < k1.size + 1 + d0.size := by omega
  have s2 : ¬ 9223372036854775807 < 1 + e1.size := by omega
  have s3 : ¬ 9223372036854775807 < k1.size + 1 + d0.size + (1 + e1.size) := by omega
  have HWR := Lib.hid (fun X => wrong_any err X)
  simp only [← he1] at HWR
  have HD0 := Lib.hid (fun X (hX : Tab X) => itoa_any who hwho.1 hwho.2 X hX)
  simp only [← hde] at HD0
  clear hk1 he1 hA hB hstr hk he hde hd0 hsk
  go_enter Tryd.func5, Tryd.ntmps5
  go_wp2_with fail
  refine HW.out.mono ?_
  rintro x w1 ⟨rfl, rfl⟩
  go_wp2_with fail
  refine (HD0.out _ HT0.out).mono ?_
  rintro x w2 ⟨rfl, hb2⟩
  have HB2 := Lib.hid (bl HB0.out hb2)
  have HA := Lib.hid ((hb2.block _ (lt_of_some HA.out)).trans HA.out)
  have HBB := Lib.hid ((hb2.block _ (lt_of_some HBB.out)).trans HBB.out)
  have HT2 := Lib.hid (HT0.out.below hb2)
  clear hb2
  have a0 := cell_at HA.out 0
  have a1 := cell_at HA.out 1
  have b0 := cell_at HBB.out 0
  have b1 := cell_at HBB.out 1
  have b2 := cell_at HBB.out 2
  have b3 := cell_at HBB.out 3
  have b4 := cell_at HBB.out 4
  have b5 := cell_at HBB.out 5
  go_wp2_with fail
  refine (HWR.out _).mono ?_
  rintro x w3 ⟨rfl, hb3⟩
  have HB3 := Lib.hid (bl HB2.out hb3)
  have HA := Lib.hid ((hb3.block _ (lt_of_some HA.out)).trans HA.out)
  have HBB := Lib.hid ((hb3.block _ (lt_of_some HBB.out)).trans HBB.out)
  have HT3 := Lib.hid (HT2.out.below hb3)
  clear hb3 a0 a1 b0 b1 b2 b3 b4 b5
  have a0 := cell_at HA.out 0
  have a1 := cell_at HA.out 1
  have b0 := cell_at HBB.out 0
  have b1 := cell_at HBB.out 1
  have b2 := cell_at HBB.out 2
  have b3 := cell_at HBB.out 3
  have b4 := cell_at HBB.out 4
  have b5 := cell_at HBB.out 5
  go_wp2_with fail
  go_ret
  exact ⟨by rw [HLINE.out, HBASE.out]; simp only [sp, ByteArray.append_assoc]; rfl, HB3.out⟩
set_option maxRecDepth 100000 in
set_option maxHeartbeats 4000000 in
theorem line_2_zf (sk who xk : Int) (xkey xval : ByteArray) (keep torn part err rerr : Int) (val : ByteArray) (yes : Bool) (rn : Int) (en : Bool) (w : World) (htab : Tab w) (hwho : -9223372036854775808 ≤ who ∧ who ≤ 9223372036854775807) (hrn : -9223372036854775808 ≤ rn ∧ rn ≤ 9223372036854775807) (hval : val.size ≤ 1000000) (hsk : (sk = 2) ∧ err = 0) : Calls Tryd.prog 5 #[.agg #[.int .i64 sk, .int .i64 who, .int .i64 xk, .string xkey, .string xval, .int .u64 keep, .int .i64 torn, .int .i64 part], .agg #[.int .i64 err, .int .i64 rerr, .string val, .bool yes, .int .i64 rn, .bool false]] w fun x w' => x = .returned (.string (lineB sk who err rerr val yes rn false)) ∧ Below w.heap.size w w' := by
  have t3 : (sk == 3) = false := beq_eq_false_iff_ne.2 (by omega)
  have t3' : decide (sk = 3) = false := decide_eq_false (by omega)
  have t2 : (sk == 2) = true := beq_iff_eq.2 (by omega)
  have t2' : decide (sk = 2) = true := decide_eq_true (by omega)
  have t4 : (sk == 4) = false := beq_eq_false_iff_ne.2 (by omega)
  have t4' : decide (sk = 4) = false := decide_eq_false (by omega)
  have te : (err != 0) = false := by rw [bne_eq_false_iff_eq]; omega
  have te' : (err == 0) = true := beq_iff_eq.2 (by omega)
  have hk := kind_len sk
  have he := err_len err
  have hstr : StrsAt (((w.alloc (.cells #[.int .i64 sk, .int .i64 who, .int .i64 xk, .string xkey, .string xval, .int .u64 keep, .int .i64 torn, .int .i64 part] 34 (0, 0))).alloc (.cells #[.int .i64 err, .int .i64 rerr, .string val, .bool yes, .int .i64 rn, .bool false] 35 (0, 0))).alloc (.cells (kindL.map Value.string).toArray 9 (0, 0))) (w.heap.size + 2) kindL := by have := strs_new ((w.alloc (.cells #[.int .i64 sk, .int .i64 who, .int .i64 xk, .string xkey, .string xval, .int .u64 keep, .int .i64 torn, .int .i64 part] 34 (0, 0))).alloc (.cells #[.int .i64 err, .int .i64 rerr, .string val, .bool yes, .int .i64 rn, .bool false] 35 (0, 0))) kindL; rwa [World.size_alloc, World.size_alloc] at this
  have HW := Lib.hid (word_any sk (w.heap.size + 2) kindL _ hstr)
  obtain ⟨hA, hB⟩ := new3 w (.cells #[.int .i64 sk, .int .i64 who, .int .i64 xk, .string xkey, .string xval, .int .u64 keep, .int .i64 torn, .int .i64 part] 34 (0, 0)) (.cells #[.int .i64 err, .int .i64 rerr, .string val, .bool yes, .int .i64 rn, .bool false] 35 (0, 0)) (.cells (kindL.map Value.string).toArray 9 (0, 0))
  have HT0 := Lib.hid (htab.below (below_al (below_al (below_al (Below.refl _ w) (.cells #[.int .i64 sk, .int .i64 who, .int .i64 xk, .string xkey, .string xval, .int .u64 keep, .int .i64 torn, .int .i64 part] 34 (0, 0))) (.cells #[.int .i64 err, .int .i64 rerr, .string val, .bool yes, .int .i64 rn, .bool false] 35 (0, 0))) (.cells (kindL.map Value.string).toArray 9 (0, 0))))
  have HB0 := Lib.hid (below_al (below_al (below_al (Below.refl _ w) (.cells #[.int .i64 sk, .int .i64 who, .int .i64 xk, .string xkey, .string xval, .int .u64 keep, .int .i64 torn, .int .i64 part] 34 (0, 0))) (.cells #[.int .i64 err, .int .i64 rerr, .string val, .bool yes, .int .i64 rn, .bool false] 35 (0, 0))) (.cells (kindL.map Value.string).toArray 9 (0, 0)))
  have HA := Lib.hid hA
  have HBB := Lib.hid hB
  obtain ⟨k1, hk1⟩ : ∃ k1, k1 = wd sk kindL := ⟨_, rfl⟩
  obtain ⟨e1, he1⟩ : ∃ e1, e1 = wd err errL := ⟨_, rfl⟩
  rw [← hk1] at hk HW
  rw [← he1] at he
  have hd0 := dig_len who hwho.1 hwho.2
  obtain ⟨d0, hde⟩ : ∃ d0, d0 = dig who := ⟨_, rfl⟩
  rw [← hde] at hd0
  have HBASE : Hid (baseB sk who err = k1 ++ sp ++ d0 ++ sp ++ e1) := Lib.hid (by unfold baseB; rw [if_neg (by omega), hk1, he1, hde])
  have HLINE : Hid (lineB sk who err rerr val yes rn false = baseB sk who err) := Lib.hid (if_neg (by rintro ⟨h1, h2 | h2⟩ <;> (try omega) <;> (first | (have := h2.2; contradiction) | omega)))
  have s0 : ¬ 9223372036854775807 < k1.size + 1 := by omega
  have s1 : ¬ 9223372036854775807 < k1.size + 1 + d0.size := by omega
  have s2 : ¬ 9223372036854775807 < 1 + e1.size := by omega
  have s3 : ¬ 9223372036854775807 < k1.size + 1 + d0.size + (1 + e1.size) := by omega
  have HWR := Lib.hid (fun X => wrong_any err X)
  simp only [← he1] at HWR
  have HD0 := Lib.hid (fun X (hX : Tab X) => itoa_any who hwho.1 hwho.2 X hX)
  simp only [← hde] at HD0
  clear hk1 he1 hA hB hstr hk he hde hd0 hsk
  go_enter Tryd.func5, Tryd.ntmps5
  go_wp2_with fail
  refine HW.out.mono ?_
  rintro x w1 ⟨rfl, rfl⟩
  go_wp2_with fail
  refine (HD0.out _ HT0.out).mono ?_
  rintro x w2 ⟨rfl, hb2⟩
  have HB2 := Lib.hid (bl HB0.out hb2)
  have HA := Lib.hid ((hb2.block _ (lt_of_some HA.out)).trans HA.out)
  have HBB := Lib.hid ((hb2.block _ (lt_of_some HBB.out)).trans HBB.out)
  have HT2 := Lib.hid (HT0.out.below hb2)
  clear hb2
  have a0 := cell_at HA.out 0
  have a1 := cell_at HA.out 1
  have b0 := cell_at HBB.out 0
  have b1 := cell_at HBB.out 1
  have b2 := cell_at HBB.out 2
  have b3 := cell_at HBB.out 3
  have b4 := cell_at HBB.out 4
  have b5 := cell_at HBB.out 5
  go_wp2_with fail
  refine (HWR.out _).mono ?_
  rintro x w3 ⟨rfl, hb3⟩
  have HB3 := Lib.hid (bl HB2.out hb3)
  have HA := Lib.hid ((hb3.block _ (lt_of_some HA.out)).trans HA.out)
  have HBB := Lib.hid ((hb3.block _ (lt_of_some HBB.out)).trans HBB.out)
  have HT3 := Lib.hid (HT2.out.below hb3)
  clear hb3 a0 a1 b0 b1 b2 b3 b4 b5
  have a0 := cell_at HA.out 0
  have a1 := cell_at HA.out 1
  have b0 := cell_at HBB.out 0
  have b1 := cell_at HBB.out 1
  have b2 := cell_at HBB.out 2
  have b3 := cell_at HBB.out 3
  have b4 := cell_at HBB.out 4
  have b5 := cell_at HBB.out 5
  go_wp2_with fail
  go_ret
  exact ⟨by rw [HLINE.out, HBASE.out]; simp only [sp, ByteArray.append_assoc]; rfl, HB3.out⟩
set_option maxRecDepth 100000 in
set_option maxHeartbeats 4000000 in
theorem line_2_nf (sk who xk : Int) (xkey xval : ByteArray) (keep torn part err rerr : Int) (val : ByteArray) (yes : Bool) (rn : Int) (en : Bool) (w : World) (htab : Tab w) (hwho : -9223372036854775808 ≤ who ∧ who ≤ 9223372036854775807) (hrn : -9223372036854775808 ≤ rn ∧ rn ≤ 9223372036854775807) (hval : val.size ≤ 1000000) (hsk : (sk = 2) ∧ err ≠ 0) : Calls Tryd.prog 5 #[.agg #[.int .i64 sk, .int .i64 who, .int .i64 xk, .string xkey, .string xval, .int .u64 keep, .int .i64 torn, .int .i64 part], .agg #[.int .i64 err, .int .i64 rerr, .string val, .bool yes, .int .i64 rn, .bool false]] w fun x w' => x = .returned (.string (lineB sk who err rerr val yes rn false)) ∧ Below w.heap.size w w' := by
  have t3 : (sk == 3) = false := beq_eq_false_iff_ne.2 (by omega)
  have t3' : decide (sk = 3) = false := decide_eq_false (by omega)
  have t2 : (sk == 2) = true := beq_iff_eq.2 (by omega)
  have t2' : decide (sk = 2) = true := decide_eq_true (by omega)
  have t4 : (sk == 4) = false := beq_eq_false_iff_ne.2 (by omega)
  have t4' : decide (sk = 4) = false := decide_eq_false (by omega)
  have te : (err != 0) = true := bne_iff_ne.2 (by omega)
  have te' : (err == 0) = false := beq_eq_false_iff_ne.2 (by omega)
  have hk := kind_len sk
  have he := err_len err
  have hstr : StrsAt (((w.alloc (.cells #[.int .i64 sk, .int .i64 who, .int .i64 xk, .string xkey, .string xval, .int .u64 keep, .int .i64 torn, .int .i64 part] 34 (0, 0))).alloc (.cells #[.int .i64 err, .int .i64 rerr, .string val, .bool yes, .int .i64 rn, .bool false] 35 (0, 0))).alloc (.cells (kindL.map Value.string).toArray 9 (0, 0))) (w.heap.size + 2) kindL := by have := strs_new ((w.alloc (.cells #[.int .i64 sk, .int .i64 who, .int .i64 xk, .string xkey, .string xval, .int .u64 keep, .int .i64 torn, .int .i64 part] 34 (0, 0))).alloc (.cells #[.int .i64 err, .int .i64 rerr, .string val, .bool yes, .int .i64 rn, .bool false] 35 (0, 0))) kindL; rwa [World.size_alloc, World.size_alloc] at this
  have HW := Lib.hid (word_any sk (w.heap.size + 2) kindL _ hstr)
  obtain ⟨hA, hB⟩ := new3 w (.cells #[.int .i64 sk, .int .i64 who, .int .i64 xk, .string xkey, .string xval, .int .u64 keep, .int .i64 torn, .int .i64 part] 34 (0, 0)) (.cells #[.int .i64 err, .int .i64 rerr, .string val, .bool yes, .int .i64 rn, .bool false] 35 (0, 0)) (.cells (kindL.map Value.string).toArray 9 (0, 0))
  have HT0 := Lib.hid (htab.below (below_al (below_al (below_al (Below.refl _ w) (.cells #[.int .i64 sk, .int .i64 who, .int .i64 xk, .string xkey, .string xval, .int .u64 keep, .int .i64 torn, .int .i64 part] 34 (0, 0))) (.cells #[.int .i64 err, .int .i64 rerr, .string val, .bool yes, .int .i64 rn, .bool false] 35 (0, 0))) (.cells (kindL.map Value.string).toArray 9 (0, 0))))
  have HB0 := Lib.hid (below_al (below_al (below_al (Below.refl _ w) (.cells #[.int .i64 sk, .int .i64 who, .int .i64 xk, .string xkey, .string xval, .int .u64 keep, .int .i64 torn, .int .i64 part] 34 (0, 0))) (.cells #[.int .i64 err, .int .i64 rerr, .string val, .bool yes, .int .i64 rn, .bool false] 35 (0, 0))) (.cells (kindL.map Value.string).toArray 9 (0, 0)))
  have HA := Lib.hid hA
  have HBB := Lib.hid hB
  obtain ⟨k1, hk1⟩ : ∃ k1, k1 = wd sk kindL := ⟨_, rfl⟩
  obtain ⟨e1, he1⟩ : ∃ e1, e1 = wd err errL := ⟨_, rfl⟩
  rw [← hk1] at hk HW
  rw [← he1] at he
  have hd0 := dig_len who hwho.1 hwho.2
  obtain ⟨d0, hde⟩ : ∃ d0, d0 = dig who := ⟨_, rfl⟩
  rw [← hde] at hd0
  have HBASE : Hid (baseB sk who err = k1 ++ sp ++ d0 ++ sp ++ e1) := Lib.hid (by unfold baseB; rw [if_neg (by omega), hk1, he1, hde])
  have HLINE : Hid (lineB sk who err rerr val yes rn false = baseB sk who err) := Lib.hid (if_neg (by rintro ⟨h1, h2 | h2⟩ <;> (try omega) <;> (first | (have := h2.2; contradiction) | omega)))
  have s0 : ¬ 9223372036854775807 < k1.size + 1 := by omega
  have s1 : ¬ 9223372036854775807 < k1.size + 1 + d0.size := by omega
  have s2 : ¬ 9223372036854775807 < 1 + e1.size := by omega
  have s3 : ¬ 9223372036854775807 < k1.size + 1 + d0.size + (1 + e1.size) := by omega
  have HWR := Lib.hid (fun X => wrong_any err X)
  simp only [← he1] at HWR
  have HD0 := Lib.hid (fun X (hX : Tab X) => itoa_any who hwho.1 hwho.2 X hX)
  simp only [← hde] at HD0
  clear hk1 he1 hA hB hstr hk he hde hd0 hsk
  go_enter Tryd.func5, Tryd.ntmps5
  go_wp2_with fail
  refine HW.out.mono ?_
  rintro x w1 ⟨rfl, rfl⟩
  go_wp2_with fail
  refine (HD0.out _ HT0.out).mono ?_
  rintro x w2 ⟨rfl, hb2⟩
  have HB2 := Lib.hid (bl HB0.out hb2)
  have HA := Lib.hid ((hb2.block _ (lt_of_some HA.out)).trans HA.out)
  have HBB := Lib.hid ((hb2.block _ (lt_of_some HBB.out)).trans HBB.out)
  have HT2 := Lib.hid (HT0.out.below hb2)
  clear hb2
  have a0 := cell_at HA.out 0
  have a1 := cell_at HA.out 1
  have b0 := cell_at HBB.out 0
  have b1 := cell_at HBB.out 1
  have b2 := cell_at HBB.out 2
  have b3 := cell_at HBB.out 3
  have b4 := cell_at HBB.out 4
  have b5 := cell_at HBB.out 5
  go_wp2_with fail
  refine (HWR.out _).mono ?_
  rintro x w3 ⟨rfl, hb3⟩
  have HB3 := Lib.hid (bl HB2.out hb3)
  have HA := Lib.hid ((hb3.block _ (lt_of_some HA.out)).trans HA.out)
  have HBB := Lib.hid ((hb3.block _ (lt_of_some HBB.out)).trans HBB.out)
  have HT3 := Lib.hid (HT2.out.below hb3)
  clear hb3 a0 a1 b0 b1 b2 b3 b4 b5
  have a0 := cell_at HA.out 0
  have a1 := cell_at HA.out 1
  have b0 := cell_at HBB.out 0
  have b1 := cell_at HBB.out 1
  have b2 := cell_at HBB.out 2
  have b3 := cell_at HBB.out 3
  have b4 := cell_at HBB.out 4
  have b5 := cell_at HBB.out 5
  go_wp2_with fail
  go_ret
  exact ⟨by rw [HLINE.out, HBASE.out]; simp only [sp, ByteArray.append_assoc]; rfl, HB3.out⟩
set_option maxRecDepth 100000 in
set_option maxHeartbeats 4000000 in
theorem line_2_nt (sk who xk : Int) (xkey xval : ByteArray) (keep torn part err rerr : Int) (val : ByteArray) (yes : Bool) (rn : Int) (en : Bool) (w : World) (htab : Tab w) (hwho : -9223372036854775808 ≤ who ∧ who ≤ 9223372036854775807) (hrn : -9223372036854775808 ≤ rn ∧ rn ≤ 9223372036854775807) (hval : val.size ≤ 1000000) (hsk : (sk = 2) ∧ err ≠ 0) : Calls Tryd.prog 5 #[.agg #[.int .i64 sk, .int .i64 who, .int .i64 xk, .string xkey, .string xval, .int .u64 keep, .int .i64 torn, .int .i64 part], .agg #[.int .i64 err, .int .i64 rerr, .string val, .bool yes, .int .i64 rn, .bool true]] w fun x w' => x = .returned (.string (lineB sk who err rerr val yes rn true)) ∧ Below w.heap.size w w' := by
  have t3 : (sk == 3) = false := beq_eq_false_iff_ne.2 (by omega)
  have t3' : decide (sk = 3) = false := decide_eq_false (by omega)
  have t2 : (sk == 2) = true := beq_iff_eq.2 (by omega)
  have t2' : decide (sk = 2) = true := decide_eq_true (by omega)
  have t4 : (sk == 4) = false := beq_eq_false_iff_ne.2 (by omega)
  have t4' : decide (sk = 4) = false := decide_eq_false (by omega)
  have te : (err != 0) = true := bne_iff_ne.2 (by omega)
  have te' : (err == 0) = false := beq_eq_false_iff_ne.2 (by omega)
  have hk := kind_len sk
  have he := err_len err
  have hstr : StrsAt (((w.alloc (.cells #[.int .i64 sk, .int .i64 who, .int .i64 xk, .string xkey, .string xval, .int .u64 keep, .int .i64 torn, .int .i64 part] 34 (0, 0))).alloc (.cells #[.int .i64 err, .int .i64 rerr, .string val, .bool yes, .int .i64 rn, .bool true] 35 (0, 0))).alloc (.cells (kindL.map Value.string).toArray 9 (0, 0))) (w.heap.size + 2) kindL := by have := strs_new ((w.alloc (.cells #[.int .i64 sk, .int .i64 who, .int .i64 xk, .string xkey, .string xval, .int .u64 keep, .int .i64 torn, .int .i64 part] 34 (0, 0))).alloc (.cells #[.int .i64 err, .int .i64 rerr, .string val, .bool yes, .int .i64 rn, .bool true] 35 (0, 0))) kindL; rwa [World.size_alloc, World.size_alloc] at this
  have HW := Lib.hid (word_any sk (w.heap.size + 2) kindL _ hstr)
  obtain ⟨hA, hB⟩ := new3 w (.cells #[.int .i64 sk, .int .i64 who, .int .i64 xk, .string xkey, .string xval, .int .u64 keep, .int .i64 torn, .int .i64 part] 34 (0, 0)) (.cells #[.int .i64 err, .int .i64 rerr, .string val, .bool yes, .int .i64 rn, .bool true] 35 (0, 0)) (.cells (kindL.map Value.string).toArray 9 (0, 0))
  have HT0 := Lib.hid (htab.below (below_al (below_al (below_al (Below.refl _ w) (.cells #[.int .i64 sk, .int .i64 who, .int .i64 xk, .string xkey, .string xval, .int .u64 keep, .int .i64 torn, .int .i64 part] 34 (0, 0))) (.cells #[.int .i64 err, .int .i64 rerr, .string val, .bool yes, .int .i64 rn, .bool true] 35 (0, 0))) (.cells (kindL.map Value.string).toArray 9 (0, 0))))
  have HB0 := Lib.hid (below_al (below_al (below_al (Below.refl _ w) (.cells #[.int .i64 sk, .int .i64 who, .int .i64 xk, .string xkey, .string xval, .int .u64 keep, .int .i64 torn, .int .i64 part] 34 (0, 0))) (.cells #[.int .i64 err, .int .i64 rerr, .string val, .bool yes, .int .i64 rn, .bool true] 35 (0, 0))) (.cells (kindL.map Value.string).toArray 9 (0, 0)))
  have HA := Lib.hid hA
  have HBB := Lib.hid hB
  obtain ⟨k1, hk1⟩ : ∃ k1, k1 = wd sk kindL := ⟨_, rfl⟩
  obtain ⟨e1, he1⟩ : ∃ e1, e1 = wd err errL := ⟨_, rfl⟩
  rw [← hk1] at hk HW
  rw [← he1] at he
  have hd0 := dig_len who hwho.1 hwho.2
  obtain ⟨d0, hde⟩ : ∃ d0, d0 = dig who := ⟨_, rfl⟩
  rw [← hde] at hd0
  have HBASE : Hid (baseB sk who err = k1 ++ sp ++ d0 ++ sp ++ e1) := Lib.hid (by unfold baseB; rw [if_neg (by omega), hk1, he1, hde])
  have HLINE : Hid (lineB sk who err rerr val yes rn true = baseB sk who err) := Lib.hid (if_neg (by rintro ⟨h1, h2 | h2⟩ <;> (try omega) <;> (first | (have := h2.2; contradiction) | omega)))
  have s0 : ¬ 9223372036854775807 < k1.size + 1 := by omega
  have s1 : ¬ 9223372036854775807 < k1.size + 1 + d0.size := by omega
  have s2 : ¬ 9223372036854775807 < 1 + e1.size := by omega
  have s3 : ¬ 9223372036854775807 < k1.size + 1 + d0.size + (1 + e1.size) := by omega
  have HWR := Lib.hid (fun X => wrong_any err X)
  simp only [← he1] at HWR
  have HD0 := Lib.hid (fun X (hX : Tab X) => itoa_any who hwho.1 hwho.2 X hX)
  simp only [← hde] at HD0
  clear hk1 he1 hA hB hstr hk he hde hd0 hsk
  go_enter Tryd.func5, Tryd.ntmps5
  go_wp2_with fail
  refine HW.out.mono ?_
  rintro x w1 ⟨rfl, rfl⟩
  go_wp2_with fail
  refine (HD0.out _ HT0.out).mono ?_
  rintro x w2 ⟨rfl, hb2⟩
  have HB2 := Lib.hid (bl HB0.out hb2)
  have HA := Lib.hid ((hb2.block _ (lt_of_some HA.out)).trans HA.out)
  have HBB := Lib.hid ((hb2.block _ (lt_of_some HBB.out)).trans HBB.out)
  have HT2 := Lib.hid (HT0.out.below hb2)
  clear hb2
  have a0 := cell_at HA.out 0
  have a1 := cell_at HA.out 1
  have b0 := cell_at HBB.out 0
  have b1 := cell_at HBB.out 1
  have b2 := cell_at HBB.out 2
  have b3 := cell_at HBB.out 3
  have b4 := cell_at HBB.out 4
  have b5 := cell_at HBB.out 5
  go_wp2_with fail
  refine (HWR.out _).mono ?_
  rintro x w3 ⟨rfl, hb3⟩
  have HB3 := Lib.hid (bl HB2.out hb3)
  have HA := Lib.hid ((hb3.block _ (lt_of_some HA.out)).trans HA.out)
  have HBB := Lib.hid ((hb3.block _ (lt_of_some HBB.out)).trans HBB.out)
  have HT3 := Lib.hid (HT2.out.below hb3)
  clear hb3 a0 a1 b0 b1 b2 b3 b4 b5
  have a0 := cell_at HA.out 0
  have a1 := cell_at HA.out 1
  have b0 := cell_at HBB.out 0
  have b1 := cell_at HBB.out 1
  have b2 := cell_at HBB.out 2
  have b3 := cell_at HBB.out 3
  have b4 := cell_at HBB.out 4
  have b5 := cell_at HBB.out 5
  go_wp2_with fail
  go_ret
  exact ⟨by rw [HLINE.out, HBASE.out]; simp only [sp, ByteArray.append_assoc]; rfl, HB3.out⟩
set_option maxRecDepth 100000 in
set_option maxHeartbeats 4000000 in
theorem line_4_n (sk who xk : Int) (xkey xval : ByteArray) (keep torn part err rerr : Int) (val : ByteArray) (yes : Bool) (rn : Int) (en : Bool) (w : World) (htab : Tab w) (hwho : -9223372036854775808 ≤ who ∧ who ≤ 9223372036854775807) (hrn : -9223372036854775808 ≤ rn ∧ rn ≤ 9223372036854775807) (hval : val.size ≤ 1000000) (hsk : (sk = 4) ∧ err ≠ 0) : Calls Tryd.prog 5 #[.agg #[.int .i64 sk, .int .i64 who, .int .i64 xk, .string xkey, .string xval, .int .u64 keep, .int .i64 torn, .int .i64 part], .agg #[.int .i64 err, .int .i64 rerr, .string val, .bool yes, .int .i64 rn, .bool en]] w fun x w' => x = .returned (.string (lineB sk who err rerr val yes rn en)) ∧ Below w.heap.size w w' := by
  have t3 : (sk == 3) = false := beq_eq_false_iff_ne.2 (by omega)
  have t3' : decide (sk = 3) = false := decide_eq_false (by omega)
  have t2 : (sk == 2) = false := beq_eq_false_iff_ne.2 (by omega)
  have t2' : decide (sk = 2) = false := decide_eq_false (by omega)
  have t4 : (sk == 4) = true := beq_iff_eq.2 (by omega)
  have t4' : decide (sk = 4) = true := decide_eq_true (by omega)
  have te : (err != 0) = true := bne_iff_ne.2 (by omega)
  have te' : (err == 0) = false := beq_eq_false_iff_ne.2 (by omega)
  have hk := kind_len sk
  have he := err_len err
  have hstr : StrsAt (((w.alloc (.cells #[.int .i64 sk, .int .i64 who, .int .i64 xk, .string xkey, .string xval, .int .u64 keep, .int .i64 torn, .int .i64 part] 34 (0, 0))).alloc (.cells #[.int .i64 err, .int .i64 rerr, .string val, .bool yes, .int .i64 rn, .bool en] 35 (0, 0))).alloc (.cells (kindL.map Value.string).toArray 9 (0, 0))) (w.heap.size + 2) kindL := by have := strs_new ((w.alloc (.cells #[.int .i64 sk, .int .i64 who, .int .i64 xk, .string xkey, .string xval, .int .u64 keep, .int .i64 torn, .int .i64 part] 34 (0, 0))).alloc (.cells #[.int .i64 err, .int .i64 rerr, .string val, .bool yes, .int .i64 rn, .bool en] 35 (0, 0))) kindL; rwa [World.size_alloc, World.size_alloc] at this
  have HW := Lib.hid (word_any sk (w.heap.size + 2) kindL _ hstr)
  obtain ⟨hA, hB⟩ := new3 w (.cells #[.int .i64 sk, .int .i64 who, .int .i64 xk, .string xkey, .string xval, .int .u64 keep, .int .i64 torn, .int .i64 part] 34 (0, 0)) (.cells #[.int .i64 err, .int .i64 rerr, .string val, .bool yes, .int .i64 rn, .bool en] 35 (0, 0)) (.cells (kindL.map Value.string).toArray 9 (0, 0))
  have HT0 := Lib.hid (htab.below (below_al (below_al (below_al (Below.refl _ w) (.cells #[.int .i64 sk, .int .i64 who, .int .i64 xk, .string xkey, .string xval, .int .u64 keep, .int .i64 torn, .int .i64 part] 34 (0, 0))) (.cells #[.int .i64 err, .int .i64 rerr, .string val, .bool yes, .int .i64 rn, .bool en] 35 (0, 0))) (.cells (kindL.map Value.string).toArray 9 (0, 0))))
  have HB0 := Lib.hid (below_al (below_al (below_al (Below.refl _ w) (.cells #[.int .i64 sk, .int .i64 who, .int .i64 xk, .string xkey, .string xval, .int .u64 keep, .int .i64 torn, .int .i64 part] 34 (0, 0))) (.cells #[.int .i64 err, .int .i64 rerr, .string val, .bool yes, .int .i64 rn, .bool en] 35 (0, 0))) (.cells (kindL.map Value.string).toArray 9 (0, 0)))
  have HA := Lib.hid hA
  have HBB := Lib.hid hB
  obtain ⟨k1, hk1⟩ : ∃ k1, k1 = wd sk kindL := ⟨_, rfl⟩
  obtain ⟨e1, he1⟩ : ∃ e1, e1 = wd err errL := ⟨_, rfl⟩
  rw [← hk1] at hk HW
  rw [← he1] at he
  have hd0 := dig_len who hwho.1 hwho.2
  obtain ⟨d0, hde⟩ : ∃ d0, d0 = dig who := ⟨_, rfl⟩
  rw [← hde] at hd0
  have HBASE : Hid (baseB sk who err = k1 ++ sp ++ d0 ++ sp ++ e1) := Lib.hid (by unfold baseB; rw [if_neg (by omega), hk1, he1, hde])
  have HLINE : Hid (lineB sk who err rerr val yes rn en = baseB sk who err) := Lib.hid (if_neg (by rintro ⟨h1, h2 | h2⟩ <;> (try omega) <;> (first | (have := h2.2; contradiction) | omega)))
  have s0 : ¬ 9223372036854775807 < k1.size + 1 := by omega
  have s1 : ¬ 9223372036854775807 < k1.size + 1 + d0.size := by omega
  have s2 : ¬ 9223372036854775807 < 1 + e1.size := by omega
  have s3 : ¬ 9223372036854775807 < k1.size + 1 + d0.size + (1 + e1.size) := by omega
  have HWR := Lib.hid (fun X => wrong_any err X)
  simp only [← he1] at HWR
  have HD0 := Lib.hid (fun X (hX : Tab X) => itoa_any who hwho.1 hwho.2 X hX)
  simp only [← hde] at HD0
  clear hk1 he1 hA hB hstr hk he hde hd0 hsk
  go_enter Tryd.func5, Tryd.ntmps5
  go_wp2_with fail
  refine HW.out.mono ?_
  rintro x w1 ⟨rfl, rfl⟩
  go_wp2_with fail
  refine (HD0.out _ HT0.out).mono ?_
  rintro x w2 ⟨rfl, hb2⟩
  have HB2 := Lib.hid (bl HB0.out hb2)
  have HA := Lib.hid ((hb2.block _ (lt_of_some HA.out)).trans HA.out)
  have HBB := Lib.hid ((hb2.block _ (lt_of_some HBB.out)).trans HBB.out)
  have HT2 := Lib.hid (HT0.out.below hb2)
  clear hb2
  have a0 := cell_at HA.out 0
  have a1 := cell_at HA.out 1
  have b0 := cell_at HBB.out 0
  have b1 := cell_at HBB.out 1
  have b2 := cell_at HBB.out 2
  have b3 := cell_at HBB.out 3
  have b4 := cell_at HBB.out 4
  have b5 := cell_at HBB.out 5
  go_wp2_with fail
  refine (HWR.out _).mono ?_
  rintro x w3 ⟨rfl, hb3⟩
  have HB3 := Lib.hid (bl HB2.out hb3)
  have HA := Lib.hid ((hb3.block _ (lt_of_some HA.out)).trans HA.out)
  have HBB := Lib.hid ((hb3.block _ (lt_of_some HBB.out)).trans HBB.out)
  have HT3 := Lib.hid (HT2.out.below hb3)
  clear hb3 a0 a1 b0 b1 b2 b3 b4 b5
  have a0 := cell_at HA.out 0
  have a1 := cell_at HA.out 1
  have b0 := cell_at HBB.out 0
  have b1 := cell_at HBB.out 1
  have b2 := cell_at HBB.out 2
  have b3 := cell_at HBB.out 3
  have b4 := cell_at HBB.out 4
  have b5 := cell_at HBB.out 5
  go_wp2_with fail
  go_ret
  exact ⟨by rw [HLINE.out, HBASE.out]; simp only [sp, ByteArray.append_assoc]; rfl, HB3.out⟩
set_option maxRecDepth 100000 in
set_option maxHeartbeats 4000000 in
theorem line_2_zyt (sk who xk : Int) (xkey xval : ByteArray) (keep torn part err rerr : Int) (val : ByteArray) (yes : Bool) (rn : Int) (en : Bool) (w : World) (htab : Tab w) (hwho : -9223372036854775808 ≤ who ∧ who ≤ 9223372036854775807) (hrn : -9223372036854775808 ≤ rn ∧ rn ≤ 9223372036854775807) (hval : val.size ≤ 1000000) (hsk : (sk = 2) ∧ err = 0) : Calls Tryd.prog 5 #[.agg #[.int .i64 sk, .int .i64 who, .int .i64 xk, .string xkey, .string xval, .int .u64 keep, .int .i64 torn, .int .i64 part], .agg #[.int .i64 err, .int .i64 rerr, .string val, .bool true, .int .i64 rn, .bool true]] w fun x w' => x = .returned (.string (lineB sk who err rerr val true rn true)) ∧ Below w.heap.size w w' := by
  have t3 : (sk == 3) = false := beq_eq_false_iff_ne.2 (by omega)
  have t3' : decide (sk = 3) = false := decide_eq_false (by omega)
  have t2 : (sk == 2) = true := beq_iff_eq.2 (by omega)
  have t2' : decide (sk = 2) = true := decide_eq_true (by omega)
  have t4 : (sk == 4) = false := beq_eq_false_iff_ne.2 (by omega)
  have t4' : decide (sk = 4) = false := decide_eq_false (by omega)
  have te : (err != 0) = false := by rw [bne_eq_false_iff_eq]; omega
  have te' : (err == 0) = true := beq_iff_eq.2 (by omega)
  have hk := kind_len sk
  have he := err_len err
  have hstr : StrsAt (((w.alloc (.cells #[.int .i64 sk, .int .i64 who, .int .i64 xk, .string xkey, .string xval, .int .u64 keep, .int .i64 torn, .int .i64 part] 34 (0, 0))).alloc (.cells #[.int .i64 err, .int .i64 rerr, .string val, .bool true, .int .i64 rn, .bool true] 35 (0, 0))).alloc (.cells (kindL.map Value.string).toArray 9 (0, 0))) (w.heap.size + 2) kindL := by have := strs_new ((w.alloc (.cells #[.int .i64 sk, .int .i64 who, .int .i64 xk, .string xkey, .string xval, .int .u64 keep, .int .i64 torn, .int .i64 part] 34 (0, 0))).alloc (.cells #[.int .i64 err, .int .i64 rerr, .string val, .bool true, .int .i64 rn, .bool true] 35 (0, 0))) kindL; rwa [World.size_alloc, World.size_alloc] at this
  have HW := Lib.hid (word_any sk (w.heap.size + 2) kindL _ hstr)
  obtain ⟨hA, hB⟩ := new3 w (.cells #[.int .i64 sk, .int .i64 who, .int .i64 xk, .string xkey, .string xval, .int .u64 keep, .int .i64 torn, .int .i64 part] 34 (0, 0)) (.cells #[.int .i64 err, .int .i64 rerr, .string val, .bool true, .int .i64 rn, .bool true] 35 (0, 0)) (.cells (kindL.map Value.string).toArray 9 (0, 0))
  have HT0 := Lib.hid (htab.below (below_al (below_al (below_al (Below.refl _ w) (.cells #[.int .i64 sk, .int .i64 who, .int .i64 xk, .string xkey, .string xval, .int .u64 keep, .int .i64 torn, .int .i64 part] 34 (0, 0))) (.cells #[.int .i64 err, .int .i64 rerr, .string val, .bool true, .int .i64 rn, .bool true] 35 (0, 0))) (.cells (kindL.map Value.string).toArray 9 (0, 0))))
  have HB0 := Lib.hid (below_al (below_al (below_al (Below.refl _ w) (.cells #[.int .i64 sk, .int .i64 who, .int .i64 xk, .string xkey, .string xval, .int .u64 keep, .int .i64 torn, .int .i64 part] 34 (0, 0))) (.cells #[.int .i64 err, .int .i64 rerr, .string val, .bool true, .int .i64 rn, .bool true] 35 (0, 0))) (.cells (kindL.map Value.string).toArray 9 (0, 0)))
  have HA := Lib.hid hA
  have HBB := Lib.hid hB
  obtain ⟨k1, hk1⟩ : ∃ k1, k1 = wd sk kindL := ⟨_, rfl⟩
  obtain ⟨e1, he1⟩ : ∃ e1, e1 = wd err errL := ⟨_, rfl⟩
  rw [← hk1] at hk HW
  rw [← he1] at he
  have hd0 := dig_len who hwho.1 hwho.2
  obtain ⟨d0, hde⟩ : ∃ d0, d0 = dig who := ⟨_, rfl⟩
  rw [← hde] at hd0
  have HBASE : Hid (baseB sk who err = k1 ++ sp ++ d0 ++ sp ++ e1) := Lib.hid (by unfold baseB; rw [if_neg (by omega), hk1, he1, hde])
  have HLINE : Hid (lineB sk who err rerr val true rn true = fullB sk who err rerr true rn val) := Lib.hid (if_pos ⟨by omega, by exact .inl ⟨by omega, rfl⟩⟩)
  have s0 : ¬ 9223372036854775807 < k1.size + 1 := by omega
  have s1 : ¬ 9223372036854775807 < k1.size + 1 + d0.size := by omega
  have s2 : ¬ 9223372036854775807 < 1 + e1.size := by omega
  have s3 : ¬ 9223372036854775807 < k1.size + 1 + d0.size + (1 + e1.size) := by omega
  have HWR := Lib.hid (fun X => wrong_any err X)
  simp only [← he1] at HWR
  have HD0 := Lib.hid (fun X (hX : Tab X) => itoa_any who hwho.1 hwho.2 X hX)
  simp only [← hde] at HD0
  have hq := err_len rerr
  have hdn := dig_len rn hrn.1 hrn.2
  obtain ⟨q1, hq1⟩ : ∃ q1, q1 = wd rerr errL := ⟨_, rfl⟩
  obtain ⟨d1, hd1⟩ : ∃ d1, d1 = dig rn := ⟨_, rfl⟩
  rw [← hq1] at hq
  rw [← hd1] at hdn
  have HWQ := Lib.hid (fun X => wrong_any rerr X)
  simp only [← hq1] at HWQ
  have HDN := Lib.hid (fun X (hX : Tab X) => itoa_any rn hrn.1 hrn.2 X hX)
  simp only [← hd1] at HDN
  have HFULL : Hid (fullB sk who err rerr true rn val = k1 ++ sp ++ d0 ++ sp ++ e1 ++ sp ++ q1 ++ sp ++ ⟨#[121, 101, 115]⟩ ++ sp ++ d1 ++ sp ++ val) := Lib.hid (by unfold fullB; rw [HBASE.out, ← hq1, ← hd1]; rfl)
  have r0 : ¬ 9223372036854775807 < k1.size + 1 + d0.size + (1 + e1.size) + 1 := by omega
  have r1 : ¬ 9223372036854775807 < k1.size + 1 + d0.size + (1 + e1.size) + 1 + q1.size := by omega
  have r2 : ¬ 9223372036854775807 < k1.size + 1 + d0.size + (1 + e1.size) + 1 + q1.size + 1 := by omega
  have r3 : ¬ 9223372036854775807 < k1.size + 1 + d0.size + (1 + e1.size) + 1 + q1.size + 1 + 3 := by omega
  have r4 : ¬ 9223372036854775807 < k1.size + 1 + d0.size + (1 + e1.size) + 1 + q1.size + 1 + 3 + 1 := by omega
  have r5 : ¬ 9223372036854775807 < k1.size + 1 + d0.size + (1 + e1.size) + 1 + q1.size + 1 + 3 + 1 + d1.size := by omega
  have r6 : ¬ 9223372036854775807 < k1.size + 1 + d0.size + (1 + e1.size) + 1 + q1.size + 1 + 3 + 1 + d1.size + 1 := by omega
  have r7 : ¬ 9223372036854775807 < k1.size + 1 + d0.size + (1 + e1.size) + 1 + q1.size + 1 + 3 + 1 + d1.size + 1 + val.size := by omega
  clear hk1 he1 hA hB hstr hk he hde hd0 hq1 hd1 hq hdn hsk
  go_enter Tryd.func5, Tryd.ntmps5
  go_wp2_with fail
  refine HW.out.mono ?_
  rintro x w1 ⟨rfl, rfl⟩
  go_wp2_with fail
  refine (HD0.out _ HT0.out).mono ?_
  rintro x w2 ⟨rfl, hb2⟩
  have HB2 := Lib.hid (bl HB0.out hb2)
  have HA := Lib.hid ((hb2.block _ (lt_of_some HA.out)).trans HA.out)
  have HBB := Lib.hid ((hb2.block _ (lt_of_some HBB.out)).trans HBB.out)
  have HT2 := Lib.hid (HT0.out.below hb2)
  clear hb2
  have a0 := cell_at HA.out 0
  have a1 := cell_at HA.out 1
  have b0 := cell_at HBB.out 0
  have b1 := cell_at HBB.out 1
  have b2 := cell_at HBB.out 2
  have b3 := cell_at HBB.out 3
  have b4 := cell_at HBB.out 4
  have b5 := cell_at HBB.out 5
  go_wp2_with fail
  refine (HWR.out _).mono ?_
  rintro x w3 ⟨rfl, hb3⟩
  have HB3 := Lib.hid (bl HB2.out hb3)
  have HA := Lib.hid ((hb3.block _ (lt_of_some HA.out)).trans HA.out)
  have HBB := Lib.hid ((hb3.block _ (lt_of_some HBB.out)).trans HBB.out)
  have HT3 := Lib.hid (HT2.out.below hb3)
  clear hb3 a0 a1 b0 b1 b2 b3 b4 b5
  have a0 := fun X (hX : Below w3.heap.size w3 X) => cell_at ((hX.block _ (lt_of_some HA.out)).trans HA.out) 0
  have b0 := fun X (hX : Below w3.heap.size w3 X) => cell_at ((hX.block _ (lt_of_some HBB.out)).trans HBB.out) 0
  have b1 := fun X (hX : Below w3.heap.size w3 X) => cell_at ((hX.block _ (lt_of_some HBB.out)).trans HBB.out) 1
  have b2 := fun X (hX : Below w3.heap.size w3 X) => cell_at ((hX.block _ (lt_of_some HBB.out)).trans HBB.out) 2
  have b3 := fun X (hX : Below w3.heap.size w3 X) => cell_at ((hX.block _ (lt_of_some HBB.out)).trans HBB.out) 3
  have b4 := fun X (hX : Below w3.heap.size w3 X) => cell_at ((hX.block _ (lt_of_some HBB.out)).trans HBB.out) 4
  have b5 := fun X (hX : Below w3.heap.size w3 X) => cell_at ((hX.block _ (lt_of_some HBB.out)).trans HBB.out) 5
  have a0' := a0 w3 (Below.refl _ _)
  have b0' := b0 w3 (Below.refl _ _)
  have b1' := b1 w3 (Below.refl _ _)
  have b2' := b2 w3 (Below.refl _ _)
  have b3' := b3 w3 (Below.refl _ _)
  have b4' := b4 w3 (Below.refl _ _)
  have b5' := b5 w3 (Below.refl _ _)
  go_wp2_with fail
  clear a0' b0' b1' b2' b3' b4' b5'
  refine wp_region_held_drew (S := (fun X => Below w3.heap.size w3 X)) (by kernel_rfl) (((by repeat (first | exact Below.refl _ _ | assumption | apply below_dr | apply below_dn | apply below_al)) : Below w3.heap.size w3 _)) (fun hHeld => ?_)
  try simp only [Act.put, List.setIfInBounds_toArray, List.set_cons_zero, List.set_cons_succ]
  refine wpAnyH_take (i := 0) (v := ?_) (by simp only [List.getElem?_toArray, List.getElem?_cons_succ, List.getElem?_cons_zero]; rfl) (by kernel_rfl) (by kernel_rfl) (by kernel_rfl) (by exact fun _ _ _ h => h) (Or.inl ⟨by rfl, ?_⟩) (by assumption) ?_
  rotate_left
  · intro w hSw; (try dsimp only at hSw); go_simp; try with_reducible rfl
  try simp only [Act.put, List.setIfInBounds_toArray, List.set_cons_zero, List.set_cons_succ]
  refine wpAnyH_take (i := 1) (v := ?_) (by simp only [List.getElem?_toArray, List.getElem?_cons_succ, List.getElem?_cons_zero]; rfl) (by kernel_rfl) (by kernel_rfl) (by kernel_rfl) (by exact fun _ _ _ h => h) (Or.inl ⟨by rfl, ?_⟩) (by assumption) ?_
  rotate_left
  · intro w hSw; (try dsimp only at hSw); go_simp; try with_reducible rfl
  try simp only [Act.put, List.setIfInBounds_toArray, List.set_cons_zero, List.set_cons_succ]
  refine wpAnyH_take (i := 2) (v := ?_) (by simp only [List.getElem?_toArray, List.getElem?_cons_succ, List.getElem?_cons_zero]; rfl) (by kernel_rfl) (by kernel_rfl) (by kernel_rfl) (by exact fun _ _ _ h => h) (Or.inl ⟨by rfl, ?_⟩) (by assumption) ?_
  rotate_left
  · intro w hSw; (try dsimp only at hSw); go_simp; try with_reducible rfl
  try simp only [Act.put, List.setIfInBounds_toArray, List.set_cons_zero, List.set_cons_succ]
  refine wpAnyH_take (i := 3) (v := ?_) (by simp only [List.getElem?_toArray, List.getElem?_cons_succ, List.getElem?_cons_zero]; rfl) (by kernel_rfl) (by kernel_rfl) (by kernel_rfl) (by exact fun _ _ _ h => h) (Or.inl ⟨by rfl, ?_⟩) (by assumption) ?_
  rotate_left
  · intro w hSw; (try dsimp only at hSw); go_simp; try with_reducible rfl
  try simp only [Act.put, List.setIfInBounds_toArray, List.set_cons_zero, List.set_cons_succ]
  refine wpAnyH_take (i := 4) (v := ?_) (by simp only [List.getElem?_toArray, List.getElem?_cons_succ, List.getElem?_cons_zero]; rfl) (by kernel_rfl) (by kernel_rfl) (by kernel_rfl) (by exact fun _ _ _ h => h) (Or.inl ⟨by rfl, ?_⟩) (by assumption) ?_
  rotate_left
  · intro w hSw; (try dsimp only at hSw); go_simp; try with_reducible rfl
  try simp only [Act.put, List.setIfInBounds_toArray, List.set_cons_zero, List.set_cons_succ]
  refine wpAnyH_take (i := 8) (v := ?_) (by simp only [List.getElem?_toArray, List.getElem?_cons_succ, List.getElem?_cons_zero]; rfl) (by kernel_rfl) (by kernel_rfl) (by kernel_rfl) (by exact fun _ _ _ h => h) (Or.inl ⟨by rfl, ?_⟩) (by assumption) ?_
  rotate_left
  · intro w hSw; (try dsimp only at hSw); go_simp; try with_reducible rfl
  try simp only [Act.put, List.setIfInBounds_toArray, List.set_cons_zero, List.set_cons_succ]
  refine wpAnyH_take (i := 11) (v := ?_) (by simp only [List.getElem?_toArray, List.getElem?_cons_succ, List.getElem?_cons_zero]; rfl) (by kernel_rfl) (by kernel_rfl) (by kernel_rfl) (by exact fun _ _ _ h => h) (Or.inl ⟨by rfl, ?_⟩) (by assumption) ?_
  rotate_left
  · intro w hSw; (try dsimp only at hSw); go_simp; try with_reducible rfl
  try simp only [Act.put, List.setIfInBounds_toArray, List.set_cons_zero, List.set_cons_succ]
  refine wpAnyH_take (i := 12) (v := ?_) (by simp only [List.getElem?_toArray, List.getElem?_cons_succ, List.getElem?_cons_zero]; rfl) (by kernel_rfl) (by kernel_rfl) (by kernel_rfl) (by exact fun _ _ _ h => h) (Or.inl ⟨by rfl, ?_⟩) (by assumption) ?_
  rotate_left
  · intro w hSw; (try dsimp only at hSw); go_simp; try with_reducible rfl
  try simp only [Act.put, List.setIfInBounds_toArray, List.set_cons_zero, List.set_cons_succ]
  refine wpAnyH_take (i := 13) (v := ?_) (by simp only [List.getElem?_toArray, List.getElem?_cons_succ, List.getElem?_cons_zero]; rfl) (by kernel_rfl) (by kernel_rfl) (by kernel_rfl) (by exact fun _ _ _ h => h) (Or.inl ⟨by rfl, ?_⟩) (by assumption) ?_
  rotate_left
  · intro w hSw; (try dsimp only at hSw); go_simp; try with_reducible rfl
  try simp only [Act.put, List.setIfInBounds_toArray, List.set_cons_zero, List.set_cons_succ]
  refine wpAnyH_take (i := 17) (v := ?_) (by simp only [List.getElem?_toArray, List.getElem?_cons_succ, List.getElem?_cons_zero]; rfl) (by kernel_rfl) (by kernel_rfl) (by kernel_rfl) (by exact fun _ _ _ h => h) (Or.inl ⟨by rfl, ?_⟩) (by assumption) ?_
  rotate_left
  · intro w hSw; (try dsimp only at hSw); go_simp; try with_reducible rfl
  try simp only [Act.put, List.setIfInBounds_toArray, List.set_cons_zero, List.set_cons_succ]
  refine wpAnyH_take (i := 18) (v := ?_) (by simp only [List.getElem?_toArray, List.getElem?_cons_succ, List.getElem?_cons_zero]; rfl) (by kernel_rfl) (by kernel_rfl) (by kernel_rfl) (by exact fun _ _ _ h => h) (Or.inl ⟨by rfl, ?_⟩) (by assumption) ?_
  rotate_left
  · intro w hSw; (try dsimp only at hSw); go_simp; try with_reducible rfl
  try simp only [Act.put, List.setIfInBounds_toArray, List.set_cons_zero, List.set_cons_succ]
  refine wpAnyH_take (i := 19) (v := ?_) (by simp only [List.getElem?_toArray, List.getElem?_cons_succ, List.getElem?_cons_zero]; rfl) (by kernel_rfl) (by kernel_rfl) (by kernel_rfl) (by exact fun _ _ _ h => h) (Or.inl ⟨by rfl, ?_⟩) (by assumption) ?_
  rotate_left
  · intro w hSw; (try dsimp only at hSw); go_simp; try with_reducible rfl
  try simp only [Act.put, List.setIfInBounds_toArray, List.set_cons_zero, List.set_cons_succ]
  refine wpAnyH_ready (rs := [5]) (by kernel_rfl) (by simp) ?_
  refine AllReadyH.cons (by simp only [List.getElem?_toArray, List.getElem?_cons_succ, List.getElem?_cons_zero]; rfl) (fun K hK => ?_) AllReadyH.nil
  go_simp
  refine (HWQ.out _).mono ?_; rintro x w5 ⟨rfl, hb5⟩; have hz5 : Below w3.heap.size w3 w5 := bl (by repeat (first | exact Below.refl _ _ | assumption | apply below_dr | apply below_dn | apply below_al)) hb5
  try go_simp
  refine hK.out _ _ (((by repeat (first | exact Below.refl _ _ | assumption | apply below_dr | apply below_dn | apply below_al)) : Below w3.heap.size w3 _)) (fun hHeld => ?_)
  clear hK K
  try simp only [Act.put, List.setIfInBounds_toArray, List.set_cons_zero, List.set_cons_succ]
  refine wpAnyH_take (i := 6) (v := ?_) (by simp only [List.getElem?_toArray, List.getElem?_cons_succ, List.getElem?_cons_zero]; rfl) (by kernel_rfl) (by kernel_rfl) (by kernel_rfl) (by exact fun _ _ _ h => h) (Or.inl ⟨by rfl, ?_⟩) (by assumption) ?_
  rotate_left
  · intro w hSw; (try dsimp only at hSw); go_simp; try with_reducible rfl
  try simp only [Act.put, List.setIfInBounds_toArray, List.set_cons_zero, List.set_cons_succ]
  refine wpAnyH_take (i := 7) (v := ?_) (by simp only [List.getElem?_toArray, List.getElem?_cons_succ, List.getElem?_cons_zero]; rfl) (by kernel_rfl) (by kernel_rfl) (by kernel_rfl) (by exact fun _ _ _ h => h) (Or.inl ⟨by rfl, ?_⟩) (by assumption) ?_
  rotate_left
  · intro w hSw; (try dsimp only at hSw); go_simp; try with_reducible rfl
  try simp only [Act.put, List.setIfInBounds_toArray, List.set_cons_zero, List.set_cons_succ]
  refine wpAnyH_take (i := 9) (v := ?_) (by simp only [List.getElem?_toArray, List.getElem?_cons_succ, List.getElem?_cons_zero]; rfl) (by kernel_rfl) (by kernel_rfl) (by kernel_rfl) (by exact fun _ _ _ h => h) (Or.inl ⟨by rfl, ?_⟩) (by assumption) ?_
  rotate_left
  · intro w hSw; (try dsimp only at hSw); go_simp; try with_reducible rfl
  try simp only [Act.put, List.setIfInBounds_toArray, List.set_cons_zero, List.set_cons_succ]
  refine wpAnyH_take (i := 10) (v := ?_) (by simp only [List.getElem?_toArray, List.getElem?_cons_succ, List.getElem?_cons_zero]; rfl) (by kernel_rfl) (by kernel_rfl) (by kernel_rfl) (by exact fun _ _ _ h => h) (Or.inl ⟨by rfl, ?_⟩) (by assumption) ?_
  rotate_left
  · intro w hSw; (try dsimp only at hSw); go_simp; try with_reducible rfl
  try simp only [Act.put, List.setIfInBounds_toArray, List.set_cons_zero, List.set_cons_succ]
  refine wpAnyH_ready (rs := [14]) (by kernel_rfl) (by simp) ?_
  refine AllReadyH.cons (by simp only [List.getElem?_toArray, List.getElem?_cons_succ, List.getElem?_cons_zero]; rfl) (fun K hK => ?_) AllReadyH.nil
  go_simp
  refine (HDN.out _ (HT3.out.below (by repeat (first | exact Below.refl _ _ | assumption | apply below_dr | apply below_dn | apply below_al)))).mono ?_; rintro x w6 ⟨rfl, hb6⟩; have hz6 : Below w3.heap.size w3 w6 := bl (by repeat (first | exact Below.refl _ _ | assumption | apply below_dr | apply below_dn | apply below_al)) hb6
  try go_simp
  refine hK.out _ _ (((by repeat (first | exact Below.refl _ _ | assumption | apply below_dr | apply below_dn | apply below_al)) : Below w3.heap.size w3 _)) (fun hHeld => ?_)
  clear hK K
  try simp only [Act.put, List.setIfInBounds_toArray, List.set_cons_zero, List.set_cons_succ]
  refine wpAnyH_take (i := 15) (v := ?_) (by simp only [List.getElem?_toArray, List.getElem?_cons_succ, List.getElem?_cons_zero]; rfl) (by kernel_rfl) (by kernel_rfl) (by kernel_rfl) (by exact fun _ _ _ h => h) (Or.inl ⟨by rfl, ?_⟩) (by assumption) ?_
  rotate_left
  · intro w hSw; (try dsimp only at hSw); go_simp; try with_reducible rfl
  try simp only [Act.put, List.setIfInBounds_toArray, List.set_cons_zero, List.set_cons_succ]
  refine wpAnyH_take (i := 16) (v := ?_) (by simp only [List.getElem?_toArray, List.getElem?_cons_succ, List.getElem?_cons_zero]; rfl) (by kernel_rfl) (by kernel_rfl) (by kernel_rfl) (by exact fun _ _ _ h => h) (Or.inl ⟨by rfl, ?_⟩) (by assumption) ?_
  rotate_left
  · intro w hSw; (try dsimp only at hSw); go_simp; try with_reducible rfl
  try simp only [Act.put, List.setIfInBounds_toArray, List.set_cons_zero, List.set_cons_succ]
  refine wpAnyH_take (i := 20) (v := ?_) (by simp only [List.getElem?_toArray, List.getElem?_cons_succ, List.getElem?_cons_zero]; rfl) (by kernel_rfl) (by kernel_rfl) (by kernel_rfl) (by exact fun _ _ _ h => h) (Or.inl ⟨by rfl, ?_⟩) (by assumption) ?_
  rotate_left
  · intro w hSw; (try dsimp only at hSw); go_simp; try with_reducible rfl
  try simp only [Act.put, List.setIfInBounds_toArray, List.set_cons_zero, List.set_cons_succ]
  refine wpAnyH_ready (rs := [21]) (by kernel_rfl) (by simp) ?_
  refine AllReadyH.cons (by simp only [List.getElem?_toArray, List.getElem?_cons_succ, List.getElem?_cons_zero]; rfl) (fun K hK => ?_) AllReadyH.nil
  go_simp
  refine hK.out _ _ (((by repeat (first | exact Below.refl _ _ | assumption | apply below_dr | apply below_dn | apply below_al)) : Below w3.heap.size w3 _)) (fun hHeld => ?_)
  clear hK K
  try simp only [Act.put, List.setIfInBounds_toArray, List.set_cons_zero, List.set_cons_succ]
  refine wpAnyH_done (by kernel_rfl) ?_ _
  go_wp2_with fail
  go_ret
  exact ⟨by rw [HLINE.out, HFULL.out]; simp only [sp, ByteArray.append_assoc]; rfl, bl HB3.out (by repeat (first | exact Below.refl _ _ | assumption | apply below_dr | apply below_dn | apply below_al))⟩
set_option maxRecDepth 100000 in
set_option maxHeartbeats 4000000 in
theorem line_2_znt (sk who xk : Int) (xkey xval : ByteArray) (keep torn part err rerr : Int) (val : ByteArray) (yes : Bool) (rn : Int) (en : Bool) (w : World) (htab : Tab w) (hwho : -9223372036854775808 ≤ who ∧ who ≤ 9223372036854775807) (hrn : -9223372036854775808 ≤ rn ∧ rn ≤ 9223372036854775807) (hval : val.size ≤ 1000000) (hsk : (sk = 2) ∧ err = 0) : Calls Tryd.prog 5 #[.agg #[.int .i64 sk, .int .i64 who, .int .i64 xk, .string xkey, .string xval, .int .u64 keep, .int .i64 torn, .int .i64 part], .agg #[.int .i64 err, .int .i64 rerr, .string val, .bool false, .int .i64 rn, .bool true]] w fun x w' => x = .returned (.string (lineB sk who err rerr val false rn true)) ∧ Below w.heap.size w w' := by
  have t3 : (sk == 3) = false := beq_eq_false_iff_ne.2 (by omega)
  have t3' : decide (sk = 3) = false := decide_eq_false (by omega)
  have t2 : (sk == 2) = true := beq_iff_eq.2 (by omega)
  have t2' : decide (sk = 2) = true := decide_eq_true (by omega)
  have t4 : (sk == 4) = false := beq_eq_false_iff_ne.2 (by omega)
  have t4' : decide (sk = 4) = false := decide_eq_false (by omega)
  have te : (err != 0) = false := by rw [bne_eq_false_iff_eq]; omega
  have te' : (err == 0) = true := beq_iff_eq.2 (by omega)
  have hk := kind_len sk
  have he := err_len err
  have hstr : StrsAt (((w.alloc (.cells #[.int .i64 sk, .int .i64 who, .int .i64 xk, .string xkey, .string xval, .int .u64 keep, .int .i64 torn, .int .i64 part] 34 (0, 0))).alloc (.cells #[.int .i64 err, .int .i64 rerr, .string val, .bool false, .int .i64 rn, .bool true] 35 (0, 0))).alloc (.cells (kindL.map Value.string).toArray 9 (0, 0))) (w.heap.size + 2) kindL := by have := strs_new ((w.alloc (.cells #[.int .i64 sk, .int .i64 who, .int .i64 xk, .string xkey, .string xval, .int .u64 keep, .int .i64 torn, .int .i64 part] 34 (0, 0))).alloc (.cells #[.int .i64 err, .int .i64 rerr, .string val, .bool false, .int .i64 rn, .bool true] 35 (0, 0))) kindL; rwa [World.size_alloc, World.size_alloc] at this
  have HW := Lib.hid (word_any sk (w.heap.size + 2) kindL _ hstr)
  obtain ⟨hA, hB⟩ := new3 w (.cells #[.int .i64 sk, .int .i64 who, .int .i64 xk, .string xkey, .string xval, .int .u64 keep, .int .i64 torn, .int .i64 part] 34 (0, 0)) (.cells #[.int .i64 err, .int .i64 rerr, .string val, .bool false, .int .i64 rn, .bool true] 35 (0, 0)) (.cells (kindL.map Value.string).toArray 9 (0, 0))
  have HT0 := Lib.hid (htab.below (below_al (below_al (below_al (Below.refl _ w) (.cells #[.int .i64 sk, .int .i64 who, .int .i64 xk, .string xkey, .string xval, .int .u64 keep, .int .i64 torn, .int .i64 part] 34 (0, 0))) (.cells #[.int .i64 err, .int .i64 rerr, .string val, .bool false, .int .i64 rn, .bool true] 35 (0, 0))) (.cells (kindL.map Value.string).toArray 9 (0, 0))))
  have HB0 := Lib.hid (below_al (below_al (below_al (Below.refl _ w) (.cells #[.int .i64 sk, .int .i64 who, .int .i64 xk, .string xkey, .string xval, .int .u64 keep, .int .i64 torn, .int .i64 part] 34 (0, 0))) (.cells #[.int .i64 err, .int .i64 rerr, .string val, .bool false, .int .i64 rn, .bool true] 35 (0, 0))) (.cells (kindL.map Value.string).toArray 9 (0, 0)))
  have HA := Lib.hid hA
  have HBB := Lib.hid hB
  obtain ⟨k1, hk1⟩ : ∃ k1, k1 = wd sk kindL := ⟨_, rfl⟩
  obtain ⟨e1, he1⟩ : ∃ e1, e1 = wd err errL := ⟨_, rfl⟩
  rw [← hk1] at hk HW
  rw [← he1] at he
  have hd0 := dig_len who hwho.1 hwho.2
  obtain ⟨d0, hde⟩ : ∃ d0, d0 = dig who := ⟨_, rfl⟩
  rw [← hde] at hd0
  have HBASE : Hid (baseB sk who err = k1 ++ sp ++ d0 ++ sp ++ e1) := Lib.hid (by unfold baseB; rw [if_neg (by omega), hk1, he1, hde])
  have HLINE : Hid (lineB sk who err rerr val false rn true = fullB sk who err rerr false rn val) := Lib.hid (if_pos ⟨by omega, by exact .inl ⟨by omega, rfl⟩⟩)
  have s0 : ¬ 9223372036854775807 < k1.size + 1 := by omega
  have s1 : ¬ 9223372036854775807 < k1.size + 1 + d0.size := by omega
  have s2 : ¬ 9223372036854775807 < 1 + e1.size := by omega
  have s3 : ¬ 9223372036854775807 < k1.size + 1 + d0.size + (1 + e1.size) := by omega
  have HWR := Lib.hid (fun X => wrong_any err X)
  simp only [← he1] at HWR
  have HD0 := Lib.hid (fun X (hX : Tab X) => itoa_any who hwho.1 hwho.2 X hX)
  simp only [← hde] at HD0
  have hq := err_len rerr
  have hdn := dig_len rn hrn.1 hrn.2
  obtain ⟨q1, hq1⟩ : ∃ q1, q1 = wd rerr errL := ⟨_, rfl⟩
  obtain ⟨d1, hd1⟩ : ∃ d1, d1 = dig rn := ⟨_, rfl⟩
  rw [← hq1] at hq
  rw [← hd1] at hdn
  have HWQ := Lib.hid (fun X => wrong_any rerr X)
  simp only [← hq1] at HWQ
  have HDN := Lib.hid (fun X (hX : Tab X) => itoa_any rn hrn.1 hrn.2 X hX)
  simp only [← hd1] at HDN
  have HFULL : Hid (fullB sk who err rerr false rn val = k1 ++ sp ++ d0 ++ sp ++ e1 ++ sp ++ q1 ++ sp ++ ⟨#[110, 111]⟩ ++ sp ++ d1 ++ sp ++ val) := Lib.hid (by unfold fullB; rw [HBASE.out, ← hq1, ← hd1]; rfl)
  have r0 : ¬ 9223372036854775807 < k1.size + 1 + d0.size + (1 + e1.size) + 1 := by omega
  have r1 : ¬ 9223372036854775807 < k1.size + 1 + d0.size + (1 + e1.size) + 1 + q1.size := by omega
  have r2 : ¬ 9223372036854775807 < k1.size + 1 + d0.size + (1 + e1.size) + 1 + q1.size + 1 := by omega
  have r3 : ¬ 9223372036854775807 < k1.size + 1 + d0.size + (1 + e1.size) + 1 + q1.size + 1 + 2 := by omega
  have r4 : ¬ 9223372036854775807 < k1.size + 1 + d0.size + (1 + e1.size) + 1 + q1.size + 1 + 2 + 1 := by omega
  have r5 : ¬ 9223372036854775807 < k1.size + 1 + d0.size + (1 + e1.size) + 1 + q1.size + 1 + 2 + 1 + d1.size := by omega
  have r6 : ¬ 9223372036854775807 < k1.size + 1 + d0.size + (1 + e1.size) + 1 + q1.size + 1 + 2 + 1 + d1.size + 1 := by omega
  have r7 : ¬ 9223372036854775807 < k1.size + 1 + d0.size + (1 + e1.size) + 1 + q1.size + 1 + 2 + 1 + d1.size + 1 + val.size := by omega
  clear hk1 he1 hA hB hstr hk he hde hd0 hq1 hd1 hq hdn hsk
  go_enter Tryd.func5, Tryd.ntmps5
  go_wp2_with fail
  refine HW.out.mono ?_
  rintro x w1 ⟨rfl, rfl⟩
  go_wp2_with fail
  refine (HD0.out _ HT0.out).mono ?_
  rintro x w2 ⟨rfl, hb2⟩
  have HB2 := Lib.hid (bl HB0.out hb2)
  have HA := Lib.hid ((hb2.block _ (lt_of_some HA.out)).trans HA.out)
  have HBB := Lib.hid ((hb2.block _ (lt_of_some HBB.out)).trans HBB.out)
  have HT2 := Lib.hid (HT0.out.below hb2)
  clear hb2
  have a0 := cell_at HA.out 0
  have a1 := cell_at HA.out 1
  have b0 := cell_at HBB.out 0
  have b1 := cell_at HBB.out 1
  have b2 := cell_at HBB.out 2
  have b3 := cell_at HBB.out 3
  have b4 := cell_at HBB.out 4
  have b5 := cell_at HBB.out 5
  go_wp2_with fail
  refine (HWR.out _).mono ?_
  rintro x w3 ⟨rfl, hb3⟩
  have HB3 := Lib.hid (bl HB2.out hb3)
  have HA := Lib.hid ((hb3.block _ (lt_of_some HA.out)).trans HA.out)
  have HBB := Lib.hid ((hb3.block _ (lt_of_some HBB.out)).trans HBB.out)
  have HT3 := Lib.hid (HT2.out.below hb3)
  clear hb3 a0 a1 b0 b1 b2 b3 b4 b5
  have a0 := fun X (hX : Below w3.heap.size w3 X) => cell_at ((hX.block _ (lt_of_some HA.out)).trans HA.out) 0
  have b0 := fun X (hX : Below w3.heap.size w3 X) => cell_at ((hX.block _ (lt_of_some HBB.out)).trans HBB.out) 0
  have b1 := fun X (hX : Below w3.heap.size w3 X) => cell_at ((hX.block _ (lt_of_some HBB.out)).trans HBB.out) 1
  have b2 := fun X (hX : Below w3.heap.size w3 X) => cell_at ((hX.block _ (lt_of_some HBB.out)).trans HBB.out) 2
  have b3 := fun X (hX : Below w3.heap.size w3 X) => cell_at ((hX.block _ (lt_of_some HBB.out)).trans HBB.out) 3
  have b4 := fun X (hX : Below w3.heap.size w3 X) => cell_at ((hX.block _ (lt_of_some HBB.out)).trans HBB.out) 4
  have b5 := fun X (hX : Below w3.heap.size w3 X) => cell_at ((hX.block _ (lt_of_some HBB.out)).trans HBB.out) 5
  have a0' := a0 w3 (Below.refl _ _)
  have b0' := b0 w3 (Below.refl _ _)
  have b1' := b1 w3 (Below.refl _ _)
  have b2' := b2 w3 (Below.refl _ _)
  have b3' := b3 w3 (Below.refl _ _)
  have b4' := b4 w3 (Below.refl _ _)
  have b5' := b5 w3 (Below.refl _ _)
  go_wp2_with fail
  clear a0' b0' b1' b2' b3' b4' b5'
  refine wp_region_held_drew (S := (fun X => Below w3.heap.size w3 X)) (by kernel_rfl) (((by repeat (first | exact Below.refl _ _ | assumption | apply below_dr | apply below_dn | apply below_al)) : Below w3.heap.size w3 _)) (fun hHeld => ?_)
  try simp only [Act.put, List.setIfInBounds_toArray, List.set_cons_zero, List.set_cons_succ]
  refine wpAnyH_take (i := 0) (v := ?_) (by simp only [List.getElem?_toArray, List.getElem?_cons_succ, List.getElem?_cons_zero]; rfl) (by kernel_rfl) (by kernel_rfl) (by kernel_rfl) (by exact fun _ _ _ h => h) (Or.inl ⟨by rfl, ?_⟩) (by assumption) ?_
  rotate_left
  · intro w hSw; (try dsimp only at hSw); go_simp; try with_reducible rfl
  try simp only [Act.put, List.setIfInBounds_toArray, List.set_cons_zero, List.set_cons_succ]
  refine wpAnyH_take (i := 1) (v := ?_) (by simp only [List.getElem?_toArray, List.getElem?_cons_succ, List.getElem?_cons_zero]; rfl) (by kernel_rfl) (by kernel_rfl) (by kernel_rfl) (by exact fun _ _ _ h => h) (Or.inl ⟨by rfl, ?_⟩) (by assumption) ?_
  rotate_left
  · intro w hSw; (try dsimp only at hSw); go_simp; try with_reducible rfl
  try simp only [Act.put, List.setIfInBounds_toArray, List.set_cons_zero, List.set_cons_succ]
  refine wpAnyH_take (i := 2) (v := ?_) (by simp only [List.getElem?_toArray, List.getElem?_cons_succ, List.getElem?_cons_zero]; rfl) (by kernel_rfl) (by kernel_rfl) (by kernel_rfl) (by exact fun _ _ _ h => h) (Or.inl ⟨by rfl, ?_⟩) (by assumption) ?_
  rotate_left
  · intro w hSw; (try dsimp only at hSw); go_simp; try with_reducible rfl
  try simp only [Act.put, List.setIfInBounds_toArray, List.set_cons_zero, List.set_cons_succ]
  refine wpAnyH_take (i := 3) (v := ?_) (by simp only [List.getElem?_toArray, List.getElem?_cons_succ, List.getElem?_cons_zero]; rfl) (by kernel_rfl) (by kernel_rfl) (by kernel_rfl) (by exact fun _ _ _ h => h) (Or.inl ⟨by rfl, ?_⟩) (by assumption) ?_
  rotate_left
  · intro w hSw; (try dsimp only at hSw); go_simp; try with_reducible rfl
  try simp only [Act.put, List.setIfInBounds_toArray, List.set_cons_zero, List.set_cons_succ]
  refine wpAnyH_take (i := 4) (v := ?_) (by simp only [List.getElem?_toArray, List.getElem?_cons_succ, List.getElem?_cons_zero]; rfl) (by kernel_rfl) (by kernel_rfl) (by kernel_rfl) (by exact fun _ _ _ h => h) (Or.inl ⟨by rfl, ?_⟩) (by assumption) ?_
  rotate_left
  · intro w hSw; (try dsimp only at hSw); go_simp; try with_reducible rfl
  try simp only [Act.put, List.setIfInBounds_toArray, List.set_cons_zero, List.set_cons_succ]
  refine wpAnyH_take (i := 8) (v := ?_) (by simp only [List.getElem?_toArray, List.getElem?_cons_succ, List.getElem?_cons_zero]; rfl) (by kernel_rfl) (by kernel_rfl) (by kernel_rfl) (by exact fun _ _ _ h => h) (Or.inl ⟨by rfl, ?_⟩) (by assumption) ?_
  rotate_left
  · intro w hSw; (try dsimp only at hSw); go_simp; try with_reducible rfl
  try simp only [Act.put, List.setIfInBounds_toArray, List.set_cons_zero, List.set_cons_succ]
  refine wpAnyH_take (i := 11) (v := ?_) (by simp only [List.getElem?_toArray, List.getElem?_cons_succ, List.getElem?_cons_zero]; rfl) (by kernel_rfl) (by kernel_rfl) (by kernel_rfl) (by exact fun _ _ _ h => h) (Or.inl ⟨by rfl, ?_⟩) (by assumption) ?_
  rotate_left
  · intro w hSw; (try dsimp only at hSw); go_simp; try with_reducible rfl
  try simp only [Act.put, List.setIfInBounds_toArray, List.set_cons_zero, List.set_cons_succ]
  refine wpAnyH_take (i := 12) (v := ?_) (by simp only [List.getElem?_toArray, List.getElem?_cons_succ, List.getElem?_cons_zero]; rfl) (by kernel_rfl) (by kernel_rfl) (by kernel_rfl) (by exact fun _ _ _ h => h) (Or.inl ⟨by rfl, ?_⟩) (by assumption) ?_
  rotate_left
  · intro w hSw; (try dsimp only at hSw); go_simp; try with_reducible rfl
  try simp only [Act.put, List.setIfInBounds_toArray, List.set_cons_zero, List.set_cons_succ]
  refine wpAnyH_take (i := 13) (v := ?_) (by simp only [List.getElem?_toArray, List.getElem?_cons_succ, List.getElem?_cons_zero]; rfl) (by kernel_rfl) (by kernel_rfl) (by kernel_rfl) (by exact fun _ _ _ h => h) (Or.inl ⟨by rfl, ?_⟩) (by assumption) ?_
  rotate_left
  · intro w hSw; (try dsimp only at hSw); go_simp; try with_reducible rfl
  try simp only [Act.put, List.setIfInBounds_toArray, List.set_cons_zero, List.set_cons_succ]
  refine wpAnyH_take (i := 17) (v := ?_) (by simp only [List.getElem?_toArray, List.getElem?_cons_succ, List.getElem?_cons_zero]; rfl) (by kernel_rfl) (by kernel_rfl) (by kernel_rfl) (by exact fun _ _ _ h => h) (Or.inl ⟨by rfl, ?_⟩) (by assumption) ?_
  rotate_left
  · intro w hSw; (try dsimp only at hSw); go_simp; try with_reducible rfl
  try simp only [Act.put, List.setIfInBounds_toArray, List.set_cons_zero, List.set_cons_succ]
  refine wpAnyH_take (i := 18) (v := ?_) (by simp only [List.getElem?_toArray, List.getElem?_cons_succ, List.getElem?_cons_zero]; rfl) (by kernel_rfl) (by kernel_rfl) (by kernel_rfl) (by exact fun _ _ _ h => h) (Or.inl ⟨by rfl, ?_⟩) (by assumption) ?_
  rotate_left
  · intro w hSw; (try dsimp only at hSw); go_simp; try with_reducible rfl
  try simp only [Act.put, List.setIfInBounds_toArray, List.set_cons_zero, List.set_cons_succ]
  refine wpAnyH_take (i := 19) (v := ?_) (by simp only [List.getElem?_toArray, List.getElem?_cons_succ, List.getElem?_cons_zero]; rfl) (by kernel_rfl) (by kernel_rfl) (by kernel_rfl) (by exact fun _ _ _ h => h) (Or.inl ⟨by rfl, ?_⟩) (by assumption) ?_
  rotate_left
  · intro w hSw; (try dsimp only at hSw); go_simp; try with_reducible rfl
  try simp only [Act.put, List.setIfInBounds_toArray, List.set_cons_zero, List.set_cons_succ]
  refine wpAnyH_ready (rs := [5]) (by kernel_rfl) (by simp) ?_
  refine AllReadyH.cons (by simp only [List.getElem?_toArray, List.getElem?_cons_succ, List.getElem?_cons_zero]; rfl) (fun K hK => ?_) AllReadyH.nil
  go_simp
  refine (HWQ.out _).mono ?_; rintro x w5 ⟨rfl, hb5⟩; have hz5 : Below w3.heap.size w3 w5 := bl (by repeat (first | exact Below.refl _ _ | assumption | apply below_dr | apply below_dn | apply below_al)) hb5
  try go_simp
  refine hK.out _ _ (((by repeat (first | exact Below.refl _ _ | assumption | apply below_dr | apply below_dn | apply below_al)) : Below w3.heap.size w3 _)) (fun hHeld => ?_)
  clear hK K
  try simp only [Act.put, List.setIfInBounds_toArray, List.set_cons_zero, List.set_cons_succ]
  refine wpAnyH_take (i := 6) (v := ?_) (by simp only [List.getElem?_toArray, List.getElem?_cons_succ, List.getElem?_cons_zero]; rfl) (by kernel_rfl) (by kernel_rfl) (by kernel_rfl) (by exact fun _ _ _ h => h) (Or.inl ⟨by rfl, ?_⟩) (by assumption) ?_
  rotate_left
  · intro w hSw; (try dsimp only at hSw); go_simp; try with_reducible rfl
  try simp only [Act.put, List.setIfInBounds_toArray, List.set_cons_zero, List.set_cons_succ]
  refine wpAnyH_take (i := 7) (v := ?_) (by simp only [List.getElem?_toArray, List.getElem?_cons_succ, List.getElem?_cons_zero]; rfl) (by kernel_rfl) (by kernel_rfl) (by kernel_rfl) (by exact fun _ _ _ h => h) (Or.inl ⟨by rfl, ?_⟩) (by assumption) ?_
  rotate_left
  · intro w hSw; (try dsimp only at hSw); go_simp; try with_reducible rfl
  try simp only [Act.put, List.setIfInBounds_toArray, List.set_cons_zero, List.set_cons_succ]
  refine wpAnyH_take (i := 9) (v := ?_) (by simp only [List.getElem?_toArray, List.getElem?_cons_succ, List.getElem?_cons_zero]; rfl) (by kernel_rfl) (by kernel_rfl) (by kernel_rfl) (by exact fun _ _ _ h => h) (Or.inl ⟨by rfl, ?_⟩) (by assumption) ?_
  rotate_left
  · intro w hSw; (try dsimp only at hSw); go_simp; try with_reducible rfl
  try simp only [Act.put, List.setIfInBounds_toArray, List.set_cons_zero, List.set_cons_succ]
  refine wpAnyH_take (i := 10) (v := ?_) (by simp only [List.getElem?_toArray, List.getElem?_cons_succ, List.getElem?_cons_zero]; rfl) (by kernel_rfl) (by kernel_rfl) (by kernel_rfl) (by exact fun _ _ _ h => h) (Or.inl ⟨by rfl, ?_⟩) (by assumption) ?_
  rotate_left
  · intro w hSw; (try dsimp only at hSw); go_simp; try with_reducible rfl
  try simp only [Act.put, List.setIfInBounds_toArray, List.set_cons_zero, List.set_cons_succ]
  refine wpAnyH_ready (rs := [14]) (by kernel_rfl) (by simp) ?_
  refine AllReadyH.cons (by simp only [List.getElem?_toArray, List.getElem?_cons_succ, List.getElem?_cons_zero]; rfl) (fun K hK => ?_) AllReadyH.nil
  go_simp
  refine (HDN.out _ (HT3.out.below (by repeat (first | exact Below.refl _ _ | assumption | apply below_dr | apply below_dn | apply below_al)))).mono ?_; rintro x w6 ⟨rfl, hb6⟩; have hz6 : Below w3.heap.size w3 w6 := bl (by repeat (first | exact Below.refl _ _ | assumption | apply below_dr | apply below_dn | apply below_al)) hb6
  try go_simp
  refine hK.out _ _ (((by repeat (first | exact Below.refl _ _ | assumption | apply below_dr | apply below_dn | apply below_al)) : Below w3.heap.size w3 _)) (fun hHeld => ?_)
  clear hK K
  try simp only [Act.put, List.setIfInBounds_toArray, List.set_cons_zero, List.set_cons_succ]
  refine wpAnyH_take (i := 15) (v := ?_) (by simp only [List.getElem?_toArray, List.getElem?_cons_succ, List.getElem?_cons_zero]; rfl) (by kernel_rfl) (by kernel_rfl) (by kernel_rfl) (by exact fun _ _ _ h => h) (Or.inl ⟨by rfl, ?_⟩) (by assumption) ?_
  rotate_left
  · intro w hSw; (try dsimp only at hSw); go_simp; try with_reducible rfl
  try simp only [Act.put, List.setIfInBounds_toArray, List.set_cons_zero, List.set_cons_succ]
  refine wpAnyH_take (i := 16) (v := ?_) (by simp only [List.getElem?_toArray, List.getElem?_cons_succ, List.getElem?_cons_zero]; rfl) (by kernel_rfl) (by kernel_rfl) (by kernel_rfl) (by exact fun _ _ _ h => h) (Or.inl ⟨by rfl, ?_⟩) (by assumption) ?_
  rotate_left
  · intro w hSw; (try dsimp only at hSw); go_simp; try with_reducible rfl
  try simp only [Act.put, List.setIfInBounds_toArray, List.set_cons_zero, List.set_cons_succ]
  refine wpAnyH_take (i := 20) (v := ?_) (by simp only [List.getElem?_toArray, List.getElem?_cons_succ, List.getElem?_cons_zero]; rfl) (by kernel_rfl) (by kernel_rfl) (by kernel_rfl) (by exact fun _ _ _ h => h) (Or.inl ⟨by rfl, ?_⟩) (by assumption) ?_
  rotate_left
  · intro w hSw; (try dsimp only at hSw); go_simp; try with_reducible rfl
  try simp only [Act.put, List.setIfInBounds_toArray, List.set_cons_zero, List.set_cons_succ]
  refine wpAnyH_ready (rs := [21]) (by kernel_rfl) (by simp) ?_
  refine AllReadyH.cons (by simp only [List.getElem?_toArray, List.getElem?_cons_succ, List.getElem?_cons_zero]; rfl) (fun K hK => ?_) AllReadyH.nil
  go_simp
  refine hK.out _ _ (((by repeat (first | exact Below.refl _ _ | assumption | apply below_dr | apply below_dn | apply below_al)) : Below w3.heap.size w3 _)) (fun hHeld => ?_)
  clear hK K
  try simp only [Act.put, List.setIfInBounds_toArray, List.set_cons_zero, List.set_cons_succ]
  refine wpAnyH_done (by kernel_rfl) ?_ _
  go_wp2_with fail
  go_ret
  exact ⟨by rw [HLINE.out, HFULL.out]; simp only [sp, ByteArray.append_assoc]; rfl, bl HB3.out (by repeat (first | exact Below.refl _ _ | assumption | apply below_dr | apply below_dn | apply below_al))⟩
set_option maxRecDepth 100000 in
set_option maxHeartbeats 4000000 in
theorem line_4_zy (sk who xk : Int) (xkey xval : ByteArray) (keep torn part err rerr : Int) (val : ByteArray) (yes : Bool) (rn : Int) (en : Bool) (w : World) (htab : Tab w) (hwho : -9223372036854775808 ≤ who ∧ who ≤ 9223372036854775807) (hrn : -9223372036854775808 ≤ rn ∧ rn ≤ 9223372036854775807) (hval : val.size ≤ 1000000) (hsk : (sk = 4) ∧ err = 0) : Calls Tryd.prog 5 #[.agg #[.int .i64 sk, .int .i64 who, .int .i64 xk, .string xkey, .string xval, .int .u64 keep, .int .i64 torn, .int .i64 part], .agg #[.int .i64 err, .int .i64 rerr, .string val, .bool true, .int .i64 rn, .bool en]] w fun x w' => x = .returned (.string (lineB sk who err rerr val true rn en)) ∧ Below w.heap.size w w' := by
  have t3 : (sk == 3) = false := beq_eq_false_iff_ne.2 (by omega)
  have t3' : decide (sk = 3) = false := decide_eq_false (by omega)
  have t2 : (sk == 2) = false := beq_eq_false_iff_ne.2 (by omega)
  have t2' : decide (sk = 2) = false := decide_eq_false (by omega)
  have t4 : (sk == 4) = true := beq_iff_eq.2 (by omega)
  have t4' : decide (sk = 4) = true := decide_eq_true (by omega)
  have te : (err != 0) = false := by rw [bne_eq_false_iff_eq]; omega
  have te' : (err == 0) = true := beq_iff_eq.2 (by omega)
  have hk := kind_len sk
  have he := err_len err
  have hstr : StrsAt (((w.alloc (.cells #[.int .i64 sk, .int .i64 who, .int .i64 xk, .string xkey, .string xval, .int .u64 keep, .int .i64 torn, .int .i64 part] 34 (0, 0))).alloc (.cells #[.int .i64 err, .int .i64 rerr, .string val, .bool true, .int .i64 rn, .bool en] 35 (0, 0))).alloc (.cells (kindL.map Value.string).toArray 9 (0, 0))) (w.heap.size + 2) kindL := by have := strs_new ((w.alloc (.cells #[.int .i64 sk, .int .i64 who, .int .i64 xk, .string xkey, .string xval, .int .u64 keep, .int .i64 torn, .int .i64 part] 34 (0, 0))).alloc (.cells #[.int .i64 err, .int .i64 rerr, .string val, .bool true, .int .i64 rn, .bool en] 35 (0, 0))) kindL; rwa [World.size_alloc, World.size_alloc] at this
  have HW := Lib.hid (word_any sk (w.heap.size + 2) kindL _ hstr)
  obtain ⟨hA, hB⟩ := new3 w (.cells #[.int .i64 sk, .int .i64 who, .int .i64 xk, .string xkey, .string xval, .int .u64 keep, .int .i64 torn, .int .i64 part] 34 (0, 0)) (.cells #[.int .i64 err, .int .i64 rerr, .string val, .bool true, .int .i64 rn, .bool en] 35 (0, 0)) (.cells (kindL.map Value.string).toArray 9 (0, 0))
  have HT0 := Lib.hid (htab.below (below_al (below_al (below_al (Below.refl _ w) (.cells #[.int .i64 sk, .int .i64 who, .int .i64 xk, .string xkey, .string xval, .int .u64 keep, .int .i64 torn, .int .i64 part] 34 (0, 0))) (.cells #[.int .i64 err, .int .i64 rerr, .string val, .bool true, .int .i64 rn, .bool en] 35 (0, 0))) (.cells (kindL.map Value.string).toArray 9 (0, 0))))
  have HB0 := Lib.hid (below_al (below_al (below_al (Below.refl _ w) (.cells #[.int .i64 sk, .int .i64 who, .int .i64 xk, .string xkey, .string xval, .int .u64 keep, .int .i64 torn, .int .i64 part] 34 (0, 0))) (.cells #[.int .i64 err, .int .i64 rerr, .string val, .bool true, .int .i64 rn, .bool en] 35 (0, 0))) (.cells (kindL.map Value.string).toArray 9 (0, 0)))
  have HA := Lib.hid hA
  have HBB := Lib.hid hB
  obtain ⟨k1, hk1⟩ : ∃ k1, k1 = wd sk kindL := ⟨_, rfl⟩
  obtain ⟨e1, he1⟩ : ∃ e1, e1 = wd err errL := ⟨_, rfl⟩
  rw [← hk1] at hk HW
  rw [← he1] at he
  have hd0 := dig_len who hwho.1 hwho.2
  obtain ⟨d0, hde⟩ : ∃ d0, d0 = dig who := ⟨_, rfl⟩
  rw [← hde] at hd0
  have HBASE : Hid (baseB sk who err = k1 ++ sp ++ d0 ++ sp ++ e1) := Lib.hid (by unfold baseB; rw [if_neg (by omega), hk1, he1, hde])
  have HLINE : Hid (lineB sk who err rerr val true rn en = fullB sk who err rerr true rn val) := Lib.hid (if_pos ⟨by omega, by exact .inr (by omega)⟩)
  have s0 : ¬ 9223372036854775807 < k1.size + 1 := by omega
  have s1 : ¬ 9223372036854775807 < k1.size + 1 + d0.size := by omega
  have s2 : ¬ 9223372036854775807 < 1 + e1.size := by omega
  have s3 : ¬ 9223372036854775807 < k1.size + 1 + d0.size + (1 + e1.size) := by omega
  have HWR := Lib.hid (fun X => wrong_any err X)
  simp only [← he1] at HWR
  have HD0 := Lib.hid (fun X (hX : Tab X) => itoa_any who hwho.1 hwho.2 X hX)
  simp only [← hde] at HD0
  have hq := err_len rerr
  have hdn := dig_len rn hrn.1 hrn.2
  obtain ⟨q1, hq1⟩ : ∃ q1, q1 = wd rerr errL := ⟨_, rfl⟩
  obtain ⟨d1, hd1⟩ : ∃ d1, d1 = dig rn := ⟨_, rfl⟩
  rw [← hq1] at hq
  rw [← hd1] at hdn
  have HWQ := Lib.hid (fun X => wrong_any rerr X)
  simp only [← hq1] at HWQ
  have HDN := Lib.hid (fun X (hX : Tab X) => itoa_any rn hrn.1 hrn.2 X hX)
  simp only [← hd1] at HDN
  have HFULL : Hid (fullB sk who err rerr true rn val = k1 ++ sp ++ d0 ++ sp ++ e1 ++ sp ++ q1 ++ sp ++ ⟨#[121, 101, 115]⟩ ++ sp ++ d1 ++ sp ++ val) := Lib.hid (by unfold fullB; rw [HBASE.out, ← hq1, ← hd1]; rfl)
  have r0 : ¬ 9223372036854775807 < k1.size + 1 + d0.size + (1 + e1.size) + 1 := by omega
  have r1 : ¬ 9223372036854775807 < k1.size + 1 + d0.size + (1 + e1.size) + 1 + q1.size := by omega
  have r2 : ¬ 9223372036854775807 < k1.size + 1 + d0.size + (1 + e1.size) + 1 + q1.size + 1 := by omega
  have r3 : ¬ 9223372036854775807 < k1.size + 1 + d0.size + (1 + e1.size) + 1 + q1.size + 1 + 3 := by omega
  have r4 : ¬ 9223372036854775807 < k1.size + 1 + d0.size + (1 + e1.size) + 1 + q1.size + 1 + 3 + 1 := by omega
  have r5 : ¬ 9223372036854775807 < k1.size + 1 + d0.size + (1 + e1.size) + 1 + q1.size + 1 + 3 + 1 + d1.size := by omega
  have r6 : ¬ 9223372036854775807 < k1.size + 1 + d0.size + (1 + e1.size) + 1 + q1.size + 1 + 3 + 1 + d1.size + 1 := by omega
  have r7 : ¬ 9223372036854775807 < k1.size + 1 + d0.size + (1 + e1.size) + 1 + q1.size + 1 + 3 + 1 + d1.size + 1 + val.size := by omega
  clear hk1 he1 hA hB hstr hk he hde hd0 hq1 hd1 hq hdn hsk
  go_enter Tryd.func5, Tryd.ntmps5
  go_wp2_with fail
  refine HW.out.mono ?_
  rintro x w1 ⟨rfl, rfl⟩
  go_wp2_with fail
  refine (HD0.out _ HT0.out).mono ?_
  rintro x w2 ⟨rfl, hb2⟩
  have HB2 := Lib.hid (bl HB0.out hb2)
  have HA := Lib.hid ((hb2.block _ (lt_of_some HA.out)).trans HA.out)
  have HBB := Lib.hid ((hb2.block _ (lt_of_some HBB.out)).trans HBB.out)
  have HT2 := Lib.hid (HT0.out.below hb2)
  clear hb2
  have a0 := cell_at HA.out 0
  have a1 := cell_at HA.out 1
  have b0 := cell_at HBB.out 0
  have b1 := cell_at HBB.out 1
  have b2 := cell_at HBB.out 2
  have b3 := cell_at HBB.out 3
  have b4 := cell_at HBB.out 4
  have b5 := cell_at HBB.out 5
  go_wp2_with fail
  refine (HWR.out _).mono ?_
  rintro x w3 ⟨rfl, hb3⟩
  have HB3 := Lib.hid (bl HB2.out hb3)
  have HA := Lib.hid ((hb3.block _ (lt_of_some HA.out)).trans HA.out)
  have HBB := Lib.hid ((hb3.block _ (lt_of_some HBB.out)).trans HBB.out)
  have HT3 := Lib.hid (HT2.out.below hb3)
  clear hb3 a0 a1 b0 b1 b2 b3 b4 b5
  have a0 := fun X (hX : Below w3.heap.size w3 X) => cell_at ((hX.block _ (lt_of_some HA.out)).trans HA.out) 0
  have b0 := fun X (hX : Below w3.heap.size w3 X) => cell_at ((hX.block _ (lt_of_some HBB.out)).trans HBB.out) 0
  have b1 := fun X (hX : Below w3.heap.size w3 X) => cell_at ((hX.block _ (lt_of_some HBB.out)).trans HBB.out) 1
  have b2 := fun X (hX : Below w3.heap.size w3 X) => cell_at ((hX.block _ (lt_of_some HBB.out)).trans HBB.out) 2
  have b3 := fun X (hX : Below w3.heap.size w3 X) => cell_at ((hX.block _ (lt_of_some HBB.out)).trans HBB.out) 3
  have b4 := fun X (hX : Below w3.heap.size w3 X) => cell_at ((hX.block _ (lt_of_some HBB.out)).trans HBB.out) 4
  have b5 := fun X (hX : Below w3.heap.size w3 X) => cell_at ((hX.block _ (lt_of_some HBB.out)).trans HBB.out) 5
  have a0' := a0 w3 (Below.refl _ _)
  have b0' := b0 w3 (Below.refl _ _)
  have b1' := b1 w3 (Below.refl _ _)
  have b2' := b2 w3 (Below.refl _ _)
  have b3' := b3 w3 (Below.refl _ _)
  have b4' := b4 w3 (Below.refl _ _)
  have b5' := b5 w3 (Below.refl _ _)
  go_wp2_with fail
  clear a0' b0' b1' b2' b3' b4' b5'
  refine wp_region_held_drew (S := (fun X => Below w3.heap.size w3 X)) (by kernel_rfl) (((by repeat (first | exact Below.refl _ _ | assumption | apply below_dr | apply below_dn | apply below_al)) : Below w3.heap.size w3 _)) (fun hHeld => ?_)
  try simp only [Act.put, List.setIfInBounds_toArray, List.set_cons_zero, List.set_cons_succ]
  refine wpAnyH_take (i := 0) (v := ?_) (by simp only [List.getElem?_toArray, List.getElem?_cons_succ, List.getElem?_cons_zero]; rfl) (by kernel_rfl) (by kernel_rfl) (by kernel_rfl) (by exact fun _ _ _ h => h) (Or.inl ⟨by rfl, ?_⟩) (by assumption) ?_
  rotate_left
  · intro w hSw; (try dsimp only at hSw); go_simp; try with_reducible rfl
  try simp only [Act.put, List.setIfInBounds_toArray, List.set_cons_zero, List.set_cons_succ]
  refine wpAnyH_take (i := 1) (v := ?_) (by simp only [List.getElem?_toArray, List.getElem?_cons_succ, List.getElem?_cons_zero]; rfl) (by kernel_rfl) (by kernel_rfl) (by kernel_rfl) (by exact fun _ _ _ h => h) (Or.inl ⟨by rfl, ?_⟩) (by assumption) ?_
  rotate_left
  · intro w hSw; (try dsimp only at hSw); go_simp; try with_reducible rfl
  try simp only [Act.put, List.setIfInBounds_toArray, List.set_cons_zero, List.set_cons_succ]
  refine wpAnyH_take (i := 2) (v := ?_) (by simp only [List.getElem?_toArray, List.getElem?_cons_succ, List.getElem?_cons_zero]; rfl) (by kernel_rfl) (by kernel_rfl) (by kernel_rfl) (by exact fun _ _ _ h => h) (Or.inl ⟨by rfl, ?_⟩) (by assumption) ?_
  rotate_left
  · intro w hSw; (try dsimp only at hSw); go_simp; try with_reducible rfl
  try simp only [Act.put, List.setIfInBounds_toArray, List.set_cons_zero, List.set_cons_succ]
  refine wpAnyH_take (i := 3) (v := ?_) (by simp only [List.getElem?_toArray, List.getElem?_cons_succ, List.getElem?_cons_zero]; rfl) (by kernel_rfl) (by kernel_rfl) (by kernel_rfl) (by exact fun _ _ _ h => h) (Or.inl ⟨by rfl, ?_⟩) (by assumption) ?_
  rotate_left
  · intro w hSw; (try dsimp only at hSw); go_simp; try with_reducible rfl
  try simp only [Act.put, List.setIfInBounds_toArray, List.set_cons_zero, List.set_cons_succ]
  refine wpAnyH_take (i := 4) (v := ?_) (by simp only [List.getElem?_toArray, List.getElem?_cons_succ, List.getElem?_cons_zero]; rfl) (by kernel_rfl) (by kernel_rfl) (by kernel_rfl) (by exact fun _ _ _ h => h) (Or.inl ⟨by rfl, ?_⟩) (by assumption) ?_
  rotate_left
  · intro w hSw; (try dsimp only at hSw); go_simp; try with_reducible rfl
  try simp only [Act.put, List.setIfInBounds_toArray, List.set_cons_zero, List.set_cons_succ]
  refine wpAnyH_take (i := 8) (v := ?_) (by simp only [List.getElem?_toArray, List.getElem?_cons_succ, List.getElem?_cons_zero]; rfl) (by kernel_rfl) (by kernel_rfl) (by kernel_rfl) (by exact fun _ _ _ h => h) (Or.inl ⟨by rfl, ?_⟩) (by assumption) ?_
  rotate_left
  · intro w hSw; (try dsimp only at hSw); go_simp; try with_reducible rfl
  try simp only [Act.put, List.setIfInBounds_toArray, List.set_cons_zero, List.set_cons_succ]
  refine wpAnyH_take (i := 11) (v := ?_) (by simp only [List.getElem?_toArray, List.getElem?_cons_succ, List.getElem?_cons_zero]; rfl) (by kernel_rfl) (by kernel_rfl) (by kernel_rfl) (by exact fun _ _ _ h => h) (Or.inl ⟨by rfl, ?_⟩) (by assumption) ?_
  rotate_left
  · intro w hSw; (try dsimp only at hSw); go_simp; try with_reducible rfl
  try simp only [Act.put, List.setIfInBounds_toArray, List.set_cons_zero, List.set_cons_succ]
  refine wpAnyH_take (i := 12) (v := ?_) (by simp only [List.getElem?_toArray, List.getElem?_cons_succ, List.getElem?_cons_zero]; rfl) (by kernel_rfl) (by kernel_rfl) (by kernel_rfl) (by exact fun _ _ _ h => h) (Or.inl ⟨by rfl, ?_⟩) (by assumption) ?_
  rotate_left
  · intro w hSw; (try dsimp only at hSw); go_simp; try with_reducible rfl
  try simp only [Act.put, List.setIfInBounds_toArray, List.set_cons_zero, List.set_cons_succ]
  refine wpAnyH_take (i := 13) (v := ?_) (by simp only [List.getElem?_toArray, List.getElem?_cons_succ, List.getElem?_cons_zero]; rfl) (by kernel_rfl) (by kernel_rfl) (by kernel_rfl) (by exact fun _ _ _ h => h) (Or.inl ⟨by rfl, ?_⟩) (by assumption) ?_
  rotate_left
  · intro w hSw; (try dsimp only at hSw); go_simp; try with_reducible rfl
  try simp only [Act.put, List.setIfInBounds_toArray, List.set_cons_zero, List.set_cons_succ]
  refine wpAnyH_take (i := 17) (v := ?_) (by simp only [List.getElem?_toArray, List.getElem?_cons_succ, List.getElem?_cons_zero]; rfl) (by kernel_rfl) (by kernel_rfl) (by kernel_rfl) (by exact fun _ _ _ h => h) (Or.inl ⟨by rfl, ?_⟩) (by assumption) ?_
  rotate_left
  · intro w hSw; (try dsimp only at hSw); go_simp; try with_reducible rfl
  try simp only [Act.put, List.setIfInBounds_toArray, List.set_cons_zero, List.set_cons_succ]
  refine wpAnyH_take (i := 18) (v := ?_) (by simp only [List.getElem?_toArray, List.getElem?_cons_succ, List.getElem?_cons_zero]; rfl) (by kernel_rfl) (by kernel_rfl) (by kernel_rfl) (by exact fun _ _ _ h => h) (Or.inl ⟨by rfl, ?_⟩) (by assumption) ?_
  rotate_left
  · intro w hSw; (try dsimp only at hSw); go_simp; try with_reducible rfl
  try simp only [Act.put, List.setIfInBounds_toArray, List.set_cons_zero, List.set_cons_succ]
  refine wpAnyH_take (i := 19) (v := ?_) (by simp only [List.getElem?_toArray, List.getElem?_cons_succ, List.getElem?_cons_zero]; rfl) (by kernel_rfl) (by kernel_rfl) (by kernel_rfl) (by exact fun _ _ _ h => h) (Or.inl ⟨by rfl, ?_⟩) (by assumption) ?_
  rotate_left
  · intro w hSw; (try dsimp only at hSw); go_simp; try with_reducible rfl
  try simp only [Act.put, List.setIfInBounds_toArray, List.set_cons_zero, List.set_cons_succ]
  refine wpAnyH_ready (rs := [5]) (by kernel_rfl) (by simp) ?_
  refine AllReadyH.cons (by simp only [List.getElem?_toArray, List.getElem?_cons_succ, List.getElem?_cons_zero]; rfl) (fun K hK => ?_) AllReadyH.nil
  go_simp
  refine (HWQ.out _).mono ?_; rintro x w5 ⟨rfl, hb5⟩; have hz5 : Below w3.heap.size w3 w5 := bl (by repeat (first | exact Below.refl _ _ | assumption | apply below_dr | apply below_dn | apply below_al)) hb5
  try go_simp
  refine hK.out _ _ (((by repeat (first | exact Below.refl _ _ | assumption | apply below_dr | apply below_dn | apply below_al)) : Below w3.heap.size w3 _)) (fun hHeld => ?_)
  clear hK K
  try simp only [Act.put, List.setIfInBounds_toArray, List.set_cons_zero, List.set_cons_succ]
  refine wpAnyH_take (i := 6) (v := ?_) (by simp only [List.getElem?_toArray, List.getElem?_cons_succ, List.getElem?_cons_zero]; rfl) (by kernel_rfl) (by kernel_rfl) (by kernel_rfl) (by exact fun _ _ _ h => h) (Or.inl ⟨by rfl, ?_⟩) (by assumption) ?_
  rotate_left
  · intro w hSw; (try dsimp only at hSw); go_simp; try with_reducible rfl
  try simp only [Act.put, List.setIfInBounds_toArray, List.set_cons_zero, List.set_cons_succ]
  refine wpAnyH_take (i := 7) (v := ?_) (by simp only [List.getElem?_toArray, List.getElem?_cons_succ, List.getElem?_cons_zero]; rfl) (by kernel_rfl) (by kernel_rfl) (by kernel_rfl) (by exact fun _ _ _ h => h) (Or.inl ⟨by rfl, ?_⟩) (by assumption) ?_
  rotate_left
  · intro w hSw; (try dsimp only at hSw); go_simp; try with_reducible rfl
  try simp only [Act.put, List.setIfInBounds_toArray, List.set_cons_zero, List.set_cons_succ]
  refine wpAnyH_take (i := 9) (v := ?_) (by simp only [List.getElem?_toArray, List.getElem?_cons_succ, List.getElem?_cons_zero]; rfl) (by kernel_rfl) (by kernel_rfl) (by kernel_rfl) (by exact fun _ _ _ h => h) (Or.inl ⟨by rfl, ?_⟩) (by assumption) ?_
  rotate_left
  · intro w hSw; (try dsimp only at hSw); go_simp; try with_reducible rfl
  try simp only [Act.put, List.setIfInBounds_toArray, List.set_cons_zero, List.set_cons_succ]
  refine wpAnyH_take (i := 10) (v := ?_) (by simp only [List.getElem?_toArray, List.getElem?_cons_succ, List.getElem?_cons_zero]; rfl) (by kernel_rfl) (by kernel_rfl) (by kernel_rfl) (by exact fun _ _ _ h => h) (Or.inl ⟨by rfl, ?_⟩) (by assumption) ?_
  rotate_left
  · intro w hSw; (try dsimp only at hSw); go_simp; try with_reducible rfl
  try simp only [Act.put, List.setIfInBounds_toArray, List.set_cons_zero, List.set_cons_succ]
  refine wpAnyH_ready (rs := [14]) (by kernel_rfl) (by simp) ?_
  refine AllReadyH.cons (by simp only [List.getElem?_toArray, List.getElem?_cons_succ, List.getElem?_cons_zero]; rfl) (fun K hK => ?_) AllReadyH.nil
  go_simp
  refine (HDN.out _ (HT3.out.below (by repeat (first | exact Below.refl _ _ | assumption | apply below_dr | apply below_dn | apply below_al)))).mono ?_; rintro x w6 ⟨rfl, hb6⟩; have hz6 : Below w3.heap.size w3 w6 := bl (by repeat (first | exact Below.refl _ _ | assumption | apply below_dr | apply below_dn | apply below_al)) hb6
  try go_simp
  refine hK.out _ _ (((by repeat (first | exact Below.refl _ _ | assumption | apply below_dr | apply below_dn | apply below_al)) : Below w3.heap.size w3 _)) (fun hHeld => ?_)
  clear hK K
  try simp only [Act.put, List.setIfInBounds_toArray, List.set_cons_zero, List.set_cons_succ]
  refine wpAnyH_take (i := 15) (v := ?_) (by simp only [List.getElem?_toArray, List.getElem?_cons_succ, List.getElem?_cons_zero]; rfl) (by kernel_rfl) (by kernel_rfl) (by kernel_rfl) (by exact fun _ _ _ h => h) (Or.inl ⟨by rfl, ?_⟩) (by assumption) ?_
  rotate_left
  · intro w hSw; (try dsimp only at hSw); go_simp; try with_reducible rfl
  try simp only [Act.put, List.setIfInBounds_toArray, List.set_cons_zero, List.set_cons_succ]
  refine wpAnyH_take (i := 16) (v := ?_) (by simp only [List.getElem?_toArray, List.getElem?_cons_succ, List.getElem?_cons_zero]; rfl) (by kernel_rfl) (by kernel_rfl) (by kernel_rfl) (by exact fun _ _ _ h => h) (Or.inl ⟨by rfl, ?_⟩) (by assumption) ?_
  rotate_left
  · intro w hSw; (try dsimp only at hSw); go_simp; try with_reducible rfl
  try simp only [Act.put, List.setIfInBounds_toArray, List.set_cons_zero, List.set_cons_succ]
  refine wpAnyH_take (i := 20) (v := ?_) (by simp only [List.getElem?_toArray, List.getElem?_cons_succ, List.getElem?_cons_zero]; rfl) (by kernel_rfl) (by kernel_rfl) (by kernel_rfl) (by exact fun _ _ _ h => h) (Or.inl ⟨by rfl, ?_⟩) (by assumption) ?_
  rotate_left
  · intro w hSw; (try dsimp only at hSw); go_simp; try with_reducible rfl
  try simp only [Act.put, List.setIfInBounds_toArray, List.set_cons_zero, List.set_cons_succ]
  refine wpAnyH_ready (rs := [21]) (by kernel_rfl) (by simp) ?_
  refine AllReadyH.cons (by simp only [List.getElem?_toArray, List.getElem?_cons_succ, List.getElem?_cons_zero]; rfl) (fun K hK => ?_) AllReadyH.nil
  go_simp
  refine hK.out _ _ (((by repeat (first | exact Below.refl _ _ | assumption | apply below_dr | apply below_dn | apply below_al)) : Below w3.heap.size w3 _)) (fun hHeld => ?_)
  clear hK K
  try simp only [Act.put, List.setIfInBounds_toArray, List.set_cons_zero, List.set_cons_succ]
  refine wpAnyH_done (by kernel_rfl) ?_ _
  go_wp2_with fail
  go_ret
  exact ⟨by rw [HLINE.out, HFULL.out]; simp only [sp, ByteArray.append_assoc]; rfl, bl HB3.out (by repeat (first | exact Below.refl _ _ | assumption | apply below_dr | apply below_dn | apply below_al))⟩
set_option maxRecDepth 100000 in
set_option maxHeartbeats 4000000 in
theorem line_4_zn (sk who xk : Int) (xkey xval : ByteArray) (keep torn part err rerr : Int) (val : ByteArray) (yes : Bool) (rn : Int) (en : Bool) (w : World) (htab : Tab w) (hwho : -9223372036854775808 ≤ who ∧ who ≤ 9223372036854775807) (hrn : -9223372036854775808 ≤ rn ∧ rn ≤ 9223372036854775807) (hval : val.size ≤ 1000000) (hsk : (sk = 4) ∧ err = 0) : Calls Tryd.prog 5 #[.agg #[.int .i64 sk, .int .i64 who, .int .i64 xk, .string xkey, .string xval, .int .u64 keep, .int .i64 torn, .int .i64 part], .agg #[.int .i64 err, .int .i64 rerr, .string val, .bool false, .int .i64 rn, .bool en]] w fun x w' => x = .returned (.string (lineB sk who err rerr val false rn en)) ∧ Below w.heap.size w w' := by
  have t3 : (sk == 3) = false := beq_eq_false_iff_ne.2 (by omega)
  have t3' : decide (sk = 3) = false := decide_eq_false (by omega)
  have t2 : (sk == 2) = false := beq_eq_false_iff_ne.2 (by omega)
  have t2' : decide (sk = 2) = false := decide_eq_false (by omega)
  have t4 : (sk == 4) = true := beq_iff_eq.2 (by omega)
  have t4' : decide (sk = 4) = true := decide_eq_true (by omega)
  have te : (err != 0) = false := by rw [bne_eq_false_iff_eq]; omega
  have te' : (err == 0) = true := beq_iff_eq.2 (by omega)
  have hk := kind_len sk
  have he := err_len err
  have hstr : StrsAt (((w.alloc (.cells #[.int .i64 sk, .int .i64 who, .int .i64 xk, .string xkey, .string xval, .int .u64 keep, .int .i64 torn, .int .i64 part] 34 (0, 0))).alloc (.cells #[.int .i64 err, .int .i64 rerr, .string val, .bool false, .int .i64 rn, .bool en] 35 (0, 0))).alloc (.cells (kindL.map Value.string).toArray 9 (0, 0))) (w.heap.size + 2) kindL := by have := strs_new ((w.alloc (.cells #[.int .i64 sk, .int .i64 who, .int .i64 xk, .string xkey, .string xval, .int .u64 keep, .int .i64 torn, .int .i64 part] 34 (0, 0))).alloc (.cells #[.int .i64 err, .int .i64 rerr, .string val, .bool false, .int .i64 rn, .bool en] 35 (0, 0))) kindL; rwa [World.size_alloc, World.size_alloc] at this
  have HW := Lib.hid (word_any sk (w.heap.size + 2) kindL _ hstr)
  obtain ⟨hA, hB⟩ := new3 w (.cells #[.int .i64 sk, .int .i64 who, .int .i64 xk, .string xkey, .string xval, .int .u64 keep, .int .i64 torn, .int .i64 part] 34 (0, 0)) (.cells #[.int .i64 err, .int .i64 rerr, .string val, .bool false, .int .i64 rn, .bool en] 35 (0, 0)) (.cells (kindL.map Value.string).toArray 9 (0, 0))
  have HT0 := Lib.hid (htab.below (below_al (below_al (below_al (Below.refl _ w) (.cells #[.int .i64 sk, .int .i64 who, .int .i64 xk, .string xkey, .string xval, .int .u64 keep, .int .i64 torn, .int .i64 part] 34 (0, 0))) (.cells #[.int .i64 err, .int .i64 rerr, .string val, .bool false, .int .i64 rn, .bool en] 35 (0, 0))) (.cells (kindL.map Value.string).toArray 9 (0, 0))))
  have HB0 := Lib.hid (below_al (below_al (below_al (Below.refl _ w) (.cells #[.int .i64 sk, .int .i64 who, .int .i64 xk, .string xkey, .string xval, .int .u64 keep, .int .i64 torn, .int .i64 part] 34 (0, 0))) (.cells #[.int .i64 err, .int .i64 rerr, .string val, .bool false, .int .i64 rn, .bool en] 35 (0, 0))) (.cells (kindL.map Value.string).toArray 9 (0, 0)))
  have HA := Lib.hid hA
  have HBB := Lib.hid hB
  obtain ⟨k1, hk1⟩ : ∃ k1, k1 = wd sk kindL := ⟨_, rfl⟩
  obtain ⟨e1, he1⟩ : ∃ e1, e1 = wd err errL := ⟨_, rfl⟩
  rw [← hk1] at hk HW
  rw [← he1] at he
  have hd0 := dig_len who hwho.1 hwho.2
  obtain ⟨d0, hde⟩ : ∃ d0, d0 = dig who := ⟨_, rfl⟩
  rw [← hde] at hd0
  have HBASE : Hid (baseB sk who err = k1 ++ sp ++ d0 ++ sp ++ e1) := Lib.hid (by unfold baseB; rw [if_neg (by omega), hk1, he1, hde])
  have HLINE : Hid (lineB sk who err rerr val false rn en = fullB sk who err rerr false rn val) := Lib.hid (if_pos ⟨by omega, by exact .inr (by omega)⟩)
  have s0 : ¬ 9223372036854775807 < k1.size + 1 := by omega
  have s1 : ¬ 9223372036854775807 < k1.size + 1 + d0.size := by omega
  have s2 : ¬ 9223372036854775807 < 1 + e1.size := by omega
  have s3 : ¬ 9223372036854775807 < k1.size + 1 + d0.size + (1 + e1.size) := by omega
  have HWR := Lib.hid (fun X => wrong_any err X)
  simp only [← he1] at HWR
  have HD0 := Lib.hid (fun X (hX : Tab X) => itoa_any who hwho.1 hwho.2 X hX)
  simp only [← hde] at HD0
  have hq := err_len rerr
  have hdn := dig_len rn hrn.1 hrn.2
  obtain ⟨q1, hq1⟩ : ∃ q1, q1 = wd rerr errL := ⟨_, rfl⟩
  obtain ⟨d1, hd1⟩ : ∃ d1, d1 = dig rn := ⟨_, rfl⟩
  rw [← hq1] at hq
  rw [← hd1] at hdn
  have HWQ := Lib.hid (fun X => wrong_any rerr X)
  simp only [← hq1] at HWQ
  have HDN := Lib.hid (fun X (hX : Tab X) => itoa_any rn hrn.1 hrn.2 X hX)
  simp only [← hd1] at HDN
  have HFULL : Hid (fullB sk who err rerr false rn val = k1 ++ sp ++ d0 ++ sp ++ e1 ++ sp ++ q1 ++ sp ++ ⟨#[110, 111]⟩ ++ sp ++ d1 ++ sp ++ val) := Lib.hid (by unfold fullB; rw [HBASE.out, ← hq1, ← hd1]; rfl)
  have r0 : ¬ 9223372036854775807 < k1.size + 1 + d0.size + (1 + e1.size) + 1 := by omega
  have r1 : ¬ 9223372036854775807 < k1.size + 1 + d0.size + (1 + e1.size) + 1 + q1.size := by omega
  have r2 : ¬ 9223372036854775807 < k1.size + 1 + d0.size + (1 + e1.size) + 1 + q1.size + 1 := by omega
  have r3 : ¬ 9223372036854775807 < k1.size + 1 + d0.size + (1 + e1.size) + 1 + q1.size + 1 + 2 := by omega
  have r4 : ¬ 9223372036854775807 < k1.size + 1 + d0.size + (1 + e1.size) + 1 + q1.size + 1 + 2 + 1 := by omega
  have r5 : ¬ 9223372036854775807 < k1.size + 1 + d0.size + (1 + e1.size) + 1 + q1.size + 1 + 2 + 1 + d1.size := by omega
  have r6 : ¬ 9223372036854775807 < k1.size + 1 + d0.size + (1 + e1.size) + 1 + q1.size + 1 + 2 + 1 + d1.size + 1 := by omega
  have r7 : ¬ 9223372036854775807 < k1.size + 1 + d0.size + (1 + e1.size) + 1 + q1.size + 1 + 2 + 1 + d1.size + 1 + val.size := by omega
  clear hk1 he1 hA hB hstr hk he hde hd0 hq1 hd1 hq hdn hsk
  go_enter Tryd.func5, Tryd.ntmps5
  go_wp2_with fail
  refine HW.out.mono ?_
  rintro x w1 ⟨rfl, rfl⟩
  go_wp2_with fail
  refine (HD0.out _ HT0.out).mono ?_
  rintro x w2 ⟨rfl, hb2⟩
  have HB2 := Lib.hid (bl HB0.out hb2)
  have HA := Lib.hid ((hb2.block _ (lt_of_some HA.out)).trans HA.out)
  have HBB := Lib.hid ((hb2.block _ (lt_of_some HBB.out)).trans HBB.out)
  have HT2 := Lib.hid (HT0.out.below hb2)
  clear hb2
  have a0 := cell_at HA.out 0
  have a1 := cell_at HA.out 1
  have b0 := cell_at HBB.out 0
  have b1 := cell_at HBB.out 1
  have b2 := cell_at HBB.out 2
  have b3 := cell_at HBB.out 3
  have b4 := cell_at HBB.out 4
  have b5 := cell_at HBB.out 5
  go_wp2_with fail
  refine (HWR.out _).mono ?_
  rintro x w3 ⟨rfl, hb3⟩
  have HB3 := Lib.hid (bl HB2.out hb3)
  have HA := Lib.hid ((hb3.block _ (lt_of_some HA.out)).trans HA.out)
  have HBB := Lib.hid ((hb3.block _ (lt_of_some HBB.out)).trans HBB.out)
  have HT3 := Lib.hid (HT2.out.below hb3)
  clear hb3 a0 a1 b0 b1 b2 b3 b4 b5
  have a0 := fun X (hX : Below w3.heap.size w3 X) => cell_at ((hX.block _ (lt_of_some HA.out)).trans HA.out) 0
  have b0 := fun X (hX : Below w3.heap.size w3 X) => cell_at ((hX.block _ (lt_of_some HBB.out)).trans HBB.out) 0
  have b1 := fun X (hX : Below w3.heap.size w3 X) => cell_at ((hX.block _ (lt_of_some HBB.out)).trans HBB.out) 1
  have b2 := fun X (hX : Below w3.heap.size w3 X) => cell_at ((hX.block _ (lt_of_some HBB.out)).trans HBB.out) 2
  have b3 := fun X (hX : Below w3.heap.size w3 X) => cell_at ((hX.block _ (lt_of_some HBB.out)).trans HBB.out) 3
  have b4 := fun X (hX : Below w3.heap.size w3 X) => cell_at ((hX.block _ (lt_of_some HBB.out)).trans HBB.out) 4
  have b5 := fun X (hX : Below w3.heap.size w3 X) => cell_at ((hX.block _ (lt_of_some HBB.out)).trans HBB.out) 5
  have a0' := a0 w3 (Below.refl _ _)
  have b0' := b0 w3 (Below.refl _ _)
  have b1' := b1 w3 (Below.refl _ _)
  have b2' := b2 w3 (Below.refl _ _)
  have b3' := b3 w3 (Below.refl _ _)
  have b4' := b4 w3 (Below.refl _ _)
  have b5' := b5 w3 (Below.refl _ _)
  go_wp2_with fail
  clear a0' b0' b1' b2' b3' b4' b5'
  refine wp_region_held_drew (S := (fun X => Below w3.heap.size w3 X)) (by kernel_rfl) (((by repeat (first | exact Below.refl _ _ | assumption | apply below_dr | apply below_dn | apply below_al)) : Below w3.heap.size w3 _)) (fun hHeld => ?_)
  try simp only [Act.put, List.setIfInBounds_toArray, List.set_cons_zero, List.set_cons_succ]
  refine wpAnyH_take (i := 0) (v := ?_) (by simp only [List.getElem?_toArray, List.getElem?_cons_succ, List.getElem?_cons_zero]; rfl) (by kernel_rfl) (by kernel_rfl) (by kernel_rfl) (by exact fun _ _ _ h => h) (Or.inl ⟨by rfl, ?_⟩) (by assumption) ?_
  rotate_left
  · intro w hSw; (try dsimp only at hSw); go_simp; try with_reducible rfl
  try simp only [Act.put, List.setIfInBounds_toArray, List.set_cons_zero, List.set_cons_succ]
  refine wpAnyH_take (i := 1) (v := ?_) (by simp only [List.getElem?_toArray, List.getElem?_cons_succ, List.getElem?_cons_zero]; rfl) (by kernel_rfl) (by kernel_rfl) (by kernel_rfl) (by exact fun _ _ _ h => h) (Or.inl ⟨by rfl, ?_⟩) (by assumption) ?_
  rotate_left
  · intro w hSw; (try dsimp only at hSw); go_simp; try with_reducible rfl
  try simp only [Act.put, List.setIfInBounds_toArray, List.set_cons_zero, List.set_cons_succ]
  refine wpAnyH_take (i := 2) (v := ?_) (by simp only [List.getElem?_toArray, List.getElem?_cons_succ, List.getElem?_cons_zero]; rfl) (by kernel_rfl) (by kernel_rfl) (by kernel_rfl) (by exact fun _ _ _ h => h) (Or.inl ⟨by rfl, ?_⟩) (by assumption) ?_
  rotate_left
  · intro w hSw; (try dsimp only at hSw); go_simp; try with_reducible rfl
  try simp only [Act.put, List.setIfInBounds_toArray, List.set_cons_zero, List.set_cons_succ]
  refine wpAnyH_take (i := 3) (v := ?_) (by simp only [List.getElem?_toArray, List.getElem?_cons_succ, List.getElem?_cons_zero]; rfl) (by kernel_rfl) (by kernel_rfl) (by kernel_rfl) (by exact fun _ _ _ h => h) (Or.inl ⟨by rfl, ?_⟩) (by assumption) ?_
  rotate_left
  · intro w hSw; (try dsimp only at hSw); go_simp; try with_reducible rfl
  try simp only [Act.put, List.setIfInBounds_toArray, List.set_cons_zero, List.set_cons_succ]
  refine wpAnyH_take (i := 4) (v := ?_) (by simp only [List.getElem?_toArray, List.getElem?_cons_succ, List.getElem?_cons_zero]; rfl) (by kernel_rfl) (by kernel_rfl) (by kernel_rfl) (by exact fun _ _ _ h => h) (Or.inl ⟨by rfl, ?_⟩) (by assumption) ?_
  rotate_left
  · intro w hSw; (try dsimp only at hSw); go_simp; try with_reducible rfl
  try simp only [Act.put, List.setIfInBounds_toArray, List.set_cons_zero, List.set_cons_succ]
  refine wpAnyH_take (i := 8) (v := ?_) (by simp only [List.getElem?_toArray, List.getElem?_cons_succ, List.getElem?_cons_zero]; rfl) (by kernel_rfl) (by kernel_rfl) (by kernel_rfl) (by exact fun _ _ _ h => h) (Or.inl ⟨by rfl, ?_⟩) (by assumption) ?_
  rotate_left
  · intro w hSw; (try dsimp only at hSw); go_simp; try with_reducible rfl
  try simp only [Act.put, List.setIfInBounds_toArray, List.set_cons_zero, List.set_cons_succ]
  refine wpAnyH_take (i := 11) (v := ?_) (by simp only [List.getElem?_toArray, List.getElem?_cons_succ, List.getElem?_cons_zero]; rfl) (by kernel_rfl) (by kernel_rfl) (by kernel_rfl) (by exact fun _ _ _ h => h) (Or.inl ⟨by rfl, ?_⟩) (by assumption) ?_
  rotate_left
  · intro w hSw; (try dsimp only at hSw); go_simp; try with_reducible rfl
  try simp only [Act.put, List.setIfInBounds_toArray, List.set_cons_zero, List.set_cons_succ]
  refine wpAnyH_take (i := 12) (v := ?_) (by simp only [List.getElem?_toArray, List.getElem?_cons_succ, List.getElem?_cons_zero]; rfl) (by kernel_rfl) (by kernel_rfl) (by kernel_rfl) (by exact fun _ _ _ h => h) (Or.inl ⟨by rfl, ?_⟩) (by assumption) ?_
  rotate_left
  · intro w hSw; (try dsimp only at hSw); go_simp; try with_reducible rfl
  try simp only [Act.put, List.setIfInBounds_toArray, List.set_cons_zero, List.set_cons_succ]
  refine wpAnyH_take (i := 13) (v := ?_) (by simp only [List.getElem?_toArray, List.getElem?_cons_succ, List.getElem?_cons_zero]; rfl) (by kernel_rfl) (by kernel_rfl) (by kernel_rfl) (by exact fun _ _ _ h => h) (Or.inl ⟨by rfl, ?_⟩) (by assumption) ?_
  rotate_left
  · intro w hSw; (try dsimp only at hSw); go_simp; try with_reducible rfl
  try simp only [Act.put, List.setIfInBounds_toArray, List.set_cons_zero, List.set_cons_succ]
  refine wpAnyH_take (i := 17) (v := ?_) (by simp only [List.getElem?_toArray, List.getElem?_cons_succ, List.getElem?_cons_zero]; rfl) (by kernel_rfl) (by kernel_rfl) (by kernel_rfl) (by exact fun _ _ _ h => h) (Or.inl ⟨by rfl, ?_⟩) (by assumption) ?_
  rotate_left
  · intro w hSw; (try dsimp only at hSw); go_simp; try with_reducible rfl
  try simp only [Act.put, List.setIfInBounds_toArray, List.set_cons_zero, List.set_cons_succ]
  refine wpAnyH_take (i := 18) (v := ?_) (by simp only [List.getElem?_toArray, List.getElem?_cons_succ, List.getElem?_cons_zero]; rfl) (by kernel_rfl) (by kernel_rfl) (by kernel_rfl) (by exact fun _ _ _ h => h) (Or.inl ⟨by rfl, ?_⟩) (by assumption) ?_
  rotate_left
  · intro w hSw; (try dsimp only at hSw); go_simp; try with_reducible rfl
  try simp only [Act.put, List.setIfInBounds_toArray, List.set_cons_zero, List.set_cons_succ]
  refine wpAnyH_take (i := 19) (v := ?_) (by simp only [List.getElem?_toArray, List.getElem?_cons_succ, List.getElem?_cons_zero]; rfl) (by kernel_rfl) (by kernel_rfl) (by kernel_rfl) (by exact fun _ _ _ h => h) (Or.inl ⟨by rfl, ?_⟩) (by assumption) ?_
  rotate_left
  · intro w hSw; (try dsimp only at hSw); go_simp; try with_reducible rfl
  try simp only [Act.put, List.setIfInBounds_toArray, List.set_cons_zero, List.set_cons_succ]
  refine wpAnyH_ready (rs := [5]) (by kernel_rfl) (by simp) ?_
  refine AllReadyH.cons (by simp only [List.getElem?_toArray, List.getElem?_cons_succ, List.getElem?_cons_zero]; rfl) (fun K hK => ?_) AllReadyH.nil
  go_simp
  refine (HWQ.out _).mono ?_; rintro x w5 ⟨rfl, hb5⟩; have hz5 : Below w3.heap.size w3 w5 := bl (by repeat (first | exact Below.refl _ _ | assumption | apply below_dr | apply below_dn | apply below_al)) hb5
  try go_simp
  refine hK.out _ _ (((by repeat (first | exact Below.refl _ _ | assumption | apply below_dr | apply below_dn | apply below_al)) : Below w3.heap.size w3 _)) (fun hHeld => ?_)
  clear hK K
  try simp only [Act.put, List.setIfInBounds_toArray, List.set_cons_zero, List.set_cons_succ]
  refine wpAnyH_take (i := 6) (v := ?_) (by simp only [List.getElem?_toArray, List.getElem?_cons_succ, List.getElem?_cons_zero]; rfl) (by kernel_rfl) (by kernel_rfl) (by kernel_rfl) (by exact fun _ _ _ h => h) (Or.inl ⟨by rfl, ?_⟩) (by assumption) ?_
  rotate_left
  · intro w hSw; (try dsimp only at hSw); go_simp; try with_reducible rfl
  try simp only [Act.put, List.setIfInBounds_toArray, List.set_cons_zero, List.set_cons_succ]
  refine wpAnyH_take (i := 7) (v := ?_) (by simp only [List.getElem?_toArray, List.getElem?_cons_succ, List.getElem?_cons_zero]; rfl) (by kernel_rfl) (by kernel_rfl) (by kernel_rfl) (by exact fun _ _ _ h => h) (Or.inl ⟨by rfl, ?_⟩) (by assumption) ?_
  rotate_left
  · intro w hSw; (try dsimp only at hSw); go_simp; try with_reducible rfl
  try simp only [Act.put, List.setIfInBounds_toArray, List.set_cons_zero, List.set_cons_succ]
  refine wpAnyH_take (i := 9) (v := ?_) (by simp only [List.getElem?_toArray, List.getElem?_cons_succ, List.getElem?_cons_zero]; rfl) (by kernel_rfl) (by kernel_rfl) (by kernel_rfl) (by exact fun _ _ _ h => h) (Or.inl ⟨by rfl, ?_⟩) (by assumption) ?_
  rotate_left
  · intro w hSw; (try dsimp only at hSw); go_simp; try with_reducible rfl
  try simp only [Act.put, List.setIfInBounds_toArray, List.set_cons_zero, List.set_cons_succ]
  refine wpAnyH_take (i := 10) (v := ?_) (by simp only [List.getElem?_toArray, List.getElem?_cons_succ, List.getElem?_cons_zero]; rfl) (by kernel_rfl) (by kernel_rfl) (by kernel_rfl) (by exact fun _ _ _ h => h) (Or.inl ⟨by rfl, ?_⟩) (by assumption) ?_
  rotate_left
  · intro w hSw; (try dsimp only at hSw); go_simp; try with_reducible rfl
  try simp only [Act.put, List.setIfInBounds_toArray, List.set_cons_zero, List.set_cons_succ]
  refine wpAnyH_ready (rs := [14]) (by kernel_rfl) (by simp) ?_
  refine AllReadyH.cons (by simp only [List.getElem?_toArray, List.getElem?_cons_succ, List.getElem?_cons_zero]; rfl) (fun K hK => ?_) AllReadyH.nil
  go_simp
  refine (HDN.out _ (HT3.out.below (by repeat (first | exact Below.refl _ _ | assumption | apply below_dr | apply below_dn | apply below_al)))).mono ?_; rintro x w6 ⟨rfl, hb6⟩; have hz6 : Below w3.heap.size w3 w6 := bl (by repeat (first | exact Below.refl _ _ | assumption | apply below_dr | apply below_dn | apply below_al)) hb6
  try go_simp
  refine hK.out _ _ (((by repeat (first | exact Below.refl _ _ | assumption | apply below_dr | apply below_dn | apply below_al)) : Below w3.heap.size w3 _)) (fun hHeld => ?_)
  clear hK K
  try simp only [Act.put, List.setIfInBounds_toArray, List.set_cons_zero, List.set_cons_succ]
  refine wpAnyH_take (i := 15) (v := ?_) (by simp only [List.getElem?_toArray, List.getElem?_cons_succ, List.getElem?_cons_zero]; rfl) (by kernel_rfl) (by kernel_rfl) (by kernel_rfl) (by exact fun _ _ _ h => h) (Or.inl ⟨by rfl, ?_⟩) (by assumption) ?_
  rotate_left
  · intro w hSw; (try dsimp only at hSw); go_simp; try with_reducible rfl
  try simp only [Act.put, List.setIfInBounds_toArray, List.set_cons_zero, List.set_cons_succ]
  refine wpAnyH_take (i := 16) (v := ?_) (by simp only [List.getElem?_toArray, List.getElem?_cons_succ, List.getElem?_cons_zero]; rfl) (by kernel_rfl) (by kernel_rfl) (by kernel_rfl) (by exact fun _ _ _ h => h) (Or.inl ⟨by rfl, ?_⟩) (by assumption) ?_
  rotate_left
  · intro w hSw; (try dsimp only at hSw); go_simp; try with_reducible rfl
  try simp only [Act.put, List.setIfInBounds_toArray, List.set_cons_zero, List.set_cons_succ]
  refine wpAnyH_take (i := 20) (v := ?_) (by simp only [List.getElem?_toArray, List.getElem?_cons_succ, List.getElem?_cons_zero]; rfl) (by kernel_rfl) (by kernel_rfl) (by kernel_rfl) (by exact fun _ _ _ h => h) (Or.inl ⟨by rfl, ?_⟩) (by assumption) ?_
  rotate_left
  · intro w hSw; (try dsimp only at hSw); go_simp; try with_reducible rfl
  try simp only [Act.put, List.setIfInBounds_toArray, List.set_cons_zero, List.set_cons_succ]
  refine wpAnyH_ready (rs := [21]) (by kernel_rfl) (by simp) ?_
  refine AllReadyH.cons (by simp only [List.getElem?_toArray, List.getElem?_cons_succ, List.getElem?_cons_zero]; rfl) (fun K hK => ?_) AllReadyH.nil
  go_simp
  refine hK.out _ _ (((by repeat (first | exact Below.refl _ _ | assumption | apply below_dr | apply below_dn | apply below_al)) : Below w3.heap.size w3 _)) (fun hHeld => ?_)
  clear hK K
  try simp only [Act.put, List.setIfInBounds_toArray, List.set_cons_zero, List.set_cons_succ]
  refine wpAnyH_done (by kernel_rfl) ?_ _
  go_wp2_with fail
  go_ret
  exact ⟨by rw [HLINE.out, HFULL.out]; simp only [sp, ByteArray.append_assoc]; rfl, bl HB3.out (by repeat (first | exact Below.refl _ _ | assumption | apply below_dr | apply below_dn | apply below_al))⟩
theorem line_any (sk who xk : Int) (xkey xval : ByteArray) (keep torn part err rerr : Int) (val : ByteArray) (yes : Bool) (rn : Int) (en : Bool) (w : World) (htab : Tab w) (hwho : -9223372036854775808 ≤ who ∧ who ≤ 9223372036854775807) (hrn : -9223372036854775808 ≤ rn ∧ rn ≤ 9223372036854775807) (hval : val.size ≤ 1000000) : Calls Tryd.prog 5 #[.agg #[.int .i64 sk, .int .i64 who, .int .i64 xk, .string xkey, .string xval, .int .u64 keep, .int .i64 torn, .int .i64 part], .agg #[.int .i64 err, .int .i64 rerr, .string val, .bool yes, .int .i64 rn, .bool en]] w fun x w' => x = .returned (.string (lineB sk who err rerr val yes rn en)) ∧ Below w.heap.size w w' := by
  by_cases he : err = 0
  · rcases (by omega : sk = 2 ∨ sk = 3 ∨ sk = 4 ∨ (sk ≠ 2 ∧ sk ≠ 3 ∧ sk ≠ 4)) with h | h | h | h
    · cases en with
      | true => cases yes with
        | true => exact line_2_zyt sk who xk xkey xval keep torn part err rerr val true rn true w htab hwho hrn hval ⟨h, he⟩
        | false => exact line_2_znt sk who xk xkey xval keep torn part err rerr val false rn true w htab hwho hrn hval ⟨h, he⟩
      | false => exact line_2_zf sk who xk xkey xval keep torn part err rerr val yes rn false w htab hwho hrn hval ⟨h, he⟩
    · exact line_3_z sk who xk xkey xval keep torn part err rerr val yes rn en w htab hwho hrn hval ⟨h, he⟩
    · cases yes with
      | true => exact line_4_zy sk who xk xkey xval keep torn part err rerr val true rn en w htab hwho hrn hval ⟨h, he⟩
      | false => exact line_4_zn sk who xk xkey xval keep torn part err rerr val false rn en w htab hwho hrn hval ⟨h, he⟩
    · exact line_x_z sk who xk xkey xval keep torn part err rerr val yes rn en w htab hwho hrn hval ⟨h, he⟩
  · rcases (by omega : sk = 2 ∨ sk = 3 ∨ sk = 4 ∨ (sk ≠ 2 ∧ sk ≠ 3 ∧ sk ≠ 4)) with h | h | h | h
    · cases en with
      | true => exact line_2_nt sk who xk xkey xval keep torn part err rerr val yes rn true w htab hwho hrn hval ⟨h, he⟩
      | false => exact line_2_nf sk who xk xkey xval keep torn part err rerr val yes rn false w htab hwho hrn hval ⟨h, he⟩
    · exact line_3_n sk who xk xkey xval keep torn part err rerr val yes rn en w htab hwho hrn hval ⟨h, he⟩
    · exact line_4_n sk who xk xkey xval keep torn part err rerr val yes rn en w htab hwho hrn hval ⟨h, he⟩
    · exact line_x_n sk who xk xkey xval keep torn part err rerr val yes rn en w htab hwho hrn hval ⟨h, he⟩
set_option maxRecDepth 100000 in
set_option maxHeartbeats 4000000 in
theorem rline_3_z (sk who xk : Int) (xkey xval : ByteArray) (keep torn part err rerr : Int) (val : ByteArray) (yes : Bool) (rn : Int) (en : Bool) (w : World) (htab : Tab w) (hwho : -9223372036854775808 ≤ who ∧ who ≤ 9223372036854775807) (hrn : -9223372036854775808 ≤ rn ∧ rn ≤ 9223372036854775807) (hval : val.size ≤ 1000000) (hsk : (sk = 3) ∧ err = 0) : Calls Tryd.prog 6 #[.agg #[.int .i64 sk, .int .i64 who, .int .i64 xk, .string xkey, .string xval, .int .u64 keep, .int .i64 torn, .int .i64 part], .agg #[.int .i64 err, .int .i64 rerr, .string val, .bool yes, .int .i64 rn, .bool en]] w fun x w' => x = .returned (.string (lineB sk who err rerr val yes rn en)) ∧ Below w.heap.size w w' := by
  have t3 : (sk == 3) = true := beq_iff_eq.2 (by omega)
  have t3' : decide (sk = 3) = true := decide_eq_true (by omega)
  have t2 : (sk == 2) = false := beq_eq_false_iff_ne.2 (by omega)
  have t2' : decide (sk = 2) = false := decide_eq_false (by omega)
  have t4 : (sk == 4) = false := beq_eq_false_iff_ne.2 (by omega)
  have t4' : decide (sk = 4) = false := decide_eq_false (by omega)
  have te : (err != 0) = false := by rw [bne_eq_false_iff_eq]; omega
  have te' : (err == 0) = true := beq_iff_eq.2 (by omega)
  have hk := kind_len sk
  have he := err_len err
  have hstr : StrsAt (((w.alloc (.cells #[.int .i64 sk, .int .i64 who, .int .i64 xk, .string xkey, .string xval, .int .u64 keep, .int .i64 torn, .int .i64 part] 26 (0, 0))).alloc (.cells #[.int .i64 err, .int .i64 rerr, .string val, .bool yes, .int .i64 rn, .bool en] 31 (0, 0))).alloc (.cells (kindL.map Value.string).toArray 9 (0, 0))) (w.heap.size + 2) kindL := by have := strs_new ((w.alloc (.cells #[.int .i64 sk, .int .i64 who, .int .i64 xk, .string xkey, .string xval, .int .u64 keep, .int .i64 torn, .int .i64 part] 26 (0, 0))).alloc (.cells #[.int .i64 err, .int .i64 rerr, .string val, .bool yes, .int .i64 rn, .bool en] 31 (0, 0))) kindL; rwa [World.size_alloc, World.size_alloc] at this
  have HW := Lib.hid (rword_any sk (w.heap.size + 2) kindL _ hstr)
  obtain ⟨hA, hB⟩ := new3 w (.cells #[.int .i64 sk, .int .i64 who, .int .i64 xk, .string xkey, .string xval, .int .u64 keep, .int .i64 torn, .int .i64 part] 26 (0, 0)) (.cells #[.int .i64 err, .int .i64 rerr, .string val, .bool yes, .int .i64 rn, .bool en] 31 (0, 0)) (.cells (kindL.map Value.string).toArray 9 (0, 0))
  have HT0 := Lib.hid (htab.below (below_al (below_al (below_al (Below.refl _ w) (.cells #[.int .i64 sk, .int .i64 who, .int .i64 xk, .string xkey, .string xval, .int .u64 keep, .int .i64 torn, .int .i64 part] 26 (0, 0))) (.cells #[.int .i64 err, .int .i64 rerr, .string val, .bool yes, .int .i64 rn, .bool en] 31 (0, 0))) (.cells (kindL.map Value.string).toArray 9 (0, 0))))
  have HB0 := Lib.hid (below_al (below_al (below_al (Below.refl _ w) (.cells #[.int .i64 sk, .int .i64 who, .int .i64 xk, .string xkey, .string xval, .int .u64 keep, .int .i64 torn, .int .i64 part] 26 (0, 0))) (.cells #[.int .i64 err, .int .i64 rerr, .string val, .bool yes, .int .i64 rn, .bool en] 31 (0, 0))) (.cells (kindL.map Value.string).toArray 9 (0, 0)))
  have HA := Lib.hid hA
  have HBB := Lib.hid hB
  obtain ⟨k1, hk1⟩ : ∃ k1, k1 = wd sk kindL := ⟨_, rfl⟩
  obtain ⟨e1, he1⟩ : ∃ e1, e1 = wd err errL := ⟨_, rfl⟩
  rw [← hk1] at hk HW
  rw [← he1] at he
  have HBASE : Hid (baseB sk who err = k1 ++ sp ++ ⟨#[108, 111, 115, 116]⟩ ++ sp ++ e1) := Lib.hid (by unfold baseB; rw [if_pos (by omega), hk1, he1])
  have HLINE : Hid (lineB sk who err rerr val yes rn en = baseB sk who err) := Lib.hid (if_neg (by rintro ⟨h1, h2 | h2⟩ <;> (try omega) <;> (first | (have := h2.2; contradiction) | omega)))
  have s0 : ¬ 9223372036854775807 < k1.size + 1 := by omega
  have s1 : ¬ 9223372036854775807 < k1.size + 1 + 4 := by omega
  have s2 : ¬ 9223372036854775807 < k1.size + 1 + 4 + 1 := by omega
  have s3 : ¬ 9223372036854775807 < k1.size + 1 + 4 + 1 + e1.size := by omega
  have HWR := Lib.hid (fun X => rwrong_any err X)
  simp only [← he1] at HWR
  clear hk1 he1 hA hB hstr hk he hsk
  go_enter Tryd.func6, Tryd.ntmps6
  go_wp2_with fail
  refine HW.out.mono ?_
  rintro x w1 ⟨rfl, rfl⟩
  go_wp2_with fail
  refine (HWR.out _).mono ?_
  rintro x w3 ⟨rfl, hb3⟩
  have HB3 := Lib.hid (bl HB0.out hb3)
  have HA := Lib.hid ((hb3.block _ (lt_of_some HA.out)).trans HA.out)
  have HBB := Lib.hid ((hb3.block _ (lt_of_some HBB.out)).trans HBB.out)
  have HT3 := Lib.hid (HT0.out.below hb3)
  clear hb3
  have a0 := cell_at HA.out 0
  have a1 := cell_at HA.out 1
  have b0 := cell_at HBB.out 0
  have b1 := cell_at HBB.out 1
  have b2 := cell_at HBB.out 2
  have b3 := cell_at HBB.out 3
  have b4 := cell_at HBB.out 4
  have b5 := cell_at HBB.out 5
  go_wp2_with fail
  go_ret
  exact ⟨by rw [HLINE.out, HBASE.out]; rfl, HB3.out⟩
set_option maxRecDepth 100000 in
set_option maxHeartbeats 4000000 in
theorem rline_3_n (sk who xk : Int) (xkey xval : ByteArray) (keep torn part err rerr : Int) (val : ByteArray) (yes : Bool) (rn : Int) (en : Bool) (w : World) (htab : Tab w) (hwho : -9223372036854775808 ≤ who ∧ who ≤ 9223372036854775807) (hrn : -9223372036854775808 ≤ rn ∧ rn ≤ 9223372036854775807) (hval : val.size ≤ 1000000) (hsk : (sk = 3) ∧ err ≠ 0) : Calls Tryd.prog 6 #[.agg #[.int .i64 sk, .int .i64 who, .int .i64 xk, .string xkey, .string xval, .int .u64 keep, .int .i64 torn, .int .i64 part], .agg #[.int .i64 err, .int .i64 rerr, .string val, .bool yes, .int .i64 rn, .bool en]] w fun x w' => x = .returned (.string (lineB sk who err rerr val yes rn en)) ∧ Below w.heap.size w w' := by
  have t3 : (sk == 3) = true := beq_iff_eq.2 (by omega)
  have t3' : decide (sk = 3) = true := decide_eq_true (by omega)
  have t2 : (sk == 2) = false := beq_eq_false_iff_ne.2 (by omega)
  have t2' : decide (sk = 2) = false := decide_eq_false (by omega)
  have t4 : (sk == 4) = false := beq_eq_false_iff_ne.2 (by omega)
  have t4' : decide (sk = 4) = false := decide_eq_false (by omega)
  have te : (err != 0) = true := bne_iff_ne.2 (by omega)
  have te' : (err == 0) = false := beq_eq_false_iff_ne.2 (by omega)
  have hk := kind_len sk
  have he := err_len err
  have hstr : StrsAt (((w.alloc (.cells #[.int .i64 sk, .int .i64 who, .int .i64 xk, .string xkey, .string xval, .int .u64 keep, .int .i64 torn, .int .i64 part] 26 (0, 0))).alloc (.cells #[.int .i64 err, .int .i64 rerr, .string val, .bool yes, .int .i64 rn, .bool en] 31 (0, 0))).alloc (.cells (kindL.map Value.string).toArray 9 (0, 0))) (w.heap.size + 2) kindL := by have := strs_new ((w.alloc (.cells #[.int .i64 sk, .int .i64 who, .int .i64 xk, .string xkey, .string xval, .int .u64 keep, .int .i64 torn, .int .i64 part] 26 (0, 0))).alloc (.cells #[.int .i64 err, .int .i64 rerr, .string val, .bool yes, .int .i64 rn, .bool en] 31 (0, 0))) kindL; rwa [World.size_alloc, World.size_alloc] at this
  have HW := Lib.hid (rword_any sk (w.heap.size + 2) kindL _ hstr)
  obtain ⟨hA, hB⟩ := new3 w (.cells #[.int .i64 sk, .int .i64 who, .int .i64 xk, .string xkey, .string xval, .int .u64 keep, .int .i64 torn, .int .i64 part] 26 (0, 0)) (.cells #[.int .i64 err, .int .i64 rerr, .string val, .bool yes, .int .i64 rn, .bool en] 31 (0, 0)) (.cells (kindL.map Value.string).toArray 9 (0, 0))
  have HT0 := Lib.hid (htab.below (below_al (below_al (below_al (Below.refl _ w) (.cells #[.int .i64 sk, .int .i64 who, .int .i64 xk, .string xkey, .string xval, .int .u64 keep, .int .i64 torn, .int .i64 part] 26 (0, 0))) (.cells #[.int .i64 err, .int .i64 rerr, .string val, .bool yes, .int .i64 rn, .bool en] 31 (0, 0))) (.cells (kindL.map Value.string).toArray 9 (0, 0))))
  have HB0 := Lib.hid (below_al (below_al (below_al (Below.refl _ w) (.cells #[.int .i64 sk, .int .i64 who, .int .i64 xk, .string xkey, .string xval, .int .u64 keep, .int .i64 torn, .int .i64 part] 26 (0, 0))) (.cells #[.int .i64 err, .int .i64 rerr, .string val, .bool yes, .int .i64 rn, .bool en] 31 (0, 0))) (.cells (kindL.map Value.string).toArray 9 (0, 0)))
  have HA := Lib.hid hA
  have HBB := Lib.hid hB
  obtain ⟨k1, hk1⟩ : ∃ k1, k1 = wd sk kindL := ⟨_, rfl⟩
  obtain ⟨e1, he1⟩ : ∃ e1, e1 = wd err errL := ⟨_, rfl⟩
  rw [← hk1] at hk HW
  rw [← he1] at he
  have HBASE : Hid (baseB sk who err = k1 ++ sp ++ ⟨#[108, 111, 115, 116]⟩ ++ sp ++ e1) := Lib.hid (by unfold baseB; rw [if_pos (by omega), hk1, he1])
  have HLINE : Hid (lineB sk who err rerr val yes rn en = baseB sk who err) := Lib.hid (if_neg (by rintro ⟨h1, h2 | h2⟩ <;> (try omega) <;> (first | (have := h2.2; contradiction) | omega)))
  have s0 : ¬ 9223372036854775807 < k1.size + 1 := by omega
  have s1 : ¬ 9223372036854775807 < k1.size + 1 + 4 := by omega
  have s2 : ¬ 9223372036854775807 < k1.size + 1 + 4 + 1 := by omega
  have s3 : ¬ 9223372036854775807 < k1.size + 1 + 4 + 1 + e1.size := by omega
  have HWR := Lib.hid (fun X => rwrong_any err X)
  simp only [← he1] at HWR
  clear hk1 he1 hA hB hstr hk he hsk
  go_enter Tryd.func6, Tryd.ntmps6
  go_wp2_with fail
  refine HW.out.mono ?_
  rintro x w1 ⟨rfl, rfl⟩
  go_wp2_with fail
  refine (HWR.out _).mono ?_
  rintro x w3 ⟨rfl, hb3⟩
  have HB3 := Lib.hid (bl HB0.out hb3)
  have HA := Lib.hid ((hb3.block _ (lt_of_some HA.out)).trans HA.out)
  have HBB := Lib.hid ((hb3.block _ (lt_of_some HBB.out)).trans HBB.out)
  have HT3 := Lib.hid (HT0.out.below hb3)
  clear hb3
  have a0 := cell_at HA.out 0
  have a1 := cell_at HA.out 1
  have b0 := cell_at HBB.out 0
  have b1 := cell_at HBB.out 1
  have b2 := cell_at HBB.out 2
  have b3 := cell_at HBB.out 3
  have b4 := cell_at HBB.out 4
  have b5 := cell_at HBB.out 5
  go_wp2_with fail
  go_ret
  exact ⟨by rw [HLINE.out, HBASE.out]; rfl, HB3.out⟩
set_option maxRecDepth 100000 in
set_option maxHeartbeats 4000000 in
theorem rline_x_z (sk who xk : Int) (xkey xval : ByteArray) (keep torn part err rerr : Int) (val : ByteArray) (yes : Bool) (rn : Int) (en : Bool) (w : World) (htab : Tab w) (hwho : -9223372036854775808 ≤ who ∧ who ≤ 9223372036854775807) (hrn : -9223372036854775808 ≤ rn ∧ rn ≤ 9223372036854775807) (hval : val.size ≤ 1000000) (hsk : (sk ≠ 2 ∧ sk ≠ 3 ∧ sk ≠ 4) ∧ err = 0) : Calls Tryd.prog 6 #[.agg #[.int .i64 sk, .int .i64 who, .int .i64 xk, .string xkey, .string xval, .int .u64 keep, .int .i64 torn, .int .i64 part], .agg #[.int .i64 err, .int .i64 rerr, .string val, .bool yes, .int .i64 rn, .bool en]] w fun x w' => x = .returned (.string (lineB sk who err rerr val yes rn en)) ∧ Below w.heap.size w w' := by
  have t3 : (sk == 3) = false := beq_eq_false_iff_ne.2 (by omega)
  have t3' : decide (sk = 3) = false := decide_eq_false (by omega)
  have t2 : (sk == 2) = false := beq_eq_false_iff_ne.2 (by omega)
  have t2' : decide (sk = 2) = false := decide_eq_false (by omega)
  have t4 : (sk == 4) = false := beq_eq_false_iff_ne.2 (by omega)
  have t4' : decide (sk = 4) = false := decide_eq_false (by omega)
  have te : (err != 0) = false := by rw [bne_eq_false_iff_eq]; omega
  have te' : (err == 0) = true := beq_iff_eq.2 (by omega)
  have hk := kind_len sk
  have he := err_len err
  have hstr : StrsAt (((w.alloc (.cells #[.int .i64 sk, .int .i64 who, .int .i64 xk, .string xkey, .string xval, .int .u64 keep, .int .i64 torn, .int .i64 part] 26 (0, 0))).alloc (.cells #[.int .i64 err, .int .i64 rerr, .string val, .bool yes, .int .i64 rn, .bool en] 31 (0, 0))).alloc (.cells (kindL.map Value.string).toArray 9 (0, 0))) (w.heap.size + 2) kindL := by have := strs_new ((w.alloc (.cells #[.int .i64 sk, .int .i64 who, .int .i64 xk, .string xkey, .string xval, .int .u64 keep, .int .i64 torn, .int .i64 part] 26 (0, 0))).alloc (.cells #[.int .i64 err, .int .i64 rerr, .string val, .bool yes, .int .i64 rn, .bool en] 31 (0, 0))) kindL; rwa [World.size_alloc, World.size_alloc] at this
  have HW := Lib.hid (rword_any sk (w.heap.size + 2) kindL _ hstr)
  obtain ⟨hA, hB⟩ := new3 w (.cells #[.int .i64 sk, .int .i64 who, .int .i64 xk, .string xkey, .string xval, .int .u64 keep, .int .i64 torn, .int .i64 part] 26 (0, 0)) (.cells #[.int .i64 err, .int .i64 rerr, .string val, .bool yes, .int .i64 rn, .bool en] 31 (0, 0)) (.cells (kindL.map Value.string).toArray 9 (0, 0))
  have HT0 := Lib.hid (htab.below (below_al (below_al (below_al (Below.refl _ w) (.cells #[.int .i64 sk, .int .i64 who, .int .i64 xk, .string xkey, .string xval, .int .u64 keep, .int .i64 torn, .int .i64 part] 26 (0, 0))) (.cells #[.int .i64 err, .int .i64 rerr, .string val, .bool yes, .int .i64 rn, .bool en] 31 (0, 0))) (.cells (kindL.map Value.string).toArray 9 (0, 0))))
  have HB0 := Lib.hid (below_al (below_al (below_al (Below.refl _ w) (.cells #[.int .i64 sk, .int .i64 who, .int .i64 xk, .string xkey, .string xval, .int .u64 keep, .int .i64 torn, .int .i64 part] 26 (0, 0))) (.cells #[.int .i64 err, .int .i64 rerr, .string val, .bool yes, .int .i64 rn, .bool en] 31 (0, 0))) (.cells (kindL.map Value.string).toArray 9 (0, 0)))
  have HA := Lib.hid hA
  have HBB := Lib.hid hB
  obtain ⟨k1, hk1⟩ : ∃ k1, k1 = wd sk kindL := ⟨_, rfl⟩
  obtain ⟨e1, he1⟩ : ∃ e1, e1 = wd err errL := ⟨_, rfl⟩
  rw [← hk1] at hk HW
  rw [← he1] at he
  have hd0 := dig_len who hwho.1 hwho.2
  obtain ⟨d0, hde⟩ : ∃ d0, d0 = dig who := ⟨_, rfl⟩
  rw [← hde] at hd0
  have HBASE : Hid (baseB sk who err = k1 ++ sp ++ d0 ++ sp ++ e1) := Lib.hid (by unfold baseB; rw [if_neg (by omega), hk1, he1, hde])
  have HLINE : Hid (lineB sk who err rerr val yes rn en = baseB sk who err) := Lib.hid (if_neg (by rintro ⟨h1, h2 | h2⟩ <;> (try omega) <;> (first | (have := h2.2; contradiction) | omega)))
  have s0 : ¬ 9223372036854775807 < k1.size + 1 := by omega
  have s1 : ¬ 9223372036854775807 < k1.size + 1 + d0.size := by omega
  have s2 : ¬ 9223372036854775807 < k1.size + 1 + d0.size + 1 := by omega
  have s3 : ¬ 9223372036854775807 < k1.size + 1 + d0.size + 1 + e1.size := by omega
  have HWR := Lib.hid (fun X => rwrong_any err X)
  simp only [← he1] at HWR
  have HD0 := Lib.hid (fun X (hX : Tab X) => digits_any who X hwho.1 hwho.2)
  simp only [← hde] at HD0
  clear hk1 he1 hA hB hstr hk he hde hd0 hsk
  go_enter Tryd.func6, Tryd.ntmps6
  go_wp2_with fail
  refine HW.out.mono ?_
  rintro x w1 ⟨rfl, rfl⟩
  go_wp2_with fail
  refine (HD0.out _ HT0.out).mono ?_
  rintro x w2 ⟨rfl, hb2⟩
  have HB2 := Lib.hid (bl HB0.out hb2)
  have HA := Lib.hid ((hb2.block _ (lt_of_some HA.out)).trans HA.out)
  have HBB := Lib.hid ((hb2.block _ (lt_of_some HBB.out)).trans HBB.out)
  have HT2 := Lib.hid (HT0.out.below hb2)
  clear hb2
  have a0 := cell_at HA.out 0
  have a1 := cell_at HA.out 1
  have b0 := cell_at HBB.out 0
  have b1 := cell_at HBB.out 1
  have b2 := cell_at HBB.out 2
  have b3 := cell_at HBB.out 3
  have b4 := cell_at HBB.out 4
  have b5 := cell_at HBB.out 5
  go_wp2_with fail
  refine (HWR.out _).mono ?_
  rintro x w3 ⟨rfl, hb3⟩
  have HB3 := Lib.hid (bl HB2.out hb3)
  have HA := Lib.hid ((hb3.block _ (lt_of_some HA.out)).trans HA.out)
  have HBB := Lib.hid ((hb3.block _ (lt_of_some HBB.out)).trans HBB.out)
  have HT3 := Lib.hid (HT2.out.below hb3)
  clear hb3 a0 a1 b0 b1 b2 b3 b4 b5
  have a0 := cell_at HA.out 0
  have a1 := cell_at HA.out 1
  have b0 := cell_at HBB.out 0
  have b1 := cell_at HBB.out 1
  have b2 := cell_at HBB.out 2
  have b3 := cell_at HBB.out 3
  have b4 := cell_at HBB.out 4
  have b5 := cell_at HBB.out 5
  go_wp2_with fail
  go_ret
  exact ⟨by rw [HLINE.out, HBASE.out]; rfl, HB3.out⟩
set_option maxRecDepth 100000 in
set_option maxHeartbeats 4000000 in
theorem rline_x_n (sk who xk : Int) (xkey xval : ByteArray) (keep torn part err rerr : Int) (val : ByteArray) (yes : Bool) (rn : Int) (en : Bool) (w : World) (htab : Tab w) (hwho : -9223372036854775808 ≤ who ∧ who ≤ 9223372036854775807) (hrn : -9223372036854775808 ≤ rn ∧ rn ≤ 9223372036854775807) (hval : val.size ≤ 1000000) (hsk : (sk ≠ 2 ∧ sk ≠ 3 ∧ sk ≠ 4) ∧ err ≠ 0) : Calls Tryd.prog 6 #[.agg #[.int .i64 sk, .int .i64 who, .int .i64 xk, .string xkey, .string xval, .int .u64 keep, .int .i64 torn, .int .i64 part], .agg #[.int .i64 err, .int .i64 rerr, .string val, .bool yes, .int .i64 rn, .bool en]] w fun x w' => x = .returned (.string (lineB sk who err rerr val yes rn en)) ∧ Below w.heap.size w w' := by
  have t3 : (sk == 3) = false := beq_eq_false_iff_ne.2 (by omega)
  have t3' : decide (sk = 3) = false := decide_eq_false (by omega)
  have t2 : (sk == 2) = false := beq_eq_false_iff_ne.2 (by omega)
  have t2' : decide (sk = 2) = false := decide_eq_false (by omega)
  have t4 : (sk == 4) = false := beq_eq_false_iff_ne.2 (by omega)
  have t4' : decide (sk = 4) = false := decide_eq_false (by omega)
  have te : (err != 0) = true := bne_iff_ne.2 (by omega)
  have te' : (err == 0) = false := beq_eq_false_iff_ne.2 (by omega)
  have hk := kind_len sk
  have he := err_len err
  have hstr : StrsAt (((w.alloc (.cells #[.int .i64 sk, .int .i64 who, .int .i64 xk, .string xkey, .string xval, .int .u64 keep, .int .i64 torn, .int .i64 part] 26 (0, 0))).alloc (.cells #[.int .i64 err, .int .i64 rerr, .string val, .bool yes, .int .i64 rn, .bool en] 31 (0, 0))).alloc (.cells (kindL.map Value.string).toArray 9 (0, 0))) (w.heap.size + 2) kindL := by have := strs_new ((w.alloc (.cells #[.int .i64 sk, .int .i64 who, .int .i64 xk, .string xkey, .string xval, .int .u64 keep, .int .i64 torn, .int .i64 part] 26 (0, 0))).alloc (.cells #[.int .i64 err, .int .i64 rerr, .string val, .bool yes, .int .i64 rn, .bool en] 31 (0, 0))) kindL; rwa [World.size_alloc, World.size_alloc] at this
  have HW := Lib.hid (rword_any sk (w.heap.size + 2) kindL _ hstr)
  obtain ⟨hA, hB⟩ := new3 w (.cells #[.int .i64 sk, .int .i64 who, .int .i64 xk, .string xkey, .string xval, .int .u64 keep, .int .i64 torn, .int .i64 part] 26 (0, 0)) (.cells #[.int .i64 err, .int .i64 rerr, .string val, .bool yes, .int .i64 rn, .bool en] 31 (0, 0)) (.cells (kindL.map Value.string).toArray 9 (0, 0))
  have HT0 := Lib.hid (htab.below (below_al (below_al (below_al (Below.refl _ w) (.cells #[.int .i64 sk, .int .i64 who, .int .i64 xk, .string xkey, .string xval, .int .u64 keep, .int .i64 torn, .int .i64 part] 26 (0, 0))) (.cells #[.int .i64 err, .int .i64 rerr, .string val, .bool yes, .int .i64 rn, .bool en] 31 (0, 0))) (.cells (kindL.map Value.string).toArray 9 (0, 0))))
  have HB0 := Lib.hid (below_al (below_al (below_al (Below.refl _ w) (.cells #[.int .i64 sk, .int .i64 who, .int .i64 xk, .string xkey, .string xval, .int .u64 keep, .int .i64 torn, .int .i64 part] 26 (0, 0))) (.cells #[.int .i64 err, .int .i64 rerr, .string val, .bool yes, .int .i64 rn, .bool en] 31 (0, 0))) (.cells (kindL.map Value.string).toArray 9 (0, 0)))
  have HA := Lib.hid hA
  have HBB := Lib.hid hB
  obtain ⟨k1, hk1⟩ : ∃ k1, k1 = wd sk kindL := ⟨_, rfl⟩
  obtain ⟨e1, he1⟩ : ∃ e1, e1 = wd err errL := ⟨_, rfl⟩
  rw [← hk1] at hk HW
  rw [← he1] at he
  have hd0 := dig_len who hwho.1 hwho.2
  obtain ⟨d0, hde⟩ : ∃ d0, d0 = dig who := ⟨_, rfl⟩
  rw [← hde] at hd0
  have HBASE : Hid (baseB sk who err = k1 ++ sp ++ d0 ++ sp ++ e1) := Lib.hid (by unfold baseB; rw [if_neg (by omega), hk1, he1, hde])
  have HLINE : Hid (lineB sk who err rerr val yes rn en = baseB sk who err) := Lib.hid (if_neg (by rintro ⟨h1, h2 | h2⟩ <;> (try omega) <;> (first | (have := h2.2; contradiction) | omega)))
  have s0 : ¬ 9223372036854775807 < k1.size + 1 := by omega
  have s1 : ¬ 9223372036854775807 < k1.size + 1 + d0.size := by omega
  have s2 : ¬ 9223372036854775807 < k1.size + 1 + d0.size + 1 := by omega
  have s3 : ¬ 9223372036854775807 < k1.size + 1 + d0.size + 1 + e1.size := by omega
  have HWR := Lib.hid (fun X => rwrong_any err X)
  simp only [← he1] at HWR
  have HD0 := Lib.hid (fun X (hX : Tab X) => digits_any who X hwho.1 hwho.2)
  simp only [← hde] at HD0
  clear hk1 he1 hA hB hstr hk he hde hd0 hsk
  go_enter Tryd.func6, Tryd.ntmps6
  go_wp2_with fail
  refine HW.out.mono ?_
  rintro x w1 ⟨rfl, rfl⟩
  go_wp2_with fail
  refine (HD0.out _ HT0.out).mono ?_
  rintro x w2 ⟨rfl, hb2⟩
  have HB2 := Lib.hid (bl HB0.out hb2)
  have HA := Lib.hid ((hb2.block _ (lt_of_some HA.out)).trans HA.out)
  have HBB := Lib.hid ((hb2.block _ (lt_of_some HBB.out)).trans HBB.out)
  have HT2 := Lib.hid (HT0.out.below hb2)
  clear hb2
  have a0 := cell_at HA.out 0
  have a1 := cell_at HA.out 1
  have b0 := cell_at HBB.out 0
  have b1 := cell_at HBB.out 1
  have b2 := cell_at HBB.out 2
  have b3 := cell_at HBB.out 3
  have b4 := cell_at HBB.out 4
  have b5 := cell_at HBB.out 5
  go_wp2_with fail
  refine (HWR.out _).mono ?_
  rintro x w3 ⟨rfl, hb3⟩
  have HB3 := Lib.hid (bl HB2.out hb3)
  have HA := Lib.hid ((hb3.block _ (lt_of_some HA.out)).trans HA.out)
  have HBB := Lib.hid ((hb3.block _ (lt_of_some HBB.out)).trans HBB.out)
  have HT3 := Lib.hid (HT2.out.below hb3)
  clear hb3 a0 a1 b0 b1 b2 b3 b4 b5
  have a0 := cell_at HA.out 0
  have a1 := cell_at HA.out 1
  have b0 := cell_at HBB.out 0
  have b1 := cell_at HBB.out 1
  have b2 := cell_at HBB.out 2
  have b3 := cell_at HBB.out 3
  have b4 := cell_at HBB.out 4
  have b5 := cell_at HBB.out 5
  go_wp2_with fail
  go_ret
  exact ⟨by rw [HLINE.out, HBASE.out]; rfl, HB3.out⟩
set_option maxRecDepth 100000 in
set_option maxHeartbeats 4000000 in
theorem rline_2_zf (sk who xk : Int) (xkey xval : ByteArray) (keep torn part err rerr : Int) (val : ByteArray) (yes : Bool) (rn : Int) (en : Bool) (w : World) (htab : Tab w) (hwho : -9223372036854775808 ≤ who ∧ who ≤ 9223372036854775807) (hrn : -9223372036854775808 ≤ rn ∧ rn ≤ 9223372036854775807) (hval : val.size ≤ 1000000) (hsk : (sk = 2) ∧ err = 0) : Calls Tryd.prog 6 #[.agg #[.int .i64 sk, .int .i64 who, .int .i64 xk, .string xkey, .string xval, .int .u64 keep, .int .i64 torn, .int .i64 part], .agg #[.int .i64 err, .int .i64 rerr, .string val, .bool yes, .int .i64 rn, .bool false]] w fun x w' => x = .returned (.string (lineB sk who err rerr val yes rn false)) ∧ Below w.heap.size w w' := by
  have t3 : (sk == 3) = false := beq_eq_false_iff_ne.2 (by omega)
  have t3' : decide (sk = 3) = false := decide_eq_false (by omega)
  have t2 : (sk == 2) = true := beq_iff_eq.2 (by omega)
  have t2' : decide (sk = 2) = true := decide_eq_true (by omega)
  have t4 : (sk == 4) = false := beq_eq_false_iff_ne.2 (by omega)
  have t4' : decide (sk = 4) = false := decide_eq_false (by omega)
  have te : (err != 0) = false := by rw [bne_eq_false_iff_eq]; omega
  have te' : (err == 0) = true := beq_iff_eq.2 (by omega)
  have hk := kind_len sk
  have he := err_len err
  have hstr : StrsAt (((w.alloc (.cells #[.int .i64 sk, .int .i64 who, .int .i64 xk, .string xkey, .string xval, .int .u64 keep, .int .i64 torn, .int .i64 part] 26 (0, 0))).alloc (.cells #[.int .i64 err, .int .i64 rerr, .string val, .bool yes, .int .i64 rn, .bool false] 31 (0, 0))).alloc (.cells (kindL.map Value.string).toArray 9 (0, 0))) (w.heap.size + 2) kindL := by have := strs_new ((w.alloc (.cells #[.int .i64 sk, .int .i64 who, .int .i64 xk, .string xkey, .string xval, .int .u64 keep, .int .i64 torn, .int .i64 part] 26 (0, 0))).alloc (.cells #[.int .i64 err, .int .i64 rerr, .string val, .bool yes, .int .i64 rn, .bool false] 31 (0, 0))) kindL; rwa [World.size_alloc, World.size_alloc] at this
  have HW := Lib.hid (rword_any sk (w.heap.size + 2) kindL _ hstr)
  obtain ⟨hA, hB⟩ := new3 w (.cells #[.int .i64 sk, .int .i64 who, .int .i64 xk, .string xkey, .string xval, .int .u64 keep, .int .i64 torn, .int .i64 part] 26 (0, 0)) (.cells #[.int .i64 err, .int .i64 rerr, .string val, .bool yes, .int .i64 rn, .bool false] 31 (0, 0)) (.cells (kindL.map Value.string).toArray 9 (0, 0))
  have HT0 := Lib.hid (htab.below (below_al (below_al (below_al (Below.refl _ w) (.cells #[.int .i64 sk, .int .i64 who, .int .i64 xk, .string xkey, .string xval, .int .u64 keep, .int .i64 torn, .int .i64 part] 26 (0, 0))) (.cells #[.int .i64 err, .int .i64 rerr, .string val, .bool yes, .int .i64 rn, .bool false] 31 (0, 0))) (.cells (kindL.map Value.string).toArray 9 (0, 0))))
  have HB0 := Lib.hid (below_al (below_al (below_al (Below.refl _ w) (.cells #[.int .i64 sk, .int .i64 who, .int .i64 xk, .string xkey, .string xval, .int .u64 keep, .int .i64 torn, .int .i64 part] 26 (0, 0))) (.cells #[.int .i64 err, .int .i64 rerr, .string val, .bool yes, .int .i64 rn, .bool false] 31 (0, 0))) (.cells (kindL.map Value.string).toArray 9 (0, 0)))
  have HA := Lib.hid hA
  have HBB := Lib.hid hB
  obtain ⟨k1, hk1⟩ : ∃ k1, k1 = wd sk kindL := ⟨_, rfl⟩
  obtain ⟨e1, he1⟩ : ∃ e1, e1 = wd err errL := ⟨_, rfl⟩
  rw [← hk1] at hk HW
  rw [← he1] at he
  have hd0 := dig_len who hwho.1 hwho.2
  obtain ⟨d0, hde⟩ : ∃ d0, d0 = dig who := ⟨_, rfl⟩
  rw [← hde] at hd0
  have HBASE : Hid (baseB sk who err = k1 ++ sp ++ d0 ++ sp ++ e1) := Lib.hid (by unfold baseB; rw [if_neg (by omega), hk1, he1, hde])
  have HLINE : Hid (lineB sk who err rerr val yes rn false = baseB sk who err) := Lib.hid (if_neg (by rintro ⟨h1, h2 | h2⟩ <;> (try omega) <;> (first | (have := h2.2; contradiction) | omega)))
  have s0 : ¬ 9223372036854775807 < k1.size + 1 := by omega
  have s1 : ¬ 9223372036854775807 < k1.size + 1 + d0.size := by omega
  have s2 : ¬ 9223372036854775807 < k1.size + 1 + d0.size + 1 := by omega
  have s3 : ¬ 9223372036854775807 < k1.size + 1 + d0.size + 1 + e1.size := by omega
  have HWR := Lib.hid (fun X => rwrong_any err X)
  simp only [← he1] at HWR
  have HD0 := Lib.hid (fun X (hX : Tab X) => digits_any who X hwho.1 hwho.2)
  simp only [← hde] at HD0
  clear hk1 he1 hA hB hstr hk he hde hd0 hsk
  go_enter Tryd.func6, Tryd.ntmps6
  go_wp2_with fail
  refine HW.out.mono ?_
  rintro x w1 ⟨rfl, rfl⟩
  go_wp2_with fail
  refine (HD0.out _ HT0.out).mono ?_
  rintro x w2 ⟨rfl, hb2⟩
  have HB2 := Lib.hid (bl HB0.out hb2)
  have HA := Lib.hid ((hb2.block _ (lt_of_some HA.out)).trans HA.out)
  have HBB := Lib.hid ((hb2.block _ (lt_of_some HBB.out)).trans HBB.out)
  have HT2 := Lib.hid (HT0.out.below hb2)
  clear hb2
  have a0 := cell_at HA.out 0
  have a1 := cell_at HA.out 1
  have b0 := cell_at HBB.out 0
  have b1 := cell_at HBB.out 1
  have b2 := cell_at HBB.out 2
  have b3 := cell_at HBB.out 3
  have b4 := cell_at HBB.out 4
  have b5 := cell_at HBB.out 5
  go_wp2_with fail
  refine (HWR.out _).mono ?_
  rintro x w3 ⟨rfl, hb3⟩
  have HB3 := Lib.hid (bl HB2.out hb3)
  have HA := Lib.hid ((hb3.block _ (lt_of_some HA.out)).trans HA.out)
  have HBB := Lib.hid ((hb3.block _ (lt_of_some HBB.out)).trans HBB.out)
  have HT3 := Lib.hid (HT2.out.below hb3)
  clear hb3 a0 a1 b0 b1 b2 b3 b4 b5
  have a0 := cell_at HA.out 0
  have a1 := cell_at HA.out 1
  have b0 := cell_at HBB.out 0
  have b1 := cell_at HBB.out 1
  have b2 := cell_at HBB.out 2
  have b3 := cell_at HBB.out 3
  have b4 := cell_at HBB.out 4
  have b5 := cell_at HBB.out 5
  go_wp2_with fail
  go_ret
  exact ⟨by rw [HLINE.out, HBASE.out]; rfl, HB3.out⟩
set_option maxRecDepth 100000 in
set_option maxHeartbeats 4000000 in
theorem rline_2_nf (sk who xk : Int) (xkey xval : ByteArray) (keep torn part err rerr : Int) (val : ByteArray) (yes : Bool) (rn : Int) (en : Bool) (w : World) (htab : Tab w) (hwho : -9223372036854775808 ≤ who ∧ who ≤ 9223372036854775807) (hrn : -9223372036854775808 ≤ rn ∧ rn ≤ 9223372036854775807) (hval : val.size ≤ 1000000) (hsk : (sk = 2) ∧ err ≠ 0) : Calls Tryd.prog 6 #[.agg #[.int .i64 sk, .int .i64 who, .int .i64 xk, .string xkey, .string xval, .int .u64 keep, .int .i64 torn, .int .i64 part], .agg #[.int .i64 err, .int .i64 rerr, .string val, .bool yes, .int .i64 rn, .bool false]] w fun x w' => x = .returned (.string (lineB sk who err rerr val yes rn false)) ∧ Below w.heap.size w w' := by
  have t3 : (sk == 3) = false := beq_eq_false_iff_ne.2 (by omega)
  have t3' : decide (sk = 3) = false := decide_eq_false (by omega)
  have t2 : (sk == 2) = true := beq_iff_eq.2 (by omega)
  have t2' : decide (sk = 2) = true := decide_eq_true (by omega)
  have t4 : (sk == 4) = false := beq_eq_false_iff_ne.2 (by omega)
  have t4' : decide (sk = 4) = false := decide_eq_false (by omega)
  have te : (err != 0) = true := bne_iff_ne.2 (by omega)
  have te' : (err == 0) = false := beq_eq_false_iff_ne.2 (by omega)
  have hk := kind_len sk
  have he := err_len err
  have hstr : StrsAt (((w.alloc (.cells #[.int .i64 sk, .int .i64 who, .int .i64 xk, .string xkey, .string xval, .int .u64 keep, .int .i64 torn, .int .i64 part] 26 (0, 0))).alloc (.cells #[.int .i64 err, .int .i64 rerr, .string val, .bool yes, .int .i64 rn, .bool false] 31 (0, 0))).alloc (.cells (kindL.map Value.string).toArray 9 (0, 0))) (w.heap.size + 2) kindL := by have := strs_new ((w.alloc (.cells #[.int .i64 sk, .int .i64 who, .int .i64 xk, .string xkey, .string xval, .int .u64 keep, .int .i64 torn, .int .i64 part] 26 (0, 0))).alloc (.cells #[.int .i64 err, .int .i64 rerr, .string val, .bool yes, .int .i64 rn, .bool false] 31 (0, 0))) kindL; rwa [World.size_alloc, World.size_alloc] at this
  have HW := Lib.hid (rword_any sk (w.heap.size + 2) kindL _ hstr)
  obtain ⟨hA, hB⟩ := new3 w (.cells #[.int .i64 sk, .int .i64 who, .int .i64 xk, .string xkey, .string xval, .int .u64 keep, .int .i64 torn, .int .i64 part] 26 (0, 0)) (.cells #[.int .i64 err, .int .i64 rerr, .string val, .bool yes, .int .i64 rn, .bool false] 31 (0, 0)) (.cells (kindL.map Value.string).toArray 9 (0, 0))
  have HT0 := Lib.hid (htab.below (below_al (below_al (below_al (Below.refl _ w) (.cells #[.int .i64 sk, .int .i64 who, .int .i64 xk, .string xkey, .string xval, .int .u64 keep, .int .i64 torn, .int .i64 part] 26 (0, 0))) (.cells #[.int .i64 err, .int .i64 rerr, .string val, .bool yes, .int .i64 rn, .bool false] 31 (0, 0))) (.cells (kindL.map Value.string).toArray 9 (0, 0))))
  have HB0 := Lib.hid (below_al (below_al (below_al (Below.refl _ w) (.cells #[.int .i64 sk, .int .i64 who, .int .i64 xk, .string xkey, .string xval, .int .u64 keep, .int .i64 torn, .int .i64 part] 26 (0, 0))) (.cells #[.int .i64 err, .int .i64 rerr, .string val, .bool yes, .int .i64 rn, .bool false] 31 (0, 0))) (.cells (kindL.map Value.string).toArray 9 (0, 0)))
  have HA := Lib.hid hA
  have HBB := Lib.hid hB
  obtain ⟨k1, hk1⟩ : ∃ k1, k1 = wd sk kindL := ⟨_, rfl⟩
  obtain ⟨e1, he1⟩ : ∃ e1, e1 = wd err errL := ⟨_, rfl⟩
  rw [← hk1] at hk HW
  rw [← he1] at he
  have hd0 := dig_len who hwho.1 hwho.2
  obtain ⟨d0, hde⟩ : ∃ d0, d0 = dig who := ⟨_, rfl⟩
  rw [← hde] at hd0
  have HBASE : Hid (baseB sk who err = k1 ++ sp ++ d0 ++ sp ++ e1) := Lib.hid (by unfold baseB; rw [if_neg (by omega), hk1, he1, hde])
  have HLINE : Hid (lineB sk who err rerr val yes rn false = baseB sk who err) := Lib.hid (if_neg (by rintro ⟨h1, h2 | h2⟩ <;> (try omega) <;> (first | (have := h2.2; contradiction) | omega)))
  have s0 : ¬ 9223372036854775807 < k1.size + 1 := by omega
  have s1 : ¬ 9223372036854775807 < k1.size + 1 + d0.size := by omega
  have s2 : ¬ 9223372036854775807 < k1.size + 1 + d0.size + 1 := by omega
  have s3 : ¬ 9223372036854775807 < k1.size + 1 + d0.size + 1 + e1.size := by omega
  have HWR := Lib.hid (fun X => rwrong_any err X)
  simp only [← he1] at HWR
  have HD0 := Lib.hid (fun X (hX : Tab X) => digits_any who X hwho.1 hwho.2)
  simp only [← hde] at HD0
  clear hk1 he1 hA hB hstr hk he hde hd0 hsk
  go_enter Tryd.func6, Tryd.ntmps6
  go_wp2_with fail
  refine HW.out.mono ?_
  rintro x w1 ⟨rfl, rfl⟩
  go_wp2_with fail
  refine (HD0.out _ HT0.out).mono ?_
  rintro x w2 ⟨rfl, hb2⟩
  have HB2 := Lib.hid (bl HB0.out hb2)
  have HA := Lib.hid ((hb2.block _ (lt_of_some HA.out)).trans HA.out)
  have HBB := Lib.hid ((hb2.block _ (lt_of_some HBB.out)).trans HBB.out)
  have HT2 := Lib.hid (HT0.out.below hb2)
  clear hb2
  have a0 := cell_at HA.out 0
  have a1 := cell_at HA.out 1
  have b0 := cell_at HBB.out 0
  have b1 := cell_at HBB.out 1
  have b2 := cell_at HBB.out 2
  have b3 := cell_at HBB.out 3
  have b4 := cell_at HBB.out 4
  have b5 := cell_at HBB.out 5
  go_wp2_with fail
  refine (HWR.out _).mono ?_
  rintro x w3 ⟨rfl, hb3⟩
  have HB3 := Lib.hid (bl HB2.out hb3)
  have HA := Lib.hid ((hb3.block _ (lt_of_some HA.out)).trans HA.out)
  have HBB := Lib.hid ((hb3.block _ (lt_of_some HBB.out)).trans HBB.out)
  have HT3 := Lib.hid (HT2.out.below hb3)
  clear hb3 a0 a1 b0 b1 b2 b3 b4 b5
  have a0 := cell_at HA.out 0
  have a1 := cell_at HA.out 1
  have b0 := cell_at HBB.out 0
  have b1 := cell_at HBB.out 1
  have b2 := cell_at HBB.out 2
  have b3 := cell_at HBB.out 3
  have b4 := cell_at HBB.out 4
  have b5 := cell_at HBB.out 5
  go_wp2_with fail
  go_ret
  exact ⟨by rw [HLINE.out, HBASE.out]; rfl, HB3.out⟩
set_option maxRecDepth 100000 in
set_option maxHeartbeats 4000000 in
theorem rline_2_nt (sk who xk : Int) (xkey xval : ByteArray) (keep torn part err rerr : Int) (val : ByteArray) (yes : Bool) (rn : Int) (en : Bool) (w : World) (htab : Tab w) (hwho : -9223372036854775808 ≤ who ∧ who ≤ 9223372036854775807) (hrn : -9223372036854775808 ≤ rn ∧ rn ≤ 9223372036854775807) (hval : val.size ≤ 1000000) (hsk : (sk = 2) ∧ err ≠ 0) : Calls Tryd.prog 6 #[.agg #[.int .i64 sk, .int .i64 who, .int .i64 xk, .string xkey, .string xval, .int .u64 keep, .int .i64 torn, .int .i64 part], .agg #[.int .i64 err, .int .i64 rerr, .string val, .bool yes, .int .i64 rn, .bool true]] w fun x w' => x = .returned (.string (lineB sk who err rerr val yes rn true)) ∧ Below w.heap.size w w' := by
  have t3 : (sk == 3) = false := beq_eq_false_iff_ne.2 (by omega)
  have t3' : decide (sk = 3) = false := decide_eq_false (by omega)
  have t2 : (sk == 2) = true := beq_iff_eq.2 (by omega)
  have t2' : decide (sk = 2) = true := decide_eq_true (by omega)
  have t4 : (sk == 4) = false := beq_eq_false_iff_ne.2 (by omega)
  have t4' : decide (sk = 4) = false := decide_eq_false (by omega)
  have te : (err != 0) = true := bne_iff_ne.2 (by omega)
  have te' : (err == 0) = false := beq_eq_false_iff_ne.2 (by omega)
  have hk := kind_len sk
  have he := err_len err
  have hstr : StrsAt (((w.alloc (.cells #[.int .i64 sk, .int .i64 who, .int .i64 xk, .string xkey, .string xval, .int .u64 keep, .int .i64 torn, .int .i64 part] 26 (0, 0))).alloc (.cells #[.int .i64 err, .int .i64 rerr, .string val, .bool yes, .int .i64 rn, .bool true] 31 (0, 0))).alloc (.cells (kindL.map Value.string).toArray 9 (0, 0))) (w.heap.size + 2) kindL := by have := strs_new ((w.alloc (.cells #[.int .i64 sk, .int .i64 who, .int .i64 xk, .string xkey, .string xval, .int .u64 keep, .int .i64 torn, .int .i64 part] 26 (0, 0))).alloc (.cells #[.int .i64 err, .int .i64 rerr, .string val, .bool yes, .int .i64 rn, .bool true] 31 (0, 0))) kindL; rwa [World.size_alloc, World.size_alloc] at this
  have HW := Lib.hid (rword_any sk (w.heap.size + 2) kindL _ hstr)
  obtain ⟨hA, hB⟩ := new3 w (.cells #[.int .i64 sk, .int .i64 who, .int .i64 xk, .string xkey, .string xval, .int .u64 keep, .int .i64 torn, .int .i64 part] 26 (0, 0)) (.cells #[.int .i64 err, .int .i64 rerr, .string val, .bool yes, .int .i64 rn, .bool true] 31 (0, 0)) (.cells (kindL.map Value.string).toArray 9 (0, 0))
  have HT0 := Lib.hid (htab.below (below_al (below_al (below_al (Below.refl _ w) (.cells #[.int .i64 sk, .int .i64 who, .int .i64 xk, .string xkey, .string xval, .int .u64 keep, .int .i64 torn, .int .i64 part] 26 (0, 0))) (.cells #[.int .i64 err, .int .i64 rerr, .string val, .bool yes, .int .i64 rn, .bool true] 31 (0, 0))) (.cells (kindL.map Value.string).toArray 9 (0, 0))))
  have HB0 := Lib.hid (below_al (below_al (below_al (Below.refl _ w) (.cells #[.int .i64 sk, .int .i64 who, .int .i64 xk, .string xkey, .string xval, .int .u64 keep, .int .i64 torn, .int .i64 part] 26 (0, 0))) (.cells #[.int .i64 err, .int .i64 rerr, .string val, .bool yes, .int .i64 rn, .bool true] 31 (0, 0))) (.cells (kindL.map Value.string).toArray 9 (0, 0)))
  have HA := Lib.hid hA
  have HBB := Lib.hid hB
  obtain ⟨k1, hk1⟩ : ∃ k1, k1 = wd sk kindL := ⟨_, rfl⟩
  obtain ⟨e1, he1⟩ : ∃ e1, e1 = wd err errL := ⟨_, rfl⟩
  rw [← hk1] at hk HW
  rw [← he1] at he
  have hd0 := dig_len who hwho.1 hwho.2
  obtain ⟨d0, hde⟩ : ∃ d0, d0 = dig who := ⟨_, rfl⟩
  rw [← hde] at hd0
  have HBASE : Hid (baseB sk who err = k1 ++ sp ++ d0 ++ sp ++ e1) := Lib.hid (by unfold baseB; rw [if_neg (by omega), hk1, he1, hde])
  have HLINE : Hid (lineB sk who err rerr val yes rn true = baseB sk who err) := Lib.hid (if_neg (by rintro ⟨h1, h2 | h2⟩ <;> (try omega) <;> (first | (have := h2.2; contradiction) | omega)))
  have s0 : ¬ 9223372036854775807 < k1.size + 1 := by omega
  have s1 : ¬ 9223372036854775807 < k1.size + 1 + d0.size := by omega
  have s2 : ¬ 9223372036854775807 < k1.size + 1 + d0.size + 1 := by omega
  have s3 : ¬ 9223372036854775807 < k1.size + 1 + d0.size + 1 + e1.size := by omega
  have HWR := Lib.hid (fun X => rwrong_any err X)
  simp only [← he1] at HWR
  have HD0 := Lib.hid (fun X (hX : Tab X) => digits_any who X hwho.1 hwho.2)
  simp only [← hde] at HD0
  clear hk1 he1 hA hB hstr hk he hde hd0 hsk
  go_enter Tryd.func6, Tryd.ntmps6
  go_wp2_with fail
  refine HW.out.mono ?_
  rintro x w1 ⟨rfl, rfl⟩
  go_wp2_with fail
  refine (HD0.out _ HT0.out).mono ?_
  rintro x w2 ⟨rfl, hb2⟩
  have HB2 := Lib.hid (bl HB0.out hb2)
  have HA := Lib.hid ((hb2.block _ (lt_of_some HA.out)).trans HA.out)
  have HBB := Lib.hid ((hb2.block _ (lt_of_some HBB.out)).trans HBB.out)
  have HT2 := Lib.hid (HT0.out.below hb2)
  clear hb2
  have a0 := cell_at HA.out 0
  have a1 := cell_at HA.out 1
  have b0 := cell_at HBB.out 0
  have b1 := cell_at HBB.out 1
  have b2 := cell_at HBB.out 2
  have b3 := cell_at HBB.out 3
  have b4 := cell_at HBB.out 4
  have b5 := cell_at HBB.out 5
  go_wp2_with fail
  refine (HWR.out _).mono ?_
  rintro x w3 ⟨rfl, hb3⟩
  have HB3 := Lib.hid (bl HB2.out hb3)
  have HA := Lib.hid ((hb3.block _ (lt_of_some HA.out)).trans HA.out)
  have HBB := Lib.hid ((hb3.block _ (lt_of_some HBB.out)).trans HBB.out)
  have HT3 := Lib.hid (HT2.out.below hb3)
  clear hb3 a0 a1 b0 b1 b2 b3 b4 b5
  have a0 := cell_at HA.out 0
  have a1 := cell_at HA.out 1
  have b0 := cell_at HBB.out 0
  have b1 := cell_at HBB.out 1
  have b2 := cell_at HBB.out 2
  have b3 := cell_at HBB.out 3
  have b4 := cell_at HBB.out 4
  have b5 := cell_at HBB.out 5
  go_wp2_with fail
  go_ret
  exact ⟨by rw [HLINE.out, HBASE.out]; rfl, HB3.out⟩
set_option maxRecDepth 100000 in
set_option maxHeartbeats 4000000 in
theorem rline_4_n (sk who xk : Int) (xkey xval : ByteArray) (keep torn part err rerr : Int) (val : ByteArray) (yes : Bool) (rn : Int) (en : Bool) (w : World) (htab : Tab w) (hwho : -9223372036854775808 ≤ who ∧ who ≤ 9223372036854775807) (hrn : -9223372036854775808 ≤ rn ∧ rn ≤ 9223372036854775807) (hval : val.size ≤ 1000000) (hsk : (sk = 4) ∧ err ≠ 0) : Calls Tryd.prog 6 #[.agg #[.int .i64 sk, .int .i64 who, .int .i64 xk, .string xkey, .string xval, .int .u64 keep, .int .i64 torn, .int .i64 part], .agg #[.int .i64 err, .int .i64 rerr, .string val, .bool yes, .int .i64 rn, .bool en]] w fun x w' => x = .returned (.string (lineB sk who err rerr val yes rn en)) ∧ Below w.heap.size w w' := by
  have t3 : (sk == 3) = false := beq_eq_false_iff_ne.2 (by omega)
  have t3' : decide (sk = 3) = false := decide_eq_false (by omega)
  have t2 : (sk == 2) = false := beq_eq_false_iff_ne.2 (by omega)
  have t2' : decide (sk = 2) = false := decide_eq_false (by omega)
  have t4 : (sk == 4) = true := beq_iff_eq.2 (by omega)
  have t4' : decide (sk = 4) = true := decide_eq_true (by omega)
  have te : (err != 0) = true := bne_iff_ne.2 (by omega)
  have te' : (err == 0) = false := beq_eq_false_iff_ne.2 (by omega)
  have hk := kind_len sk
  have he := err_len err
  have hstr : StrsAt (((w.alloc (.cells #[.int .i64 sk, .int .i64 who, .int .i64 xk, .string xkey, .string xval, .int .u64 keep, .int .i64 torn, .int .i64 part] 26 (0, 0))).alloc (.cells #[.int .i64 err, .int .i64 rerr, .string val, .bool yes, .int .i64 rn, .bool en] 31 (0, 0))).alloc (.cells (kindL.map Value.string).toArray 9 (0, 0))) (w.heap.size + 2) kindL := by have := strs_new ((w.alloc (.cells #[.int .i64 sk, .int .i64 who, .int .i64 xk, .string xkey, .string xval, .int .u64 keep, .int .i64 torn, .int .i64 part] 26 (0, 0))).alloc (.cells #[.int .i64 err, .int .i64 rerr, .string val, .bool yes, .int .i64 rn, .bool en] 31 (0, 0))) kindL; rwa [World.size_alloc, World.size_alloc] at this
  have HW := Lib.hid (rword_any sk (w.heap.size + 2) kindL _ hstr)
  obtain ⟨hA, hB⟩ := new3 w (.cells #[.int .i64 sk, .int .i64 who, .int .i64 xk, .string xkey, .string xval, .int .u64 keep, .int .i64 torn, .int .i64 part] 26 (0, 0)) (.cells #[.int .i64 err, .int .i64 rerr, .string val, .bool yes, .int .i64 rn, .bool en] 31 (0, 0)) (.cells (kindL.map Value.string).toArray 9 (0, 0))
  have HT0 := Lib.hid (htab.below (below_al (below_al (below_al (Below.refl _ w) (.cells #[.int .i64 sk, .int .i64 who, .int .i64 xk, .string xkey, .string xval, .int .u64 keep, .int .i64 torn, .int .i64 part] 26 (0, 0))) (.cells #[.int .i64 err, .int .i64 rerr, .string val, .bool yes, .int .i64 rn, .bool en] 31 (0, 0))) (.cells (kindL.map Value.string).toArray 9 (0, 0))))
  have HB0 := Lib.hid (below_al (below_al (below_al (Below.refl _ w) (.cells #[.int .i64 sk, .int .i64 who, .int .i64 xk, .string xkey, .string xval, .int .u64 keep, .int .i64 torn, .int .i64 part] 26 (0, 0))) (.cells #[.int .i64 err, .int .i64 rerr, .string val, .bool yes, .int .i64 rn, .bool en] 31 (0, 0))) (.cells (kindL.map Value.string).toArray 9 (0, 0)))
  have HA := Lib.hid hA
  have HBB := Lib.hid hB
  obtain ⟨k1, hk1⟩ : ∃ k1, k1 = wd sk kindL := ⟨_, rfl⟩
  obtain ⟨e1, he1⟩ : ∃ e1, e1 = wd err errL := ⟨_, rfl⟩
  rw [← hk1] at hk HW
  rw [← he1] at he
  have hd0 := dig_len who hwho.1 hwho.2
  obtain ⟨d0, hde⟩ : ∃ d0, d0 = dig who := ⟨_, rfl⟩
  rw [← hde] at hd0
  have HBASE : Hid (baseB sk who err = k1 ++ sp ++ d0 ++ sp ++ e1) := Lib.hid (by unfold baseB; rw [if_neg (by omega), hk1, he1, hde])
  have HLINE : Hid (lineB sk who err rerr val yes rn en = baseB sk who err) := Lib.hid (if_neg (by rintro ⟨h1, h2 | h2⟩ <;> (try omega) <;> (first | (have := h2.2; contradiction) | omega)))
  have s0 : ¬ 9223372036854775807 < k1.size + 1 := by omega
  have s1 : ¬ 9223372036854775807 < k1.size + 1 + d0.size := by omega
  have s2 : ¬ 9223372036854775807 < k1.size + 1 + d0.size + 1 := by omega
  have s3 : ¬ 9223372036854775807 < k1.size + 1 + d0.size + 1 + e1.size := by omega
  have HWR := Lib.hid (fun X => rwrong_any err X)
  simp only [← he1] at HWR
  have HD0 := Lib.hid (fun X (hX : Tab X) => digits_any who X hwho.1 hwho.2)
  simp only [← hde] at HD0
  clear hk1 he1 hA hB hstr hk he hde hd0 hsk
  go_enter Tryd.func6, Tryd.ntmps6
  go_wp2_with fail
  refine HW.out.mono ?_
  rintro x w1 ⟨rfl, rfl⟩
  go_wp2_with fail
  refine (HD0.out _ HT0.out).mono ?_
  rintro x w2 ⟨rfl, hb2⟩
  have HB2 := Lib.hid (bl HB0.out hb2)
  have HA := Lib.hid ((hb2.block _ (lt_of_some HA.out)).trans HA.out)
  have HBB := Lib.hid ((hb2.block _ (lt_of_some HBB.out)).trans HBB.out)
  have HT2 := Lib.hid (HT0.out.below hb2)
  clear hb2
  have a0 := cell_at HA.out 0
  have a1 := cell_at HA.out 1
  have b0 := cell_at HBB.out 0
  have b1 := cell_at HBB.out 1
  have b2 := cell_at HBB.out 2
  have b3 := cell_at HBB.out 3
  have b4 := cell_at HBB.out 4
  have b5 := cell_at HBB.out 5
  go_wp2_with fail
  refine (HWR.out _).mono ?_
  rintro x w3 ⟨rfl, hb3⟩
  have HB3 := Lib.hid (bl HB2.out hb3)
  have HA := Lib.hid ((hb3.block _ (lt_of_some HA.out)).trans HA.out)
  have HBB := Lib.hid ((hb3.block _ (lt_of_some HBB.out)).trans HBB.out)
  have HT3 := Lib.hid (HT2.out.below hb3)
  clear hb3 a0 a1 b0 b1 b2 b3 b4 b5
  have a0 := cell_at HA.out 0
  have a1 := cell_at HA.out 1
  have b0 := cell_at HBB.out 0
  have b1 := cell_at HBB.out 1
  have b2 := cell_at HBB.out 2
  have b3 := cell_at HBB.out 3
  have b4 := cell_at HBB.out 4
  have b5 := cell_at HBB.out 5
  go_wp2_with fail
  go_ret
  exact ⟨by rw [HLINE.out, HBASE.out]; rfl, HB3.out⟩
set_option maxRecDepth 100000 in
set_option maxHeartbeats 4000000 in
theorem rline_2_zyt (sk who xk : Int) (xkey xval : ByteArray) (keep torn part err rerr : Int) (val : ByteArray) (yes : Bool) (rn : Int) (en : Bool) (w : World) (htab : Tab w) (hwho : -9223372036854775808 ≤ who ∧ who ≤ 9223372036854775807) (hrn : -9223372036854775808 ≤ rn ∧ rn ≤ 9223372036854775807) (hval : val.size ≤ 1000000) (hsk : (sk = 2) ∧ err = 0) : Calls Tryd.prog 6 #[.agg #[.int .i64 sk, .int .i64 who, .int .i64 xk, .string xkey, .string xval, .int .u64 keep, .int .i64 torn, .int .i64 part], .agg #[.int .i64 err, .int .i64 rerr, .string val, .bool true, .int .i64 rn, .bool true]] w fun x w' => x = .returned (.string (lineB sk who err rerr val true rn true)) ∧ Below w.heap.size w w' := by
  have t3 : (sk == 3) = false := beq_eq_false_iff_ne.2 (by omega)
  have t3' : decide (sk = 3) = false := decide_eq_false (by omega)
  have t2 : (sk == 2) = true := beq_iff_eq.2 (by omega)
  have t2' : decide (sk = 2) = true := decide_eq_true (by omega)
  have t4 : (sk == 4) = false := beq_eq_false_iff_ne.2 (by omega)
  have t4' : decide (sk = 4) = false := decide_eq_false (by omega)
  have te : (err != 0) = false := by rw [bne_eq_false_iff_eq]; omega
  have te' : (err == 0) = true := beq_iff_eq.2 (by omega)
  have hk := kind_len sk
  have he := err_len err
  have hstr : StrsAt (((w.alloc (.cells #[.int .i64 sk, .int .i64 who, .int .i64 xk, .string xkey, .string xval, .int .u64 keep, .int .i64 torn, .int .i64 part] 26 (0, 0))).alloc (.cells #[.int .i64 err, .int .i64 rerr, .string val, .bool true, .int .i64 rn, .bool true] 31 (0, 0))).alloc (.cells (kindL.map Value.string).toArray 9 (0, 0))) (w.heap.size + 2) kindL := by have := strs_new ((w.alloc (.cells #[.int .i64 sk, .int .i64 who, .int .i64 xk, .string xkey, .string xval, .int .u64 keep, .int .i64 torn, .int .i64 part] 26 (0, 0))).alloc (.cells #[.int .i64 err, .int .i64 rerr, .string val, .bool true, .int .i64 rn, .bool true] 31 (0, 0))) kindL; rwa [World.size_alloc, World.size_alloc] at this
  have HW := Lib.hid (rword_any sk (w.heap.size + 2) kindL _ hstr)
  obtain ⟨hA, hB⟩ := new3 w (.cells #[.int .i64 sk, .int .i64 who, .int .i64 xk, .string xkey, .string xval, .int .u64 keep, .int .i64 torn, .int .i64 part] 26 (0, 0)) (.cells #[.int .i64 err, .int .i64 rerr, .string val, .bool true, .int .i64 rn, .bool true] 31 (0, 0)) (.cells (kindL.map Value.string).toArray 9 (0, 0))
  have HT0 := Lib.hid (htab.below (below_al (below_al (below_al (Below.refl _ w) (.cells #[.int .i64 sk, .int .i64 who, .int .i64 xk, .string xkey, .string xval, .int .u64 keep, .int .i64 torn, .int .i64 part] 26 (0, 0))) (.cells #[.int .i64 err, .int .i64 rerr, .string val, .bool true, .int .i64 rn, .bool true] 31 (0, 0))) (.cells (kindL.map Value.string).toArray 9 (0, 0))))
  have HB0 := Lib.hid (below_al (below_al (below_al (Below.refl _ w) (.cells #[.int .i64 sk, .int .i64 who, .int .i64 xk, .string xkey, .string xval, .int .u64 keep, .int .i64 torn, .int .i64 part] 26 (0, 0))) (.cells #[.int .i64 err, .int .i64 rerr, .string val, .bool true, .int .i64 rn, .bool true] 31 (0, 0))) (.cells (kindL.map Value.string).toArray 9 (0, 0)))
  have HA := Lib.hid hA
  have HBB := Lib.hid hB
  obtain ⟨k1, hk1⟩ : ∃ k1, k1 = wd sk kindL := ⟨_, rfl⟩
  obtain ⟨e1, he1⟩ : ∃ e1, e1 = wd err errL := ⟨_, rfl⟩
  rw [← hk1] at hk HW
  rw [← he1] at he
  have hd0 := dig_len who hwho.1 hwho.2
  obtain ⟨d0, hde⟩ : ∃ d0, d0 = dig who := ⟨_, rfl⟩
  rw [← hde] at hd0
  have HBASE : Hid (baseB sk who err = k1 ++ sp ++ d0 ++ sp ++ e1) := Lib.hid (by unfold baseB; rw [if_neg (by omega), hk1, he1, hde])
  have HLINE : Hid (lineB sk who err rerr val true rn true = fullB sk who err rerr true rn val) := Lib.hid (if_pos ⟨by omega, by exact .inl ⟨by omega, rfl⟩⟩)
  have s0 : ¬ 9223372036854775807 < k1.size + 1 := by omega
  have s1 : ¬ 9223372036854775807 < k1.size + 1 + d0.size := by omega
  have s2 : ¬ 9223372036854775807 < k1.size + 1 + d0.size + 1 := by omega
  have s3 : ¬ 9223372036854775807 < k1.size + 1 + d0.size + 1 + e1.size := by omega
  have HWR := Lib.hid (fun X => rwrong_any err X)
  simp only [← he1] at HWR
  have HD0 := Lib.hid (fun X (hX : Tab X) => digits_any who X hwho.1 hwho.2)
  simp only [← hde] at HD0
  have hq := err_len rerr
  have hdn := dig_len rn hrn.1 hrn.2
  obtain ⟨q1, hq1⟩ : ∃ q1, q1 = wd rerr errL := ⟨_, rfl⟩
  obtain ⟨d1, hd1⟩ : ∃ d1, d1 = dig rn := ⟨_, rfl⟩
  rw [← hq1] at hq
  rw [← hd1] at hdn
  have HWQ := Lib.hid (fun X => rwrong_any rerr X)
  simp only [← hq1] at HWQ
  have HDN := Lib.hid (fun X (hX : Tab X) => digits_any rn X hrn.1 hrn.2)
  simp only [← hd1] at HDN
  have HFULL : Hid (fullB sk who err rerr true rn val = k1 ++ sp ++ d0 ++ sp ++ e1 ++ sp ++ q1 ++ sp ++ ⟨#[121, 101, 115]⟩ ++ sp ++ d1 ++ sp ++ val) := Lib.hid (by unfold fullB; rw [HBASE.out, ← hq1, ← hd1]; rfl)
  have r0 : ¬ 9223372036854775807 < k1.size + 1 + d0.size + 1 + e1.size + 1 := by omega
  have r1 : ¬ 9223372036854775807 < k1.size + 1 + d0.size + 1 + e1.size + 1 + q1.size := by omega
  have r2 : ¬ 9223372036854775807 < k1.size + 1 + d0.size + 1 + e1.size + 1 + q1.size + 1 := by omega
  have r3 : ¬ 9223372036854775807 < k1.size + 1 + d0.size + 1 + e1.size + 1 + q1.size + 1 + 3 := by omega
  have r4 : ¬ 9223372036854775807 < k1.size + 1 + d0.size + 1 + e1.size + 1 + q1.size + 1 + 3 + 1 := by omega
  have r5 : ¬ 9223372036854775807 < k1.size + 1 + d0.size + 1 + e1.size + 1 + q1.size + 1 + 3 + 1 + d1.size := by omega
  have r6 : ¬ 9223372036854775807 < k1.size + 1 + d0.size + 1 + e1.size + 1 + q1.size + 1 + 3 + 1 + d1.size + 1 := by omega
  have r7 : ¬ 9223372036854775807 < k1.size + 1 + d0.size + 1 + e1.size + 1 + q1.size + 1 + 3 + 1 + d1.size + 1 + val.size := by omega
  clear hk1 he1 hA hB hstr hk he hde hd0 hq1 hd1 hq hdn hsk
  go_enter Tryd.func6, Tryd.ntmps6
  go_wp2_with fail
  refine HW.out.mono ?_
  rintro x w1 ⟨rfl, rfl⟩
  go_wp2_with fail
  refine (HD0.out _ HT0.out).mono ?_
  rintro x w2 ⟨rfl, hb2⟩
  have HB2 := Lib.hid (bl HB0.out hb2)
  have HA := Lib.hid ((hb2.block _ (lt_of_some HA.out)).trans HA.out)
  have HBB := Lib.hid ((hb2.block _ (lt_of_some HBB.out)).trans HBB.out)
  have HT2 := Lib.hid (HT0.out.below hb2)
  clear hb2
  have a0 := cell_at HA.out 0
  have a1 := cell_at HA.out 1
  have b0 := cell_at HBB.out 0
  have b1 := cell_at HBB.out 1
  have b2 := cell_at HBB.out 2
  have b3 := cell_at HBB.out 3
  have b4 := cell_at HBB.out 4
  have b5 := cell_at HBB.out 5
  go_wp2_with fail
  refine (HWR.out _).mono ?_
  rintro x w3 ⟨rfl, hb3⟩
  have HB3 := Lib.hid (bl HB2.out hb3)
  have HA := Lib.hid ((hb3.block _ (lt_of_some HA.out)).trans HA.out)
  have HBB := Lib.hid ((hb3.block _ (lt_of_some HBB.out)).trans HBB.out)
  have HT3 := Lib.hid (HT2.out.below hb3)
  clear hb3 a0 a1 b0 b1 b2 b3 b4 b5
  have a0 := fun X (hX : Below w3.heap.size w3 X) => cell_at ((hX.block _ (lt_of_some HA.out)).trans HA.out) 0
  have b0 := fun X (hX : Below w3.heap.size w3 X) => cell_at ((hX.block _ (lt_of_some HBB.out)).trans HBB.out) 0
  have b1 := fun X (hX : Below w3.heap.size w3 X) => cell_at ((hX.block _ (lt_of_some HBB.out)).trans HBB.out) 1
  have b2 := fun X (hX : Below w3.heap.size w3 X) => cell_at ((hX.block _ (lt_of_some HBB.out)).trans HBB.out) 2
  have b3 := fun X (hX : Below w3.heap.size w3 X) => cell_at ((hX.block _ (lt_of_some HBB.out)).trans HBB.out) 3
  have b4 := fun X (hX : Below w3.heap.size w3 X) => cell_at ((hX.block _ (lt_of_some HBB.out)).trans HBB.out) 4
  have b5 := fun X (hX : Below w3.heap.size w3 X) => cell_at ((hX.block _ (lt_of_some HBB.out)).trans HBB.out) 5
  have a0' := a0 w3 (Below.refl _ _)
  have b0' := b0 w3 (Below.refl _ _)
  have b1' := b1 w3 (Below.refl _ _)
  have b2' := b2 w3 (Below.refl _ _)
  have b3' := b3 w3 (Below.refl _ _)
  have b4' := b4 w3 (Below.refl _ _)
  have b5' := b5 w3 (Below.refl _ _)
  go_wp2_with fail
  clear a0' b0' b1' b2' b3' b4' b5'
  refine wp_region_held_drew (S := (fun X => Below w3.heap.size w3 X)) (by kernel_rfl) (((by repeat (first | exact Below.refl _ _ | assumption | apply below_dr | apply below_dn | apply below_al)) : Below w3.heap.size w3 _)) (fun hHeld => ?_)
  try simp only [Act.put, List.setIfInBounds_toArray, List.set_cons_zero, List.set_cons_succ]
  refine wpAnyH_take (i := 0) (v := ?_) (by simp only [List.getElem?_toArray, List.getElem?_cons_succ, List.getElem?_cons_zero]; rfl) (by kernel_rfl) (by kernel_rfl) (by kernel_rfl) (by exact fun _ _ _ h => h) (Or.inl ⟨by rfl, ?_⟩) (by assumption) ?_
  rotate_left
  · intro w hSw; (try dsimp only at hSw); go_simp; try with_reducible rfl
  try simp only [Act.put, List.setIfInBounds_toArray, List.set_cons_zero, List.set_cons_succ]
  refine wpAnyH_take (i := 1) (v := ?_) (by simp only [List.getElem?_toArray, List.getElem?_cons_succ, List.getElem?_cons_zero]; rfl) (by kernel_rfl) (by kernel_rfl) (by kernel_rfl) (by exact fun _ _ _ h => h) (Or.inl ⟨by rfl, ?_⟩) (by assumption) ?_
  rotate_left
  · intro w hSw; (try dsimp only at hSw); go_simp; try with_reducible rfl
  try simp only [Act.put, List.setIfInBounds_toArray, List.set_cons_zero, List.set_cons_succ]
  refine wpAnyH_take (i := 2) (v := ?_) (by simp only [List.getElem?_toArray, List.getElem?_cons_succ, List.getElem?_cons_zero]; rfl) (by kernel_rfl) (by kernel_rfl) (by kernel_rfl) (by exact fun _ _ _ h => h) (Or.inl ⟨by rfl, ?_⟩) (by assumption) ?_
  rotate_left
  · intro w hSw; (try dsimp only at hSw); go_simp; try with_reducible rfl
  try simp only [Act.put, List.setIfInBounds_toArray, List.set_cons_zero, List.set_cons_succ]
  refine wpAnyH_take (i := 3) (v := ?_) (by simp only [List.getElem?_toArray, List.getElem?_cons_succ, List.getElem?_cons_zero]; rfl) (by kernel_rfl) (by kernel_rfl) (by kernel_rfl) (by exact fun _ _ _ h => h) (Or.inl ⟨by rfl, ?_⟩) (by assumption) ?_
  rotate_left
  · intro w hSw; (try dsimp only at hSw); go_simp; try with_reducible rfl
  try simp only [Act.put, List.setIfInBounds_toArray, List.set_cons_zero, List.set_cons_succ]
  refine wpAnyH_take (i := 4) (v := ?_) (by simp only [List.getElem?_toArray, List.getElem?_cons_succ, List.getElem?_cons_zero]; rfl) (by kernel_rfl) (by kernel_rfl) (by kernel_rfl) (by exact fun _ _ _ h => h) (Or.inl ⟨by rfl, ?_⟩) (by assumption) ?_
  rotate_left
  · intro w hSw; (try dsimp only at hSw); go_simp; try with_reducible rfl
  try simp only [Act.put, List.setIfInBounds_toArray, List.set_cons_zero, List.set_cons_succ]
  refine wpAnyH_take (i := 8) (v := ?_) (by simp only [List.getElem?_toArray, List.getElem?_cons_succ, List.getElem?_cons_zero]; rfl) (by kernel_rfl) (by kernel_rfl) (by kernel_rfl) (by exact fun _ _ _ h => h) (Or.inl ⟨by rfl, ?_⟩) (by assumption) ?_
  rotate_left
  · intro w hSw; (try dsimp only at hSw); go_simp; try with_reducible rfl
  try simp only [Act.put, List.setIfInBounds_toArray, List.set_cons_zero, List.set_cons_succ]
  refine wpAnyH_take (i := 11) (v := ?_) (by simp only [List.getElem?_toArray, List.getElem?_cons_succ, List.getElem?_cons_zero]; rfl) (by kernel_rfl) (by kernel_rfl) (by kernel_rfl) (by exact fun _ _ _ h => h) (Or.inl ⟨by rfl, ?_⟩) (by assumption) ?_
  rotate_left
  · intro w hSw; (try dsimp only at hSw); go_simp; try with_reducible rfl
  try simp only [Act.put, List.setIfInBounds_toArray, List.set_cons_zero, List.set_cons_succ]
  refine wpAnyH_take (i := 12) (v := ?_) (by simp only [List.getElem?_toArray, List.getElem?_cons_succ, List.getElem?_cons_zero]; rfl) (by kernel_rfl) (by kernel_rfl) (by kernel_rfl) (by exact fun _ _ _ h => h) (Or.inl ⟨by rfl, ?_⟩) (by assumption) ?_
  rotate_left
  · intro w hSw; (try dsimp only at hSw); go_simp; try with_reducible rfl
  try simp only [Act.put, List.setIfInBounds_toArray, List.set_cons_zero, List.set_cons_succ]
  refine wpAnyH_take (i := 13) (v := ?_) (by simp only [List.getElem?_toArray, List.getElem?_cons_succ, List.getElem?_cons_zero]; rfl) (by kernel_rfl) (by kernel_rfl) (by kernel_rfl) (by exact fun _ _ _ h => h) (Or.inl ⟨by rfl, ?_⟩) (by assumption) ?_
  rotate_left
  · intro w hSw; (try dsimp only at hSw); go_simp; try with_reducible rfl
  try simp only [Act.put, List.setIfInBounds_toArray, List.set_cons_zero, List.set_cons_succ]
  refine wpAnyH_take (i := 17) (v := ?_) (by simp only [List.getElem?_toArray, List.getElem?_cons_succ, List.getElem?_cons_zero]; rfl) (by kernel_rfl) (by kernel_rfl) (by kernel_rfl) (by exact fun _ _ _ h => h) (Or.inl ⟨by rfl, ?_⟩) (by assumption) ?_
  rotate_left
  · intro w hSw; (try dsimp only at hSw); go_simp; try with_reducible rfl
  try simp only [Act.put, List.setIfInBounds_toArray, List.set_cons_zero, List.set_cons_succ]
  refine wpAnyH_take (i := 18) (v := ?_) (by simp only [List.getElem?_toArray, List.getElem?_cons_succ, List.getElem?_cons_zero]; rfl) (by kernel_rfl) (by kernel_rfl) (by kernel_rfl) (by exact fun _ _ _ h => h) (Or.inl ⟨by rfl, ?_⟩) (by assumption) ?_
  rotate_left
  · intro w hSw; (try dsimp only at hSw); go_simp; try with_reducible rfl
  try simp only [Act.put, List.setIfInBounds_toArray, List.set_cons_zero, List.set_cons_succ]
  refine wpAnyH_take (i := 19) (v := ?_) (by simp only [List.getElem?_toArray, List.getElem?_cons_succ, List.getElem?_cons_zero]; rfl) (by kernel_rfl) (by kernel_rfl) (by kernel_rfl) (by exact fun _ _ _ h => h) (Or.inl ⟨by rfl, ?_⟩) (by assumption) ?_
  rotate_left
  · intro w hSw; (try dsimp only at hSw); go_simp; try with_reducible rfl
  try simp only [Act.put, List.setIfInBounds_toArray, List.set_cons_zero, List.set_cons_succ]
  refine wpAnyH_ready (rs := [5]) (by kernel_rfl) (by simp) ?_
  refine AllReadyH.cons (by simp only [List.getElem?_toArray, List.getElem?_cons_succ, List.getElem?_cons_zero]; rfl) (fun K hK => ?_) AllReadyH.nil
  go_simp
  refine (HWQ.out _).mono ?_; rintro x w5 ⟨rfl, hb5⟩; have hz5 : Below w3.heap.size w3 w5 := bl (by repeat (first | exact Below.refl _ _ | assumption | apply below_dr | apply below_dn | apply below_al)) hb5
  try go_simp
  refine hK.out _ _ (((by repeat (first | exact Below.refl _ _ | assumption | apply below_dr | apply below_dn | apply below_al)) : Below w3.heap.size w3 _)) (fun hHeld => ?_)
  clear hK K
  try simp only [Act.put, List.setIfInBounds_toArray, List.set_cons_zero, List.set_cons_succ]
  refine wpAnyH_take (i := 6) (v := ?_) (by simp only [List.getElem?_toArray, List.getElem?_cons_succ, List.getElem?_cons_zero]; rfl) (by kernel_rfl) (by kernel_rfl) (by kernel_rfl) (by exact fun _ _ _ h => h) (Or.inl ⟨by rfl, ?_⟩) (by assumption) ?_
  rotate_left
  · intro w hSw; (try dsimp only at hSw); go_simp; try with_reducible rfl
  try simp only [Act.put, List.setIfInBounds_toArray, List.set_cons_zero, List.set_cons_succ]
  refine wpAnyH_take (i := 7) (v := ?_) (by simp only [List.getElem?_toArray, List.getElem?_cons_succ, List.getElem?_cons_zero]; rfl) (by kernel_rfl) (by kernel_rfl) (by kernel_rfl) (by exact fun _ _ _ h => h) (Or.inl ⟨by rfl, ?_⟩) (by assumption) ?_
  rotate_left
  · intro w hSw; (try dsimp only at hSw); go_simp; try with_reducible rfl
  try simp only [Act.put, List.setIfInBounds_toArray, List.set_cons_zero, List.set_cons_succ]
  refine wpAnyH_take (i := 9) (v := ?_) (by simp only [List.getElem?_toArray, List.getElem?_cons_succ, List.getElem?_cons_zero]; rfl) (by kernel_rfl) (by kernel_rfl) (by kernel_rfl) (by exact fun _ _ _ h => h) (Or.inl ⟨by rfl, ?_⟩) (by assumption) ?_
  rotate_left
  · intro w hSw; (try dsimp only at hSw); go_simp; try with_reducible rfl
  try simp only [Act.put, List.setIfInBounds_toArray, List.set_cons_zero, List.set_cons_succ]
  refine wpAnyH_take (i := 10) (v := ?_) (by simp only [List.getElem?_toArray, List.getElem?_cons_succ, List.getElem?_cons_zero]; rfl) (by kernel_rfl) (by kernel_rfl) (by kernel_rfl) (by exact fun _ _ _ h => h) (Or.inl ⟨by rfl, ?_⟩) (by assumption) ?_
  rotate_left
  · intro w hSw; (try dsimp only at hSw); go_simp; try with_reducible rfl
  try simp only [Act.put, List.setIfInBounds_toArray, List.set_cons_zero, List.set_cons_succ]
  refine wpAnyH_ready (rs := [14]) (by kernel_rfl) (by simp) ?_
  refine AllReadyH.cons (by simp only [List.getElem?_toArray, List.getElem?_cons_succ, List.getElem?_cons_zero]; rfl) (fun K hK => ?_) AllReadyH.nil
  go_simp
  refine (HDN.out _ (HT3.out.below (by repeat (first | exact Below.refl _ _ | assumption | apply below_dr | apply below_dn | apply below_al)))).mono ?_; rintro x w6 ⟨rfl, hb6⟩; have hz6 : Below w3.heap.size w3 w6 := bl (by repeat (first | exact Below.refl _ _ | assumption | apply below_dr | apply below_dn | apply below_al)) hb6
  try go_simp
  refine hK.out _ _ (((by repeat (first | exact Below.refl _ _ | assumption | apply below_dr | apply below_dn | apply below_al)) : Below w3.heap.size w3 _)) (fun hHeld => ?_)
  clear hK K
  try simp only [Act.put, List.setIfInBounds_toArray, List.set_cons_zero, List.set_cons_succ]
  refine wpAnyH_take (i := 15) (v := ?_) (by simp only [List.getElem?_toArray, List.getElem?_cons_succ, List.getElem?_cons_zero]; rfl) (by kernel_rfl) (by kernel_rfl) (by kernel_rfl) (by exact fun _ _ _ h => h) (Or.inl ⟨by rfl, ?_⟩) (by assumption) ?_
  rotate_left
  · intro w hSw; (try dsimp only at hSw); go_simp; try with_reducible rfl
  try simp only [Act.put, List.setIfInBounds_toArray, List.set_cons_zero, List.set_cons_succ]
  refine wpAnyH_take (i := 16) (v := ?_) (by simp only [List.getElem?_toArray, List.getElem?_cons_succ, List.getElem?_cons_zero]; rfl) (by kernel_rfl) (by kernel_rfl) (by kernel_rfl) (by exact fun _ _ _ h => h) (Or.inl ⟨by rfl, ?_⟩) (by assumption) ?_
  rotate_left
  · intro w hSw; (try dsimp only at hSw); go_simp; try with_reducible rfl
  try simp only [Act.put, List.setIfInBounds_toArray, List.set_cons_zero, List.set_cons_succ]
  refine wpAnyH_take (i := 20) (v := ?_) (by simp only [List.getElem?_toArray, List.getElem?_cons_succ, List.getElem?_cons_zero]; rfl) (by kernel_rfl) (by kernel_rfl) (by kernel_rfl) (by exact fun _ _ _ h => h) (Or.inl ⟨by rfl, ?_⟩) (by assumption) ?_
  rotate_left
  · intro w hSw; (try dsimp only at hSw); go_simp; try with_reducible rfl
  try simp only [Act.put, List.setIfInBounds_toArray, List.set_cons_zero, List.set_cons_succ]
  refine wpAnyH_ready (rs := [21]) (by kernel_rfl) (by simp) ?_
  refine AllReadyH.cons (by simp only [List.getElem?_toArray, List.getElem?_cons_succ, List.getElem?_cons_zero]; rfl) (fun K hK => ?_) AllReadyH.nil
  go_simp
  refine hK.out _ _ (((by repeat (first | exact Below.refl _ _ | assumption | apply below_dr | apply below_dn | apply below_al)) : Below w3.heap.size w3 _)) (fun hHeld => ?_)
  clear hK K
  try simp only [Act.put, List.setIfInBounds_toArray, List.set_cons_zero, List.set_cons_succ]
  refine wpAnyH_done (by kernel_rfl) ?_ _
  go_wp2_with fail
  go_ret
  exact ⟨by rw [HLINE.out, HFULL.out]; rfl, bl HB3.out (by repeat (first | exact Below.refl _ _ | assumption | apply below_dr | apply below_dn | apply below_al))⟩
set_option maxRecDepth 100000 in
set_option maxHeartbeats 4000000 in
theorem rline_2_znt (sk who xk : Int) (xkey xval : ByteArray) (keep torn part err rerr : Int) (val : ByteArray) (yes : Bool) (rn : Int) (en : Bool) (w : World) (htab : Tab w) (hwho : -9223372036854775808 ≤ who ∧ who ≤ 9223372036854775807) (hrn : -9223372036854775808 ≤ rn ∧ rn ≤ 9223372036854775807) (hval : val.size ≤ 1000000) (hsk : (sk = 2) ∧ err = 0) : Calls Tryd.prog 6 #[.agg #[.int .i64 sk, .int .i64 who, .int .i64 xk, .string xkey, .string xval, .int .u64 keep, .int .i64 torn, .int .i64 part], .agg #[.int .i64 err, .int .i64 rerr, .string val, .bool false, .int .i64 rn, .bool true]] w fun x w' => x = .returned (.string (lineB sk who err rerr val false rn true)) ∧ Below w.heap.size w w' := by
  have t3 : (sk == 3) = false := beq_eq_false_iff_ne.2 (by omega)
  have t3' : decide (sk = 3) = false := decide_eq_false (by omega)
  have t2 : (sk == 2) = true := beq_iff_eq.2 (by omega)
  have t2' : decide (sk = 2) = true := decide_eq_true (by omega)
  have t4 : (sk == 4) = false := beq_eq_false_iff_ne.2 (by omega)
  have t4' : decide (sk = 4) = false := decide_eq_false (by omega)
  have te : (err != 0) = false := by rw [bne_eq_false_iff_eq]; omega
  have te' : (err == 0) = true := beq_iff_eq.2 (by omega)
  have hk := kind_len sk
  have he := err_len err
  have hstr : StrsAt (((w.alloc (.cells #[.int .i64 sk, .int .i64 who, .int .i64 xk, .string xkey, .string xval, .int .u64 keep, .int .i64 torn, .int .i64 part] 26 (0, 0))).alloc (.cells #[.int .i64 err, .int .i64 rerr, .string val, .bool false, .int .i64 rn, .bool true] 31 (0, 0))).alloc (.cells (kindL.map Value.string).toArray 9 (0, 0))) (w.heap.size + 2) kindL := by have := strs_new ((w.alloc (.cells #[.int .i64 sk, .int .i64 who, .int .i64 xk, .string xkey, .string xval, .int .u64 keep, .int .i64 torn, .int .i64 part] 26 (0, 0))).alloc (.cells #[.int .i64 err, .int .i64 rerr, .string val, .bool false, .int .i64 rn, .bool true] 31 (0, 0))) kindL; rwa [World.size_alloc, World.size_alloc] at this
  have HW := Lib.hid (rword_any sk (w.heap.size + 2) kindL _ hstr)
  obtain ⟨hA, hB⟩ := new3 w (.cells #[.int .i64 sk, .int .i64 who, .int .i64 xk, .string xkey, .string xval, .int .u64 keep, .int .i64 torn, .int .i64 part] 26 (0, 0)) (.cells #[.int .i64 err, .int .i64 rerr, .string val, .bool false, .int .i64 rn, .bool true] 31 (0, 0)) (.cells (kindL.map Value.string).toArray 9 (0, 0))
  have HT0 := Lib.hid (htab.below (below_al (below_al (below_al (Below.refl _ w) (.cells #[.int .i64 sk, .int .i64 who, .int .i64 xk, .string xkey, .string xval, .int .u64 keep, .int .i64 torn, .int .i64 part] 26 (0, 0))) (.cells #[.int .i64 err, .int .i64 rerr, .string val, .bool false, .int .i64 rn, .bool true] 31 (0, 0))) (.cells (kindL.map Value.string).toArray 9 (0, 0))))
  have HB0 := Lib.hid (below_al (below_al (below_al (Below.refl _ w) (.cells #[.int .i64 sk, .int .i64 who, .int .i64 xk, .string xkey, .string xval, .int .u64 keep, .int .i64 torn, .int .i64 part] 26 (0, 0))) (.cells #[.int .i64 err, .int .i64 rerr, .string val, .bool false, .int .i64 rn, .bool true] 31 (0, 0))) (.cells (kindL.map Value.string).toArray 9 (0, 0)))
  have HA := Lib.hid hA
  have HBB := Lib.hid hB
  obtain ⟨k1, hk1⟩ : ∃ k1, k1 = wd sk kindL := ⟨_, rfl⟩
  obtain ⟨e1, he1⟩ : ∃ e1, e1 = wd err errL := ⟨_, rfl⟩
  rw [← hk1] at hk HW
  rw [← he1] at he
  have hd0 := dig_len who hwho.1 hwho.2
  obtain ⟨d0, hde⟩ : ∃ d0, d0 = dig who := ⟨_, rfl⟩
  rw [← hde] at hd0
  have HBASE : Hid (baseB sk who err = k1 ++ sp ++ d0 ++ sp ++ e1) := Lib.hid (by unfold baseB; rw [if_neg (by omega), hk1, he1, hde])
  have HLINE : Hid (lineB sk who err rerr val false rn true = fullB sk who err rerr false rn val) := Lib.hid (if_pos ⟨by omega, by exact .inl ⟨by omega, rfl⟩⟩)
  have s0 : ¬ 9223372036854775807 < k1.size + 1 := by omega
  have s1 : ¬ 9223372036854775807 < k1.size + 1 + d0.size := by omega
  have s2 : ¬ 9223372036854775807 < k1.size + 1 + d0.size + 1 := by omega
  have s3 : ¬ 9223372036854775807 < k1.size + 1 + d0.size + 1 + e1.size := by omega
  have HWR := Lib.hid (fun X => rwrong_any err X)
  simp only [← he1] at HWR
  have HD0 := Lib.hid (fun X (hX : Tab X) => digits_any who X hwho.1 hwho.2)
  simp only [← hde] at HD0
  have hq := err_len rerr
  have hdn := dig_len rn hrn.1 hrn.2
  obtain ⟨q1, hq1⟩ : ∃ q1, q1 = wd rerr errL := ⟨_, rfl⟩
  obtain ⟨d1, hd1⟩ : ∃ d1, d1 = dig rn := ⟨_, rfl⟩
  rw [← hq1] at hq
  rw [← hd1] at hdn
  have HWQ := Lib.hid (fun X => rwrong_any rerr X)
  simp only [← hq1] at HWQ
  have HDN := Lib.hid (fun X (hX : Tab X) => digits_any rn X hrn.1 hrn.2)
  simp only [← hd1] at HDN
  have HFULL : Hid (fullB sk who err rerr false rn val = k1 ++ sp ++ d0 ++ sp ++ e1 ++ sp ++ q1 ++ sp ++ ⟨#[110, 111]⟩ ++ sp ++ d1 ++ sp ++ val) := Lib.hid (by unfold fullB; rw [HBASE.out, ← hq1, ← hd1]; rfl)
  have r0 : ¬ 9223372036854775807 < k1.size + 1 + d0.size + 1 + e1.size + 1 := by omega
  have r1 : ¬ 9223372036854775807 < k1.size + 1 + d0.size + 1 + e1.size + 1 + q1.size := by omega
  have r2 : ¬ 9223372036854775807 < k1.size + 1 + d0.size + 1 + e1.size + 1 + q1.size + 1 := by omega
  have r3 : ¬ 9223372036854775807 < k1.size + 1 + d0.size + 1 + e1.size + 1 + q1.size + 1 + 2 := by omega
  have r4 : ¬ 9223372036854775807 < k1.size + 1 + d0.size + 1 + e1.size + 1 + q1.size + 1 + 2 + 1 := by omega
  have r5 : ¬ 9223372036854775807 < k1.size + 1 + d0.size + 1 + e1.size + 1 + q1.size + 1 + 2 + 1 + d1.size := by omega
  have r6 : ¬ 9223372036854775807 < k1.size + 1 + d0.size + 1 + e1.size + 1 + q1.size + 1 + 2 + 1 + d1.size + 1 := by omega
  have r7 : ¬ 9223372036854775807 < k1.size + 1 + d0.size + 1 + e1.size + 1 + q1.size + 1 + 2 + 1 + d1.size + 1 + val.size := by omega
  clear hk1 he1 hA hB hstr hk he hde hd0 hq1 hd1 hq hdn hsk
  go_enter Tryd.func6, Tryd.ntmps6
  go_wp2_with fail
  refine HW.out.mono ?_
  rintro x w1 ⟨rfl, rfl⟩
  go_wp2_with fail
  refine (HD0.out _ HT0.out).mono ?_
  rintro x w2 ⟨rfl, hb2⟩
  have HB2 := Lib.hid (bl HB0.out hb2)
  have HA := Lib.hid ((hb2.block _ (lt_of_some HA.out)).trans HA.out)
  have HBB := Lib.hid ((hb2.block _ (lt_of_some HBB.out)).trans HBB.out)
  have HT2 := Lib.hid (HT0.out.below hb2)
  clear hb2
  have a0 := cell_at HA.out 0
  have a1 := cell_at HA.out 1
  have b0 := cell_at HBB.out 0
  have b1 := cell_at HBB.out 1
  have b2 := cell_at HBB.out 2
  have b3 := cell_at HBB.out 3
  have b4 := cell_at HBB.out 4
  have b5 := cell_at HBB.out 5
  go_wp2_with fail
  refine (HWR.out _).mono ?_
  rintro x w3 ⟨rfl, hb3⟩
  have HB3 := Lib.hid (bl HB2.out hb3)
  have HA := Lib.hid ((hb3.block _ (lt_of_some HA.out)).trans HA.out)
  have HBB := Lib.hid ((hb3.block _ (lt_of_some HBB.out)).trans HBB.out)
  have HT3 := Lib.hid (HT2.out.below hb3)
  clear hb3 a0 a1 b0 b1 b2 b3 b4 b5
  have a0 := fun X (hX : Below w3.heap.size w3 X) => cell_at ((hX.block _ (lt_of_some HA.out)).trans HA.out) 0
  have b0 := fun X (hX : Below w3.heap.size w3 X) => cell_at ((hX.block _ (lt_of_some HBB.out)).trans HBB.out) 0
  have b1 := fun X (hX : Below w3.heap.size w3 X) => cell_at ((hX.block _ (lt_of_some HBB.out)).trans HBB.out) 1
  have b2 := fun X (hX : Below w3.heap.size w3 X) => cell_at ((hX.block _ (lt_of_some HBB.out)).trans HBB.out) 2
  have b3 := fun X (hX : Below w3.heap.size w3 X) => cell_at ((hX.block _ (lt_of_some HBB.out)).trans HBB.out) 3
  have b4 := fun X (hX : Below w3.heap.size w3 X) => cell_at ((hX.block _ (lt_of_some HBB.out)).trans HBB.out) 4
  have b5 := fun X (hX : Below w3.heap.size w3 X) => cell_at ((hX.block _ (lt_of_some HBB.out)).trans HBB.out) 5
  have a0' := a0 w3 (Below.refl _ _)
  have b0' := b0 w3 (Below.refl _ _)
  have b1' := b1 w3 (Below.refl _ _)
  have b2' := b2 w3 (Below.refl _ _)
  have b3' := b3 w3 (Below.refl _ _)
  have b4' := b4 w3 (Below.refl _ _)
  have b5' := b5 w3 (Below.refl _ _)
  go_wp2_with fail
  clear a0' b0' b1' b2' b3' b4' b5'
  refine wp_region_held_drew (S := (fun X => Below w3.heap.size w3 X)) (by kernel_rfl) (((by repeat (first | exact Below.refl _ _ | assumption | apply below_dr | apply below_dn | apply below_al)) : Below w3.heap.size w3 _)) (fun hHeld => ?_)
  try simp only [Act.put, List.setIfInBounds_toArray, List.set_cons_zero, List.set_cons_succ]
  refine wpAnyH_take (i := 0) (v := ?_) (by simp only [List.getElem?_toArray, List.getElem?_cons_succ, List.getElem?_cons_zero]; rfl) (by kernel_rfl) (by kernel_rfl) (by kernel_rfl) (by exact fun _ _ _ h => h) (Or.inl ⟨by rfl, ?_⟩) (by assumption) ?_
  rotate_left
  · intro w hSw; (try dsimp only at hSw); go_simp; try with_reducible rfl
  try simp only [Act.put, List.setIfInBounds_toArray, List.set_cons_zero, List.set_cons_succ]
  refine wpAnyH_take (i := 1) (v := ?_) (by simp only [List.getElem?_toArray, List.getElem?_cons_succ, List.getElem?_cons_zero]; rfl) (by kernel_rfl) (by kernel_rfl) (by kernel_rfl) (by exact fun _ _ _ h => h) (Or.inl ⟨by rfl, ?_⟩) (by assumption) ?_
  rotate_left
  · intro w hSw; (try dsimp only at hSw); go_simp; try with_reducible rfl
  try simp only [Act.put, List.setIfInBounds_toArray, List.set_cons_zero, List.set_cons_succ]
  refine wpAnyH_take (i := 2) (v := ?_) (by simp only [List.getElem?_toArray, List.getElem?_cons_succ, List.getElem?_cons_zero]; rfl) (by kernel_rfl) (by kernel_rfl) (by kernel_rfl) (by exact fun _ _ _ h => h) (Or.inl ⟨by rfl, ?_⟩) (by assumption) ?_
  rotate_left
  · intro w hSw; (try dsimp only at hSw); go_simp; try with_reducible rfl
  try simp only [Act.put, List.setIfInBounds_toArray, List.set_cons_zero, List.set_cons_succ]
  refine wpAnyH_take (i := 3) (v := ?_) (by simp only [List.getElem?_toArray, List.getElem?_cons_succ, List.getElem?_cons_zero]; rfl) (by kernel_rfl) (by kernel_rfl) (by kernel_rfl) (by exact fun _ _ _ h => h) (Or.inl ⟨by rfl, ?_⟩) (by assumption) ?_
  rotate_left
  · intro w hSw; (try dsimp only at hSw); go_simp; try with_reducible rfl
  try simp only [Act.put, List.setIfInBounds_toArray, List.set_cons_zero, List.set_cons_succ]
  refine wpAnyH_take (i := 4) (v := ?_) (by simp only [List.getElem?_toArray, List.getElem?_cons_succ, List.getElem?_cons_zero]; rfl) (by kernel_rfl) (by kernel_rfl) (by kernel_rfl) (by exact fun _ _ _ h => h) (Or.inl ⟨by rfl, ?_⟩) (by assumption) ?_
  rotate_left
  · intro w hSw; (try dsimp only at hSw); go_simp; try with_reducible rfl
  try simp only [Act.put, List.setIfInBounds_toArray, List.set_cons_zero, List.set_cons_succ]
  refine wpAnyH_take (i := 8) (v := ?_) (by simp only [List.getElem?_toArray, List.getElem?_cons_succ, List.getElem?_cons_zero]; rfl) (by kernel_rfl) (by kernel_rfl) (by kernel_rfl) (by exact fun _ _ _ h => h) (Or.inl ⟨by rfl, ?_⟩) (by assumption) ?_
  rotate_left
  · intro w hSw; (try dsimp only at hSw); go_simp; try with_reducible rfl
  try simp only [Act.put, List.setIfInBounds_toArray, List.set_cons_zero, List.set_cons_succ]
  refine wpAnyH_take (i := 11) (v := ?_) (by simp only [List.getElem?_toArray, List.getElem?_cons_succ, List.getElem?_cons_zero]; rfl) (by kernel_rfl) (by kernel_rfl) (by kernel_rfl) (by exact fun _ _ _ h => h) (Or.inl ⟨by rfl, ?_⟩) (by assumption) ?_
  rotate_left
  · intro w hSw; (try dsimp only at hSw); go_simp; try with_reducible rfl
  try simp only [Act.put, List.setIfInBounds_toArray, List.set_cons_zero, List.set_cons_succ]
  refine wpAnyH_take (i := 12) (v := ?_) (by simp only [List.getElem?_toArray, List.getElem?_cons_succ, List.getElem?_cons_zero]; rfl) (by kernel_rfl) (by kernel_rfl) (by kernel_rfl) (by exact fun _ _ _ h => h) (Or.inl ⟨by rfl, ?_⟩) (by assumption) ?_
  rotate_left
  · intro w hSw; (try dsimp only at hSw); go_simp; try with_reducible rfl
  try simp only [Act.put, List.setIfInBounds_toArray, List.set_cons_zero, List.set_cons_succ]
  refine wpAnyH_take (i := 13) (v := ?_) (by simp only [List.getElem?_toArray, List.getElem?_cons_succ, List.getElem?_cons_zero]; rfl) (by kernel_rfl) (by kernel_rfl) (by kernel_rfl) (by exact fun _ _ _ h => h) (Or.inl ⟨by rfl, ?_⟩) (by assumption) ?_
  rotate_left
  · intro w hSw; (try dsimp only at hSw); go_simp; try with_reducible rfl
  try simp only [Act.put, List.setIfInBounds_toArray, List.set_cons_zero, List.set_cons_succ]
  refine wpAnyH_take (i := 17) (v := ?_) (by simp only [List.getElem?_toArray, List.getElem?_cons_succ, List.getElem?_cons_zero]; rfl) (by kernel_rfl) (by kernel_rfl) (by kernel_rfl) (by exact fun _ _ _ h => h) (Or.inl ⟨by rfl, ?_⟩) (by assumption) ?_
  rotate_left
  · intro w hSw; (try dsimp only at hSw); go_simp; try with_reducible rfl
  try simp only [Act.put, List.setIfInBounds_toArray, List.set_cons_zero, List.set_cons_succ]
  refine wpAnyH_take (i := 18) (v := ?_) (by simp only [List.getElem?_toArray, List.getElem?_cons_succ, List.getElem?_cons_zero]; rfl) (by kernel_rfl) (by kernel_rfl) (by kernel_rfl) (by exact fun _ _ _ h => h) (Or.inl ⟨by rfl, ?_⟩) (by assumption) ?_
  rotate_left
  · intro w hSw; (try dsimp only at hSw); go_simp; try with_reducible rfl
  try simp only [Act.put, List.setIfInBounds_toArray, List.set_cons_zero, List.set_cons_succ]
  refine wpAnyH_take (i := 19) (v := ?_) (by simp only [List.getElem?_toArray, List.getElem?_cons_succ, List.getElem?_cons_zero]; rfl) (by kernel_rfl) (by kernel_rfl) (by kernel_rfl) (by exact fun _ _ _ h => h) (Or.inl ⟨by rfl, ?_⟩) (by assumption) ?_
  rotate_left
  · intro w hSw; (try dsimp only at hSw); go_simp; try with_reducible rfl
  try simp only [Act.put, List.setIfInBounds_toArray, List.set_cons_zero, List.set_cons_succ]
  refine wpAnyH_ready (rs := [5]) (by kernel_rfl) (by simp) ?_
  refine AllReadyH.cons (by simp only [List.getElem?_toArray, List.getElem?_cons_succ, List.getElem?_cons_zero]; rfl) (fun K hK => ?_) AllReadyH.nil
  go_simp
  refine (HWQ.out _).mono ?_; rintro x w5 ⟨rfl, hb5⟩; have hz5 : Below w3.heap.size w3 w5 := bl (by repeat (first | exact Below.refl _ _ | assumption | apply below_dr | apply below_dn | apply below_al)) hb5
  try go_simp
  refine hK.out _ _ (((by repeat (first | exact Below.refl _ _ | assumption | apply below_dr | apply below_dn | apply below_al)) : Below w3.heap.size w3 _)) (fun hHeld => ?_)
  clear hK K
  try simp only [Act.put, List.setIfInBounds_toArray, List.set_cons_zero, List.set_cons_succ]
  refine wpAnyH_take (i := 6) (v := ?_) (by simp only [List.getElem?_toArray, List.getElem?_cons_succ, List.getElem?_cons_zero]; rfl) (by kernel_rfl) (by kernel_rfl) (by kernel_rfl) (by exact fun _ _ _ h => h) (Or.inl ⟨by rfl, ?_⟩) (by assumption) ?_
  rotate_left
  · intro w hSw; (try dsimp only at hSw); go_simp; try with_reducible rfl
  try simp only [Act.put, List.setIfInBounds_toArray, List.set_cons_zero, List.set_cons_succ]
  refine wpAnyH_take (i := 7) (v := ?_) (by simp only [List.getElem?_toArray, List.getElem?_cons_succ, List.getElem?_cons_zero]; rfl) (by kernel_rfl) (by kernel_rfl) (by kernel_rfl) (by exact fun _ _ _ h => h) (Or.inl ⟨by rfl, ?_⟩) (by assumption) ?_
  rotate_left
  · intro w hSw; (try dsimp only at hSw); go_simp; try with_reducible rfl
  try simp only [Act.put, List.setIfInBounds_toArray, List.set_cons_zero, List.set_cons_succ]
  refine wpAnyH_take (i := 9) (v := ?_) (by simp only [List.getElem?_toArray, List.getElem?_cons_succ, List.getElem?_cons_zero]; rfl) (by kernel_rfl) (by kernel_rfl) (by kernel_rfl) (by exact fun _ _ _ h => h) (Or.inl ⟨by rfl, ?_⟩) (by assumption) ?_
  rotate_left
  · intro w hSw; (try dsimp only at hSw); go_simp; try with_reducible rfl
  try simp only [Act.put, List.setIfInBounds_toArray, List.set_cons_zero, List.set_cons_succ]
  refine wpAnyH_take (i := 10) (v := ?_) (by simp only [List.getElem?_toArray, List.getElem?_cons_succ, List.getElem?_cons_zero]; rfl) (by kernel_rfl) (by kernel_rfl) (by kernel_rfl) (by exact fun _ _ _ h => h) (Or.inl ⟨by rfl, ?_⟩) (by assumption) ?_
  rotate_left
  · intro w hSw; (try dsimp only at hSw); go_simp; try with_reducible rfl
  try simp only [Act.put, List.setIfInBounds_toArray, List.set_cons_zero, List.set_cons_succ]
  refine wpAnyH_ready (rs := [14]) (by kernel_rfl) (by simp) ?_
  refine AllReadyH.cons (by simp only [List.getElem?_toArray, List.getElem?_cons_succ, List.getElem?_cons_zero]; rfl) (fun K hK => ?_) AllReadyH.nil
  go_simp
  refine (HDN.out _ (HT3.out.below (by repeat (first | exact Below.refl _ _ | assumption | apply below_dr | apply below_dn | apply below_al)))).mono ?_; rintro x w6 ⟨rfl, hb6⟩; have hz6 : Below w3.heap.size w3 w6 := bl (by repeat (first | exact Below.refl _ _ | assumption | apply below_dr | apply below_dn | apply below_al)) hb6
  try go_simp
  refine hK.out _ _ (((by repeat (first | exact Below.refl _ _ | assumption | apply below_dr | apply below_dn | apply below_al)) : Below w3.heap.size w3 _)) (fun hHeld => ?_)
  clear hK K
  try simp only [Act.put, List.setIfInBounds_toArray, List.set_cons_zero, List.set_cons_succ]
  refine wpAnyH_take (i := 15) (v := ?_) (by simp only [List.getElem?_toArray, List.getElem?_cons_succ, List.getElem?_cons_zero]; rfl) (by kernel_rfl) (by kernel_rfl) (by kernel_rfl) (by exact fun _ _ _ h => h) (Or.inl ⟨by rfl, ?_⟩) (by assumption) ?_
  rotate_left
  · intro w hSw; (try dsimp only at hSw); go_simp; try with_reducible rfl
  try simp only [Act.put, List.setIfInBounds_toArray, List.set_cons_zero, List.set_cons_succ]
  refine wpAnyH_take (i := 16) (v := ?_) (by simp only [List.getElem?_toArray, List.getElem?_cons_succ, List.getElem?_cons_zero]; rfl) (by kernel_rfl) (by kernel_rfl) (by kernel_rfl) (by exact fun _ _ _ h => h) (Or.inl ⟨by rfl, ?_⟩) (by assumption) ?_
  rotate_left
  · intro w hSw; (try dsimp only at hSw); go_simp; try with_reducible rfl
  try simp only [Act.put, List.setIfInBounds_toArray, List.set_cons_zero, List.set_cons_succ]
  refine wpAnyH_take (i := 20) (v := ?_) (by simp only [List.getElem?_toArray, List.getElem?_cons_succ, List.getElem?_cons_zero]; rfl) (by kernel_rfl) (by kernel_rfl) (by kernel_rfl) (by exact fun _ _ _ h => h) (Or.inl ⟨by rfl, ?_⟩) (by assumption) ?_
  rotate_left
  · intro w hSw; (try dsimp only at hSw); go_simp; try with_reducible rfl
  try simp only [Act.put, List.setIfInBounds_toArray, List.set_cons_zero, List.set_cons_succ]
  refine wpAnyH_ready (rs := [21]) (by kernel_rfl) (by simp) ?_
  refine AllReadyH.cons (by simp only [List.getElem?_toArray, List.getElem?_cons_succ, List.getElem?_cons_zero]; rfl) (fun K hK => ?_) AllReadyH.nil
  go_simp
  refine hK.out _ _ (((by repeat (first | exact Below.refl _ _ | assumption | apply below_dr | apply below_dn | apply below_al)) : Below w3.heap.size w3 _)) (fun hHeld => ?_)
  clear hK K
  try simp only [Act.put, List.setIfInBounds_toArray, List.set_cons_zero, List.set_cons_succ]
  refine wpAnyH_done (by kernel_rfl) ?_ _
  go_wp2_with fail
  go_ret
  exact ⟨by rw [HLINE.out, HFULL.out]; rfl, bl HB3.out (by repeat (first | exact Below.refl _ _ | assumption | apply below_dr | apply below_dn | apply below_al))⟩
set_option maxRecDepth 100000 in
set_option maxHeartbeats 4000000 in
theorem rline_4_zy (sk who xk : Int) (xkey xval : ByteArray) (keep torn part err rerr : Int) (val : ByteArray) (yes : Bool) (rn : Int) (en : Bool) (w : World) (htab : Tab w) (hwho : -9223372036854775808 ≤ who ∧ who ≤ 9223372036854775807) (hrn : -9223372036854775808 ≤ rn ∧ rn ≤ 9223372036854775807) (hval : val.size ≤ 1000000) (hsk : (sk = 4) ∧ err = 0) : Calls Tryd.prog 6 #[.agg #[.int .i64 sk, .int .i64 who, .int .i64 xk, .string xkey, .string xval, .int .u64 keep, .int .i64 torn, .int .i64 part], .agg #[.int .i64 err, .int .i64 rerr, .string val, .bool true, .int .i64 rn, .bool en]] w fun x w' => x = .returned (.string (lineB sk who err rerr val true rn en)) ∧ Below w.heap.size w w' := by
  have t3 : (sk == 3) = false := beq_eq_false_iff_ne.2 (by omega)
  have t3' : decide (sk = 3) = false := decide_eq_false (by omega)
  have t2 : (sk == 2) = false := beq_eq_false_iff_ne.2 (by omega)
  have t2' : decide (sk = 2) = false := decide_eq_false (by omega)
  have t4 : (sk == 4) = true := beq_iff_eq.2 (by omega)
  have t4' : decide (sk = 4) = true := decide_eq_true (by omega)
  have te : (err != 0) = false := by rw [bne_eq_false_iff_eq]; omega
  have te' : (err == 0) = true := beq_iff_eq.2 (by omega)
  have hk := kind_len sk
  have he := err_len err
  have hstr : StrsAt (((w.alloc (.cells #[.int .i64 sk, .int .i64 who, .int .i64 xk, .string xkey, .string xval, .int .u64 keep, .int .i64 torn, .int .i64 part] 26 (0, 0))).alloc (.cells #[.int .i64 err, .int .i64 rerr, .string val, .bool true, .int .i64 rn, .bool en] 31 (0, 0))).alloc (.cells (kindL.map Value.string).toArray 9 (0, 0))) (w.heap.size + 2) kindL := by have := strs_new ((w.alloc (.cells #[.int .i64 sk, .int .i64 who, .int .i64 xk, .string xkey, .string xval, .int .u64 keep, .int .i64 torn, .int .i64 part] 26 (0, 0))).alloc (.cells #[.int .i64 err, .int .i64 rerr, .string val, .bool true, .int .i64 rn, .bool en] 31 (0, 0))) kindL; rwa [World.size_alloc, World.size_alloc] at this
  have HW := Lib.hid (rword_any sk (w.heap.size + 2) kindL _ hstr)
  obtain ⟨hA, hB⟩ := new3 w (.cells #[.int .i64 sk, .int .i64 who, .int .i64 xk, .string xkey, .string xval, .int .u64 keep, .int .i64 torn, .int .i64 part] 26 (0, 0)) (.cells #[.int .i64 err, .int .i64 rerr, .string val, .bool true, .int .i64 rn, .bool en] 31 (0, 0)) (.cells (kindL.map Value.string).toArray 9 (0, 0))
  have HT0 := Lib.hid (htab.below (below_al (below_al (below_al (Below.refl _ w) (.cells #[.int .i64 sk, .int .i64 who, .int .i64 xk, .string xkey, .string xval, .int .u64 keep, .int .i64 torn, .int .i64 part] 26 (0, 0))) (.cells #[.int .i64 err, .int .i64 rerr, .string val, .bool true, .int .i64 rn, .bool en] 31 (0, 0))) (.cells (kindL.map Value.string).toArray 9 (0, 0))))
  have HB0 := Lib.hid (below_al (below_al (below_al (Below.refl _ w) (.cells #[.int .i64 sk, .int .i64 who, .int .i64 xk, .string xkey, .string xval, .int .u64 keep, .int .i64 torn, .int .i64 part] 26 (0, 0))) (.cells #[.int .i64 err, .int .i64 rerr, .string val, .bool true, .int .i64 rn, .bool en] 31 (0, 0))) (.cells (kindL.map Value.string).toArray 9 (0, 0)))
  have HA := Lib.hid hA
  have HBB := Lib.hid hB
  obtain ⟨k1, hk1⟩ : ∃ k1, k1 = wd sk kindL := ⟨_, rfl⟩
  obtain ⟨e1, he1⟩ : ∃ e1, e1 = wd err errL := ⟨_, rfl⟩
  rw [← hk1] at hk HW
  rw [← he1] at he
  have hd0 := dig_len who hwho.1 hwho.2
  obtain ⟨d0, hde⟩ : ∃ d0, d0 = dig who := ⟨_, rfl⟩
  rw [← hde] at hd0
  have HBASE : Hid (baseB sk who err = k1 ++ sp ++ d0 ++ sp ++ e1) := Lib.hid (by unfold baseB; rw [if_neg (by omega), hk1, he1, hde])
  have HLINE : Hid (lineB sk who err rerr val true rn en = fullB sk who err rerr true rn val) := Lib.hid (if_pos ⟨by omega, by exact .inr (by omega)⟩)
  have s0 : ¬ 9223372036854775807 < k1.size + 1 := by omega
  have s1 : ¬ 9223372036854775807 < k1.size + 1 + d0.size := by omega
  have s2 : ¬ 9223372036854775807 < k1.size + 1 + d0.size + 1 := by omega
  have s3 : ¬ 9223372036854775807 < k1.size + 1 + d0.size + 1 + e1.size := by omega
  have HWR := Lib.hid (fun X => rwrong_any err X)
  simp only [← he1] at HWR
  have HD0 := Lib.hid (fun X (hX : Tab X) => digits_any who X hwho.1 hwho.2)
  simp only [← hde] at HD0
  have hq := err_len rerr
  have hdn := dig_len rn hrn.1 hrn.2
  obtain ⟨q1, hq1⟩ : ∃ q1, q1 = wd rerr errL := ⟨_, rfl⟩
  obtain ⟨d1, hd1⟩ : ∃ d1, d1 = dig rn := ⟨_, rfl⟩
  rw [← hq1] at hq
  rw [← hd1] at hdn
  have HWQ := Lib.hid (fun X => rwrong_any rerr X)
  simp only [← hq1] at HWQ
  have HDN := Lib.hid (fun X (hX : Tab X) => digits_any rn X hrn.1 hrn.2)
  simp only [← hd1] at HDN
  have HFULL : Hid (fullB sk who err rerr true rn val = k1 ++ sp ++ d0 ++ sp ++ e1 ++ sp ++ q1 ++ sp ++ ⟨#[121, 101, 115]⟩ ++ sp ++ d1 ++ sp ++ val) := Lib.hid (by unfold fullB; rw [HBASE.out, ← hq1, ← hd1]; rfl)
  have r0 : ¬ 9223372036854775807 < k1.size + 1 + d0.size + 1 + e1.size + 1 := by omega
  have r1 : ¬ 9223372036854775807 < k1.size + 1 + d0.size + 1 + e1.size + 1 + q1.size := by omega
  have r2 : ¬ 9223372036854775807 < k1.size + 1 + d0.size + 1 + e1.size + 1 + q1.size + 1 := by omega
  have r3 : ¬ 9223372036854775807 < k1.size + 1 + d0.size + 1 + e1.size + 1 + q1.size + 1 + 3 := by omega
  have r4 : ¬ 9223372036854775807 < k1.size + 1 + d0.size + 1 + e1.size + 1 + q1.size + 1 + 3 + 1 := by omega
  have r5 : ¬ 9223372036854775807 < k1.size + 1 + d0.size + 1 + e1.size + 1 + q1.size + 1 + 3 + 1 + d1.size := by omega
  have r6 : ¬ 9223372036854775807 < k1.size + 1 + d0.size + 1 + e1.size + 1 + q1.size + 1 + 3 + 1 + d1.size + 1 := by omega
  have r7 : ¬ 9223372036854775807 < k1.size + 1 + d0.size + 1 + e1.size + 1 + q1.size + 1 + 3 + 1 + d1.size + 1 + val.size := by omega
  clear hk1 he1 hA hB hstr hk he hde hd0 hq1 hd1 hq hdn hsk
  go_enter Tryd.func6, Tryd.ntmps6
  go_wp2_with fail
  refine HW.out.mono ?_
  rintro x w1 ⟨rfl, rfl⟩
  go_wp2_with fail
  refine (HD0.out _ HT0.out).mono ?_
  rintro x w2 ⟨rfl, hb2⟩
  have HB2 := Lib.hid (bl HB0.out hb2)
  have HA := Lib.hid ((hb2.block _ (lt_of_some HA.out)).trans HA.out)
  have HBB := Lib.hid ((hb2.block _ (lt_of_some HBB.out)).trans HBB.out)
  have HT2 := Lib.hid (HT0.out.below hb2)
  clear hb2
  have a0 := cell_at HA.out 0
  have a1 := cell_at HA.out 1
  have b0 := cell_at HBB.out 0
  have b1 := cell_at HBB.out 1
  have b2 := cell_at HBB.out 2
  have b3 := cell_at HBB.out 3
  have b4 := cell_at HBB.out 4
  have b5 := cell_at HBB.out 5
  go_wp2_with fail
  refine (HWR.out _).mono ?_
  rintro x w3 ⟨rfl, hb3⟩
  have HB3 := Lib.hid (bl HB2.out hb3)
  have HA := Lib.hid ((hb3.block _ (lt_of_some HA.out)).trans HA.out)
  have HBB := Lib.hid ((hb3.block _ (lt_of_some HBB.out)).trans HBB.out)
  have HT3 := Lib.hid (HT2.out.below hb3)
  clear hb3 a0 a1 b0 b1 b2 b3 b4 b5
  have a0 := fun X (hX : Below w3.heap.size w3 X) => cell_at ((hX.block _ (lt_of_some HA.out)).trans HA.out) 0
  have b0 := fun X (hX : Below w3.heap.size w3 X) => cell_at ((hX.block _ (lt_of_some HBB.out)).trans HBB.out) 0
  have b1 := fun X (hX : Below w3.heap.size w3 X) => cell_at ((hX.block _ (lt_of_some HBB.out)).trans HBB.out) 1
  have b2 := fun X (hX : Below w3.heap.size w3 X) => cell_at ((hX.block _ (lt_of_some HBB.out)).trans HBB.out) 2
  have b3 := fun X (hX : Below w3.heap.size w3 X) => cell_at ((hX.block _ (lt_of_some HBB.out)).trans HBB.out) 3
  have b4 := fun X (hX : Below w3.heap.size w3 X) => cell_at ((hX.block _ (lt_of_some HBB.out)).trans HBB.out) 4
  have b5 := fun X (hX : Below w3.heap.size w3 X) => cell_at ((hX.block _ (lt_of_some HBB.out)).trans HBB.out) 5
  have a0' := a0 w3 (Below.refl _ _)
  have b0' := b0 w3 (Below.refl _ _)
  have b1' := b1 w3 (Below.refl _ _)
  have b2' := b2 w3 (Below.refl _ _)
  have b3' := b3 w3 (Below.refl _ _)
  have b4' := b4 w3 (Below.refl _ _)
  have b5' := b5 w3 (Below.refl _ _)
  go_wp2_with fail
  clear a0' b0' b1' b2' b3' b4' b5'
  refine wp_region_held_drew (S := (fun X => Below w3.heap.size w3 X)) (by kernel_rfl) (((by repeat (first | exact Below.refl _ _ | assumption | apply below_dr | apply below_dn | apply below_al)) : Below w3.heap.size w3 _)) (fun hHeld => ?_)
  try simp only [Act.put, List.setIfInBounds_toArray, List.set_cons_zero, List.set_cons_succ]
  refine wpAnyH_take (i := 0) (v := ?_) (by simp only [List.getElem?_toArray, List.getElem?_cons_succ, List.getElem?_cons_zero]; rfl) (by kernel_rfl) (by kernel_rfl) (by kernel_rfl) (by exact fun _ _ _ h => h) (Or.inl ⟨by rfl, ?_⟩) (by assumption) ?_
  rotate_left
  · intro w hSw; (try dsimp only at hSw); go_simp; try with_reducible rfl
  try simp only [Act.put, List.setIfInBounds_toArray, List.set_cons_zero, List.set_cons_succ]
  refine wpAnyH_take (i := 1) (v := ?_) (by simp only [List.getElem?_toArray, List.getElem?_cons_succ, List.getElem?_cons_zero]; rfl) (by kernel_rfl) (by kernel_rfl) (by kernel_rfl) (by exact fun _ _ _ h => h) (Or.inl ⟨by rfl, ?_⟩) (by assumption) ?_
  rotate_left
  · intro w hSw; (try dsimp only at hSw); go_simp; try with_reducible rfl
  try simp only [Act.put, List.setIfInBounds_toArray, List.set_cons_zero, List.set_cons_succ]
  refine wpAnyH_take (i := 2) (v := ?_) (by simp only [List.getElem?_toArray, List.getElem?_cons_succ, List.getElem?_cons_zero]; rfl) (by kernel_rfl) (by kernel_rfl) (by kernel_rfl) (by exact fun _ _ _ h => h) (Or.inl ⟨by rfl, ?_⟩) (by assumption) ?_
  rotate_left
  · intro w hSw; (try dsimp only at hSw); go_simp; try with_reducible rfl
  try simp only [Act.put, List.setIfInBounds_toArray, List.set_cons_zero, List.set_cons_succ]
  refine wpAnyH_take (i := 3) (v := ?_) (by simp only [List.getElem?_toArray, List.getElem?_cons_succ, List.getElem?_cons_zero]; rfl) (by kernel_rfl) (by kernel_rfl) (by kernel_rfl) (by exact fun _ _ _ h => h) (Or.inl ⟨by rfl, ?_⟩) (by assumption) ?_
  rotate_left
  · intro w hSw; (try dsimp only at hSw); go_simp; try with_reducible rfl
  try simp only [Act.put, List.setIfInBounds_toArray, List.set_cons_zero, List.set_cons_succ]
  refine wpAnyH_take (i := 4) (v := ?_) (by simp only [List.getElem?_toArray, List.getElem?_cons_succ, List.getElem?_cons_zero]; rfl) (by kernel_rfl) (by kernel_rfl) (by kernel_rfl) (by exact fun _ _ _ h => h) (Or.inl ⟨by rfl, ?_⟩) (by assumption) ?_
  rotate_left
  · intro w hSw; (try dsimp only at hSw); go_simp; try with_reducible rfl
  try simp only [Act.put, List.setIfInBounds_toArray, List.set_cons_zero, List.set_cons_succ]
  refine wpAnyH_take (i := 8) (v := ?_) (by simp only [List.getElem?_toArray, List.getElem?_cons_succ, List.getElem?_cons_zero]; rfl) (by kernel_rfl) (by kernel_rfl) (by kernel_rfl) (by exact fun _ _ _ h => h) (Or.inl ⟨by rfl, ?_⟩) (by assumption) ?_
  rotate_left
  · intro w hSw; (try dsimp only at hSw); go_simp; try with_reducible rfl
  try simp only [Act.put, List.setIfInBounds_toArray, List.set_cons_zero, List.set_cons_succ]
  refine wpAnyH_take (i := 11) (v := ?_) (by simp only [List.getElem?_toArray, List.getElem?_cons_succ, List.getElem?_cons_zero]; rfl) (by kernel_rfl) (by kernel_rfl) (by kernel_rfl) (by exact fun _ _ _ h => h) (Or.inl ⟨by rfl, ?_⟩) (by assumption) ?_
  rotate_left
  · intro w hSw; (try dsimp only at hSw); go_simp; try with_reducible rfl
  try simp only [Act.put, List.setIfInBounds_toArray, List.set_cons_zero, List.set_cons_succ]
  refine wpAnyH_take (i := 12) (v := ?_) (by simp only [List.getElem?_toArray, List.getElem?_cons_succ, List.getElem?_cons_zero]; rfl) (by kernel_rfl) (by kernel_rfl) (by kernel_rfl) (by exact fun _ _ _ h => h) (Or.inl ⟨by rfl, ?_⟩) (by assumption) ?_
  rotate_left
  · intro w hSw; (try dsimp only at hSw); go_simp; try with_reducible rfl
  try simp only [Act.put, List.setIfInBounds_toArray, List.set_cons_zero, List.set_cons_succ]
  refine wpAnyH_take (i := 13) (v := ?_) (by simp only [List.getElem?_toArray, List.getElem?_cons_succ, List.getElem?_cons_zero]; rfl) (by kernel_rfl) (by kernel_rfl) (by kernel_rfl) (by exact fun _ _ _ h => h) (Or.inl ⟨by rfl, ?_⟩) (by assumption) ?_
  rotate_left
  · intro w hSw; (try dsimp only at hSw); go_simp; try with_reducible rfl
  try simp only [Act.put, List.setIfInBounds_toArray, List.set_cons_zero, List.set_cons_succ]
  refine wpAnyH_take (i := 17) (v := ?_) (by simp only [List.getElem?_toArray, List.getElem?_cons_succ, List.getElem?_cons_zero]; rfl) (by kernel_rfl) (by kernel_rfl) (by kernel_rfl) (by exact fun _ _ _ h => h) (Or.inl ⟨by rfl, ?_⟩) (by assumption) ?_
  rotate_left
  · intro w hSw; (try dsimp only at hSw); go_simp; try with_reducible rfl
  try simp only [Act.put, List.setIfInBounds_toArray, List.set_cons_zero, List.set_cons_succ]
  refine wpAnyH_take (i := 18) (v := ?_) (by simp only [List.getElem?_toArray, List.getElem?_cons_succ, List.getElem?_cons_zero]; rfl) (by kernel_rfl) (by kernel_rfl) (by kernel_rfl) (by exact fun _ _ _ h => h) (Or.inl ⟨by rfl, ?_⟩) (by assumption) ?_
  rotate_left
  · intro w hSw; (try dsimp only at hSw); go_simp; try with_reducible rfl
  try simp only [Act.put, List.setIfInBounds_toArray, List.set_cons_zero, List.set_cons_succ]
  refine wpAnyH_take (i := 19) (v := ?_) (by simp only [List.getElem?_toArray, List.getElem?_cons_succ, List.getElem?_cons_zero]; rfl) (by kernel_rfl) (by kernel_rfl) (by kernel_rfl) (by exact fun _ _ _ h => h) (Or.inl ⟨by rfl, ?_⟩) (by assumption) ?_
  rotate_left
  · intro w hSw; (try dsimp only at hSw); go_simp; try with_reducible rfl
  try simp only [Act.put, List.setIfInBounds_toArray, List.set_cons_zero, List.set_cons_succ]
  refine wpAnyH_ready (rs := [5]) (by kernel_rfl) (by simp) ?_
  refine AllReadyH.cons (by simp only [List.getElem?_toArray, List.getElem?_cons_succ, List.getElem?_cons_zero]; rfl) (fun K hK => ?_) AllReadyH.nil
  go_simp
  refine (HWQ.out _).mono ?_; rintro x w5 ⟨rfl, hb5⟩; have hz5 : Below w3.heap.size w3 w5 := bl (by repeat (first | exact Below.refl _ _ | assumption | apply below_dr | apply below_dn | apply below_al)) hb5
  try go_simp
  refine hK.out _ _ (((by repeat (first | exact Below.refl _ _ | assumption | apply below_dr | apply below_dn | apply below_al)) : Below w3.heap.size w3 _)) (fun hHeld => ?_)
  clear hK K
  try simp only [Act.put, List.setIfInBounds_toArray, List.set_cons_zero, List.set_cons_succ]
  refine wpAnyH_take (i := 6) (v := ?_) (by simp only [List.getElem?_toArray, List.getElem?_cons_succ, List.getElem?_cons_zero]; rfl) (by kernel_rfl) (by kernel_rfl) (by kernel_rfl) (by exact fun _ _ _ h => h) (Or.inl ⟨by rfl, ?_⟩) (by assumption) ?_
  rotate_left
  · intro w hSw; (try dsimp only at hSw); go_simp; try with_reducible rfl
  try simp only [Act.put, List.setIfInBounds_toArray, List.set_cons_zero, List.set_cons_succ]
  refine wpAnyH_take (i := 7) (v := ?_) (by simp only [List.getElem?_toArray, List.getElem?_cons_succ, List.getElem?_cons_zero]; rfl) (by kernel_rfl) (by kernel_rfl) (by kernel_rfl) (by exact fun _ _ _ h => h) (Or.inl ⟨by rfl, ?_⟩) (by assumption) ?_
  rotate_left
  · intro w hSw; (try dsimp only at hSw); go_simp; try with_reducible rfl
  try simp only [Act.put, List.setIfInBounds_toArray, List.set_cons_zero, List.set_cons_succ]
  refine wpAnyH_take (i := 9) (v := ?_) (by simp only [List.getElem?_toArray, List.getElem?_cons_succ, List.getElem?_cons_zero]; rfl) (by kernel_rfl) (by kernel_rfl) (by kernel_rfl) (by exact fun _ _ _ h => h) (Or.inl ⟨by rfl, ?_⟩) (by assumption) ?_
  rotate_left
  · intro w hSw; (try dsimp only at hSw); go_simp; try with_reducible rfl
  try simp only [Act.put, List.setIfInBounds_toArray, List.set_cons_zero, List.set_cons_succ]
  refine wpAnyH_take (i := 10) (v := ?_) (by simp only [List.getElem?_toArray, List.getElem?_cons_succ, List.getElem?_cons_zero]; rfl) (by kernel_rfl) (by kernel_rfl) (by kernel_rfl) (by exact fun _ _ _ h => h) (Or.inl ⟨by rfl, ?_⟩) (by assumption) ?_
  rotate_left
  · intro w hSw; (try dsimp only at hSw); go_simp; try with_reducible rfl
  try simp only [Act.put, List.setIfInBounds_toArray, List.set_cons_zero, List.set_cons_succ]
  refine wpAnyH_ready (rs := [14]) (by kernel_rfl) (by simp) ?_
  refine AllReadyH.cons (by simp only [List.getElem?_toArray, List.getElem?_cons_succ, List.getElem?_cons_zero]; rfl) (fun K hK => ?_) AllReadyH.nil
  go_simp
  refine (HDN.out _ (HT3.out.below (by repeat (first | exact Below.refl _ _ | assumption | apply below_dr | apply below_dn | apply below_al)))).mono ?_; rintro x w6 ⟨rfl, hb6⟩; have hz6 : Below w3.heap.size w3 w6 := bl (by repeat (first | exact Below.refl _ _ | assumption | apply below_dr | apply below_dn | apply below_al)) hb6
  try go_simp
  refine hK.out _ _ (((by repeat (first | exact Below.refl _ _ | assumption | apply below_dr | apply below_dn | apply below_al)) : Below w3.heap.size w3 _)) (fun hHeld => ?_)
  clear hK K
  try simp only [Act.put, List.setIfInBounds_toArray, List.set_cons_zero, List.set_cons_succ]
  refine wpAnyH_take (i := 15) (v := ?_) (by simp only [List.getElem?_toArray, List.getElem?_cons_succ, List.getElem?_cons_zero]; rfl) (by kernel_rfl) (by kernel_rfl) (by kernel_rfl) (by exact fun _ _ _ h => h) (Or.inl ⟨by rfl, ?_⟩) (by assumption) ?_
  rotate_left
  · intro w hSw; (try dsimp only at hSw); go_simp; try with_reducible rfl
  try simp only [Act.put, List.setIfInBounds_toArray, List.set_cons_zero, List.set_cons_succ]
  refine wpAnyH_take (i := 16) (v := ?_) (by simp only [List.getElem?_toArray, List.getElem?_cons_succ, List.getElem?_cons_zero]; rfl) (by kernel_rfl) (by kernel_rfl) (by kernel_rfl) (by exact fun _ _ _ h => h) (Or.inl ⟨by rfl, ?_⟩) (by assumption) ?_
  rotate_left
  · intro w hSw; (try dsimp only at hSw); go_simp; try with_reducible rfl
  try simp only [Act.put, List.setIfInBounds_toArray, List.set_cons_zero, List.set_cons_succ]
  refine wpAnyH_take (i := 20) (v := ?_) (by simp only [List.getElem?_toArray, List.getElem?_cons_succ, List.getElem?_cons_zero]; rfl) (by kernel_rfl) (by kernel_rfl) (by kernel_rfl) (by exact fun _ _ _ h => h) (Or.inl ⟨by rfl, ?_⟩) (by assumption) ?_
  rotate_left
  · intro w hSw; (try dsimp only at hSw); go_simp; try with_reducible rfl
  try simp only [Act.put, List.setIfInBounds_toArray, List.set_cons_zero, List.set_cons_succ]
  refine wpAnyH_ready (rs := [21]) (by kernel_rfl) (by simp) ?_
  refine AllReadyH.cons (by simp only [List.getElem?_toArray, List.getElem?_cons_succ, List.getElem?_cons_zero]; rfl) (fun K hK => ?_) AllReadyH.nil
  go_simp
  refine hK.out _ _ (((by repeat (first | exact Below.refl _ _ | assumption | apply below_dr | apply below_dn | apply below_al)) : Below w3.heap.size w3 _)) (fun hHeld => ?_)
  clear hK K
  try simp only [Act.put, List.setIfInBounds_toArray, List.set_cons_zero, List.set_cons_succ]
  refine wpAnyH_done (by kernel_rfl) ?_ _
  go_wp2_with fail
  go_ret
  exact ⟨by rw [HLINE.out, HFULL.out]; rfl, bl HB3.out (by repeat (first | exact Below.refl _ _ | assumption | apply below_dr | apply below_dn | apply below_al))⟩
set_option maxRecDepth 100000 in
set_option maxHeartbeats 4000000 in
theorem rline_4_zn (sk who xk : Int) (xkey xval : ByteArray) (keep torn part err rerr : Int) (val : ByteArray) (yes : Bool) (rn : Int) (en : Bool) (w : World) (htab : Tab w) (hwho : -9223372036854775808 ≤ who ∧ who ≤ 9223372036854775807) (hrn : -9223372036854775808 ≤ rn ∧ rn ≤ 9223372036854775807) (hval : val.size ≤ 1000000) (hsk : (sk = 4) ∧ err = 0) : Calls Tryd.prog 6 #[.agg #[.int .i64 sk, .int .i64 who, .int .i64 xk, .string xkey, .string xval, .int .u64 keep, .int .i64 torn, .int .i64 part], .agg #[.int .i64 err, .int .i64 rerr, .string val, .bool false, .int .i64 rn, .bool en]] w fun x w' => x = .returned (.string (lineB sk who err rerr val false rn en)) ∧ Below w.heap.size w w' := by
  have t3 : (sk == 3) = false := beq_eq_false_iff_ne.2 (by omega)
  have t3' : decide (sk = 3) = false := decide_eq_false (by omega)
  have t2 : (sk == 2) = false := beq_eq_false_iff_ne.2 (by omega)
  have t2' : decide (sk = 2) = false := decide_eq_false (by omega)
  have t4 : (sk == 4) = true := beq_iff_eq.2 (by omega)
  have t4' : decide (sk = 4) = true := decide_eq_true (by omega)
  have te : (err != 0) = false := by rw [bne_eq_false_iff_eq]; omega
  have te' : (err == 0) = true := beq_iff_eq.2 (by omega)
  have hk := kind_len sk
  have he := err_len err
  have hstr : StrsAt (((w.alloc (.cells #[.int .i64 sk, .int .i64 who, .int .i64 xk, .string xkey, .string xval, .int .u64 keep, .int .i64 torn, .int .i64 part] 26 (0, 0))).alloc (.cells #[.int .i64 err, .int .i64 rerr, .string val, .bool false, .int .i64 rn, .bool en] 31 (0, 0))).alloc (.cells (kindL.map Value.string).toArray 9 (0, 0))) (w.heap.size + 2) kindL := by have := strs_new ((w.alloc (.cells #[.int .i64 sk, .int .i64 who, .int .i64 xk, .string xkey, .string xval, .int .u64 keep, .int .i64 torn, .int .i64 part] 26 (0, 0))).alloc (.cells #[.int .i64 err, .int .i64 rerr, .string val, .bool false, .int .i64 rn, .bool en] 31 (0, 0))) kindL; rwa [World.size_alloc, World.size_alloc] at this
  have HW := Lib.hid (rword_any sk (w.heap.size + 2) kindL _ hstr)
  obtain ⟨hA, hB⟩ := new3 w (.cells #[.int .i64 sk, .int .i64 who, .int .i64 xk, .string xkey, .string xval, .int .u64 keep, .int .i64 torn, .int .i64 part] 26 (0, 0)) (.cells #[.int .i64 err, .int .i64 rerr, .string val, .bool false, .int .i64 rn, .bool en] 31 (0, 0)) (.cells (kindL.map Value.string).toArray 9 (0, 0))
  have HT0 := Lib.hid (htab.below (below_al (below_al (below_al (Below.refl _ w) (.cells #[.int .i64 sk, .int .i64 who, .int .i64 xk, .string xkey, .string xval, .int .u64 keep, .int .i64 torn, .int .i64 part] 26 (0, 0))) (.cells #[.int .i64 err, .int .i64 rerr, .string val, .bool false, .int .i64 rn, .bool en] 31 (0, 0))) (.cells (kindL.map Value.string).toArray 9 (0, 0))))
  have HB0 := Lib.hid (below_al (below_al (below_al (Below.refl _ w) (.cells #[.int .i64 sk, .int .i64 who, .int .i64 xk, .string xkey, .string xval, .int .u64 keep, .int .i64 torn, .int .i64 part] 26 (0, 0))) (.cells #[.int .i64 err, .int .i64 rerr, .string val, .bool false, .int .i64 rn, .bool en] 31 (0, 0))) (.cells (kindL.map Value.string).toArray 9 (0, 0)))
  have HA := Lib.hid hA
  have HBB := Lib.hid hB
  obtain ⟨k1, hk1⟩ : ∃ k1, k1 = wd sk kindL := ⟨_, rfl⟩
  obtain ⟨e1, he1⟩ : ∃ e1, e1 = wd err errL := ⟨_, rfl⟩
  rw [← hk1] at hk HW
  rw [← he1] at he
  have hd0 := dig_len who hwho.1 hwho.2
  obtain ⟨d0, hde⟩ : ∃ d0, d0 = dig who := ⟨_, rfl⟩
  rw [← hde] at hd0
  have HBASE : Hid (baseB sk who err = k1 ++ sp ++ d0 ++ sp ++ e1) := Lib.hid (by unfold baseB; rw [if_neg (by omega), hk1, he1, hde])
  have HLINE : Hid (lineB sk who err rerr val false rn en = fullB sk who err rerr false rn val) := Lib.hid (if_pos ⟨by omega, by exact .inr (by omega)⟩)
  have s0 : ¬ 9223372036854775807 < k1.size + 1 := by omega
  have s1 : ¬ 9223372036854775807 < k1.size + 1 + d0.size := by omega
  have s2 : ¬ 9223372036854775807 < k1.size + 1 + d0.size + 1 := by omega
  have s3 : ¬ 9223372036854775807 < k1.size + 1 + d0.size + 1 + e1.size := by omega
  have HWR := Lib.hid (fun X => rwrong_any err X)
  simp only [← he1] at HWR
  have HD0 := Lib.hid (fun X (hX : Tab X) => digits_any who X hwho.1 hwho.2)
  simp only [← hde] at HD0
  have hq := err_len rerr
  have hdn := dig_len rn hrn.1 hrn.2
  obtain ⟨q1, hq1⟩ : ∃ q1, q1 = wd rerr errL := ⟨_, rfl⟩
  obtain ⟨d1, hd1⟩ : ∃ d1, d1 = dig rn := ⟨_, rfl⟩
  rw [← hq1] at hq
  rw [← hd1] at hdn
  have HWQ := Lib.hid (fun X => rwrong_any rerr X)
  simp only [← hq1] at HWQ
  have HDN := Lib.hid (fun X (hX : Tab X) => digits_any rn X hrn.1 hrn.2)
  simp only [← hd1] at HDN
  have HFULL : Hid (fullB sk who err rerr false rn val = k1 ++ sp ++ d0 ++ sp ++ e1 ++ sp ++ q1 ++ sp ++ ⟨#[110, 111]⟩ ++ sp ++ d1 ++ sp ++ val) := Lib.hid (by unfold fullB; rw [HBASE.out, ← hq1, ← hd1]; rfl)
  have r0 : ¬ 9223372036854775807 < k1.size + 1 + d0.size + 1 + e1.size + 1 := by omega
  have r1 : ¬ 9223372036854775807 < k1.size + 1 + d0.size + 1 + e1.size + 1 + q1.size := by omega
  have r2 : ¬ 9223372036854775807 < k1.size + 1 + d0.size + 1 + e1.size + 1 + q1.size + 1 := by omega
  have r3 : ¬ 9223372036854775807 < k1.size + 1 + d0.size + 1 + e1.size + 1 + q1.size + 1 + 2 := by omega
  have r4 : ¬ 9223372036854775807 < k1.size + 1 + d0.size + 1 + e1.size + 1 + q1.size + 1 + 2 + 1 := by omega
  have r5 : ¬ 9223372036854775807 < k1.size + 1 + d0.size + 1 + e1.size + 1 + q1.size + 1 + 2 + 1 + d1.size := by omega
  have r6 : ¬ 9223372036854775807 < k1.size + 1 + d0.size + 1 + e1.size + 1 + q1.size + 1 + 2 + 1 + d1.size + 1 := by omega
  have r7 : ¬ 9223372036854775807 < k1.size + 1 + d0.size + 1 + e1.size + 1 + q1.size + 1 + 2 + 1 + d1.size + 1 + val.size := by omega
  clear hk1 he1 hA hB hstr hk he hde hd0 hq1 hd1 hq hdn hsk
  go_enter Tryd.func6, Tryd.ntmps6
  go_wp2_with fail
  refine HW.out.mono ?_
  rintro x w1 ⟨rfl, rfl⟩
  go_wp2_with fail
  refine (HD0.out _ HT0.out).mono ?_
  rintro x w2 ⟨rfl, hb2⟩
  have HB2 := Lib.hid (bl HB0.out hb2)
  have HA := Lib.hid ((hb2.block _ (lt_of_some HA.out)).trans HA.out)
  have HBB := Lib.hid ((hb2.block _ (lt_of_some HBB.out)).trans HBB.out)
  have HT2 := Lib.hid (HT0.out.below hb2)
  clear hb2
  have a0 := cell_at HA.out 0
  have a1 := cell_at HA.out 1
  have b0 := cell_at HBB.out 0
  have b1 := cell_at HBB.out 1
  have b2 := cell_at HBB.out 2
  have b3 := cell_at HBB.out 3
  have b4 := cell_at HBB.out 4
  have b5 := cell_at HBB.out 5
  go_wp2_with fail
  refine (HWR.out _).mono ?_
  rintro x w3 ⟨rfl, hb3⟩
  have HB3 := Lib.hid (bl HB2.out hb3)
  have HA := Lib.hid ((hb3.block _ (lt_of_some HA.out)).trans HA.out)
  have HBB := Lib.hid ((hb3.block _ (lt_of_some HBB.out)).trans HBB.out)
  have HT3 := Lib.hid (HT2.out.below hb3)
  clear hb3 a0 a1 b0 b1 b2 b3 b4 b5
  have a0 := fun X (hX : Below w3.heap.size w3 X) => cell_at ((hX.block _ (lt_of_some HA.out)).trans HA.out) 0
  have b0 := fun X (hX : Below w3.heap.size w3 X) => cell_at ((hX.block _ (lt_of_some HBB.out)).trans HBB.out) 0
  have b1 := fun X (hX : Below w3.heap.size w3 X) => cell_at ((hX.block _ (lt_of_some HBB.out)).trans HBB.out) 1
  have b2 := fun X (hX : Below w3.heap.size w3 X) => cell_at ((hX.block _ (lt_of_some HBB.out)).trans HBB.out) 2
  have b3 := fun X (hX : Below w3.heap.size w3 X) => cell_at ((hX.block _ (lt_of_some HBB.out)).trans HBB.out) 3
  have b4 := fun X (hX : Below w3.heap.size w3 X) => cell_at ((hX.block _ (lt_of_some HBB.out)).trans HBB.out) 4
  have b5 := fun X (hX : Below w3.heap.size w3 X) => cell_at ((hX.block _ (lt_of_some HBB.out)).trans HBB.out) 5
  have a0' := a0 w3 (Below.refl _ _)
  have b0' := b0 w3 (Below.refl _ _)
  have b1' := b1 w3 (Below.refl _ _)
  have b2' := b2 w3 (Below.refl _ _)
  have b3' := b3 w3 (Below.refl _ _)
  have b4' := b4 w3 (Below.refl _ _)
  have b5' := b5 w3 (Below.refl _ _)
  go_wp2_with fail
  clear a0' b0' b1' b2' b3' b4' b5'
  refine wp_region_held_drew (S := (fun X => Below w3.heap.size w3 X)) (by kernel_rfl) (((by repeat (first | exact Below.refl _ _ | assumption | apply below_dr | apply below_dn | apply below_al)) : Below w3.heap.size w3 _)) (fun hHeld => ?_)
  try simp only [Act.put, List.setIfInBounds_toArray, List.set_cons_zero, List.set_cons_succ]
  refine wpAnyH_take (i := 0) (v := ?_) (by simp only [List.getElem?_toArray, List.getElem?_cons_succ, List.getElem?_cons_zero]; rfl) (by kernel_rfl) (by kernel_rfl) (by kernel_rfl) (by exact fun _ _ _ h => h) (Or.inl ⟨by rfl, ?_⟩) (by assumption) ?_
  rotate_left
  · intro w hSw; (try dsimp only at hSw); go_simp; try with_reducible rfl
  try simp only [Act.put, List.setIfInBounds_toArray, List.set_cons_zero, List.set_cons_succ]
  refine wpAnyH_take (i := 1) (v := ?_) (by simp only [List.getElem?_toArray, List.getElem?_cons_succ, List.getElem?_cons_zero]; rfl) (by kernel_rfl) (by kernel_rfl) (by kernel_rfl) (by exact fun _ _ _ h => h) (Or.inl ⟨by rfl, ?_⟩) (by assumption) ?_
  rotate_left
  · intro w hSw; (try dsimp only at hSw); go_simp; try with_reducible rfl
  try simp only [Act.put, List.setIfInBounds_toArray, List.set_cons_zero, List.set_cons_succ]
  refine wpAnyH_take (i := 2) (v := ?_) (by simp only [List.getElem?_toArray, List.getElem?_cons_succ, List.getElem?_cons_zero]; rfl) (by kernel_rfl) (by kernel_rfl) (by kernel_rfl) (by exact fun _ _ _ h => h) (Or.inl ⟨by rfl, ?_⟩) (by assumption) ?_
  rotate_left
  · intro w hSw; (try dsimp only at hSw); go_simp; try with_reducible rfl
  try simp only [Act.put, List.setIfInBounds_toArray, List.set_cons_zero, List.set_cons_succ]
  refine wpAnyH_take (i := 3) (v := ?_) (by simp only [List.getElem?_toArray, List.getElem?_cons_succ, List.getElem?_cons_zero]; rfl) (by kernel_rfl) (by kernel_rfl) (by kernel_rfl) (by exact fun _ _ _ h => h) (Or.inl ⟨by rfl, ?_⟩) (by assumption) ?_
  rotate_left
  · intro w hSw; (try dsimp only at hSw); go_simp; try with_reducible rfl
  try simp only [Act.put, List.setIfInBounds_toArray, List.set_cons_zero, List.set_cons_succ]
  refine wpAnyH_take (i := 4) (v := ?_) (by simp only [List.getElem?_toArray, List.getElem?_cons_succ, List.getElem?_cons_zero]; rfl) (by kernel_rfl) (by kernel_rfl) (by kernel_rfl) (by exact fun _ _ _ h => h) (Or.inl ⟨by rfl, ?_⟩) (by assumption) ?_
  rotate_left
  · intro w hSw; (try dsimp only at hSw); go_simp; try with_reducible rfl
  try simp only [Act.put, List.setIfInBounds_toArray, List.set_cons_zero, List.set_cons_succ]
  refine wpAnyH_take (i := 8) (v := ?_) (by simp only [List.getElem?_toArray, List.getElem?_cons_succ, List.getElem?_cons_zero]; rfl) (by kernel_rfl) (by kernel_rfl) (by kernel_rfl) (by exact fun _ _ _ h => h) (Or.inl ⟨by rfl, ?_⟩) (by assumption) ?_
  rotate_left
  · intro w hSw; (try dsimp only at hSw); go_simp; try with_reducible rfl
  try simp only [Act.put, List.setIfInBounds_toArray, List.set_cons_zero, List.set_cons_succ]
  refine wpAnyH_take (i := 11) (v := ?_) (by simp only [List.getElem?_toArray, List.getElem?_cons_succ, List.getElem?_cons_zero]; rfl) (by kernel_rfl) (by kernel_rfl) (by kernel_rfl) (by exact fun _ _ _ h => h) (Or.inl ⟨by rfl, ?_⟩) (by assumption) ?_
  rotate_left
  · intro w hSw; (try dsimp only at hSw); go_simp; try with_reducible rfl
  try simp only [Act.put, List.setIfInBounds_toArray, List.set_cons_zero, List.set_cons_succ]
  refine wpAnyH_take (i := 12) (v := ?_) (by simp only [List.getElem?_toArray, List.getElem?_cons_succ, List.getElem?_cons_zero]; rfl) (by kernel_rfl) (by kernel_rfl) (by kernel_rfl) (by exact fun _ _ _ h => h) (Or.inl ⟨by rfl, ?_⟩) (by assumption) ?_
  rotate_left
  · intro w hSw; (try dsimp only at hSw); go_simp; try with_reducible rfl
  try simp only [Act.put, List.setIfInBounds_toArray, List.set_cons_zero, List.set_cons_succ]
  refine wpAnyH_take (i := 13) (v := ?_) (by simp only [List.getElem?_toArray, List.getElem?_cons_succ, List.getElem?_cons_zero]; rfl) (by kernel_rfl) (by kernel_rfl) (by kernel_rfl) (by exact fun _ _ _ h => h) (Or.inl ⟨by rfl, ?_⟩) (by assumption) ?_
  rotate_left
  · intro w hSw; (try dsimp only at hSw); go_simp; try with_reducible rfl
  try simp only [Act.put, List.setIfInBounds_toArray, List.set_cons_zero, List.set_cons_succ]
  refine wpAnyH_take (i := 17) (v := ?_) (by simp only [List.getElem?_toArray, List.getElem?_cons_succ, List.getElem?_cons_zero]; rfl) (by kernel_rfl) (by kernel_rfl) (by kernel_rfl) (by exact fun _ _ _ h => h) (Or.inl ⟨by rfl, ?_⟩) (by assumption) ?_
  rotate_left
  · intro w hSw; (try dsimp only at hSw); go_simp; try with_reducible rfl
  try simp only [Act.put, List.setIfInBounds_toArray, List.set_cons_zero, List.set_cons_succ]
  refine wpAnyH_take (i := 18) (v := ?_) (by simp only [List.getElem?_toArray, List.getElem?_cons_succ, List.getElem?_cons_zero]; rfl) (by kernel_rfl) (by kernel_rfl) (by kernel_rfl) (by exact fun _ _ _ h => h) (Or.inl ⟨by rfl, ?_⟩) (by assumption) ?_
  rotate_left
  · intro w hSw; (try dsimp only at hSw); go_simp; try with_reducible rfl
  try simp only [Act.put, List.setIfInBounds_toArray, List.set_cons_zero, List.set_cons_succ]
  refine wpAnyH_take (i := 19) (v := ?_) (by simp only [List.getElem?_toArray, List.getElem?_cons_succ, List.getElem?_cons_zero]; rfl) (by kernel_rfl) (by kernel_rfl) (by kernel_rfl) (by exact fun _ _ _ h => h) (Or.inl ⟨by rfl, ?_⟩) (by assumption) ?_
  rotate_left
  · intro w hSw; (try dsimp only at hSw); go_simp; try with_reducible rfl
  try simp only [Act.put, List.setIfInBounds_toArray, List.set_cons_zero, List.set_cons_succ]
  refine wpAnyH_ready (rs := [5]) (by kernel_rfl) (by simp) ?_
  refine AllReadyH.cons (by simp only [List.getElem?_toArray, List.getElem?_cons_succ, List.getElem?_cons_zero]; rfl) (fun K hK => ?_) AllReadyH.nil
  go_simp
  refine (HWQ.out _).mono ?_; rintro x w5 ⟨rfl, hb5⟩; have hz5 : Below w3.heap.size w3 w5 := bl (by repeat (first | exact Below.refl _ _ | assumption | apply below_dr | apply below_dn | apply below_al)) hb5
  try go_simp
  refine hK.out _ _ (((by repeat (first | exact Below.refl _ _ | assumption | apply below_dr | apply below_dn | apply below_al)) : Below w3.heap.size w3 _)) (fun hHeld => ?_)
  clear hK K
  try simp only [Act.put, List.setIfInBounds_toArray, List.set_cons_zero, List.set_cons_succ]
  refine wpAnyH_take (i := 6) (v := ?_) (by simp only [List.getElem?_toArray, List.getElem?_cons_succ, List.getElem?_cons_zero]; rfl) (by kernel_rfl) (by kernel_rfl) (by kernel_rfl) (by exact fun _ _ _ h => h) (Or.inl ⟨by rfl, ?_⟩) (by assumption) ?_
  rotate_left
  · intro w hSw; (try dsimp only at hSw); go_simp; try with_reducible rfl
  try simp only [Act.put, List.setIfInBounds_toArray, List.set_cons_zero, List.set_cons_succ]
  refine wpAnyH_take (i := 7) (v := ?_) (by simp only [List.getElem?_toArray, List.getElem?_cons_succ, List.getElem?_cons_zero]; rfl) (by kernel_rfl) (by kernel_rfl) (by kernel_rfl) (by exact fun _ _ _ h => h) (Or.inl ⟨by rfl, ?_⟩) (by assumption) ?_
  rotate_left
  · intro w hSw; (try dsimp only at hSw); go_simp; try with_reducible rfl
  try simp only [Act.put, List.setIfInBounds_toArray, List.set_cons_zero, List.set_cons_succ]
  refine wpAnyH_take (i := 9) (v := ?_) (by simp only [List.getElem?_toArray, List.getElem?_cons_succ, List.getElem?_cons_zero]; rfl) (by kernel_rfl) (by kernel_rfl) (by kernel_rfl) (by exact fun _ _ _ h => h) (Or.inl ⟨by rfl, ?_⟩) (by assumption) ?_
  rotate_left
  · intro w hSw; (try dsimp only at hSw); go_simp; try with_reducible rfl
  try simp only [Act.put, List.setIfInBounds_toArray, List.set_cons_zero, List.set_cons_succ]
  refine wpAnyH_take (i := 10) (v := ?_) (by simp only [List.getElem?_toArray, List.getElem?_cons_succ, List.getElem?_cons_zero]; rfl) (by kernel_rfl) (by kernel_rfl) (by kernel_rfl) (by exact fun _ _ _ h => h) (Or.inl ⟨by rfl, ?_⟩) (by assumption) ?_
  rotate_left
  · intro w hSw; (try dsimp only at hSw); go_simp; try with_reducible rfl
  try simp only [Act.put, List.setIfInBounds_toArray, List.set_cons_zero, List.set_cons_succ]
  refine wpAnyH_ready (rs := [14]) (by kernel_rfl) (by simp) ?_
  refine AllReadyH.cons (by simp only [List.getElem?_toArray, List.getElem?_cons_succ, List.getElem?_cons_zero]; rfl) (fun K hK => ?_) AllReadyH.nil
  go_simp
  refine (HDN.out _ (HT3.out.below (by repeat (first | exact Below.refl _ _ | assumption | apply below_dr | apply below_dn | apply below_al)))).mono ?_; rintro x w6 ⟨rfl, hb6⟩; have hz6 : Below w3.heap.size w3 w6 := bl (by repeat (first | exact Below.refl _ _ | assumption | apply below_dr | apply below_dn | apply below_al)) hb6
  try go_simp
  refine hK.out _ _ (((by repeat (first | exact Below.refl _ _ | assumption | apply below_dr | apply below_dn | apply below_al)) : Below w3.heap.size w3 _)) (fun hHeld => ?_)
  clear hK K
  try simp only [Act.put, List.setIfInBounds_toArray, List.set_cons_zero, List.set_cons_succ]
  refine wpAnyH_take (i := 15) (v := ?_) (by simp only [List.getElem?_toArray, List.getElem?_cons_succ, List.getElem?_cons_zero]; rfl) (by kernel_rfl) (by kernel_rfl) (by kernel_rfl) (by exact fun _ _ _ h => h) (Or.inl ⟨by rfl, ?_⟩) (by assumption) ?_
  rotate_left
  · intro w hSw; (try dsimp only at hSw); go_simp; try with_reducible rfl
  try simp only [Act.put, List.setIfInBounds_toArray, List.set_cons_zero, List.set_cons_succ]
  refine wpAnyH_take (i := 16) (v := ?_) (by simp only [List.getElem?_toArray, List.getElem?_cons_succ, List.getElem?_cons_zero]; rfl) (by kernel_rfl) (by kernel_rfl) (by kernel_rfl) (by exact fun _ _ _ h => h) (Or.inl ⟨by rfl, ?_⟩) (by assumption) ?_
  rotate_left
  · intro w hSw; (try dsimp only at hSw); go_simp; try with_reducible rfl
  try simp only [Act.put, List.setIfInBounds_toArray, List.set_cons_zero, List.set_cons_succ]
  refine wpAnyH_take (i := 20) (v := ?_) (by simp only [List.getElem?_toArray, List.getElem?_cons_succ, List.getElem?_cons_zero]; rfl) (by kernel_rfl) (by kernel_rfl) (by kernel_rfl) (by exact fun _ _ _ h => h) (Or.inl ⟨by rfl, ?_⟩) (by assumption) ?_
  rotate_left
  · intro w hSw; (try dsimp only at hSw); go_simp; try with_reducible rfl
  try simp only [Act.put, List.setIfInBounds_toArray, List.set_cons_zero, List.set_cons_succ]
  refine wpAnyH_ready (rs := [21]) (by kernel_rfl) (by simp) ?_
  refine AllReadyH.cons (by simp only [List.getElem?_toArray, List.getElem?_cons_succ, List.getElem?_cons_zero]; rfl) (fun K hK => ?_) AllReadyH.nil
  go_simp
  refine hK.out _ _ (((by repeat (first | exact Below.refl _ _ | assumption | apply below_dr | apply below_dn | apply below_al)) : Below w3.heap.size w3 _)) (fun hHeld => ?_)
  clear hK K
  try simp only [Act.put, List.setIfInBounds_toArray, List.set_cons_zero, List.set_cons_succ]
  refine wpAnyH_done (by kernel_rfl) ?_ _
  go_wp2_with fail
  go_ret
  exact ⟨by rw [HLINE.out, HFULL.out]; rfl, bl HB3.out (by repeat (first | exact Below.refl _ _ | assumption | apply below_dr | apply below_dn | apply below_al))⟩
theorem rline_any (sk who xk : Int) (xkey xval : ByteArray) (keep torn part err rerr : Int) (val : ByteArray) (yes : Bool) (rn : Int) (en : Bool) (w : World) (htab : Tab w) (hwho : -9223372036854775808 ≤ who ∧ who ≤ 9223372036854775807) (hrn : -9223372036854775808 ≤ rn ∧ rn ≤ 9223372036854775807) (hval : val.size ≤ 1000000) : Calls Tryd.prog 6 #[.agg #[.int .i64 sk, .int .i64 who, .int .i64 xk, .string xkey, .string xval, .int .u64 keep, .int .i64 torn, .int .i64 part], .agg #[.int .i64 err, .int .i64 rerr, .string val, .bool yes, .int .i64 rn, .bool en]] w fun x w' => x = .returned (.string (lineB sk who err rerr val yes rn en)) ∧ Below w.heap.size w w' := by
  by_cases he : err = 0
  · rcases (by omega : sk = 2 ∨ sk = 3 ∨ sk = 4 ∨ (sk ≠ 2 ∧ sk ≠ 3 ∧ sk ≠ 4)) with h | h | h | h
    · cases en with
      | true => cases yes with
        | true => exact rline_2_zyt sk who xk xkey xval keep torn part err rerr val true rn true w htab hwho hrn hval ⟨h, he⟩
        | false => exact rline_2_znt sk who xk xkey xval keep torn part err rerr val false rn true w htab hwho hrn hval ⟨h, he⟩
      | false => exact rline_2_zf sk who xk xkey xval keep torn part err rerr val yes rn false w htab hwho hrn hval ⟨h, he⟩
    · exact rline_3_z sk who xk xkey xval keep torn part err rerr val yes rn en w htab hwho hrn hval ⟨h, he⟩
    · cases yes with
      | true => exact rline_4_zy sk who xk xkey xval keep torn part err rerr val true rn en w htab hwho hrn hval ⟨h, he⟩
      | false => exact rline_4_zn sk who xk xkey xval keep torn part err rerr val false rn en w htab hwho hrn hval ⟨h, he⟩
    · exact rline_x_z sk who xk xkey xval keep torn part err rerr val yes rn en w htab hwho hrn hval ⟨h, he⟩
  · rcases (by omega : sk = 2 ∨ sk = 3 ∨ sk = 4 ∨ (sk ≠ 2 ∧ sk ≠ 3 ∧ sk ≠ 4)) with h | h | h | h
    · cases en with
      | true => exact rline_2_nt sk who xk xkey xval keep torn part err rerr val yes rn true w htab hwho hrn hval ⟨h, he⟩
      | false => exact rline_2_nf sk who xk xkey xval keep torn part err rerr val yes rn false w htab hwho hrn hval ⟨h, he⟩
    · exact rline_3_n sk who xk xkey xval keep torn part err rerr val yes rn en w htab hwho hrn hval ⟨h, he⟩
    · exact rline_4_n sk who xk xkey xval keep torn part err rerr val yes rn en w htab hwho hrn hval ⟨h, he⟩
    · exact rline_x_n sk who xk xkey xval keep torn part err rerr val yes rn en w htab hwho hrn hval ⟨h, he⟩
end Go.Proofs.YtpjgmcoimniheaaDoor.Sl
