/- A reader of bytes, by walks: Err, fails, bytes, number, Take8, Take16, Take32. -/
import Derived.Test.YtpgpphmpnebafaaGreatMtE
import Derived.Deep.QuietTactic
import Derived.BigQuiet
import Derived.Deep.RegionHeld3
namespace Go.Proofs.YtpgpphmpnebafaaGreat.Mt
open Go.RowKit Go.Proofs.YtpgpphmpnebafaaGreat.By
set_option linter.unusedSimpArgs false
set_option linter.unusedVariables false
set_option maxRecDepth 100000

/-- A reader in block R: its bytes, how far they are read, the error. -/
def Rdr (w : World) (R : Nat) (s : ByteArray) (at' e : Nat) : Prop := ∃ (Ao : Option Addr) (cap : Nat), w.heap[R]? = some (.cells #[.slice Ao s.size cap, .int .i64 (at' : Int), .int .i64 (e : Int)] 245 (0, 0)) ∧ s.size ≤ cap ∧ cap ≤ maxLen ∧ RdB w Ao s ∧ (∀ ad, Ao = some ad → ∃ g, ad = ⟨g, 0, none⟩ ∧ g ≠ R) ∧ at' ≤ s.size
def num (l : List Nat) : Nat := l.foldl (fun n c => n * 256 + c) 0
theorem num_snoc (l : List Nat) (c : Nat) : num (l ++ [c]) = num l * 256 + c := by unfold num; rw [List.foldl_append]; rfl
theorem num_lt_aux (l : List Nat) : ∀ (n k : Nat), n < 256 ^ k → (∀ c ∈ l, c < 256) → l.foldl (fun n c => n * 256 + c) n < 256 ^ (k + l.length) := by
  induction l with
  | nil => intro n k hn _; exact hn
  | cons c l ih =>
    intro n k hn h
    have h2 := h c (by simp)
    have h3 := ih (n * 256 + c) (k + 1) (by rw [Nat.pow_succ]; omega) (fun d hd => h d (by simp [hd]))
    rw [List.foldl_cons, List.length_cons, show k + (l.length + 1) = k + 1 + l.length from by omega]
    exact h3
theorem num_lt (l : List Nat) (h : ∀ c ∈ l, c < 256) : num l < 256 ^ l.length := by
  have := num_lt_aux l 0 0 (by decide) h
  rwa [Nat.zero_add] at this
/-- What taking m bytes gives, and the reader behind it. -/
def tkV (s : ByteArray) (a e m : Nat) : Nat := if e ≠ 0 then 0 else if s.size < a + m then 0 else num (((nats s).drop a).take m)
def tkA (s : ByteArray) (a e m : Nat) : Nat := if e ≠ 0 then a else if s.size < a + m then a else a + m
def tkE (s : ByteArray) (a e m : Nat) : Nat := if e ≠ 0 then e else if s.size < a + m then 2 else 0
section
variable {w w1 : World} {R a e : Nat} {s : ByteArray}
theorem Rdr.move (h : Rdr w R s a e) (hb : Chg (fun _ => False) w w1) : Rdr w1 R s a e := by
  obtain ⟨g, cap, h1, h2, h3, h4, h5, h6⟩ := h
  refine ⟨g, cap, (hb.block R (lt_of_some h1) (fun h => h)).trans h1, h2, h3, ?_, h5, h6⟩
  intro hp
  obtain ⟨ad, he, hc⟩ := h4 hp
  refine ⟨ad, he, fun j u hj => ?_⟩
  have h7 := hc j u hj
  have hlt := World.block_lt_of_cell? w _ h7
  exact (World.cell?_of_block (hb.block _ hlt (fun h => h))).trans h7
theorem Rdr.below (h : Rdr w R s a e) (hb : Below w.heap.size w w1) : Rdr w1 R s a e := h.move (Chg.of_below hb _)
theorem Rdr.put (h : Rdr w R s a e) {a' e' : Nat} (ha : a' ≤ s.size) (hw : ∀ k, k ≠ R → w1.heap[k]? = w.heap[k]?) (hR : ∀ v, w.heap[R]? = some (.cells #[v, .int .i64 (a : Int), .int .i64 (e : Int)] 245 (0, 0)) → w1.heap[R]? = some (.cells #[v, .int .i64 (a' : Int), .int .i64 (e' : Int)] 245 (0, 0))) : Rdr w1 R s a' e' := by
  obtain ⟨g, cap, h1, h2, h3, h4, h5, h6⟩ := h
  refine ⟨g, cap, hR _ h1, h2, h3, ?_, h5, ha⟩
  intro hp
  obtain ⟨ad, he, hc⟩ := h4 hp
  refine ⟨ad, he, fun j u hj => ?_⟩
  have h7 := hc j u hj
  refine (World.cell?_of_block (hw _ ?_)).trans h7
  obtain ⟨g, rfl, hg⟩ := h5 ad he
  rw [add_plain]; exact hg
theorem Rdr.setAt (h : Rdr w R s a e) {a' : Nat} (ha : a' ≤ s.size) : Rdr (w.setCell ⟨R, 1, none⟩ (.int .i64 (a' : Int))) R s a' e :=
  h.put ha (fun k hk => heap_setCell_ne w R 1 k _ hk) (fun v hv => by rw [heap_setCell_self w R 1 _ _ _ hv]; rfl)
theorem Rdr.setE (h : Rdr w R s a e) (e' : Nat) : Rdr (w.setCell ⟨R, 2, none⟩ (.int .i64 (e' : Int))) R s a e' :=
  h.put (by obtain ⟨_, _, _, _, _, _, _, h6⟩ := h; exact h6) (fun k hk => heap_setCell_ne w R 2 k _ hk) (fun v hv => by rw [heap_setCell_self w R 2 _ _ _ hv]; rfl)
theorem Rdr.cells (h : Rdr w R s a e) : ∃ (Ao : Option Addr) (cap : Nat), s.size ≤ cap ∧ cap ≤ maxLen ∧ w.cell? ⟨R, 0, none⟩ = some (.slice Ao s.size cap) ∧ w.cell? ⟨R, 1, none⟩ = some (.int .i64 (a : Int)) ∧ w.cell? ⟨R, 2, none⟩ = some (.int .i64 (e : Int)) ∧ w.frozen? ⟨R, 1, none⟩ = false ∧ w.frozen? ⟨R, 2, none⟩ = false ∧ RdB w Ao s ∧ a ≤ s.size := by
  obtain ⟨g, cap, h1, h2, h3, h4, h5, h6⟩ := h
  exact ⟨g, cap, h2, h3, cell_at h1 0, cell_at h1 1, cell_at h1 2, frozen_at h1 1, frozen_at h1 2, h4, h6⟩
theorem err_any (h : Rdr w R s a e) : Calls Tryz.prog 114 #[.pointer (some ⟨R, 0, none⟩)] w fun x w' => x = .returned (.int .i64 (e : Int)) ∧ w = w' := by
  obtain ⟨g, cap, -, -, -, -, hc2, -, -, -, -⟩ := h.cells
  clear h
  go_enter Tryz.func114, Tryz.ntmps114
  go_wp2
  go_ret
  exact ⟨rfl, rfl⟩
theorem fails_first (h : Rdr w R s a 0) (e' : Nat) : Calls Tryz.prog 193 #[.pointer (some ⟨R, 0, none⟩), .int .i64 (e' : Int)] w fun x w' => x = .returned (.tuple #[]) ∧ w' = w.setCell ⟨R, 2, none⟩ (.int .i64 (e' : Int)) := by
  obtain ⟨g, cap, -, -, -, -, hc2, -, hf2, -, -⟩ := h.cells
  have HE : Hid (Calls Tryz.prog 114 #[.pointer (some ⟨R, 0, none⟩)] w fun x w' => x = .returned (.int .i64 0) ∧ w = w') := Lib.hid (err_any h)
  have hc2' : w.cell? ⟨R, 2, none⟩ = some (.int .i64 0) := hc2
  clear h hc2
  go_enter Tryz.func193, Tryz.ntmps193
  go_wp2_with fail
  refine HE.out.mono ?_
  rintro x w1 ⟨rfl, rfl⟩
  go_wp2_with fail
  go_end0
  exact ⟨rfl, rfl⟩
set_option maxHeartbeats 1000000 in
theorem bytes_err (h : Rdr w R s a e) (he : e ≠ 0) (m : Nat) : Calls Tryz.prog 171 #[.pointer (some ⟨R, 0, none⟩), .int .i64 (m : Int)] w fun x w' => x = .returned (.slice none 0 0) ∧ w = w' := by
  have HE := Lib.hid (err_any h)
  have t1 : ((e : Int) != 0) = true := by rw [bne_iff_ne]; omega
  have t2 : (e != 0) = true := by rw [bne_iff_ne]; exact he
  clear h he
  go_enter Tryz.func171, Tryz.ntmps171
  go_wp2_with fail
  refine HE.out.mono ?_
  rintro x w1 ⟨rfl, rfl⟩
  go_wp2_with fail
  go_ret
  exact ⟨rfl, rfl⟩
set_option maxHeartbeats 1000000 in
theorem bytes_short (h : Rdr w R s a 0) (m : Nat) (hs : s.size ≤ 1000000) (hm : m ≤ 1000000) (hlt : s.size < a + m) : Calls Tryz.prog 171 #[.pointer (some ⟨R, 0, none⟩), .int .i64 (m : Int)] w fun x w' => x = .returned (.slice none 0 0) ∧ Rdr w' R s a 2 ∧ Chg (· = R) w w' := by
  have HE : Hid (Calls Tryz.prog 114 #[.pointer (some ⟨R, 0, none⟩)] w fun x w' => x = .returned (.int .i64 0) ∧ w = w') := Lib.hid (err_any h)
  obtain ⟨g, cap, hcap, hcm, hc0, hc1, hc2, hf1, hf2, hrd, has⟩ := h.cells
  unfold maxLen at hcm
  have HF : Hid (∀ n, Calls Tryz.prog 193 #[.pointer (some ⟨R, 0, none⟩), .int .i64 2] (w.drewN n) fun x w' => x = .returned (.tuple #[]) ∧ w' = (w.drewN n).setCell ⟨R, 2, none⟩ (.int .i64 2)) := Lib.hid (fun n => fails_first (h.below (below_dn (Below.refl _ _) n)) 2)
  have HR := Lib.hid h
  have t1 : decide ((s.size : Int) - (a : Int) < (m : Int)) = true := decide_eq_true (by omega)
  have hw1 : IntKind.i64.wrap ((s.size : Int) - (a : Int)) = (s.size : Int) - (a : Int) := IntWalk.i64_in _ (by omega)
  clear h hc2 hf1 hf2
  go_enter Tryz.func171, Tryz.ntmps171
  go_wp2_with fail
  refine HE.out.mono ?_
  rintro x w1 ⟨rfl, rfl⟩
  go_wp2_with fail
  go_quiet (fail)
  clear hw1
  go_wp2_with fail
  refine (HF.out _).mono ?_
  rintro x w1 ⟨rfl, rfl⟩
  go_wp2_with fail
  go_ret
  exact ⟨rfl, (HR.out.below (below_dn (Below.refl _ _) _)).setE 2, (Chg.setCell (F := (· = R)) (Chg.of_below (below_dn (Below.refl _ _) _) _) (p := ⟨R, 2, none⟩) (.inl rfl) _)⟩
set_option maxHeartbeats 2000000 in
theorem bytes_ok (h : Rdr w R s a 0) (m : Nat) (hs : s.size ≤ 1000000) (hm0 : 0 < m) (hle : a + m ≤ s.size) : Calls Tryz.prog 171 #[.pointer (some ⟨R, 0, none⟩), .int .i64 (m : Int)] w fun x w' => ∃ g c, x = .returned (.slice (some ⟨g, a, none⟩) m c) ∧ (∀ (j c : Nat), ((nats s).drop a)[j]? = some c → w'.cell? ⟨g, a + j, none⟩ = some (.int .u8 (c : Int))) ∧ Rdr w' R s (a + m) 0 ∧ Chg (· = R) w w' := by
  have HE : Hid (Calls Tryz.prog 114 #[.pointer (some ⟨R, 0, none⟩)] w fun x w' => x = .returned (.int .i64 0) ∧ w = w') := Lib.hid (err_any h)
  obtain ⟨g, cap, hcap, hcm, hc0, hc1, hc2, hf1, hf2, hrd, has⟩ := h.cells
  unfold maxLen at hcm
  obtain ⟨g, hg, hgR⟩ : ∃ g', g = some ⟨g', 0, none⟩ ∧ g' ≠ R := by
    obtain ⟨ad, hA, -⟩ := hrd (by omega)
    obtain ⟨Ao', cap', h1, _, _, _, h5, _⟩ := h
    have := cell_at h1 0
    rw [hc0] at this
    injection this with this
    injection this with this
    rw [hA] at this ⊢
    obtain ⟨g', rfl, hg'⟩ := h5 ad this.symm
    exact ⟨g', rfl, hg'⟩
  subst hg
  have HR := Lib.hid h
  have HG := Lib.hid hgR
  have HRD := Lib.hid hrd
  have t1 : decide ((s.size : Int) - (a : Int) < (m : Int)) = false := decide_eq_false (by omega)
  have hw1 : IntKind.i64.wrap ((s.size : Int) - (a : Int)) = (s.size : Int) - (a : Int) := IntWalk.i64_in _ (by omega)
  clear h hc2 hf2 hgR hrd
  go_enter Tryz.func171, Tryz.ntmps171
  go_wp2_with fail
  refine HE.out.mono ?_
  rintro x w1 ⟨rfl, rfl⟩
  go_wp2_with fail
  go_quiet (fail)
  obtain ⟨na, hna⟩ : ∃ na, na = nq := ⟨_, rfl⟩
  subst hna
  have hw2 : IntKind.i64.wrap ((a : Int) + (m : Int)) = (a : Int) + (m : Int) := IntWalk.i64_in _ (by omega)
  have hn1 : ((a : Int) + (m : Int)).toNat = a + m := by omega
  have hp1 : (0 : Int) ≤ (a : Int) + (m : Int) := by omega
  clear hw1
  go_wp2_with fail
  go_quiet (fail)
  go_wp2_with fail
  go_ret
  refine ⟨g, cap - a, rfl, ?_, ?_, ?_⟩
  · intro j c hj
    have hlt : a + j < s.size := by
      have := (List.getElem?_eq_some_iff.1 hj).1
      rw [List.length_drop, nats_length] at this; omega
    obtain ⟨ad, he, hc⟩ := HRD.out (by omega)
    injection he with he
    subst he
    have h2 := hc (a + j) (.int .u8 (c : Int)) (by rw [cells_nats, List.getElem?_map]; rw [List.getElem?_drop] at hj; rw [hj]; rfl)
    rw [add_plain] at h2
    exact (World.cell?_of_block (heap_setCell_ne _ R 1 g _ HG.out)).trans h2
  · have h3 := (HR.out.below (below_dn (Below.refl w.heap.size w) (na + nq))).setAt hle
    rw [show (((a + m : Nat)) : Int) = (a : Int) + (m : Int) from by omega] at h3
    exact h3
  · exact Chg.setCell (F := (· = R)) (Chg.of_below (below_dn (Below.refl _ _) _) _) (p := ⟨R, 1, none⟩) (.inl rfl) _
theorem or_byte (x c : Nat) (hx : x < 4294967296) (hc : c < 256) : bits BinOp.or IntKind.i64 ((x : Int) * 256) (c : Int) = ((x * 256 + c : Nat) : Int) := by
  have h1 : (BitVec.ofInt 64 ((x : Int) * 256)).toNat = x * 256 := by rw [BitVec.toNat_ofInt]; omega
  have h2 : (BitVec.ofInt 64 (c : Int)).toNat = c := by rw [BitVec.toNat_ofInt]; omega
  have h3 : x * 256 ||| c = x * 256 + c := by
    have := Nat.two_pow_add_eq_or_of_lt (i := 8) (b := c) hc x
    rw [show (2 : Nat) ^ 8 * x = x * 256 from by omega] at this
    exact this.symm
  show IntKind.i64.wrap ((BitVec.ofInt 64 ((x : Int) * 256) ||| BitVec.ofInt 64 (c : Int)).toNat : Int) = _
  rw [BitVec.toNat_or, h1, h2, h3, IntKind.wrap_i64]
  omega
set_option maxHeartbeats 2000000 in
theorem number_any (h : Rdr w R s a e) (m : Nat) (hs : s.size ≤ 1000000) (hm0 : 0 < m) (hm : m ≤ 4) : Calls Tryz.prog 137 #[.pointer (some ⟨R, 0, none⟩), .int .i64 (m : Int)] w fun x w' => x = .returned (.int .i64 (tkV s a e m : Int)) ∧ Rdr w' R s (tkA s a e m) (tkE s a e m) ∧ Chg (· = R) w w' := by
  by_cases he : e = 0
  · subst he
    by_cases hlt : s.size < a + m
    · have HB := Lib.hid (bytes_short h m hs (by omega) hlt)
      have e1 : tkV s a 0 m = 0 := by unfold tkV; rw [if_neg (by simp), if_pos hlt]
      have e2 : tkA s a 0 m = a := by unfold tkA; rw [if_neg (by simp), if_pos hlt]
      have e3 : tkE s a 0 m = 2 := by unfold tkE; rw [if_neg (by simp), if_pos hlt]
      rw [e1, e2, e3]
      clear h e1 e2 e3
      go_enter Tryz.func137, Tryz.ntmps137
      go_wp2_with fail
      refine HB.out.mono ?_
      rintro x w1 ⟨rfl, hr1, hc1⟩
      go_wp2_with fail
      refine wp_loop_rounds 1 ?_
      rw [rounds_succ]
      go_wp2
      go_ret
      exact ⟨rfl, hr1, hc1⟩
    · have HB := Lib.hid (bytes_ok h m hs hm0 (by omega))
      obtain ⟨L, hL⟩ : ∃ L, L = ((nats s).drop a).take m := ⟨_, rfl⟩
      have hLl : L.length = m := by rw [hL, List.length_take, List.length_drop, nats_length]; omega
      have hLb : ∀ c ∈ L, c < 256 := fun c hc => by rw [hL] at hc; exact nats_lt s c (List.mem_of_mem_drop (List.mem_of_mem_take hc))
      have e1 : tkV s a 0 m = num L := by unfold tkV; rw [if_neg (by simp), if_neg hlt, hL]
      have e2 : tkA s a 0 m = a + m := by unfold tkA; rw [if_neg (by simp), if_neg hlt]
      have e3 : tkE s a 0 m = 0 := by unfold tkE; rw [if_neg (by simp), if_neg hlt]
      have hat : ∀ (j c : Nat), L[j]? = some c → ((nats s).drop a)[j]? = some c := by
        intro j c hj
        rw [hL, List.getElem?_take] at hj
        split at hj
        · exact hj
        · cases hj
      rw [e1, e2, e3]
      have HL := Lib.hid hLl
      have HLB := Lib.hid hLb
      have HAT := Lib.hid hat
      have hlenm : L.length ≤ 4 := by omega
      clear h e1 e2 e3 hLl hLb hat hL
      go_enter Tryz.func137, Tryz.ntmps137
      go_wp2_with fail
      refine HB.out.mono ?_
      rintro x w1 ⟨g, cc, rfl, hcl, hr1, hc1⟩
      have HCL := Lib.hid hcl
      clear hcl
      go_wp2_with fail
      go_loop [5, 12] (fun n i => ∃ k : Nat, k ≤ m ∧ i = .int .i64 k ∧ n = .int .i64 (num (L.take k) : Int)) (fun _ i => m - (intOf i).toNat)
      case atStart => exact ⟨0, Nat.zero_le _, rfl, rfl⟩
      case round =>
        obtain ⟨k, hk, rfl, rfl⟩ := hrel
        by_cases hkm : k < m
        · obtain ⟨c, hc⟩ : ∃ c, L[k]? = some c := ⟨_, List.getElem?_eq_getElem (by rw [HL.out]; exact hkm)⟩
          have hc256 := HLB.out c (List.mem_of_getElem? hc)
          have hcell := HCL.out k c (HAT.out k c hc)
          have hnl := num_lt (L.take k) (fun d hd => HLB.out d (List.mem_of_mem_take hd))
          have hnx : num (L.take (k + 1)) = num (L.take k) * 256 + c := by rw [take_snoc _ _ _ hc, num_snoc]
          have hk3 : (L.take k).length ≤ 3 := by rw [List.length_take]; omega
          obtain ⟨N, hN⟩ : ∃ N, N = num (L.take k) := ⟨_, rfl⟩
          rw [← hN] at hnl hnx ⊢
          have hNb : N < 16777216 := Nat.lt_of_lt_of_le hnl (Nat.pow_le_pow_right (n := 256) (by decide) hk3)
          have hor := or_byte N c (by omega) hc256
          have t1 : decide ((k : Int) < (m : Int)) = true := decide_eq_true (by omega)
          have t2 : decide (k < m) = true := decide_eq_true hkm
          obtain ⟨N2, hN2⟩ : ∃ N2, N2 = N * 256 + c := ⟨_, rfl⟩
          rw [← hN2] at hor hnx
          have HNX := Lib.hid hnx
          clear hc hnx hN hN2 hnl
          go_wp2_with fail
          go_round
          case rel => exact ⟨k + 1, by omega, by go_num, by rw [HNX.out]⟩
          case measure => simp [intOf]; omega
        · have t1 : decide ((k : Int) < (m : Int)) = false := decide_eq_false (by omega)
          have t2 : decide (k < m) = false := decide_eq_false hkm
          have hall : L.take k = L := List.take_of_length_le (by rw [HL.out]; omega)
          rw [hall]
          clear hall
          go_wp2_with fail
          go_ret
          exact ⟨rfl, hr1, hc1⟩
  · have HB := Lib.hid (bytes_err h he m)
    have e1 : tkV s a e m = 0 := by unfold tkV; rw [if_pos he]
    have e2 : tkA s a e m = a := by unfold tkA; rw [if_pos he]
    have e3 : tkE s a e m = e := by unfold tkE; rw [if_pos he]
    rw [e1, e2, e3]
    have HR := Lib.hid h
    clear h e1 e2 e3 he
    go_enter Tryz.func137, Tryz.ntmps137
    go_wp2_with fail
    refine HB.out.mono ?_
    rintro x w1 ⟨rfl, rfl⟩
    go_wp2_with fail
    refine wp_loop_rounds 1 ?_
    rw [rounds_succ]
    go_wp2
    go_ret
    exact ⟨rfl, HR.out, Chg.refl _ _⟩
theorem take8_any (h : Rdr w R s a e) (hs : s.size ≤ 1000000) : Calls Tryz.prog 112 #[.pointer (some ⟨R, 0, none⟩)] w fun x w' => x = .returned (.int .i64 (tkV s a e 1 : Int)) ∧ Rdr w' R s (tkA s a e 1) (tkE s a e 1) ∧ Chg (· = R) w w' := by
  have HN := Lib.hid (number_any h 1 hs (by decide) (by decide))
  clear h
  go_enter Tryz.func112, Tryz.ntmps112
  go_wp2_with fail
  refine HN.out.mono ?_
  rintro x w1 ⟨rfl, hr1, hc1⟩
  go_wp2_with fail
  go_ret
  exact ⟨rfl, hr1, hc1⟩
theorem take16_any (h : Rdr w R s a e) (hs : s.size ≤ 1000000) : Calls Tryz.prog 113 #[.pointer (some ⟨R, 0, none⟩)] w fun x w' => x = .returned (.int .i64 (tkV s a e 2 : Int)) ∧ Rdr w' R s (tkA s a e 2) (tkE s a e 2) ∧ Chg (· = R) w w' := by
  have HN := Lib.hid (number_any h 2 hs (by decide) (by decide))
  clear h
  go_enter Tryz.func113, Tryz.ntmps113
  go_wp2_with fail
  refine HN.out.mono ?_
  rintro x w1 ⟨rfl, hr1, hc1⟩
  go_wp2_with fail
  go_ret
  exact ⟨rfl, hr1, hc1⟩
theorem take32_any (h : Rdr w R s a e) (hs : s.size ≤ 1000000) : Calls Tryz.prog 111 #[.pointer (some ⟨R, 0, none⟩)] w fun x w' => x = .returned (.int .i64 (tkV s a e 4 : Int)) ∧ Rdr w' R s (tkA s a e 4) (tkE s a e 4) ∧ Chg (· = R) w w' := by
  have HN := Lib.hid (number_any h 4 hs (by decide) (by decide))
  clear h
  go_enter Tryz.func111, Tryz.ntmps111
  go_wp2_with fail
  refine HN.out.mono ?_
  rintro x w1 ⟨rfl, hr1, hc1⟩
  go_wp2_with fail
  go_ret
  exact ⟨rfl, hr1, hc1⟩
end
end Go.Proofs.YtpgpphmpnebafaaGreat.Mt
