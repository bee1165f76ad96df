/- The document's reader of numbers, by walks. -/
import Derived.Test.YtpjgmcoimniheaaMsC
import Derived.Test.YtpjgmcoimniheaaMrB
namespace Go.Proofs.Ytpjgmcoimniheaa.Mt
open Go.RowKit Go.Proofs.Ytpjgmcoimniheaa.By
set_option linter.unusedSimpArgs false
set_option linter.unusedVariables false

def Rdq (w : World) (R : Nat) (s : ByteArray) (a e : Nat) : Prop := w.heap[R]? = some (.cells #[.string s, .int .i64 (a : Int), .int .i64 (e : Int)] 82 (0, 0)) ∧ a ≤ s.size
theorem Rdq.cells {w : World} {R a e : Nat} {s : ByteArray} (h : Rdq w R s a e) : w.cell? ⟨R, 0, none⟩ = some (.string s) ∧ w.cell? ⟨R, 1, none⟩ = some (.int .i64 (a : Int)) ∧ w.cell? ⟨R, 2, none⟩ = some (.int .i64 (e : Int)) ∧ w.frozen? ⟨R, 1, none⟩ = false ∧ w.frozen? ⟨R, 2, none⟩ = false :=
  ⟨cell_at h.1 0, cell_at h.1 1, cell_at h.1 2, frozen_at h.1 1, frozen_at h.1 2⟩
theorem Rdq.setE {w : World} {R a e : Nat} {s : ByteArray} (h : Rdq w R s a e) (f : Nat) : Rdq (w.setCell ⟨R, 2, none⟩ (.int .i64 (f : Int))) R s a f := ⟨heap_setCell_self w R 2 _ _ _ h.1, h.2⟩
theorem Rdq.setA {w : World} {R a e : Nat} {s : ByteArray} (h : Rdq w R s a e) (f : Nat) (hf : f ≤ s.size) : Rdq (w.setCell ⟨R, 1, none⟩ (.int .i64 (f : Int))) R s f e := ⟨heap_setCell_self w R 1 _ _ _ h.1, hf⟩
theorem Rdq.below {w w1 : World} {R a e : Nat} {s : ByteArray} (h : Rdq w R s a e) (hb : Below w.heap.size w w1) : Rdq w1 R s a e := ⟨(hb.block R (lt_of_some h.1)).trans h.1, h.2⟩
set_option maxHeartbeats 1000000 in
theorem takeq_any (R a e m : Nat) (s : ByteArray) (w : World) (h : Rdq w R s a e) (hs : s.size ≤ 1000000) (hm : m ≤ 4) (hee : e ≤ 2) :
    Calls Try.prog 42 #[.pointer (some ⟨R, 0, none⟩), .int .i64 (m : Int)] w fun x w' => x = .returned (.int .i64 (tkV s a e m : Int)) ∧ Rdq w' R s (tkA s a e m) (tkE s a e m) ∧ Chg (· = R) w w' := by
  obtain ⟨c0, c1, c2, f1, f2⟩ := h.cells
  have H := Lib.hid h
  have has := h.2
  clear h
  by_cases he : e = 0
  rotate_left
  · have t1 : decide ((e : Int) = 0) = false := decide_eq_false (by omega)
    have t2 : ((e : Int) == 0) = false := by simp; omega
    have t3 : decide (e = 0) = false := decide_eq_false he
    have t4 : (e == 0) = false := by simp; omega
    have hv : tkV s a e m = 0 := if_pos he
    have hA : tkA s a e m = a := if_pos he
    have hE : tkE s a e m = e := if_pos he
    rw [hv, hA, hE]
    clear hv hA hE
    go_enter Try.func42, Try.ntmps42
    go_wp2_with fail
    go_ret
    exact ⟨rfl, H.out, Chg.refl _ _⟩
  subst he
  have hw1 : IntKind.i64.wrap ((s.size : Int) - (a : Int)) = (s.size : Int) - (a : Int) := IntWalk.i64_in _ (by omega)
  by_cases hl : s.size < a + m
  · have t1 : decide ((s.size : Int) - (a : Int) < (m : Int)) = true := decide_eq_true (by omega)
    have hv : tkV s a 0 m = 0 := by unfold tkV; rw [if_neg (by simp), if_pos hl]
    have hA : tkA s a 0 m = a := by unfold tkA; rw [if_neg (by simp), if_pos hl]
    have hE : tkE s a 0 m = 2 := by unfold tkE; rw [if_neg (by simp), if_pos hl]
    rw [hv, hA, hE]
    clear hv hA hE
    go_enter Try.func42, Try.ntmps42
    go_wp2_with fail
    go_quiet (fail)
    clear hw1
    go_wp2_with fail
    go_ret
    exact ⟨rfl, (H.out.below (below_dn (Below.refl _ _) _)).setE 2, (Chg.setCell (F := (· = R)) (Chg.of_below (below_dn (Below.refl _ _) _) _) (p := ⟨R, 2, none⟩) (.inl rfl) _)⟩
  have t1 : decide ((s.size : Int) - (a : Int) < (m : Int)) = false := decide_eq_false (by omega)
  have hv : tkV s a 0 m = num (((nats s).drop a).take m) := by unfold tkV; rw [if_neg (by simp), if_neg hl]
  have hA : tkA s a 0 m = a + m := by unfold tkA; rw [if_neg (by simp), if_neg hl]
  have hE : tkE s a 0 m = 0 := by unfold tkE; rw [if_neg (by simp), if_neg hl]
  rw [hv, hA, hE]
  clear hv hA hE
  go_enter Try.func42, Try.ntmps42
  go_wp2_with fail
  go_quiet (fail)
  clear hw1
  go_wp2_with fail
  clear c0 c1 c2 f1 f2
  go_loopw [5, 6] (fun n i wr => ∃ j : Nat, j ≤ m ∧ n = .int .i64 ((num (((nats s).drop a).take j) : Nat) : Int) ∧ i = .int .i64 (j : Int) ∧ Below w.heap.size w wr) (fun _ i _ => m - (intOf i).toNat)
  case atStart => exact ⟨0, Nat.zero_le _, rfl, rfl, below_dn (Below.refl _ _) _⟩
  case round =>
    obtain ⟨j, hj, rfl, rfl, hb⟩ := hrel
    obtain ⟨c0, c1, c2, f1, f2⟩ := (H.out.below hb).cells
    by_cases hlt : j < m
    · have u1 : decide ((j : Int) < (m : Int)) = true := decide_eq_true (by omega)
      have u2 : decide (j < m) = true := decide_eq_true hlt
      have hnl : ((nats s).drop a).length = s.size - a := by rw [List.length_drop, nats_length]
      have hlen : a + j < s.size := by omega
      obtain ⟨c, hc⟩ : ∃ c, s.data.toList[a + j]? = some c := ⟨_, List.getElem?_eq_getElem (by rw [Array.length_toList]; exact hlen)⟩
      have hsum : IntKind.i64.wrap ((a : Int) + (j : Int)) = (a : Int) + (j : Int) := IntWalk.i64_in _ (by omega)
      have hnb : num (((nats s).drop a).take j) < 16777216 := by
        refine Nat.lt_of_lt_of_le (num_lt _ ?_) (show 256 ^ _ ≤ 256 ^ 3 from Nat.pow_le_pow_right (by decide) ?_)
        · intro x hx
          exact nats_lt s x (List.mem_of_mem_drop (List.mem_of_mem_take hx))
        · rw [List.length_take]; omega
      obtain ⟨n, hn⟩ : ∃ n, n = num (((nats s).drop a).take j) := ⟨_, rfl⟩
      have hcb : c.toNat < 256 := c.toNat_lt
      have hnx : num (((nats s).drop a).take (j + 1)) = n * 256 + c.toNat := by
        rw [take_snoc _ _ c.toNat (by rw [List.getElem?_drop]; unfold nats; rw [List.getElem?_map, hc]; rfl), num_snoc, hn]
      rw [← hn] at hnb
      rw [← hn]
      have hmul : IntKind.i64.wrap ((n : Int) * 256) = (n : Int) * 256 := IntWalk.i64_in _ (by omega)
      have hadd : IntKind.i64.wrap ((n : Int) * 256 + (c.toNat : Int)) = (n : Int) * 256 + (c.toNat : Int) := IntWalk.i64_in _ (by omega)
      have hin1 : (0 : Int) ≤ (a : Int) + (j : Int) := by omega
      have hin2 : (a : Int) + (j : Int) < (s.size : Int) := by omega
      have hget : ∀ h : a + j < s.size, s[a + j]'h = c := by
        intro h
        rw [List.getElem?_eq_getElem (by rw [Array.length_toList]; exact h)] at hc
        exact Option.some.inj hc
      have hget2 : ∀ h : ((a : Int) + (j : Int)).toNat < s.size, s[((a : Int) + (j : Int)).toNat]'h = c := by
        intro h
        have e : ((a : Int) + (j : Int)).toNat = a + j := by omega
        simp only [e]
        exact hget _
      have hidx : ∀ X, (Instr.index 9 (.string s) (.int .i64 ((a : Int) + (j : Int)))).run Try.prog X = .ok (.int .u8 (c.toNat : Int)) X := by
        intro X
        rw [run_index_string _ _ _ _ _ (by kernel_rfl), dif_pos ⟨hin1, hin2⟩, hget2]
      have HNX := Lib.hid hnx
      have HB := Lib.hid hb
      clear hnx hb hn hnl hc hget hget2
      go_wp2_with fail
      go_quiet (fail)
      go_wp2_with fail
      go_roundw
      case rel => exact ⟨j + 1, by omega, by rw [HNX.out]; go_num, by go_num, below_dn HB.out _⟩
      case measure => simp [intOf]; omega
    · have u1 : decide ((j : Int) < (m : Int)) = false := decide_eq_false (by omega)
      have u2 : decide (j < m) = false := decide_eq_false hlt
      have hjm : j = m := by omega
      subst hjm
      have hsum : IntKind.i64.wrap ((a : Int) + (j : Int)) = ((a + j : Nat) : Int) := by rw [IntWalk.i64_in _ (by omega)]; omega
      have HB := Lib.hid hb
      clear hb
      go_wp2_with fail
      go_ret
      exact ⟨rfl, (H.out.below HB.out).setA _ (by omega), Chg.setCell (F := (· = R)) (Chg.of_below HB.out _) (p := ⟨R, 1, none⟩) (.inl rfl) _⟩
end Go.Proofs.Ytpjgmcoimniheaa.Mt
