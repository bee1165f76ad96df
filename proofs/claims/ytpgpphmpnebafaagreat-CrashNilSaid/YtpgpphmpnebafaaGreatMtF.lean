/- Plain facts on meta pages' bytes; and what a program that does nothing answers wrongly, by a walk. -/
import Derived.Test.YtpgpphmpnebafaaGreatMtD
namespace Go.Proofs.YtpgpphmpnebafaaGreat.Mt
open Go.RowKit Go.Proofs.YtpgpphmpnebafaaGreat.By
set_option linter.unusedSimpArgs false
set_option linter.unusedVariables false
set_option maxRecDepth 100000

theorem num_be4 (n : Nat) (h : n < 4294967296) : num (be4 n) = n := by
  unfold num be4
  simp only [List.foldl_cons, List.foldl_nil]
  omega
theorem num_be2 (n : Nat) (h : n < 65536) : num (be2 n) = n := by
  unfold num be2
  simp only [List.foldl_cons, List.foldl_nil]
  omega
/-- A meta page's bytes, as numbers. -/
def encN (e r : Nat) : List Nat := bodyN e r ++ be4 (sumOf (bodyN e r)) ++ be4 e
theorem encN_lt (e r : Nat) : ∀ c ∈ encN e r, c < 256 := by
  intro c hc
  unfold encN at hc
  rcases List.mem_append.1 hc with h | h
  · rcases List.mem_append.1 h with h | h
    · exact bodyN_lt e r c h
    · exact be4_lt _ c h
  · exact be4_lt _ c h
theorem enc_eq (e r : Nat) : enc e r = ofNats (encN e r) := by
  unfold enc sealed encN
  rw [nats_ofNats _ (bodyN_lt e r), ofNats_append, ofNats_append]
theorem nats_enc (e r : Nat) : nats (enc e r) = encN e r := by rw [enc_eq, nats_ofNats _ (encN_lt e r)]
theorem encN_length (e r : Nat) : (encN e r).length = 256 := by rw [← nats_enc, nats_length, enc_size]
theorem encN_form (e r : Nat) : encN e r = be4 e ++ (markN ++ (be2 r ++ (List.replicate 235 0 ++ (be4 (sumOf (bodyN e r)) ++ be4 e)))) := by
  unfold encN bodyN
  simp only [List.append_assoc]
theorem encN_head (e r : Nat) : (encN e r).take 4 = be4 e := by rw [encN_form]; rfl
theorem encN_root (e r : Nat) : ((encN e r).drop 11).take 2 = be2 r := by rw [encN_form]; rfl
theorem right_lt {e r : Nat} (h : rightB e r = true) : e ≤ 1073741824 ∧ r < 512 ∧ 1 ≤ e := by
  unfold rightB at h
  simp only [Bool.and_eq_true, Bool.or_eq_true, decide_eq_true_eq] at h
  omega
theorem decV_enc {e r : Nat} (h : rightB e r = true) : decV (enc e r) = e := by
  unfold decV
  rw [nats_enc, encN_head, num_be4 _ (by have := right_lt h; omega)]
theorem decR_enc {e r : Nat} (h : rightB e r = true) : decR (enc e r) = r := by
  unfold decR
  rw [nats_enc, encN_root, num_be2 _ (by have := right_lt h; omega)]
theorem decOk_enc {e r : Nat} (h : rightB e r = true) : decOk (enc e r) := by
  refine ⟨by rw [enc_size]; decide, ?_, ?_⟩
  · rw [decV_enc h, decR_enc h]; exact h
  · rw [decV_enc h, decR_enc h]
theorem right_nat {e r : Int} (h : rightB e r = true) : ∃ a b : Nat, e = a ∧ r = b := by
  unfold rightB at h
  simp only [Bool.and_eq_true, Bool.or_eq_true, decide_eq_true_eq] at h
  exact ⟨e.toNat, r.toNat, by omega, by omega⟩
theorem empty_no : ¬ decOk ByteArray.empty := fun h => absurd h.1 (by decide)
theorem slot_any (e : Int) (w : World) : Calls Tryz.prog 46 #[.int .i64 e] w fun x w' => x = .returned (.int .i64 (e % 2)) ∧ w = w' := by
  have h1 : bits BinOp.and IntKind.i64 e 1 = e % 2 := by
    have h1 : (BitVec.ofInt 64 e).toNat = (e % 18446744073709551616).toNat := by rw [BitVec.toNat_ofInt]; rfl
    have h2 : (BitVec.ofInt 64 (1 : Int)).toNat = 1 := by decide
    have h3 : (e % 18446744073709551616).toNat &&& 1 = (e % 18446744073709551616).toNat % 2 := Nat.and_two_pow_sub_one_eq_mod _ 1
    show IntKind.i64.wrap ((BitVec.ofInt 64 e &&& BitVec.ofInt 64 1).toNat : Int) = _
    rw [BitVec.toNat_and, h1, h2, h3, IntKind.wrap_i64]
    omega
  have H1 := Lib.hid h1
  clear h1
  go_enter Tryz.func46, Tryz.ntmps46
  go_wp2
  go_ret
  exact ⟨by rw [← H1.out]; rfl, rfl⟩
/-- A decoded meta page's bytes. -/
theorem decode_enc {e r : Nat} (h : rightB e r = true) (g c : Nat) (w : World) (hr : RdB w (some ⟨g, 0, none⟩) (enc e r)) : Calls Tryz.prog 76 #[.slice (some ⟨g, 0, none⟩) 256 c] w fun x w' => x = .returned (.tuple #[.agg #[.int .i64 (e : Int), .int .i64 (r : Int)], .int .i64 0]) ∧ Below w.heap.size w w' := by
  have h1 := decode_any (some ⟨g, 0, none⟩) c (enc e r) w hr (by rw [enc_size]; decide) (fun h => by cases h) (fun ad h => by cases h; rfl)
  rw [enc_size] at h1
  refine h1.mono fun x w' h2 => ⟨?_, h2.2.2⟩
  have := h2.1 (decOk_enc h)
  rwa [decV_enc h, decR_enc h] at this
theorem box_below {w w1 : World} {o : Obj} (h : Below (w.alloc o).heap.size (w.alloc o) w1) : Below w.heap.size w w1 := (below_al (Below.refl w.heap.size w) o).trans (h.mono (by rw [World.size_alloc]; omega))
end Go.Proofs.YtpgpphmpnebafaaGreat.Mt
