/- Plain facts on meta pages' bytes; and what a program that does nothing answers wrongly, by a walk. -/
import Derived.Test.YtpjgmcoimniheaaMtD
namespace Go.Proofs.Ytpjgmcoimniheaa.Mt
open Go.RowKit Go.Proofs.Ytpjgmcoimniheaa.By
set_option linter.unusedSimpArgs false
set_option linter.unusedVariables false

theorem num_be4 (n : Nat) (h : n < 4294967296) : num (be4 n) = n := by
  unfold num be4
  simp only [List.foldl_cons, List.foldl_nil]
  omega
theorem num_be2 (n : Nat) (h : n < 65536) : num (be2 n) = n := by
  unfold num be2
  simp only [List.foldl_cons, List.foldl_nil]
  omega
/-- A meta page's bytes, as numbers. -/
def encN (e r : Nat) : List Nat := bodyN e r ++ be4 (sumOf (bodyN e r)) ++ be4 e
theorem encN_lt (e r : Nat) : ∀ c ∈ encN e r, c < 256 := by
  intro c hc
  unfold encN at hc
  rcases List.mem_append.1 hc with h | h
  · rcases List.mem_append.1 h with h | h
    · exact bodyN_lt e r c h
    · exact be4_lt _ c h
  · exact be4_lt _ c h
theorem enc_eq (e r : Nat) : enc e r = ofNats (encN e r) := by
  unfold enc sealed encN
  rw [nats_ofNats _ (bodyN_lt e r), ofNats_append, ofNats_append]
theorem nats_enc (e r : Nat) : nats (enc e r) = encN e r := by rw [enc_eq, nats_ofNats _ (encN_lt e r)]
theorem encN_length (e r : Nat) : (encN e r).length = 256 := by rw [← nats_enc, nats_length, enc_size]
theorem encN_form (e r : Nat) : encN e r = be4 e ++ (markN ++ (be2 r ++ (List.replicate 235 0 ++ (be4 (sumOf (bodyN e r)) ++ be4 e)))) := by
  unfold encN bodyN
  simp only [List.append_assoc]
theorem encN_head (e r : Nat) : (encN e r).take 4 = be4 e := by rw [encN_form]; rfl
theorem encN_root (e r : Nat) : ((encN e r).drop 11).take 2 = be2 r := by rw [encN_form]; rfl
theorem right_lt {e r : Nat} (h : rightB e r = true) : e ≤ 1073741824 ∧ r < 512 ∧ 1 ≤ e := by
  unfold rightB at h
  simp only [Bool.and_eq_true, Bool.or_eq_true, decide_eq_true_eq] at h
  omega
theorem decV_enc {e r : Nat} (h : rightB e r = true) : decV (enc e r) = e := by
  unfold decV
  rw [nats_enc, encN_head, num_be4 _ (by have := right_lt h; omega)]
theorem decR_enc {e r : Nat} (h : rightB e r = true) : decR (enc e r) = r := by
  unfold decR
  rw [nats_enc, encN_root, num_be2 _ (by have := right_lt h; omega)]
theorem decOk_enc {e r : Nat} (h : rightB e r = true) : decOk (enc e r) := by
  refine ⟨by rw [enc_size]; decide, ?_, ?_⟩
  · rw [decV_enc h, decR_enc h]; exact h
  · rw [decV_enc h, decR_enc h]
theorem right_nat {e r : Int} (h : rightB e r = true) : ∃ a b : Nat, e = a ∧ r = b := by
  unfold rightB at h
  simp only [Bool.and_eq_true, Bool.or_eq_true, decide_eq_true_eq] at h
  exact ⟨e.toNat, r.toNat, by omega, by omega⟩
theorem empty_no : ¬ decOk ByteArray.empty := fun h => absurd h.1 (by decide)
theorem slot_any (e : Int) (w : World) : Calls Try.prog 18 #[.int .i64 e] w fun x w' => x = .returned (.int .i64 (e % 2)) ∧ w = w' := by
  have h1 : bits BinOp.and IntKind.i64 e 1 = e % 2 := by
    have h1 : (BitVec.ofInt 64 e).toNat = (e % 18446744073709551616).toNat := by rw [BitVec.toNat_ofInt]; rfl
    have h2 : (BitVec.ofInt 64 (1 : Int)).toNat = 1 := by decide
    have h3 : (e % 18446744073709551616).toNat &&& 1 = (e % 18446744073709551616).toNat % 2 := Nat.and_two_pow_sub_one_eq_mod _ 1
    show IntKind.i64.wrap ((BitVec.ofInt 64 e &&& BitVec.ofInt 64 1).toNat : Int) = _
    rw [BitVec.toNat_and, h1, h2, h3, IntKind.wrap_i64]
    omega
  have H1 := Lib.hid h1
  clear h1
  go_enter Try.func18, Try.ntmps18
  go_wp2
  go_ret
  exact ⟨by rw [← H1.out]; rfl, rfl⟩
/-- A decoded meta page's bytes. -/
theorem decode_enc {e r : Nat} (h : rightB e r = true) (g c : Nat) (w : World) (hr : RdB w (some ⟨g, 0, none⟩) (enc e r)) : Calls Try.prog 20 #[.slice (some ⟨g, 0, none⟩) 256 c] w fun x w' => x = .returned (.tuple #[.agg #[.int .i64 (e : Int), .int .i64 (r : Int)], .int .i64 0]) ∧ Below w.heap.size w w' := by
  have h1 := decode_any (some ⟨g, 0, none⟩) c (enc e r) w hr (by rw [enc_size]; decide) (fun h => by cases h) (fun ad h => by cases h; rfl)
  rw [enc_size] at h1
  refine h1.mono fun x w' h2 => ⟨?_, h2.2.2⟩
  have := h2.1 (decOk_enc h)
  rwa [decV_enc h, decR_enc h] at this
set_option maxRecDepth 100000 in
set_option maxHeartbeats 1000000 in
theorem awake_any (w : World) : Calls Try.prog 13 #[] w fun x w' => x = .returned (.bool true) ∧ Below w.heap.size w w' := by
  have hr : rightB ((5 : Nat) : Int) ((7 : Nat) : Int) = true := by decide
  have he : ∀ X, Calls Try.prog 14 #[.agg #[.int .i64 5, .int .i64 7]] X _ := fun X => encode_ok 5 7 X hr
  have hd := fun (g c : Nat) (X : World) (h : RdB X (some ⟨g, 0, none⟩) (enc 5 7)) => decode_enc (e := 5) (r := 7) hr g c X h
  have HE := Lib.hid he
  have HD := Lib.hid hd
  clear he hd hr
  go_enter Try.func13, Try.ntmps13
  go_wp2_with fail
  refine (HE.out _).mono ?_
  rintro x w1 ⟨v, rfl, hv, hb1⟩
  obtain ⟨g, c, rfl⟩ := hv.shape (enc_size 5 7)
  have hdd := HD.out g c w1 hv.rds
  go_wp2_with fail
  refine hdd.mono ?_
  rintro x w2 ⟨rfl, hb2⟩
  have HB := Lib.hid (bl hb1 hb2)
  clear hv hb1 hb2 hdd
  go_wp2_with fail
  refine (slot_any 5 _).mono ?_
  rintro x w3 ⟨rfl, rfl⟩
  go_wp2_with fail
  go_ret
  exact ⟨rfl, below_al HB.out _⟩
theorem number04_any (n : Int) (w : World) : Calls Try.prog 35 #[.int .i64 n] w fun x w' => x = .returned (.bool (decide (2 ≤ n) && decide (n ≤ 511))) ∧ w = w' := by
  by_cases h : 2 ≤ n
  · have t : decide (2 ≤ n) = true := decide_eq_true h
    go_enter Try.func35, Try.ntmps35
    go_wp2
    go_ret
    exact ⟨by first | rfl | (rw [t]; rfl), rfl⟩
  · have t : decide (2 ≤ n) = false := decide_eq_false h
    go_enter Try.func35, Try.ntmps35
    go_wp2
    go_ret
    exact ⟨by first | rfl | (rw [t]; rfl), rfl⟩
theorem box_below {w w1 : World} {o : Obj} (h : Below (w.alloc o).heap.size (w.alloc o) w1) : Below w.heap.size w w1 := (below_al (Below.refl w.heap.size w) o).trans (h.mono (by rw [World.size_alloc]; omega))
set_option maxHeartbeats 1000000 in
theorem rright_any (e r : Int) (w : World) : Calls Try.prog 17 #[.agg #[.int .i64 e, .int .i64 r]] w fun x w' => x = .returned (.bool (rightB e r)) ∧ Below w.heap.size w w' := by
  have hval : ∀ b1 b2 : Bool, decide (1 ≤ e) = b1 → decide (e ≤ 1073741824) = b2 → rightB e r = (b1 && b2 && (decide (r = 0) || (decide (2 ≤ r) && decide (r ≤ 511)))) := by
    intro b1 b2 h1 h2
    unfold rightB
    rw [h1, h2]
    have : decide (r < 512) = decide (r ≤ 511) := by by_cases h : r < 512 <;> simp [h] <;> omega
    rw [this]
  have HN : Hid (∀ X, Calls Try.prog 35 #[.int .i64 r] X fun x w' => x = .returned (.bool (decide (2 ≤ r) && decide (r ≤ 511))) ∧ X = w') := Lib.hid (fun X => number04_any r X)
  by_cases h1 : 1 ≤ e
  · have t1 : decide (1 ≤ e) = true := decide_eq_true h1
    by_cases h2 : e ≤ 1073741824
    · have t2 : decide (e ≤ 1073741824) = true := decide_eq_true h2
      by_cases h3 : r = 0
      · have hv : rightB e r = true := by rw [hval _ _ t1 t2, h3]; rfl
        rw [hv]
        subst h3
        clear hval hv
        go_enter Try.func17, Try.ntmps17
        go_wp2_with fail
        go_ret
        exact ⟨rfl, below_al (Below.refl _ _) _⟩
      · have t3 : (r == 0) = false := by rw [beq_eq_false_iff_ne]; exact h3
        have hv : rightB e r = (decide (2 ≤ r) && decide (r ≤ 511)) := by rw [hval _ _ t1 t2, decide_eq_false h3]; rfl
        rw [hv]
        obtain ⟨b, hb⟩ : ∃ b, b = (decide (2 ≤ r) && decide (r ≤ 511)) := ⟨_, rfl⟩
        rw [← hb] at HN ⊢
        clear hval hv h3 hb
        go_enter Try.func17, Try.ntmps17
        go_wp2_with fail
        refine (HN.out _).mono ?_
        rintro x w1 ⟨rfl, rfl⟩
        go_wp2_with fail
        go_ret
        exact ⟨rfl, below_al (Below.refl _ _) _⟩
    · have t2 : decide (e ≤ 1073741824) = false := decide_eq_false h2
      have hv : rightB e r = false := by rw [hval _ _ t1 t2]; rfl
      rw [hv]
      clear hval hv
      go_enter Try.func17, Try.ntmps17
      go_wp2_with fail
      go_ret
      exact ⟨rfl, below_al (Below.refl _ _) _⟩
  · have t1 : decide (1 ≤ e) = false := decide_eq_false h1
    have hv : rightB e r = false := by rw [hval _ _ t1 rfl]; rfl
    rw [hv]
    clear hval hv
    go_enter Try.func17, Try.ntmps17
    go_wp2_with fail
    go_ret
    exact ⟨rfl, below_al (Below.refl _ _) _⟩
end Go.Proofs.Ytpjgmcoimniheaa.Mt
