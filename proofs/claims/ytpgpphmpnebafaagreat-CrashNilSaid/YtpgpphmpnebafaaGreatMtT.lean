/- Meta pages that are torn: plain facts. No program in sight. -/
import Derived.Test.YtpgpphmpnebafaaGreatMtF
namespace Go.Proofs.YtpgpphmpnebafaaGreat.Mt
open Go.RowKit Go.Proofs.YtpgpphmpnebafaaGreat.By
set_option linter.unusedSimpArgs false
set_option linter.unusedVariables false
set_option maxRecDepth 100000

/-- A beginning of one over another. -/
def mix (x y : List Nat) (p : Nat) : List Nat := x.take p ++ y.drop p
theorem mix_length (x y : List Nat) (p : Nat) (hx : x.length = 256) (hy : y.length = 256) (hp : p ≤ 256) : (mix x y p).length = 256 := by
  unfold mix; rw [List.length_append, List.length_take, List.length_drop]; omega
theorem mix_at (x y : List Nat) (p i : Nat) (hx : x.length = 256) (hp : p ≤ 256) : (mix x y p)[i]? = if i < p then x[i]? else y[i]? := by
  unfold mix
  by_cases h : i < p
  · rw [if_pos h, List.getElem?_append_left (by rw [List.length_take]; omega), List.getElem?_take, if_pos h]
  · rw [if_neg h, List.getElem?_append_right (by rw [List.length_take]; omega), List.length_take, List.getElem?_drop, Nat.min_eq_left (by omega), show p + (i - p) = i from by omega]
theorem mix_lt {x y : List Nat} {p : Nat} (hx : ∀ c ∈ x, c < 256) (hy : ∀ c ∈ y, c < 256) : ∀ c ∈ mix x y p, c < 256 := by
  intro c hc
  unfold mix at hc
  rcases List.mem_append.1 hc with h | h
  · exact hx c (List.mem_of_mem_take h)
  · exact hy c (List.mem_of_mem_drop h)
/-- Its bytes, one by one. -/
theorem be4_at (n i : Nat) (h : i < 4) : (be4 n)[i]? = some (n / 256 ^ (3 - i) % 256) := by
  have : i = 0 ∨ i = 1 ∨ i = 2 ∨ i = 3 := by omega
  rcases this with rfl | rfl | rfl | rfl
  · rfl
  · rfl
  · rfl
  · show some (n % 256) = some (n / 1 % 256); rw [Nat.div_one]
theorem encN_head_at (e r i : Nat) (h : i < 4) : (encN e r)[i]? = (be4 e)[i]? := by
  rw [encN_form, List.getElem?_append_left (by exact h)]
theorem encN_tail_at (e r i : Nat) (h : i < 4) : (encN e r)[252 + i]? = (be4 e)[i]? := by
  unfold encN
  rw [List.getElem?_append_right (by rw [List.length_append, bodyN_length]; show 248 + 4 ≤ 252 + i; omega), List.length_append, bodyN_length]
  show (be4 e)[252 + i - (248 + 4)]? = _
  rw [show 252 + i - (248 + 4) = i from by omega]
theorem encN_crc_at (e r i : Nat) (h : i < 4) : (encN e r)[248 + i]? = (be4 (sumOf (bodyN e r)))[i]? := by
  unfold encN
  rw [List.getElem?_append_left (by rw [List.length_append, bodyN_length]; show 248 + i < 248 + 4; omega), List.getElem?_append_right (by rw [bodyN_length]; omega), bodyN_length, show 248 + i - 248 = i from by omega]
theorem encN_root_at (e r i : Nat) (h : i < 2) : (encN e r)[11 + i]? = (be2 r)[i]? := by
  rw [encN_form, List.getElem?_append_right (by show 4 ≤ 11 + i; omega)]
  rw [List.getElem?_append_right (by show 7 ≤ 11 + i - 4; omega)]
  have e1 : 11 + i - (be4 e).length - markN.length = i := by show 11 + i - 4 - 7 = i; omega
  rw [e1, List.getElem?_append_left (by exact h)]
theorem be4_inj {n m : Nat} (hn : n < 4294967296) (hm : m < 4294967296) (h : ∀ i, i < 4 → (be4 n)[i]? = (be4 m)[i]?) : n = m := by
  have h0 : (n / 16777216 % 256) = m / 16777216 % 256 := Option.some.inj (h 0 (by decide))
  have h1 : (n / 65536 % 256) = m / 65536 % 256 := Option.some.inj (h 1 (by decide))
  have h2 : (n / 256 % 256) = m / 256 % 256 := Option.some.inj (h 2 (by decide))
  have h3 : n % 256 = m % 256 := Option.some.inj (h 3 (by decide))
  omega
theorem be2_inj {n m : Nat} (hn : n < 65536) (hm : m < 65536) (h : ∀ i, i < 2 → (be2 n)[i]? = (be2 m)[i]?) : n = m := by
  have h2 : (n / 256 % 256) = m / 256 % 256 := Option.some.inj (h 0 (by decide))
  have h3 : n % 256 = m % 256 := Option.some.inj (h 1 (by decide))
  omega
/-- The check tells the root. -/
theorem sum_root {e r q : Nat} (hr : r < 65536) (hq : q < 65536) (h : sumOf (bodyN e r) = sumOf (bodyN e q)) : r = q := by
  have h1 := sumOf_inj h
  have hb : ∀ x, bodyN e x = (be4 e ++ markN) ++ (x / 256 % 256 :: x % 256 :: List.replicate 235 0) := by
    intro x; unfold bodyN be2; simp only [List.append_assoc, List.cons_append, List.nil_append]
  rw [hb r, hb q, crc_append _ (be4 e ++ markN), crc_append _ (be4 e ++ markN)] at h1
  generalize crc (BitVec.ofNat 32 4294967295) (be4 e ++ markN) = v at h1
  generalize List.replicate 235 0 = z at h1
  obtain ⟨h2, h3⟩ := two_told v (r / 256 % 256) (r % 256) (q / 256 % 256) (q % 256) z (Nat.mod_lt _ (by decide)) (Nat.mod_lt _ (by decide)) (Nat.mod_lt _ (by decide)) (Nat.mod_lt _ (by decide)) h1
  omega
theorem decOk_form {t : List Nat} (ht : ∀ c ∈ t, c < 256) (h : decOk (ofNats t)) : ∃ e r : Nat, rightB e r = true ∧ t = encN e r ∧ decV (ofNats t) = e ∧ decR (ofNats t) = r := by
  refine ⟨decV (ofNats t), decR (ofNats t), h.2.1, ?_, rfl, rfl⟩
  have := congrArg nats h.2.2
  rw [nats_enc, nats_ofNats t ht] at this
  exact this.symm
/-- Of two that agree at the end, and at the head. -/
theorem epoch_tail {e r e' r' : Nat} {t : List Nat} (h : rightB e r = true) (h' : e' < 4294967296) (ht : t = encN e r) (hx : ∀ i, i < 4 → t[252 + i]? = (encN e' r')[252 + i]?) : e = e' := by
  refine be4_inj (by have := right_lt h; omega) h' (fun i hi => ?_)
  have := hx i hi
  rw [ht, encN_tail_at _ _ _ hi, encN_tail_at _ _ _ hi] at this
  exact this
theorem epoch_head {e r e' r' : Nat} {t : List Nat} (h : rightB e r = true) (h' : e' < 4294967296) (ht : t = encN e r) (hx : ∀ i, i < 4 → t[i]? = (encN e' r')[i]?) : e = e' := by
  refine be4_inj (by have := right_lt h; omega) h' (fun i hi => ?_)
  have := hx i hi
  rw [ht, encN_head_at _ _ _ hi, encN_head_at _ _ _ hi] at this
  exact this
theorem root_same {e r e' r' : Nat} {t : List Nat} (h : rightB e r = true) (h' : r' < 65536) (ht : t = encN e r) (hx : ∀ i, i < 2 → t[11 + i]? = (encN e' r')[11 + i]?) : r = r' := by
  refine be2_inj (by have := right_lt h; omega) h' (fun i hi => ?_)
  have := hx i hi
  rw [ht, encN_root_at _ _ _ hi, encN_root_at _ _ _ hi] at this
  exact this
theorem sum_same {e r e' r' : Nat} {t : List Nat} (ht : t = encN e r) (hx : ∀ i, i < 4 → t[248 + i]? = (encN e' r')[248 + i]?) : sumOf (bodyN e r) = sumOf (bodyN e' r') := by
  refine be4_inj (sumOf_lt _) (sumOf_lt _) (fun i hi => ?_)
  have := hx i hi
  rw [ht, encN_crc_at _ _ _ hi, encN_crc_at _ _ _ hi] at this
  exact this
/-- Torn once. -/
theorem torn_law {e1 r1 e2 r2 p : Nat} (h1 : rightB e1 r1 = true) (h2 : rightB e2 r2 = true) (hlt : e1 < e2) (hp : p ≤ 256) (h : decOk (ofNats (mix (encN e2 r2) (encN e1 r1) p))) :
    (decV (ofNats (mix (encN e2 r2) (encN e1 r1) p)) = e1 ∧ decR (ofNats (mix (encN e2 r2) (encN e1 r1) p)) = r1) ∨ (decV (ofNats (mix (encN e2 r2) (encN e1 r1) p)) = e2 ∧ decR (ofNats (mix (encN e2 r2) (encN e1 r1) p)) = r2) := by
  obtain ⟨e, r, hr, ht, hV, hR⟩ := decOk_form (mix_lt (encN_lt _ _) (encN_lt _ _)) h
  rw [hV, hR]
  have g1 := right_lt h1
  have g2 := right_lt h2
  have at' := fun i => mix_at (encN e2 r2) (encN e1 r1) p i (encN_length _ _) hp
  by_cases hp1 : p ≤ 252
  · have he := epoch_tail (e' := e1) (r' := r1) hr (by omega) ht (fun i hi => by rw [at', if_neg (by omega)])
    by_cases hp2 : 4 ≤ p
    · have he2 := epoch_head (e' := e2) (r' := r2) hr (by omega) ht (fun i hi => by rw [at', if_pos (by omega)])
      omega
    · have hrr := root_same (e' := e1) (r' := r1) hr (by omega) ht (fun i hi => by rw [at', if_neg (by omega)])
      exact .inl ⟨he, hrr⟩
  · have he2 := epoch_head (e' := e2) (r' := r2) hr (by omega) ht (fun i hi => by rw [at', if_pos (by omega)])
    have hrr := root_same (e' := e2) (r' := r2) hr (by omega) ht (fun i hi => by rw [at', if_pos (by omega)])
    exact .inr ⟨he2, hrr⟩
/-- Torn twice. -/
theorem again_law {e1 r1 e2 r2 r3 p q : Nat} (h1 : rightB e1 r1 = true) (h2 : rightB e2 r2 = true) (h3 : rightB e2 r3 = true) (hlt : e1 < e2) (hp : p ≤ 256) (hq : q ≤ 256) {t : List Nat} (htt : t = mix (encN e2 r3) (mix (encN e2 r2) (encN e1 r1) p) q) (h : decOk (ofNats t)) :
    (decV (ofNats t) = e1 ∧ decR (ofNats t) = r1) ∨ (decV (ofNats t) = e2 ∧ decR (ofNats t) = r2) ∨ (decV (ofNats t) = e2 ∧ decR (ofNats t) = r3) := by
  obtain ⟨e, r, hr, ht, hV, hR⟩ := decOk_form (by rw [htt]; exact mix_lt (encN_lt _ _) (mix_lt (encN_lt _ _) (encN_lt _ _))) h
  rw [hV, hR]
  have g1 := right_lt h1
  have g2 := right_lt h2
  have g3 := right_lt h3
  have at' : ∀ i, t[i]? = if i < q then (encN e2 r3)[i]? else if i < p then (encN e2 r2)[i]? else (encN e1 r1)[i]? := by
    intro i
    rw [htt, mix_at _ _ q i (encN_length _ _) hq, mix_at _ _ p i (encN_length _ _) hp]
  by_cases hm : p ≤ 252 ∧ q ≤ 252
  · have he := epoch_tail (e' := e1) (r' := r1) hr (by omega) ht (fun i hi => by rw [at', if_neg (by omega), if_neg (by omega)])
    by_cases hm2 : 4 ≤ p ∨ 4 ≤ q
    · have he2 := epoch_head (e' := e2) (r' := r2) hr (by omega) ht (fun i hi => by
        rw [at']
        by_cases hiq : i < q
        · rw [if_pos hiq, encN_head_at _ _ _ hi, encN_head_at _ _ _ hi]
        · rw [if_neg hiq, if_pos (by omega)])
      omega
    · have hrr := root_same (e' := e1) (r' := r1) hr (by omega) ht (fun i hi => by rw [at', if_neg (by omega), if_neg (by omega)])
      exact .inl ⟨he, hrr⟩
  · have he2 := epoch_head (e' := e2) (r' := r2) hr (by omega) ht (fun i hi => by
      rw [at']
      by_cases hiq : i < q
      · rw [if_pos hiq, encN_head_at _ _ _ hi, encN_head_at _ _ _ hi]
      · rw [if_neg hiq, if_pos (by omega)])
    by_cases hq1 : 13 ≤ q
    · have hrr := root_same (e' := e2) (r' := r3) hr (by omega) ht (fun i hi => by rw [at', if_pos (by omega)])
      exact .inr (.inr ⟨he2, hrr⟩)
    · by_cases hq2 : q ≤ 11
      · have hrr := root_same (e' := e2) (r' := r2) hr (by omega) ht (fun i hi => by rw [at', if_neg (by omega), if_pos (by omega)])
        exact .inr (.inl ⟨he2, hrr⟩)
      · have hs := sum_same (e' := e2) (r' := r2) ht (fun i hi => by rw [at', if_neg (by omega), if_pos (by omega)])
        rw [he2] at hs
        have hrr := sum_root (by have := right_lt hr; omega) (by omega) hs
        exact .inr (.inl ⟨he2, hrr⟩)
/-- Bits turned within five bytes side by side. -/
theorem turned_law {e r q : Nat} {t : List Nat} (h : rightB e r = true) (hlt : ∀ c ∈ t, c < 256) (hout : ∀ i, i < q ∨ q + 4 < i → t[i]? = (encN e r)[i]?) (hne : t ≠ encN e r) : ¬ decOk (ofNats t) := by
  intro hd
  obtain ⟨e', r', hr, ht, -, -⟩ := decOk_form hlt hd
  have g1 := right_lt h
  have g2 := right_lt hr
  have he : e' = e := by
    by_cases hq : 4 ≤ q
    · exact epoch_head (r' := r) hr (by omega) ht (fun i hi => hout i (by omega))
    · exact epoch_tail (r' := r) hr (by omega) ht (fun i hi => hout _ (by omega))
  have hrr : r' = r := by
    by_cases hq : q ≤ 12
    · have hs := sum_same (e' := e) (r' := r) ht (fun i hi => hout _ (by omega))
      rw [he] at hs
      exact sum_root (by omega) (by omega) hs
    · exact root_same (e' := e) hr (by omega) ht (fun i hi => hout _ (by omega))
  rw [he, hrr] at ht
  exact hne ht
end Go.Proofs.YtpgpphmpnebafaaGreat.Mt
