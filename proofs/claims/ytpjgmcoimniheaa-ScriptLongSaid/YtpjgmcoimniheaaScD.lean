/- The document's reader of a script: next and text, by walks. -/
import Derived.Test.YtpjgmcoimniheaaScC
namespace Go.Proofs.Ytpjgmcoimniheaa.Sc
open Go.RowKit Go.Proofs.Ytpjgmcoimniheaa.By Go.Proofs.Ytpjgmcoimniheaa.Mt
set_option linter.unusedSimpArgs false
set_option linter.unusedVariables false

/-- The document's reader in block R: of s; l is left; whether it ended. -/
def RfR (w : World) (R : Nat) (s : ByteArray) (l : List Nat) (o : Bool) : Prop := ∃ a : Nat, w.heap[R]? = some (.cells #[.string s, .int .i64 (a : Int), .bool o] 93 (0, 0)) ∧ a ≤ s.size ∧ l = (nats s).drop a
section
variable {w w1 : World} {R a : Nat} {s : ByteArray} {l : List Nat} {o : Bool}
theorem RfR.lt (h : RfR w R s l o) : R < w.heap.size := by obtain ⟨a, h1, _⟩ := h; exact lt_of_some h1
theorem RfR.below (h : RfR w R s l o) (hb : Below w.heap.size w w1) : RfR w1 R s l o := by obtain ⟨a, h1, h2⟩ := h; exact ⟨a, (hb.block R (lt_of_some h1)).trans h1, h2⟩
theorem RfR.al (h : RfR w R s l o) (X : Obj) : RfR (w.alloc X) R s l o := h.below (below_al (Below.refl _ _) X)
theorem RfR.setB (h : RfR w R s l o) {b i : Nat} (hb : b ≠ R) (u : Value) : RfR (w.setCell ⟨b, i, none⟩ u) R s l o := by
  obtain ⟨a, h1, h2⟩ := h
  exact ⟨a, by rw [heap_setCell_ne w b i R u (fun e => hb e.symm)]; exact h1, h2⟩
theorem RfR.bytes (h : RfR w R s l o) : ∀ x ∈ l, x < 256 := by obtain ⟨a, h1, h2, rfl⟩ := h; exact fun x hx => nats_lt s x (List.mem_of_mem_drop hx)
theorem RfR.dn (h : RfR w R s l o) (n : Nat) : RfR (w.drewN n) R s l o := h.below (below_dn (Below.refl _ _) n)
theorem heap_dn {b : Nat} {X : Obj} (h : w.heap[b]? = some X) (n : Nat) : (w.drewN n).heap[b]? = some X := h
theorem RfR.putA (h : w.heap[R]? = some (.cells #[.string s, .int .i64 (a : Int), .bool o] 93 (0, 0))) (m : Nat) (hm : a + m ≤ s.size) : RfR (w.setCell ⟨R, 1, none⟩ (.int .i64 ((a : Int) + (m : Int)))) R s ((nats s).drop (a + m)) o := ⟨a + m, heap_setCell_self w R 1 _ _ _ h, hm, rfl⟩
theorem RfR.putO (h : w.heap[R]? = some (.cells #[.string s, .int .i64 (a : Int), .bool o] 93 (0, 0))) (ha : a ≤ s.size) (o' : Bool) : RfR (w.setCell ⟨R, 2, none⟩ (.bool o')) R s ((nats s).drop a) o' := ⟨a, heap_setCell_self w R 2 _ _ _ h, ha, rfl⟩
theorem chg_dn0 (n : Nat) : Chg (· = R) w (w.drewN n) := Chg.of_below (below_dn (Below.refl _ w) n) _
theorem chg_set0 (h : Chg (· = R) w w1) (i : Nat) (u : Value) : Chg (· = R) w (w1.setCell ⟨R, i, none⟩ u) := h.setCell (p := ⟨R, i, none⟩) (.inl rfl) u
theorem chg_dn (h : Chg (· = R) w w1) (n : Nat) : Chg (· = R) w (w1.drewN n) := h.trans (Chg.of_below (below_dn (Below.refl _ w1) n) _) (fun _ h => .inl h)
theorem idx_any {c : UInt8} {i : Nat} (hi : i < s.size) (hc : s.data.toList[i]? = some c) (m : Int) (hm : m = (i : Int)) (X : World) : (Instr.index 9 (.string s) (.int .i64 m)).run Try.prog X = .ok (.int .u8 (c.toNat : Int)) X := by
  subst hm
  have hget : ∀ h : ((i : Nat) : Int).toNat < s.size, s[((i : Nat) : Int).toNat]'h = c := by
    intro h
    have e : ((i : Nat) : Int).toNat = i := by omega
    simp only [e]
    rw [List.getElem?_eq_getElem (by rw [Array.length_toList]; exact hi)] at hc
    exact Option.some.inj hc
  rw [run_index_string _ _ _ _ _ (by kernel_rfl), dif_pos ⟨by omega, by omega⟩, hget]
set_option maxRecDepth 100000 in
set_option maxHeartbeats 1000000 in
theorem next_any (h : RfR w R s l o) (hs : s.size ≤ 1000000) : Calls Try.prog 48 #[.pointer (some ⟨R, 0, none⟩)] w fun x w' => x = .returned (.int .i64 (hd l : Int)) ∧ RfR w' R s l.tail (o || l.isEmpty) ∧ Chg (· = R) w w' := by
  obtain ⟨a, h1, has, rfl⟩ := h
  have c0 := cell_at h1 0
  have c1 := cell_at h1 1
  have c2 := cell_at h1 2
  have f1 := frozen_at h1 1
  have f2 := frozen_at h1 2
  have H1 := Lib.hid h1
  clear h1
  by_cases hlt : a < s.size
  · obtain ⟨c, hc⟩ : ∃ c, s.data.toList[a]? = some c := ⟨_, List.getElem?_eq_getElem (by rw [Array.length_toList]; exact hlt)⟩
    have hdr : (nats s).drop a = c.toNat :: (nats s).drop (a + 1) := by
      have hlen : a < (nats s).length := by rw [nats_length]; exact hlt
      rw [List.drop_eq_getElem_cons hlen]
      congr 1
      have : (nats s)[a]? = some c.toNat := by unfold nats; rw [List.getElem?_map, hc]; rfl
      rw [List.getElem?_eq_getElem hlen] at this
      exact Option.some.inj this
    have HD := Lib.hid hdr
    rw [hdr, List.tail_cons, List.isEmpty_cons, Bool.or_false]
    have t1 : decide ((s.size : Int) ≤ (a : Int)) = false := decide_eq_false (by omega)
    have t2 : decide (s.size ≤ a) = false := decide_eq_false (by omega)
    have hi := fun X => idx_any hlt hc ((a : Int) + 1 - 1) (by omega) X
    have hi2 := fun X => idx_any hlt hc (a : Int) rfl X
    have hw1 : IntKind.i64.wrap ((a : Int) + 1) = (a : Int) + 1 := IntWalk.i64_in _ (by omega)
    have hw2 : IntKind.i64.wrap ((a : Int) + 1 - 1) = (a : Int) := by rw [IntWalk.i64_in _ (by omega)]; omega
    have hcb := c.toNat_lt
    have HA := Lib.hid hlt
    clear hdr hc hlt
    go_enter Try.func48, Try.ntmps48
    go_wp2_with fail
    go_quiet (fail)
    go_wp2_with fail
    go_quiet (fail)
    go_wp2_with fail
    go_ret
    exact ⟨rfl, (RfR.putA (heap_dn H1.out _) 1 HA.out).dn _, chg_dn (chg_set0 (chg_dn0 _) 1 _) _⟩
  · have hdr : (nats s).drop a = [] := List.drop_eq_nil_of_le (by rw [nats_length]; omega)
    have HD := Lib.hid hdr
    rw [hdr, List.tail_nil, List.isEmpty_nil, Bool.or_true]
    have t1 : decide ((s.size : Int) ≤ (a : Int)) = true := decide_eq_true (by omega)
    have t2 : decide (s.size ≤ a) = true := decide_eq_true (by omega)
    have HA := Lib.hid has
    clear hdr
    go_enter Try.func48, Try.ntmps48
    go_wp2_with fail
    go_quiet (fail)
    go_wp2_with fail
    go_ret
    have hp : ∀ n, RfR ((w.drewN n).setCell ⟨R, 2, none⟩ (.bool true)) R s [] true := fun n => by have h := RfR.putO (heap_dn H1.out n) HA.out true; rw [HD.out] at h; exact h
    exact ⟨rfl, hp _, chg_set0 (chg_dn0 _) 2 _⟩
theorem ext_ofNats (s : ByteArray) (a n : Nat) (h : a + n ≤ s.size) : s.extract a (a + n) = ofNats (((nats s).drop a).take n) := by
  apply ba_ext
  rw [Lib.extract_data, ofNats_data, List.map_take, List.map_drop]
  have e : (nats s).map UInt8.ofNat = s.data.toList := by
    unfold nats
    rw [List.map_map]
    have : (UInt8.ofNat ∘ UInt8.toNat) = id := by funext b; simp
    rw [this, List.map_id]
  rw [e, show a + n - a = n from by omega]
set_option maxRecDepth 100000 in
set_option maxHeartbeats 1000000 in
theorem rtext_any (h : RfR w R s l o) (hs : s.size ≤ 1000000) : Calls Try.prog 61 #[.pointer (some ⟨R, 0, none⟩)] w fun x w' => x = .returned (.string (ofNats (txV l))) ∧ RfR w' R s (txL l) (o || txO l) ∧ Chg (· = R) w w' := by
  have h1 := next_any h hs
  have hb := hd_lt h.bytes
  clear h
  unfold txV txL txO
  generalize hd l = n at h1 hb ⊢
  generalize l.tail = t at h1 ⊢
  generalize l.isEmpty = z at h1 ⊢
  have H1 := Lib.hid h1
  clear h1
  by_cases hlt : t.length < n
  · rw [if_pos hlt, if_pos hlt, decide_eq_true hlt, Bool.or_true, Bool.or_true]
    go_enter Try.func61, Try.ntmps61
    go_wp2_with fail
    refine H1.out.mono ?_
    rintro x w1 ⟨rfl, ⟨a, h1, has, hta⟩, hch⟩
    have c0 := cell_at h1 0
    have c1 := cell_at h1 1
    have c2 := cell_at h1 2
    have f1 := frozen_at h1 1
    have f2 := frozen_at h1 2
    have HH := Lib.hid h1
    have HC := Lib.hid hch
    have hlen : t.length = s.size - a := by rw [hta, List.length_drop, nats_length]
    have hsum : IntKind.i64.wrap ((a : Int) + (n : Int)) = (a : Int) + (n : Int) := IntWalk.i64_in _ (by omega)
    clear h1 hch
    go_wp2_with fail
    have t1 : decide ((s.size : Int) < (a : Int) + (n : Int)) = true := decide_eq_true (by omega)
    have HT := Lib.hid hta
    have HA := Lib.hid has
    clear hlt hta hlen
    go_quiet (fail)
    clear hsum
    go_wp2_with fail
    go_ret
    have hp : ∀ n, RfR ((w1.drewN n).setCell ⟨R, 2, none⟩ (.bool true)) R s t true := fun n => by have h := RfR.putO (heap_dn HH.out n) HA.out true; rw [← HT.out] at h; exact h
    exact ⟨rfl, hp _, HC.out.trans (chg_set0 (chg_dn0 _) 2 _) (fun _ h => .inl h)⟩
  · rw [if_neg hlt, if_neg hlt, decide_eq_false hlt, Bool.or_false]
    go_enter Try.func61, Try.ntmps61
    go_wp2_with fail
    refine H1.out.mono ?_
    rintro x w1 ⟨rfl, ⟨a, h1, has, hta⟩, hch⟩
    have c0 := cell_at h1 0
    have c1 := cell_at h1 1
    have c2 := cell_at h1 2
    have f1 := frozen_at h1 1
    have f2 := frozen_at h1 2
    have HH := Lib.hid h1
    have HC := Lib.hid hch
    have hlen : t.length = s.size - a := by rw [hta, List.length_drop, nats_length]
    have hsum : IntKind.i64.wrap ((a : Int) + (n : Int)) = (a : Int) + (n : Int) := IntWalk.i64_in _ (by omega)
    clear h1 hch
    go_wp2_with fail
    have t1 : decide ((s.size : Int) < (a : Int) + (n : Int)) = false := decide_eq_false (by omega)
    have hle : a + n ≤ s.size := by omega
    have hext := ext_ofNats s a n hle
    rw [← hta] at hext
    have hi1 : (0 : Int) ≤ (a : Int) + (n : Int) := by omega
    have hi2 : (a : Int) ≤ (a : Int) + (n : Int) := by omega
    have hi3 : (a : Int) + (n : Int) ≤ (s.size : Int) := by omega
    have hi4 : ((a : Int) + (n : Int)).toNat = a + n := by omega
    have HT := Lib.hid (show t.drop n = (nats s).drop (a + n) from by rw [hta, List.drop_drop])
    have HA := Lib.hid hle
    have HE := Lib.hid hext
    clear hlt hta hlen hext
    go_quiet (fail)
    go_wp2_with fail
    go_quiet (fail)
    go_wp2_with fail
    go_ret
    rw [HT.out]
    exact ⟨by rw [HE.out]; rfl, (RfR.putA (heap_dn HH.out _) n HA.out), HC.out.trans (chg_set0 (chg_dn0 _) 1 _) (fun _ h => .inl h)⟩
end
end Go.Proofs.Ytpjgmcoimniheaa.Sc
