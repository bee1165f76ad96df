/- The functions of layer 5 and its laws, by walks over the program: each returns what YtpdhfnpnilpipaaChP says, and leaves all old memory as it was. -/
import Derived.Test.YtpdhfnpnilpipaaChP
import Derived.Lib.Hide
import Derived.Outline
import Derived.WalkSpells
import Derived.Deep.RegionHeld3
namespace Go.Proofs.Ytpdhfnpnilpipaa.Ch
open Go.RowKit Go.Proofs.Ytpdhfnpnilpipaa.PChainCuts Go.Proofs.YtpdhfnpnilpipaaW.PrintWords Go.Proofs.YtpdhfnpnilpipaaW.PrintLast

theorem bl {a b c : World} (h : Below a.heap.size a b) (k : Below b.heap.size b c) : Below a.heap.size a c := h.trans (k.mono h.size)
theorem bl_drawn {w w' : World} (h : Drawn0 w w') : Below w.heap.size w w' := h.below
theorem chained_tt (s : Int) (h : 24 < s) (h2 : s ≤ 400) : chain_chained.f s = some true := by
  unfold chain_chained.f; rw [if_pos h, decide_eq_true h2]
theorem chained_ff (s : Int) (h : ¬ (24 < s ∧ s ≤ 400)) : chain_chained.f s = some false := by
  unfold chain_chained.f
  split
  · rw [decide_eq_false (by omega)]
  · rfl
theorem awake_any (w : World) : Calls Try.prog 13 #[] w fun e w' => e = .returned (.bool true) ∧ Below w.heap.size w w' := sapwoodlaw05_awake.calls 3 true w (awake_tells 0)
theorem cut_any (s : ByteArray) (w : World) : Calls Try.prog 14 #[.string s] w fun e w' => ∃ A c, e = .returned (.slice A (cutOf s).length c) ∧ (cutOf s).length ≤ c ∧ Kd.C Kd.string w' A (cutOf s).length (cutOf s) ∧ Below w.heap.size w w' :=
  (chain_Cut.calls 3 s _ w (cut_tells 0 s)).mono fun e w' ⟨v, he, hR, hb⟩ => by
    obtain ⟨A, c, rfl, hc, hC⟩ := Kd.R_reads hR
    exact ⟨A, c, he, hc, hC, hb⟩
theorem refcut_any (s : ByteArray) (w : World) : Calls Try.prog 19 #[.string s] w fun e w' => ∃ A c, e = .returned (.slice A (cutOf s).length c) ∧ (cutOf s).length ≤ c ∧ Kd.C Kd.string w' A (cutOf s).length (cutOf s) ∧ Below w.heap.size w w' :=
  (sapwoodref05_Cut.calls 1 s _ w (refcut_tells 0 s)).mono fun e w' ⟨v, he, hR, hb⟩ => by
    obtain ⟨A, c, rfl, hc, hC⟩ := Kd.R_reads hR
    exact ⟨A, c, he, hc, hC, hb⟩
theorem pages_any (s : ByteArray) (w : World) : Calls Try.prog 20 #[.string s] w fun e w' => e = .returned (.int .i64 ((cutOf s).length : Int)) ∧ Below w.heap.size w w' := chain_Pages.calls 3 s _ w (pages_tells 0 s)
section
variable (A : Option Addr) (c : Nat) (xs : List ByteArray) (w : World) (hr : Kd.C Kd.string w A xs.length xs) (hc : xs.length ≤ c)
include hr hc
theorem few_any : Calls Try.prog 15 #[.slice A xs.length c] w fun e w' => e = .returned (.bool (fewB xs)) ∧ Below w.heap.size w w' :=
  (sapwoodlaw05_few.calls 21 A c xs _ w hr hc (few_tells 21 xs (by omega))).mono fun e w' ⟨h, hd⟩ => ⟨h, hd.below⟩
theorem equal_any (A1 : Option Addr) (c1 : Nat) (ys : List ByteArray) (hr1 : Kd.C Kd.string w A1 ys.length ys) (hc1 : ys.length ≤ c1) :
    Calls Try.prog 42 #[.slice A xs.length c, .slice A1 ys.length c1] w fun e w' => e = .returned (.bool (decide (xs = ys))) ∧ Below w.heap.size w w' :=
  (slices_Equal_string_string.calls (xs.length + 1) A c xs A1 c1 ys _ w hr hc hr1 hc1 (equal_tells _ xs ys hr.2.1 (by omega))).mono fun e w' ⟨h, hd⟩ => ⟨h, hd.below⟩
theorem same_any (A1 : Option Addr) (c1 : Nat) (ys : List ByteArray) (hr1 : Kd.C Kd.string w A1 ys.length ys) (hc1 : ys.length ≤ c1) :
    Calls Try.prog 18 #[.slice A xs.length c, .slice A1 ys.length c1] w fun e w' => e = .returned (.bool (decide (xs = ys))) ∧ Below w.heap.size w w' :=
  (sapwoodlaw05_same.calls (xs.length + 1) A c xs A1 c1 ys _ w hr hc hr1 hc1 (same_tells _ xs ys hr.2.1 (by omega))).mono fun e w' ⟨h, hd⟩ => ⟨h, hd.below⟩
theorem refjoin_any (size : Int) (hb : (joinAll xs).size ≤ 9223372036854775807) :
    Calls Try.prog 17 #[.slice A xs.length c, .int .i64 size] w fun e w' => e = .returned (.tuple #[.string (joinOf xs size).1, .int .i64 (joinOf xs size).2]) ∧ Below w.heap.size w w' :=
  sapwoodref05_Join.calls 11 A c xs size _ _ w hr hc (refjoin_tells 11 xs size hb (by omega))
end
theorem strs_at {w : World} {A : Option Addr} {n : Nat} {xs : List ByteArray} (h : Kd.C Kd.string w A n xs) (hn : 0 < n) :
    ∃ b o, A = some ⟨b, o, none⟩ ∧ (∀ (j : Nat) x, xs[j]? = some x → w.cell? ⟨b, o + j, none⟩ = some (.string x)) ∧ b < w.heap.size := by
  obtain ⟨ad, rfl, hc⟩ := h.2.2 hn
  have cell : ∀ (j : Nat) x, xs[j]? = some x → w.cell? (ad.add j) = some (.string x) := by
    intro j x hj
    obtain ⟨c, h1, h2, h3⟩ := hc j x hj
    have h4 : c = [.string x] := h2
    subst h4
    have h5 := h3 0 (.string x) rfl
    have h6 : Kd.string.sz = 1 := rfl
    rw [h6, Nat.mul_one, Nat.add_zero] at h5
    exact h5
  have hl : 0 < xs.length := by have := h.1; omega
  have c0 := cell 0 _ (List.getElem?_eq_getElem hl)
  obtain ⟨b, o, s⟩ := ad
  have hs : s = none := by
    cases s with
    | none => rfl
    | some s =>
      have : (⟨b, o, some s⟩ : Addr).add 0 = ⟨b, o, some s⟩ := rfl
      rw [this] at c0
      unfold World.cell? at c0
      split at c0 <;> simp at c0
  subst hs
  refine ⟨b, o, rfl, fun j x hj => ?_, ?_⟩
  · have := cell j x hj
    rw [add_at] at this
    exact this
  · exact World.block_lt_of_cell? w _ c0
theorem join_bs (xs : List ByteArray) : (joinAll xs).size = (Lib.join (xs.map (·.data.toList)) []).length := by
  rw [size_nil]; simp [joinAll]
/-- strings.Join at "". -/
theorem sjoin (A : Option Addr) (c : Nat) (xs : List ByteArray) (w : World) (hr : Kd.C Kd.string w A xs.length xs) (hc : xs.length ≤ c) (h2 : xs.length ≤ 2) (hlen : (joinAll xs).size ≤ 140737488355328) :
    Calls Try.prog 41 #[.slice A xs.length c, .string ⟨#[]⟩] w fun e w' => e = .returned (.string (joinAll xs)) ∧ Below w.heap.size w w' := by
  by_cases h0 : 0 < xs.length
  · obtain ⟨b, o, rfl, hcell, hb⟩ := strs_at hr h0
    exact Try.strings_Join b o c xs ⟨#[]⟩ w hcell hb (by omega) hc (by rw [join_bs] at hlen; exact hlen)
  · have hx : xs = [] := List.eq_nil_of_length_eq_zero (by omega)
    subst hx
    exact (Try.strings_Join_none A c ⟨#[]⟩ w).mono fun e w' ⟨h1, h2⟩ => ⟨h1, by subst h2; exact Below.refl _ _⟩
section
variable (A : Option Addr) (c : Nat) (xs : List ByteArray) (size : Int) (w : World) (hr : Kd.C Kd.string w A xs.length xs) (hc : xs.length ≤ c) (hlen : (joinAll xs).size ≤ 140737488355328)
include hr
set_option maxHeartbeats 400000 in
theorem join_long (h : ¬ (24 < size ∧ size ≤ 400 ∧ xs.length ≤ 2)) :
    Calls Try.prog 16 #[.slice A xs.length c, .int .i64 size] w fun e w' => e = .returned (.tuple #[.string ByteArray.empty, .int .i64 4]) ∧ Below w.heap.size w w' := by
  have hm := hr.2.1
  by_cases h2 : 24 < size ∧ size ≤ 400
  · have h3 : ¬ xs.length ≤ 2 := fun h4 => h ⟨h2.1, h2.2, h4⟩
    have h5 : decide (2 < xs.length) = true := decide_eq_true (by omega)
    have H := Lib.hid (chained_tt size h2.1 h2.2)
    clear h h2
    go_enter Try.func16, Try.ntmps16
    go_wp2_with fail
    refine (chain_chained.calls size true _ H.out).mono ?_
    rintro e w' ⟨rfl, ⟨nd, rfl⟩⟩
    go_wp2
    go_ret2
    exact ⟨rfl, pw_below_drewN (Below.refl _ _) _⟩
  · have H := Lib.hid (chained_ff size h2)
    clear h h2
    go_enter Try.func16, Try.ntmps16
    go_wp2_with fail
    refine (chain_chained.calls size false _ H.out).mono ?_
    rintro e w' ⟨rfl, ⟨nd, rfl⟩⟩
    go_wp2
    go_ret2
    exact ⟨rfl, pw_below_drewN (Below.refl _ _) _⟩
include hc hlen
set_option maxHeartbeats 400000 in
theorem join_short (h1 : 24 < size) (h2 : size ≤ 400) (h3 : xs.length ≤ 2) (h4 : ((joinAll xs).size : Int) ≠ size) :
    Calls Try.prog 16 #[.slice A xs.length c, .int .i64 size] w fun e w' => e = .returned (.tuple #[.string ByteArray.empty, .int .i64 3]) ∧ Below w.heap.size w w' := by
  have h5 : decide (2 < xs.length) = false := decide_eq_false (by omega)
  have H := Lib.hid (chained_tt size h1 h2)
  have h6 : (((joinAll xs).size : Int) != size) = true := by rw [bne_iff_ne]; exact h4
  clear h1 h2 h4
  go_enter Try.func16, Try.ntmps16
  go_wp2_with fail
  refine (chain_chained.calls size true _ H.out).mono ?_
  rintro e w' ⟨rfl, ⟨nd, rfl⟩⟩
  go_wp2_with fail
  refine (sjoin A c xs _ (Kd.C_drewN hr nd) hc h3 hlen).mono ?_
  rintro e w1 ⟨rfl, hb1⟩
  go_wp2
  go_ret2
  exact ⟨rfl, (pw_below_drewN (Below.refl w.heap.size w) nd).trans hb1⟩
set_option maxHeartbeats 400000 in
theorem join_same (b : Bool) (h1 : 24 < size) (h2 : size ≤ 400) (h3 : xs.length ≤ 2) (h4 : ((joinAll xs).size : Int) = size) (hb : decide (cutOf (joinAll xs) = xs) = b) :
    Calls Try.prog 16 #[.slice A xs.length c, .int .i64 size] w fun e w' => e = .returned (.tuple #[.string (if b then joinAll xs else ByteArray.empty), .int .i64 (if b then 0 else 3)]) ∧ Below w.heap.size w w' := by
  have h5 : decide (2 < xs.length) = false := decide_eq_false (by omega)
  have H := Lib.hid (chained_tt size h1 h2)
  have HB := Lib.hid hb
  have h6 : (((joinAll xs).size : Int) != size) = false := by rw [bne_eq_false_iff_eq]; exact h4
  clear h1 h2 h4 hb
  go_enter Try.func16, Try.ntmps16
  go_wp2_with fail
  refine (chain_chained.calls size true _ H.out).mono ?_
  rintro e w' ⟨rfl, ⟨nd, rfl⟩⟩
  go_wp2_with fail
  refine (sjoin A c xs _ (Kd.C_drewN hr nd) hc h3 hlen).mono ?_
  rintro e w1 ⟨rfl, hb1⟩
  have hr1 := Kd.C_below (Kd.C_drewN hr nd) hb1
  go_wp2_with fail
  refine (cut_any (joinAll xs) _).mono ?_
  rintro e w2 ⟨A2, c2, rfl, hc2, hC2, hb2⟩
  go_wp2_with fail
  refine (equal_any A2 c2 _ _ hC2 hc2 A c xs (Kd.C_below hr1 hb2) hc).mono ?_
  rintro e w3 ⟨rfl, hb3⟩
  rw [HB.out]
  have hbb := bl ((pw_below_drewN (Below.refl w.heap.size w) nd).trans hb1) (bl hb2 hb3)
  cases b
  all_goals
    go_wp2
    go_ret2
    exact ⟨rfl, hbb⟩
theorem join_any : Calls Try.prog 16 #[.slice A xs.length c, .int .i64 size] w fun e w' => e = .returned (.tuple #[.string (joinOf xs size).1, .int .i64 (joinOf xs size).2]) ∧ Below w.heap.size w w' := by
  unfold joinOf
  by_cases h : 24 < size ∧ size ≤ 400 ∧ xs.length ≤ 2
  · rw [if_pos h]
    by_cases h4 : ((joinAll xs).size : Int) = size
    · have := join_same A c xs size w hr hc hlen _ h.1 h.2.1 h.2.2 h4 rfl
      by_cases hx : cutOf (joinAll xs) = xs
      · rw [if_pos ⟨h4, hx⟩]; rw [decide_eq_true hx] at this; exact this
      · rw [if_neg (fun z => hx z.2)]; rw [decide_eq_false hx] at this; exact this
    · rw [if_neg (fun z => h4 z.1)]
      exact join_short A c xs size w hr hc hlen h.1 h.2.1 h.2.2 h4
  · rw [if_neg h]
    exact join_long A c xs size w hr h
end
end Go.Proofs.Ytpdhfnpnilpipaa.Ch
