/- Whether a script is short, by a walk. -/
import Derived.Test.YtpdhfnpnilpipaaDvO
namespace Go.Proofs.Ytpdhfnpnilpipaa.Dv
open Go.RowKit
set_option linter.unusedSimpArgs false
set_option linter.unusedVariables false

def few (l : List OpR) : Bool := decide (l.length ≤ 150) && l.all fun o => decide (o.b.size ≤ 1000)
theorem few_of (l : List OpR) (h : few l = true) : l.length ≤ 150 ∧ ∀ o ∈ l, o.b.size ≤ 1000 := by
  unfold few at h
  simp only [Bool.and_eq_true, decide_eq_true_eq, List.all_eq_true] at h
  exact h
theorem few_long (l : List OpR) (h : 150 < l.length) : few l = false := by
  unfold few
  rw [decide_eq_false (by omega)]; rfl
theorem few_big (l : List OpR) (o : OpR) (ho : o ∈ l) (h : 1000 < o.b.size) : few l = false := by
  rw [Bool.eq_false_iff]
  intro hf
  have := (few_of l hf).2 o ho
  omega
theorem few_yes (l : List OpR) (h : l.length ≤ 150) (h2 : ∀ o ∈ l, o.b.size ≤ 1000) : few l = true := by
  unfold few
  simp only [Bool.and_eq_true, decide_eq_true_eq, List.all_eq_true]
  exact ⟨h, h2⟩
set_option maxHeartbeats 1000000 in
theorem few_any (A : Option Addr) (l : List OpR) (cap : Nat) (w : World) (ha : OpsAt w A l) (hw : ∀ o ∈ l, OpW o) (hl : l.length ≤ cap) (hc : cap ≤ maxLen) :
    Calls Try.prog 34 #[.slice A l.length cap] w fun e w' => e = .returned (.bool (few l)) ∧ w = w' := by
  unfold maxLen at hc
  by_cases hlong : 150 < l.length
  · have t : decide (150 < l.length) = true := decide_eq_true hlong
    have ti : decide ((150 : Int) < (l.length : Int)) = true := decide_eq_true (by omega)
    go_enter Try.func34, Try.ntmps34
    go_wp2
    go_ret
    exact ⟨by rw [few_long l hlong]; rfl, rfl⟩
  · have t : decide (150 < l.length) = false := decide_eq_false hlong
    have ti : decide ((150 : Int) < (l.length : Int)) = false := decide_eq_false (by omega)
    go_enter Try.func34, Try.ntmps34
    go_wp2_with fail
    go_loop [9] (fun i => ∃ k : Nat, k ≤ l.length ∧ i = .int .i64 k ∧ ∀ o ∈ l.take k, o.b.size ≤ 1000) (fun i => l.length - (intOf i).toNat)
    case atStart => exact ⟨0, Nat.zero_le _, rfl, fun o ho => by simp at ho⟩
    case round =>
      obtain ⟨k, hk, rfl, hsm⟩ := hrel
      by_cases hlt : k < l.length
      · have ht1 : decide (k < l.length) = true := decide_eq_true hlt
        have ht2 : decide ((k : Int) < (l.length : Int)) = true := decide_eq_true (by omega)
        obtain ⟨o, ho⟩ : ∃ o, l[k]? = some o := ⟨_, List.getElem?_eq_getElem hlt⟩
        obtain ⟨g, off, rfl, hat⟩ := ha k o ho
        have hcb := hat.b
        have hmem := List.mem_of_getElem? ho
        have hob := (hw o hmem).b
        unfold maxLen at hob
        have HO := Lib.hid ho
        have HM := Lib.hid hmem
        have HS := Lib.hid hsm
        clear ho hmem hsm hat
        by_cases hbig : 1000 < o.b.size
        · have b1 : decide (1000 < o.b.size) = true := decide_eq_true hbig
          have b2 : decide ((1000 : Int) < (o.b.size : Int)) = true := decide_eq_true (by omega)
          go_wp2
          go_ret
          exact ⟨by rw [few_big l o HM.out hbig]; rfl, rfl⟩
        · have b1 : decide (1000 < o.b.size) = false := decide_eq_false hbig
          have b2 : decide ((1000 : Int) < (o.b.size : Int)) = false := decide_eq_false (by omega)
          go_wp2
          go_round
          case rel =>
            refine ⟨k + 1, by omega, by go_num, ?_⟩
            intro o' ho'
            rw [take_snoc l k o HO.out] at ho'
            rcases List.mem_append.1 ho' with h | h
            · exact HS.out o' h
            · rw [List.mem_singleton.1 h]; omega
          case measure => simp [intOf]; omega
      · have ht1 : decide (k < l.length) = false := decide_eq_false hlt
        have ht2 : decide ((k : Int) < (l.length : Int)) = false := decide_eq_false (by omega)
        have hall : ∀ o ∈ l, o.b.size ≤ 1000 := by
          rw [List.take_of_length_le (by omega)] at hsm
          exact hsm
        have HA := Lib.hid hall
        clear hsm hall
        go_wp2
        go_ret
        exact ⟨by rw [few_yes l (by omega) HA.out]; rfl, rfl⟩
end Go.Proofs.Ytpdhfnpnilpipaa.Dv
