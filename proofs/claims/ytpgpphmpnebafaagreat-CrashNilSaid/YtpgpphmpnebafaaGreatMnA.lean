/- The next epoch, by walks: the program's and the document's. -/
import Derived.Test.YtpgpphmpnebafaaGreatMtF
import Derived.Test.YtpgpphmpnebafaaGreatMtO
namespace Go.Proofs.YtpgpphmpnebafaaGreat.Mt
open Go.RowKit Go.Proofs.YtpgpphmpnebafaaGreat.By
set_option linter.unusedSimpArgs false
set_option linter.unusedVariables false
set_option maxRecDepth 100000

def mxI (k : Int) (l : List (Int × Int)) : Int := l.foldl (fun n o => max n o.1) k
theorem mxI_snoc (k : Int) (l : List (Int × Int)) (o : Int × Int) : mxI k (l ++ [o]) = max (mxI k l) o.1 := by unfold mxI; rw [List.foldl_append]; rfl
theorem mxI_bd (k : Int) (l : List (Int × Int)) (B : Int) (hk : k ≤ B) (h : ∀ o ∈ l, o.1 ≤ B) : k ≤ mxI k l ∧ mxI k l ≤ B := by
  unfold mxI
  have key : ∀ (l : List (Int × Int)) (n : Int), k ≤ n → n ≤ B → (∀ o ∈ l, o.1 ≤ B) → k ≤ l.foldl (fun n o => max n o.1) n ∧ l.foldl (fun n o => max n o.1) n ≤ B := by
    intro l
    induction l with
    | nil => intro n h1 h2 _; exact ⟨h1, h2⟩
    | cons o l ih =>
      intro n h1 h2 h3
      have := h3 o (by simp)
      exact ih (max n o.1) (by omega) (by omega) (fun p hp => h3 p (by simp [hp]))
  exact key l k (Int.le_refl _) hk h
theorem mxI_ge (l : List (Int × Int)) : ∀ (k : Int), ∀ o ∈ l, o.1 ≤ mxI k l := by
  unfold mxI
  have mono : ∀ (l : List (Int × Int)) (n : Int), n ≤ l.foldl (fun n o => max n o.1) n := by
    intro l
    induction l with
    | nil => intro n; exact Int.le_refl _
    | cons o l ih => intro n; have := ih (max n o.1); simp only [List.foldl_cons]; omega
  induction l with
  | nil => intro k o ho; simp at ho
  | cons p l ih =>
    intro k o ho
    simp only [List.foldl_cons]
    rcases List.mem_cons.1 ho with rfl | h
    · have := mono l (max k o.1); omega
    · exact ih (max k p.1) o h
def nextI (k : Int) (l : List (Int × Int)) : Int := if (mxI k l + 1) % 2 = k % 2 then mxI k l + 2 else mxI k l + 1
theorem take_snoc_of {α : Type} (l : List α) (k : Nat) (x : α) (h : l[k]? = some x) : l.take (k + 1) = l.take k ++ [x] := take_snoc l k x h
set_option maxHeartbeats 2000000 in
theorem next_any (A : Option Addr) (l : List (Int × Int)) (cap : Nat) (k : Nat) (w : World) (hk : k < 65536) (hl : l.length ≤ 1000) (ha : MetasAt w A l) (hr : ∀ o ∈ l, 0 ≤ o.1 ∧ o.1 ≤ 1073741824) :
    Calls Tryz.prog 56 #[.int .i64 (k : Int), .slice A l.length cap] w fun x w' => x = .returned (.int .i64 (nextI k l)) ∧ Below w.heap.size w w' := by
  have hbd := fun j => mxI_bd k (l.take j) 1073741824 (by omega) (fun o ho => (hr o (List.mem_of_mem_take ho)).2)
  have HBD := Lib.hid hbd
  have HA := Lib.hid ha
  have HR := Lib.hid hr
  clear hbd ha hr
  go_enter Tryz.func56, Tryz.ntmps56
  go_wp2_with fail
  go_loopw [5, 11] (fun n i wr => ∃ j : Nat, j ≤ l.length ∧ i = .int .i64 j ∧ n = .int .i64 (mxI k (l.take j)) ∧ Below w.heap.size w wr) (fun _ i _ => l.length - (intOf i).toNat)
  case atStart => exact ⟨0, Nat.zero_le _, rfl, rfl, Below.refl _ _⟩
  case round =>
    obtain ⟨j, hj, rfl, rfl, hbw⟩ := hrel
    have hb := HBD.out j
    by_cases hlt : j < l.length
    · have u1 : decide (j < l.length) = true := decide_eq_true hlt
      have u2 : decide ((j : Int) < (l.length : Int)) = true := decide_eq_true (by omega)
      obtain ⟨o, ho⟩ : ∃ o, l[j]? = some o := ⟨_, List.getElem?_eq_getElem hlt⟩
      obtain ⟨e, r⟩ := o
      obtain ⟨g, off, rfl, h1, h2⟩ := HA.out j _ ho
      dsimp only at h1 h2
      have c1 := (hbw.cell (World.block_lt_of_cell? w _ h1)).trans h1
      have c2 := (hbw.cell (World.block_lt_of_cell? w _ h2)).trans h2
      have her := HR.out _ (List.mem_of_getElem? ho)
      dsimp only at her
      have hnx : mxI k (l.take (j + 1)) = max (mxI k (l.take j)) e := by rw [take_snoc _ _ _ ho, mxI_snoc]
      obtain ⟨n, hn⟩ : ∃ n, n = mxI k (l.take j) := ⟨_, rfl⟩
      rw [← hn] at hb hnx ⊢
      have HB := Lib.hid (below_al hbw (.cells #[.int .i64 e, .int .i64 r] 117))
      clear ho h1 h2 hn hbw
      by_cases hle : e ≤ n
      · have hm : max n e = n := by omega
        rw [hm] at hnx
        have HNX := Lib.hid hnx
        clear hm hnx
        go_wp2_with fail
        all_goals
          go_roundw
          case rel => exact ⟨j + 1, by omega, by go_num, by first | (rw [HNX.out]; done) | (rw [HNX.out]; congr 1; omega), HB.out⟩
          case measure => simp [intOf]; omega
      · have hm : max n e = e := by omega
        rw [hm] at hnx
        have HNX := Lib.hid hnx
        clear hm hnx
        go_wp2_with fail
        all_goals
          go_roundw
          case rel => exact ⟨j + 1, by omega, by go_num, by first | (rw [HNX.out]; done) | (rw [HNX.out]; congr 1; omega), HB.out⟩
          case measure => simp [intOf]; omega
    · have u1 : decide (j < l.length) = false := decide_eq_false hlt
      have u2 : decide ((j : Int) < (l.length : Int)) = false := decide_eq_false (by omega)
      have hall : l.take j = l := List.take_of_length_le (by omega)
      rw [hall] at hb ⊢
      have hnxt : nextI k l = if (mxI k l + 1) % 2 = (k : Int) % 2 then mxI k l + 2 else mxI k l + 1 := rfl
      obtain ⟨n, hn⟩ : ∃ n, n = mxI k l := ⟨_, rfl⟩
      rw [← hn] at hb hnxt ⊢
      have HN := Lib.hid hnxt
      have HS1 := Lib.hid (fun X => slot_any (n + 1) X)
      have HS2 := Lib.hid (fun X => slot_any (k : Int) X)
      clear hall hn hnxt
      by_cases hs : (n + 1) % 2 = (k : Int) % 2
      · have v1 : ((n + 1) % 2 == (k : Int) % 2) = true := beq_iff_eq.2 hs
        have HV : Hid (nextI k l = n + 2) := Lib.hid (by rw [HN.out, if_pos hs])
        clear hs
        go_wp2_with fail
        refine (HS1.out _).mono ?_
        rintro x w1 ⟨rfl, rfl⟩
        go_wp2_with fail
        refine (HS2.out _).mono ?_
        rintro x w1 ⟨rfl, rfl⟩
        go_wp2_with fail
        go_ret
        refine ⟨?_, hbw⟩
        have e2 : n + 1 + 1 = n + 2 := by omega
        rw [HV.out, ← e2]
        rfl
      · have v1 : ((n + 1) % 2 == (k : Int) % 2) = false := by rw [beq_eq_false_iff_ne]; exact hs
        have HV : Hid (nextI k l = n + 1) := Lib.hid (by rw [HN.out, if_neg hs])
        clear hs
        go_wp2_with fail
        refine (HS1.out _).mono ?_
        rintro x w1 ⟨rfl, rfl⟩
        go_wp2_with fail
        refine (HS2.out _).mono ?_
        rintro x w1 ⟨rfl, rfl⟩
        go_wp2_with fail
        go_ret
        exact ⟨by rw [HV.out]; rfl, hbw⟩
theorem nextI_odd (k : Int) (l : List (Int × Int)) : nextI k l % 2 ≠ k % 2 := by
  unfold nextI
  split <;> omega
theorem nextI_gt (k : Int) (l : List (Int × Int)) : mxI k l < nextI k l ∧ nextI k l ≤ mxI k l + 2 := by
  unfold nextI
  split <;> omega
end Go.Proofs.YtpgpphmpnebafaaGreat.Mt
