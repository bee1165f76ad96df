/- Lists of metas side by side; the document's slot, by walks. -/
import Derived.Test.YtpjgmcoimniheaaMsF
namespace Go.Proofs.Ytpjgmcoimniheaa.Mt
open Go.RowKit Go.Proofs.Ytpjgmcoimniheaa.By
set_option linter.unusedSimpArgs false
set_option linter.unusedVariables false

set_option maxRecDepth 100000 in
set_option maxHeartbeats 2000000 in
theorem same_any (A B : Option Addr) (c d : Nat) (l : List (Int × Int)) (w : World) (ha : MetasAt w A l) (hb : MetasAt w B l) (hl : l.length ≤ 2) :
    Calls Try.prog 24 #[.slice A l.length c, .slice B l.length d] w fun x w' => x = .returned (.bool true) ∧ Below w.heap.size w w' := by
  have HA := Lib.hid ha
  have HB := Lib.hid hb
  clear ha hb
  go_enter Try.func24, Try.ntmps24
  go_wp2_with fail
  go_loopw [13] (fun i wr => ∃ j : Nat, j ≤ l.length ∧ i = .int .i64 (j : Int) ∧ Below w.heap.size w wr) (fun i _ => l.length - (intOf i).toNat)
  case atStart => exact ⟨0, Nat.zero_le _, rfl, Below.refl _ _⟩
  case round =>
    obtain ⟨j, hj, rfl, hbw⟩ := hrel
    by_cases hlt : j < l.length
    · have u1 : decide (j < l.length) = true := decide_eq_true hlt
      have u2 : decide ((j : Int) < (l.length : Int)) = true := decide_eq_true (by omega)
      have i1 : (0 : Int) ≤ (j : Int) := by omega
      have i2 : (j : Int) < (l.length : Int) := by omega
      obtain ⟨o, ho⟩ : ∃ o, l[j]? = some o := ⟨_, List.getElem?_eq_getElem hlt⟩
      obtain ⟨e, r⟩ := o
      obtain ⟨g, off, rfl, h1, h2⟩ := HA.out j _ ho
      obtain ⟨g', off', rfl, h3, h4⟩ := HB.out j _ ho
      dsimp only at h1 h2 h3 h4
      have c1 := (hbw.cell (World.block_lt_of_cell? w _ h1)).trans h1
      have c2 := (hbw.cell (World.block_lt_of_cell? w _ h2)).trans h2
      have c3 := (hbw.cell (World.block_lt_of_cell? w _ h3)).trans h3
      have c4 := (hbw.cell (World.block_lt_of_cell? w _ h4)).trans h4
      have HW := Lib.hid hbw
      clear h1 h2 h3 h4 ho hbw
      go_wp2_with fail
      go_quiet (fail)
      go_wp2_with fail
      go_roundw
      case rel => exact ⟨j + 1, by omega, by go_num, below_dn HW.out _⟩
      case measure => simp [intOf]; omega
    · have u1 : decide (j < l.length) = false := decide_eq_false hlt
      have u2 : decide ((j : Int) < (l.length : Int)) = false := decide_eq_false (by omega)
      go_wp2_with fail
      go_ret
      exact ⟨rfl, hbw⟩
end Go.Proofs.Ytpjgmcoimniheaa.Mt
