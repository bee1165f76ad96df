/- What bytes tell, as a plain list of steps; rows of steps in memory. -/
import Derived.Test.YtpjgmcoimniheaaDoorScC
namespace Go.Proofs.YtpjgmcoimniheaaDoor.Sc
open Go.RowKit Go.Proofs.YtpjgmcoimniheaaDoor.By Go.Proofs.YtpjgmcoimniheaaDoor.Mt
set_option linter.unusedSimpArgs false
set_option linter.unusedVariables false

theorem sbox_below {w w1 : World} {o : Obj} (h : Below (w.alloc o).heap.size (w.alloc o) w1) : Below w.heap.size w w1 := (below_al (Below.refl w.heap.size w) o).trans (h.mono (by rw [World.size_alloc]; omega))
theorem callR_le (l : List Nat) (o : Bool) : (callR l o).l.length ≤ l.length := by
  have h1 : l.tail.length ≤ l.length := by rw [List.length_tail]; omega
  have h2 := txL_le l.tail
  have h3 := txL_le (txL l.tail)
  unfold callR
  dsimp only
  split
  · dsimp only; omega
  · split <;> dsimp only <;> omega
theorem entryR_le (k : Nat) (l : List Nat) (o : Bool) : (entryR k l o).l.length ≤ l.length := by
  have h1 : l.tail.length ≤ l.length := by rw [List.length_tail]; omega
  have h2 : l.tail.tail.length ≤ l.length := by rw [List.length_tail]; omega
  have h4 : l.tail.tail.tail.length ≤ l.length := by rw [List.length_tail]; omega
  have h3 := txL_le l.tail
  have h5 := callR_le l.tail (o || l.isEmpty)
  unfold entryR
  dsimp only
  split
  · dsimp only; omega
  · split
    · dsimp only; omega
    · split
      · dsimp only; omega
      · split <;> dsimp only <;> omega
/-- The steps that bytes tell. -/
def decF : Nat → List Nat → List Stp
  | 0, _ => []
  | n + 1, l => if l = [] then [] else if hd l < 1 ∨ 5 < hd l then decF n l.tail else if (entryR (hd l) l.tail false).o then [] else (entryR (hd l) l.tail false).v :: decF n (entryR (hd l) l.tail false).l
theorem decF_more : ∀ (n m : Nat) (l : List Nat), l.length ≤ n → l.length ≤ m → decF n l = decF m l
  | 0, m, l, hn, hm => by
    have : l = [] := List.length_eq_zero_iff.1 (by omega)
    subst this
    cases m <;> rfl
  | n + 1, 0, l, hn, hm => by
    have : l = [] := List.length_eq_zero_iff.1 (by omega)
    subst this; rfl
  | n + 1, m + 1, l, hn, hm => by
    unfold decF
    by_cases h0 : l = []
    · rw [if_pos h0, if_pos h0]
    · have hp : 0 < l.length := List.length_pos_iff.2 h0
      have ht : l.tail.length = l.length - 1 := List.length_tail
      rw [if_neg h0, if_neg h0]
      by_cases hk : hd l < 1 ∨ 5 < hd l
      · rw [if_pos hk, if_pos hk]; exact decF_more n m _ (by omega) (by omega)
      · rw [if_neg hk, if_neg hk]
        have he := entryR_le (hd l) l.tail false
        rw [decF_more n m (entryR (hd l) l.tail false).l (by omega) (by omega)]
def decA (l : List Nat) : List Stp := decF l.length l
theorem decA_nil : decA [] = [] := rfl
theorem decA_skip {l : List Nat} (h0 : l ≠ []) (hk : hd l < 1 ∨ 5 < hd l) : decA l = decA l.tail := by
  have hp : 0 < l.length := List.length_pos_iff.2 h0
  have ht : l.tail.length = l.length - 1 := List.length_tail
  unfold decA
  rw [decF_more l.length (l.length + 1) l (by omega) (by omega)]
  show (if l = [] then [] else _) = _
  rw [if_neg h0, if_pos hk]
  exact decF_more _ _ _ (by omega) (by omega)
theorem decA_end {l : List Nat} (h0 : l ≠ []) (h1 : 1 ≤ hd l) (h5 : hd l ≤ 5) (ho : (entryR (hd l) l.tail false).o = true) : decA l = [] := by
  unfold decA
  rw [decF_more l.length (l.length + 1) l (by omega) (by omega)]
  show (if l = [] then [] else _) = _
  rw [if_neg h0, if_neg (by omega), if_pos ho]
theorem decA_cons {l : List Nat} (h0 : l ≠ []) (h1 : 1 ≤ hd l) (h5 : hd l ≤ 5) (ho : (entryR (hd l) l.tail false).o = false) : decA l = (entryR (hd l) l.tail false).v :: decA (entryR (hd l) l.tail false).l := by
  have hp : 0 < l.length := List.length_pos_iff.2 h0
  have ht : l.tail.length = l.length - 1 := List.length_tail
  have he := entryR_le (hd l) l.tail false
  unfold decA
  rw [decF_more l.length (l.length + 1) l (by omega) (by omega)]
  show (if l = [] then [] else _) = _
  rw [if_neg h0, if_neg (by omega), if_neg (by rw [ho]; simp)]
  rw [decF_more l.length _ (entryR (hd l) l.tail false).l (by omega) (Nat.le_refl _)]
/-- The pages, and the steps, of bytes. -/
def pagesA (l : List Nat) : Nat := 2 + 2 * hd l
def stpL (s : Stp) : List Value := [.int .i64 (s.kind : Int), .int .i64 (s.who : Int), .int .i64 (s.xk : Int), .string (ofNats s.key), .string (ofNats s.val), .int .u64 (s.keep : Int), .int .i64 (s.torn : Int), .int .i64 (s.part : Int)]
theorem stpL_length (s : Stp) : (stpL s).length = 8 := rfl
def stpCells (l : List Stp) : List Value := l.flatMap stpL
theorem stpCells_snoc (l : List Stp) (s : Stp) : stpCells (l ++ [s]) = stpCells l ++ stpL s := by unfold stpCells; rw [List.flatMap_append]; simp
theorem stpCells_length (l : List Stp) : (stpCells l).length = l.length * 8 := by
  unfold stpCells
  induction l with
  | nil => rfl
  | cons s l ih => rw [List.flatMap_cons, List.length_append, ih, stpL_length, List.length_cons]; omega
theorem stpCells_at : ∀ (l : List Stp) (k j : Nat) (s : Stp) (u : Value), l[k]? = some s → (stpL s)[j]? = some u → (stpCells l)[k * 8 + j]? = some u
  | [], k, j, s, u, h, _ => by simp at h
  | p :: l, 0, j, s, u, h, hu => by
    have : p = s := by simpa using h
    subst this
    show (stpL p ++ stpCells l)[0 * 8 + j]? = _
    rw [List.getElem?_append_left (by have := (List.getElem?_eq_some_iff.1 hu).1; omega)]
    rw [Nat.zero_mul, Nat.zero_add]; exact hu
  | p :: l, k + 1, j, s, u, h, hu => by
    show (stpL p ++ stpCells l)[(k + 1) * 8 + j]? = _
    rw [List.getElem?_append_right (by rw [stpL_length]; omega), stpL_length, show (k + 1) * 8 + j - 8 = k * 8 + j from by omega]
    exact stpCells_at l k j s u (by simpa using h) hu
theorem news_of {w : World} {g t : Nat} {cs : Array Value} (h : w.heap[g]? = some (.cells cs t (0, 0))) : ∀ (j : Nat) (u : Value), cs.toList[j]? = some u → w.cell? ((⟨g, 0, none⟩ : Addr).add j) = some u := fun j u hj => by
  rw [add_plain, cell_at h, ← Array.getElem?_toList]; exact hj
theorem own_from_le {w : World} {base e size n : Nat} {v : Value} {xs : List Value} (h : w.ownsRow base e size v n xs) : ∀ k, v.ownBlock = some k → base ≤ k := by
  intro k hk
  rcases h.2 with ⟨hv, _⟩ | ⟨g, _, _, hv, hg', _⟩
  · rw [hv] at hk; simp [Value.ownBlock] at hk
  · rw [hv] at hk; have : g = k := by simpa [Value.ownBlock] using hk
    omega
theorem own_chg {w w1 : World} {F : Nat → Prop} {base e size n : Nat} {v : Value} {xs : List Value} (h : w.ownsRow base e size v n xs) (hc : Chg F w w1) (hF : ∀ k, F k → k < base) : w1.ownsRow base e size v n xs :=
  own_move h fun k hk => hc.block k (own_lt h k hk) (fun hf => by have := hF k hf; have := own_from_le h k hk; omega)
/-- Steps in memory, one behind the other. -/
def StepsAt (w : World) (A : Option Addr) (l : List Stp) : Prop := ∀ (k : Nat) (s : Stp), l[k]? = some s → ∃ g, A = some ⟨g, 0, none⟩ ∧ ∀ (j : Nat) (u : Value), (stpL s)[j]? = some u → w.cell? ⟨g, k * 8 + j, none⟩ = some u
theorem steps_of_row {w : World} {base e n : Nat} {A : Option Addr} {c : Nat} {l : List Stp} (h : w.ownsRow base e 8 (.slice A n c) n (stpCells l)) : StepsAt w A l := by
  intro k s hk
  rcases h.2 with ⟨hv, h0⟩ | ⟨g, cap, cur, hv, hg, hh, h3, h4, h5, h6⟩
  · have h1 := h.1
    have := (List.getElem?_eq_some_iff.1 hk).1
    rw [stpCells_length, h0] at h1
    omega
  · injection hv with hv
    subst hv
    refine ⟨g, rfl, fun j u hj => ?_⟩
    have h7 := stpCells_at l k j s u hk hj
    rw [cell_at hh, ← Array.getElem?_toList]
    rw [← h6, List.getElem?_take] at h7
    split at h7
    · exact h7
    · cases h7
theorem StepsAt.below {w w1 : World} {A : Option Addr} {l : List Stp} (h : StepsAt w A l) (hb : Below w.heap.size w w1) : StepsAt w1 A l := by
  intro k s hk
  obtain ⟨g, hA, hc⟩ := h k s hk
  exact ⟨g, hA, fun j u hj => by have := hc j u hj; exact (hb.cell (World.block_lt_of_cell? w _ this)).trans this⟩
def scLen (w : World) (R : Nat) : Nat := match w.cell? ⟨R, 0, none⟩ with | some (.slice _ n _) => n | _ => 0
theorem scLen_of {w : World} {B R : Nat} {l : List Nat} {o : Bool} (h : ScR w B R l o) : scLen w R = l.length := by
  obtain ⟨g, f, c, hc0, _⟩ := h.cells
  unfold scLen
  rw [hc0]
end Go.Proofs.YtpjgmcoimniheaaDoor.Sc
