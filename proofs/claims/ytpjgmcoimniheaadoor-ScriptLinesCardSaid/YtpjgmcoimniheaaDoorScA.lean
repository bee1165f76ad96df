/- A reader of a script's bytes: what it takes, in plain lists; the program's one and text, by walks. -/
import Derived.Test.YtpjgmcoimniheaaDoorMtW
import Derived.Deep.QuietTactic
import Derived.BigQuiet
namespace Go.Proofs.YtpjgmcoimniheaaDoor.Sc
open Go.RowKit Go.Proofs.YtpjgmcoimniheaaDoor.By Go.Proofs.YtpjgmcoimniheaaDoor.Mt
set_option linter.unusedSimpArgs false
set_option linter.unusedVariables false

/-- A byte; what is left behind it; whether there was none. -/
def hd (l : List Nat) : Nat := l.headD 0
/-- A text; what is left behind it; whether it was too short. -/
def txV (l : List Nat) : List Nat := if l.tail.length < hd l then [] else l.tail.take (hd l)
def txL (l : List Nat) : List Nat := if l.tail.length < hd l then l.tail else l.tail.drop (hd l)
def txO (l : List Nat) : Bool := l.isEmpty || decide (l.tail.length < hd l)
theorem hd_nil : hd [] = 0 := rfl
theorem hd_cons (x : Nat) (t : List Nat) : hd (x :: t) = x := rfl
theorem hd_lt {l : List Nat} (h : ∀ x ∈ l, x < 256) : hd l < 256 := by
  cases l with
  | nil => exact Nat.zero_lt_succ _
  | cons x t => exact h x (by simp)
theorem tail_lt {l : List Nat} (h : ∀ x ∈ l, x < 256) : ∀ x ∈ l.tail, x < 256 := fun x hx => h x (List.mem_of_mem_tail hx)
theorem txL_lt {l : List Nat} (h : ∀ x ∈ l, x < 256) : ∀ x ∈ txL l, x < 256 := by
  unfold txL
  split
  · exact tail_lt h
  · exact fun x hx => tail_lt h x (List.mem_of_mem_drop hx)
theorem txL_le (l : List Nat) : (txL l).length ≤ l.length := by
  unfold txL
  split
  · simp
  · rw [List.length_drop, List.length_tail]; omega
/-- A reader in block R: what is left, and whether it ended too early. -/
def ScR (w : World) (B R : Nat) (l : List Nat) (o : Bool) : Prop := ∃ g f c : Nat, w.heap[R]? = some (.cells #[.slice (some ⟨g, f, none⟩) l.length c, .bool o] 49 (0, 0)) ∧ l.length ≤ c ∧ c ≤ maxLen ∧ g ≠ R ∧ g < B ∧ R < B ∧ (∀ (j x : Nat), l[j]? = some x → w.cell? ⟨g, f + j, none⟩ = some (.int .u8 (x : Int))) ∧ ∀ x ∈ l, x < 256
theorem chgR {w : World} {R i : Nat} (u : Value) : Chg (· = R) w (w.setCell ⟨R, i, none⟩ u) := Chg.setCell (F := (· = R)) (Chg.refl _ _) (p := ⟨R, i, none⟩) (.inl rfl) _
section
variable {w w1 : World} {B R : Nat} {l : List Nat} {o : Bool}
theorem ScR.move (h : ScR w B R l o) (hb : Chg (fun _ => False) w w1) : ScR w1 B R l o := by
  obtain ⟨g, f, c, h1, h2, h3, h4, hgB, hRB, h5, h6⟩ := h
  refine ⟨g, f, c, (hb.block R (lt_of_some h1) (fun h => h)).trans h1, h2, h3, h4, hgB, hRB, fun j x hj => ?_, h6⟩
  have h7 := h5 j x hj
  exact (World.cell?_of_block (hb.block _ (World.block_lt_of_cell? w _ h7) (fun h => h))).trans h7
theorem ScR.below (h : ScR w B R l o) (hb : Below w.heap.size w w1) : ScR w1 B R l o := h.move (Chg.of_below hb _)
theorem ScR.lt (h : ScR w B R l o) : R < w.heap.size := by obtain ⟨g, f, c, h1, _⟩ := h; exact lt_of_some h1
theorem ScR.setO (h : ScR w B R l o) (o' : Bool) : ScR (w.setCell ⟨R, 1, none⟩ (.bool o')) B R l o' := by
  obtain ⟨g, f, c, h1, h2, h3, h4, hgB, hRB, h5, h6⟩ := h
  refine ⟨g, f, c, by rw [heap_setCell_self w R 1 _ _ _ h1]; rfl, h2, h3, h4, hgB, hRB, fun j x hj => ?_, h6⟩
  rw [World.cell?_of_block (heap_setCell_ne w R 1 g _ h4)]
  exact h5 j x hj
theorem ScR.cells (h : ScR w B R l o) : ∃ g f c : Nat, w.cell? ⟨R, 0, none⟩ = some (.slice (some ⟨g, f, none⟩) l.length c) ∧ w.cell? ⟨R, 1, none⟩ = some (.bool o) ∧ w.frozen? ⟨R, 0, none⟩ = false ∧ w.frozen? ⟨R, 1, none⟩ = false ∧ l.length ≤ c ∧ c ≤ 9223372036854775807 ∧ g ≠ R ∧ ∀ (j x : Nat), l[j]? = some x → w.cell? ⟨g, f + j, none⟩ = some (.int .u8 (x : Int)) := by
  obtain ⟨g, f, c, h1, h2, h3, h4, hgB, hRB, h5, h6⟩ := h
  unfold maxLen at h3
  exact ⟨g, f, c, cell_at h1 0, cell_at h1 1, frozen_at h1 0, frozen_at h1 1, h2, h3, h4, h5⟩
/-- What is left behind k bytes, where the slice was cut. -/
theorem slice_from (g f n c k : Nat) (hk : k ≤ n) (hc : n ≤ c) : ∃ f', (∀ X : World, (Instr.slice 41 (.slice (some ⟨g, f, none⟩) n c) (some (.int .i64 (k : Int))) none none).run Tryd.prog X = .ok (.slice (some ⟨g, f', none⟩) (n - k) (c - k)) X) ∧ (k < c → f' = f + k) := by
  have hE : Tryd.prog.elem 41 = 5 := by unfold Program.elem; rw [Tryd.underlying41]
  have hu : Tryd.prog.underlying 41 = some (.slice (Tryd.prog.elem 41)) := by rw [hE]; exact Tryd.underlying41
  have hsz : ∀ X : World, (sizeOf (Tryd.prog.elem 41)).run Tryd.prog X = .ok 1 X := fun X => by rw [hE]; kernel_rfl
  by_cases h : c = k
  · refine ⟨f, fun X => ?_, fun h' => by omega⟩
    rw [run_slice_l X 41 (some ⟨g, f, none⟩) n c hu .i64 (k : Int) (by omega) (by omega), hsz]
    simp [Result.andThen, sliced, h]
  · refine ⟨f + k, fun X => ?_, fun _ => rfl⟩
    rw [run_slice_l X 41 (some ⟨g, f, none⟩) n c hu .i64 (k : Int) (by omega) (by omega), hsz]
    simp [Result.andThen, sliced, h, add_plain2]
theorem ScR.cut {g f f' c k : Nat} (h1 : w.heap[R]? = some (.cells #[.slice (some ⟨g, f, none⟩) l.length c, .bool o] 49 (0, 0))) (h2 : l.length ≤ c) (h3 : c ≤ maxLen) (h4 : g ≠ R) (hgB : g < B) (hRB : R < B) (h5 : ∀ (j x : Nat), l[j]? = some x → w.cell? ⟨g, f + j, none⟩ = some (.int .u8 (x : Int))) (h6 : ∀ x ∈ l, x < 256) (hk : k ≤ l.length) (hf : k < c → f' = f + k) : ScR (w.setCell ⟨R, 0, none⟩ (.slice (some ⟨g, f', none⟩) (l.length - k) (c - k))) B R (l.drop k) o := by
  refine ⟨g, f', c - k, ?_, by rw [List.length_drop]; omega, by omega, h4, hgB, hRB, fun j x hj => ?_, fun x hx => h6 x (List.mem_of_mem_drop hx)⟩
  · rw [heap_setCell_self w R 0 _ _ _ h1, List.length_drop]; rfl
  · rw [World.cell?_of_block (heap_setCell_ne w R 0 g _ h4)]
    rw [List.getElem?_drop] at hj
    have := (List.getElem?_eq_some_iff.1 hj).1
    rw [hf (by omega), show f + k + j = f + (k + j) from by omega]
    exact h5 _ _ hj
set_option maxRecDepth 100000 in
set_option maxHeartbeats 1000000 in
theorem one_any (h : ScR w B R l o) : Calls Tryd.prog 14 #[.pointer (some ⟨R, 0, none⟩)] w fun x w' => x = .returned (.int .i64 (hd l : Int)) ∧ ScR w' B R l.tail (o || l.isEmpty) ∧ Chg (· = R) w w' := by
  cases l with
  | nil =>
    obtain ⟨g, f, c, hc0, hc1, hf0, hf1, hlc, hcm, hgR, hcs⟩ := h.cells
    have HS := Lib.hid (h.setO true)
    rw [List.length_nil] at hc0
    clear hcs h
    go_enter Tryd.func14, Tryd.ntmps14
    go_wp2_with fail
    go_ret
    exact ⟨rfl, by simpa using HS.out, chgR _⟩
  | cons y t =>
    obtain ⟨g, f, c, h1, h2, h3, h4, hgB, hRB, h5, h6⟩ := h
    rw [List.length_cons] at h2
    have h3' := h3
    unfold maxLen at h3'
    obtain ⟨f', hsl, hf'⟩ := slice_from g f (t.length + 1) c 1 (by omega) h2
    have HS := Lib.hid (ScR.cut (k := 1) h1 h2 h3 h4 hgB hRB h5 h6 (by simp) hf')
    have hc0 := cell_at h1 0
    have hf0 := frozen_at h1 0
    have hy : w.cell? ⟨g, f, none⟩ = some (.int .u8 (y : Int)) := h5 0 y rfl
    have hsl1 : ∀ X : World, (Instr.slice 41 (.slice (some ⟨g, f, none⟩) (t.length + 1) c) (some (.int .i64 1)) none none).run Tryd.prog X = .ok (.slice (some ⟨g, f', none⟩) t.length (c - 1)) X := hsl
    have hy256 := h6 y (by simp)
    have hc0' : w.cell? ⟨R, 0, none⟩ = some (.slice (some ⟨g, f, none⟩) (t.length + 1) c) := hc0
    have t1 : ((t.length : Int) + 1 == 0) = false := by rw [beq_eq_false_iff_ne]; omega
    have t2 : (((t.length + 1 : Nat) : Int) == 0) = false := by rw [beq_eq_false_iff_ne]; omega
    clear h1 hc0 h5 h6 hf' h3 hsl
    go_enter Tryd.func14, Tryd.ntmps14
    go_wp2_with fail
    go_ret
    exact ⟨rfl, by simpa using HS.out, chgR _⟩
theorem slice_to (g f n c k : Nat) (hk : k ≤ c) : ∀ X : World, (Instr.slice 41 (.slice (some ⟨g, f, none⟩) n c) none (some (.int .i64 (k : Int))) none).run Tryd.prog X = .ok (.slice (some ⟨g, f, none⟩) k c) X := by
  intro X
  have hE : Tryd.prog.elem 41 = 5 := by unfold Program.elem; rw [Tryd.underlying41]
  have hu : Tryd.prog.underlying 41 = some (.slice (Tryd.prog.elem 41)) := by rw [hE]; exact Tryd.underlying41
  have hsz : (sizeOf (Tryd.prog.elem 41)).run Tryd.prog X = .ok 1 X := by rw [hE]; kernel_rfl
  rw [run_slice_h X 41 (some ⟨g, f, none⟩) n c hu .i64 (k : Int) (by omega) (by omega), hsz]
  by_cases h : c = 0
  · simp [Result.andThen, sliced, h]
  · simp [Result.andThen, sliced, h, add_plain2]
theorem rdb_take {g f : Nat} (h : ∀ (j x : Nat), l[j]? = some x → w.cell? ⟨g, f + j, none⟩ = some (.int .u8 (x : Int))) (h6 : ∀ x ∈ l, x < 256) (k : Nat) : RdB w (some ⟨g, f, none⟩) (ofNats (l.take k)) := fun _ => ⟨_, rfl, fun j u hj => by
  rw [cells_ofNats _ (fun x hx => h6 x (List.mem_of_mem_take hx)), List.getElem?_map, List.getElem?_take] at hj
  rw [add_plain2]
  split at hj
  · cases hx : l[j]? with
    | none => rw [hx] at hj; cases hj
    | some x => rw [hx] at hj; rw [h j x hx]; exact hj
  · cases hj⟩
set_option maxRecDepth 100000 in
set_option maxHeartbeats 1000000 in
theorem text_any (h : ScR w B R l o) : Calls Tryd.prog 18 #[.pointer (some ⟨R, 0, none⟩)] w fun x w' => x = .returned (.string (ofNats (txV l))) ∧ ScR w' B R (txL l) (o || txO l) ∧ Chg (· = R) w w' := by
  have h1 := one_any h
  clear h
  unfold txV txL txO
  generalize hd l = n at h1 ⊢
  generalize l.tail = t at h1 ⊢
  generalize l.isEmpty = z at h1 ⊢
  have H1 := Lib.hid h1
  clear h1
  by_cases hlt : t.length < n
  · rw [if_pos hlt, if_pos hlt, decide_eq_true hlt, Bool.or_true, Bool.or_true]
    have t1 : decide ((t.length : Int) < (n : Int)) = true := decide_eq_true (by omega)
    have t2 : decide (t.length < n) = true := decide_eq_true hlt
    clear hlt
    go_enter Tryd.func18, Tryd.ntmps18
    go_wp2_with fail
    refine H1.out.mono ?_
    rintro x w1 ⟨rfl, hs, hch⟩
    obtain ⟨g, f, c, hc0, hc1, hf0, hf1, hlc, hcm, hgR, hcs⟩ := hs.cells
    have HS := Lib.hid (hs.setO true)
    have HC := Lib.hid hch
    clear hcs hs hch
    go_wp2_with fail
    go_ret
    exact ⟨rfl, HS.out, HC.out.trans (chgR _) (fun _ h => .inl h)⟩
  · rw [if_neg hlt, if_neg hlt, decide_eq_false hlt, Bool.or_false]
    have t1 : decide ((t.length : Int) < (n : Int)) = false := decide_eq_false (by omega)
    have t2 : decide (t.length < n) = false := decide_eq_false hlt
    have hle : n ≤ t.length := by omega
    clear hlt
    go_enter Tryd.func18, Tryd.ntmps18
    go_wp2_with fail
    refine H1.out.mono ?_
    rintro x w1 ⟨rfl, hs, hch⟩
    obtain ⟨g, f, c, h1, h2, h3, h4, hgB, hRB, h5, h6⟩ := hs
    have hc0 := cell_at h1 0
    have hf0 := frozen_at h1 0
    have hc0' : w1.cell? ⟨R, 0, none⟩ = some (.slice (some ⟨g, f, none⟩) t.length c) := hc0
    have hst := slice_to g f t.length c (n) (by omega)
    obtain ⟨f', hsf, hf'⟩ := slice_from g f t.length c (n) hle h2
    have hcv := conv_bytes (rdb_take h5 h6 (n)) (fun ad h => by injection h with h; subst h; rfl) c
    rw [ofNats_size, List.length_take, Nat.min_eq_left hle] at hcv
    have HS := Lib.hid (ScR.cut h1 h2 h3 h4 hgB hRB h5 h6 hle hf')
    have HC := Lib.hid hch
    clear h1 h5 h6 hf' hc0 hch
    go_wp2_with fail
    go_ret
    exact ⟨rfl, HS.out, HC.out.trans (chgR _) (fun _ h => .inl h)⟩
end
end Go.Proofs.YtpjgmcoimniheaaDoor.Sc
