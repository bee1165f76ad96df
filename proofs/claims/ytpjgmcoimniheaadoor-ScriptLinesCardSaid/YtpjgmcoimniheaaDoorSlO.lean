/- Arguments as the caller hands them in: their cells, read. -/
import Derived.Test.YtpjgmcoimniheaaDoorByA
import Derived.Deep.SlicePairs
namespace Go.Proofs.YtpjgmcoimniheaaDoor.Sl
open Go.RowKit Go.Deep Go.ChangeShapes Go.WideShapes Go.Proofs.YtpjgmcoimniheaaDoor.By
set_option linter.unusedSimpArgs false
set_option linter.unusedVariables false

section
variable {H : Type} {enc : TypeId × Value → H} {w : World} {base : Nat} {spare : Nat → Bool} {held : Bool}
def fieldsOf : TypeDesc → List (TypeId × Nat)
  | .struct fs => fs.toList.map (fun (f : Field) => (f.type, f.offset))
  | _ => []
structure CallR where
  f0 : Int
  f1 : ByteArray
  f2 : ByteArray
def CallR.cells (o : CallR) : List Value := [.int .i64 o.f0, .string o.f1, .string o.f2]
def CallR.Ok (o : CallR) : Prop := (Lit.int .i64 o.f0).wf = true ∧ o.f1.size ≤ maxLen ∧ o.f2.size ≤ maxLen
set_option maxRecDepth 100000 in
theorem call_struct : (Tryd.prog.underlying 23).map fieldsOf = some [(3, 0), (9, 1), (9, 2)] := by kernel_rfl
theorem call_cells : Tryd.prog.cellsOf 23 = 3 ∧ Tryd.prog.cellsOf 3 = 1 ∧ Tryd.prog.cellsOf 9 = 1 := ⟨by kernel_rfl, by kernel_rfl, by kernel_rfl⟩
set_option maxRecDepth 100000 in
theorem open_call {n : Nat} {cs : List Value} {y : DataW H × List MemPlace} (hl : cs.length = 3) (h : DataW.trod enc Tryd.prog w base spare held n 23 cs = some y) :
    ∃ o : CallR, cs = o.cells ∧ o.Ok := by
  obtain ⟨fs, hfs⟩ : ∃ fs, Tryd.prog.underlying 23 = some (.struct fs) := ⟨_, Tryd.underlying23⟩
  have hs := call_struct
  rw [hfs] at hs
  obtain ⟨-, z0, z1⟩ := call_cells
  obtain ⟨xs, k, _, _, _, hxl, hf⟩ := DataW.trod_struct hfs h
  have hs' : fs.toList.map (fun (f : Field) => (f.type, f.offset)) = [(3, 0), (9, 1), (9, 2)] := Option.some.inj hs
  have hfl : fs.size = 3 := by have := congrArg List.length hs'; simpa using this
  have at' : ∀ (j : Nat) (t : TypeId) (o : Nat), ([(3, 0), (9, 1), (9, 2)] : List (TypeId × Nat))[j]? = some (t, o) → ∃ f : Field, fs[j]? = some f ∧ f.type = t ∧ f.offset = o := by
    intro j t o hj
    rw [← hs', List.getElem?_map] at hj
    cases hfj : fs.toList[j]? with
    | none => rw [hfj] at hj; cases hj
    | some f =>
      rw [hfj] at hj
      have : (f.type, f.offset) = (t, o) := Option.some.inj hj
      exact ⟨f, by rw [← Array.getElem?_toList]; exact hfj, congrArg Prod.fst this, congrArg Prod.snd this⟩
  have hx5 : xs.length = 3 := hxl.trans hfl
  match cs, hl, xs, hx5 with
  | [v0, v1, v2], _, [x0, x1, x2], _ =>
    have get : ∀ (j : Nat) (t : TypeId) (o : Nat), ([(3, 0), (9, 1), (9, 2)] : List (TypeId × Nat))[j]? = some (t, o) → DataW.trod enc Tryd.prog w base spare held k t (([v0, v1, v2].drop o).take (Tryd.prog.cellsOf t)) = [x0, x1, x2][j]? := by
      intro j t o hj
      obtain ⟨f, hf1, rfl, rfl⟩ := at' j t o hj
      exact hf j f hf1
    have g0 := get 0 _ _ rfl
    rw [z0] at g0
    simp only [List.drop_succ_cons, List.drop_zero, List.take_succ_cons, List.take_zero] at g0
    obtain ⟨m0, h0, -, w0⟩ := DataW.trod_int Tryd.underlying3 g0
    simp only [List.cons.injEq, and_true] at h0
    subst h0
    have g1 := get 1 _ _ rfl
    rw [z1] at g1
    simp only [List.drop_succ_cons, List.drop_zero, List.take_succ_cons, List.take_zero] at g1
    obtain ⟨m1, h1, -, w1⟩ := DataW.trod_string Tryd.underlying9 g1
    simp only [List.cons.injEq, and_true] at h1
    subst h1
    have g2 := get 2 _ _ rfl
    rw [z1] at g2
    simp only [List.drop_succ_cons, List.drop_zero, List.take_succ_cons, List.take_zero] at g2
    obtain ⟨m2, h2, -, w2⟩ := DataW.trod_string Tryd.underlying9 g2
    simp only [List.cons.injEq, and_true] at h2
    subst h2
    exact ⟨⟨m0, m1, m2⟩, rfl, ⟨w0, w1, w2⟩⟩
theorem open_call_val {v : Value} {b0 : Nat} {r : Reach} {fuel : Nat} {x : DataW H × List MemPlace} (hv : Value.okWide Tryd.prog w r b0 23 v) (h : DataW.trod enc Tryd.prog w base spare held fuel 23 v.cells.toList = some x) :
    ∃ o : CallR, v = .agg o.cells.toArray ∧ o.Ok := by
  obtain ⟨cs, rfl, hsz⟩ := okWide_struct Tryd.underlying23 hv
  rw [call_cells.1] at hsz
  obtain ⟨o, ho, hw⟩ := open_call (cs := cs.toList) (by simpa using hsz) h
  refine ⟨o, ?_, hw⟩
  congr 1
  rw [← ho]
structure StepR where
  f0 : Int
  f1 : Int
  f2 : Int
  f3 : ByteArray
  f4 : ByteArray
  f5 : Int
  f6 : Int
  f7 : Int
def StepR.cells (o : StepR) : List Value := [.int .i64 o.f0, .int .i64 o.f1, .int .i64 o.f2, .string o.f3, .string o.f4, .int .u64 o.f5, .int .i64 o.f6, .int .i64 o.f7]
def StepR.Ok (o : StepR) : Prop := (Lit.int .i64 o.f0).wf = true ∧ (Lit.int .i64 o.f1).wf = true ∧ (Lit.int .i64 o.f2).wf = true ∧ o.f3.size ≤ maxLen ∧ o.f4.size ≤ maxLen ∧ (Lit.int .u64 o.f5).wf = true ∧ (Lit.int .i64 o.f6).wf = true ∧ (Lit.int .i64 o.f7).wf = true
set_option maxRecDepth 100000 in
theorem step_struct : (Tryd.prog.underlying 26).map fieldsOf = some [(3, 0), (3, 1), (23, 2), (24, 5), (3, 6), (3, 7)] := by kernel_rfl
theorem step_cells : Tryd.prog.cellsOf 26 = 8 ∧ Tryd.prog.cellsOf 3 = 1 ∧ Tryd.prog.cellsOf 23 = 3 ∧ Tryd.prog.cellsOf 24 = 1 := ⟨by kernel_rfl, by kernel_rfl, by kernel_rfl, by kernel_rfl⟩
set_option maxRecDepth 100000 in
theorem open_step {n : Nat} {cs : List Value} {y : DataW H × List MemPlace} (hl : cs.length = 8) (h : DataW.trod enc Tryd.prog w base spare held n 26 cs = some y) :
    ∃ o : StepR, cs = o.cells ∧ o.Ok := by
  obtain ⟨fs, hfs⟩ : ∃ fs, Tryd.prog.underlying 26 = some (.struct fs) := ⟨_, Tryd.underlying26⟩
  have hs := step_struct
  rw [hfs] at hs
  obtain ⟨-, z0, z1, z2⟩ := step_cells
  obtain ⟨xs, k, _, _, _, hxl, hf⟩ := DataW.trod_struct hfs h
  have hs' : fs.toList.map (fun (f : Field) => (f.type, f.offset)) = [(3, 0), (3, 1), (23, 2), (24, 5), (3, 6), (3, 7)] := Option.some.inj hs
  have hfl : fs.size = 6 := by have := congrArg List.length hs'; simpa using this
  have at' : ∀ (j : Nat) (t : TypeId) (o : Nat), ([(3, 0), (3, 1), (23, 2), (24, 5), (3, 6), (3, 7)] : List (TypeId × Nat))[j]? = some (t, o) → ∃ f : Field, fs[j]? = some f ∧ f.type = t ∧ f.offset = o := by
    intro j t o hj
    rw [← hs', List.getElem?_map] at hj
    cases hfj : fs.toList[j]? with
    | none => rw [hfj] at hj; cases hj
    | some f =>
      rw [hfj] at hj
      have : (f.type, f.offset) = (t, o) := Option.some.inj hj
      exact ⟨f, by rw [← Array.getElem?_toList]; exact hfj, congrArg Prod.fst this, congrArg Prod.snd this⟩
  have hx5 : xs.length = 6 := hxl.trans hfl
  match cs, hl, xs, hx5 with
  | [v0, v1, v2, v3, v4, v5, v6, v7], _, [x0, x1, x2, x3, x4, x5], _ =>
    have get : ∀ (j : Nat) (t : TypeId) (o : Nat), ([(3, 0), (3, 1), (23, 2), (24, 5), (3, 6), (3, 7)] : List (TypeId × Nat))[j]? = some (t, o) → DataW.trod enc Tryd.prog w base spare held k t (([v0, v1, v2, v3, v4, v5, v6, v7].drop o).take (Tryd.prog.cellsOf t)) = [x0, x1, x2, x3, x4, x5][j]? := by
      intro j t o hj
      obtain ⟨f, hf1, rfl, rfl⟩ := at' j t o hj
      exact hf j f hf1
    have g0 := get 0 _ _ rfl
    rw [z0] at g0
    simp only [List.drop_succ_cons, List.drop_zero, List.take_succ_cons, List.take_zero] at g0
    obtain ⟨m0, h0, -, w0⟩ := DataW.trod_int Tryd.underlying3 g0
    simp only [List.cons.injEq, and_true] at h0
    subst h0
    have g1 := get 1 _ _ rfl
    rw [z0] at g1
    simp only [List.drop_succ_cons, List.drop_zero, List.take_succ_cons, List.take_zero] at g1
    obtain ⟨m1, h1, -, w1⟩ := DataW.trod_int Tryd.underlying3 g1
    simp only [List.cons.injEq, and_true] at h1
    subst h1
    have g2 := get 2 _ _ rfl
    rw [z1] at g2
    simp only [List.drop_succ_cons, List.drop_zero, List.take_succ_cons, List.take_zero] at g2
    obtain ⟨o2, h2, w2⟩ := open_call rfl g2
    unfold CallR.cells at h2
    simp only [List.cons.injEq, and_true] at h2
    obtain ⟨rfl, rfl, rfl⟩ := h2
    unfold CallR.Ok at w2
    obtain ⟨w2_0, w2_1, w2_2⟩ := w2
    have g3 := get 3 _ _ rfl
    rw [z2] at g3
    simp only [List.drop_succ_cons, List.drop_zero, List.take_succ_cons, List.take_zero] at g3
    obtain ⟨m3, h3, -, w3⟩ := DataW.trod_int Tryd.underlying24 g3
    simp only [List.cons.injEq, and_true] at h3
    subst h3
    have g4 := get 4 _ _ rfl
    rw [z0] at g4
    simp only [List.drop_succ_cons, List.drop_zero, List.take_succ_cons, List.take_zero] at g4
    obtain ⟨m4, h4, -, w4⟩ := DataW.trod_int Tryd.underlying3 g4
    simp only [List.cons.injEq, and_true] at h4
    subst h4
    have g5 := get 5 _ _ rfl
    rw [z0] at g5
    simp only [List.drop_succ_cons, List.drop_zero, List.take_succ_cons, List.take_zero] at g5
    obtain ⟨m5, h5, -, w5⟩ := DataW.trod_int Tryd.underlying3 g5
    simp only [List.cons.injEq, and_true] at h5
    subst h5
    exact ⟨⟨m0, m1, o2.f0, o2.f1, o2.f2, m3, m4, m5⟩, rfl, ⟨w0, w1, w2_0, w2_1, w2_2, w3, w4, w5⟩⟩
theorem open_step_val {v : Value} {b0 : Nat} {r : Reach} {fuel : Nat} {x : DataW H × List MemPlace} (hv : Value.okWide Tryd.prog w r b0 26 v) (h : DataW.trod enc Tryd.prog w base spare held fuel 26 v.cells.toList = some x) :
    ∃ o : StepR, v = .agg o.cells.toArray ∧ o.Ok := by
  obtain ⟨cs, rfl, hsz⟩ := okWide_struct Tryd.underlying26 hv
  rw [step_cells.1] at hsz
  obtain ⟨o, ho, hw⟩ := open_step (cs := cs.toList) (by simpa using hsz) h
  refine ⟨o, ?_, hw⟩
  congr 1
  rw [← ho]
structure ReplyR where
  f0 : Int
  f1 : ByteArray
  f2 : Bool
  f3 : Int
def ReplyR.cells (o : ReplyR) : List Value := [.int .i64 o.f0, .string o.f1, .bool o.f2, .int .i64 o.f3]
def ReplyR.Ok (o : ReplyR) : Prop := (Lit.int .i64 o.f0).wf = true ∧ o.f1.size ≤ maxLen ∧ (Lit.int .i64 o.f3).wf = true
set_option maxRecDepth 100000 in
theorem reply_struct : (Tryd.prog.underlying 29).map fieldsOf = some [(27, 0), (9, 1), (4, 2), (3, 3)] := by kernel_rfl
theorem reply_cells : Tryd.prog.cellsOf 29 = 4 ∧ Tryd.prog.cellsOf 27 = 1 ∧ Tryd.prog.cellsOf 9 = 1 ∧ Tryd.prog.cellsOf 4 = 1 ∧ Tryd.prog.cellsOf 3 = 1 := ⟨by kernel_rfl, by kernel_rfl, by kernel_rfl, by kernel_rfl, by kernel_rfl⟩
set_option maxRecDepth 100000 in
theorem open_reply {n : Nat} {cs : List Value} {y : DataW H × List MemPlace} (hl : cs.length = 4) (h : DataW.trod enc Tryd.prog w base spare held n 29 cs = some y) :
    ∃ o : ReplyR, cs = o.cells ∧ o.Ok := by
  obtain ⟨fs, hfs⟩ : ∃ fs, Tryd.prog.underlying 29 = some (.struct fs) := ⟨_, Tryd.underlying29⟩
  have hs := reply_struct
  rw [hfs] at hs
  obtain ⟨-, z0, z1, z2, z3⟩ := reply_cells
  obtain ⟨xs, k, _, _, _, hxl, hf⟩ := DataW.trod_struct hfs h
  have hs' : fs.toList.map (fun (f : Field) => (f.type, f.offset)) = [(27, 0), (9, 1), (4, 2), (3, 3)] := Option.some.inj hs
  have hfl : fs.size = 4 := by have := congrArg List.length hs'; simpa using this
  have at' : ∀ (j : Nat) (t : TypeId) (o : Nat), ([(27, 0), (9, 1), (4, 2), (3, 3)] : List (TypeId × Nat))[j]? = some (t, o) → ∃ f : Field, fs[j]? = some f ∧ f.type = t ∧ f.offset = o := by
    intro j t o hj
    rw [← hs', List.getElem?_map] at hj
    cases hfj : fs.toList[j]? with
    | none => rw [hfj] at hj; cases hj
    | some f =>
      rw [hfj] at hj
      have : (f.type, f.offset) = (t, o) := Option.some.inj hj
      exact ⟨f, by rw [← Array.getElem?_toList]; exact hfj, congrArg Prod.fst this, congrArg Prod.snd this⟩
  have hx5 : xs.length = 4 := hxl.trans hfl
  match cs, hl, xs, hx5 with
  | [v0, v1, v2, v3], _, [x0, x1, x2, x3], _ =>
    have get : ∀ (j : Nat) (t : TypeId) (o : Nat), ([(27, 0), (9, 1), (4, 2), (3, 3)] : List (TypeId × Nat))[j]? = some (t, o) → DataW.trod enc Tryd.prog w base spare held k t (([v0, v1, v2, v3].drop o).take (Tryd.prog.cellsOf t)) = [x0, x1, x2, x3][j]? := by
      intro j t o hj
      obtain ⟨f, hf1, rfl, rfl⟩ := at' j t o hj
      exact hf j f hf1
    have g0 := get 0 _ _ rfl
    rw [z0] at g0
    simp only [List.drop_succ_cons, List.drop_zero, List.take_succ_cons, List.take_zero] at g0
    obtain ⟨m0, h0, -, w0⟩ := DataW.trod_int Tryd.underlying27 g0
    simp only [List.cons.injEq, and_true] at h0
    subst h0
    have g1 := get 1 _ _ rfl
    rw [z1] at g1
    simp only [List.drop_succ_cons, List.drop_zero, List.take_succ_cons, List.take_zero] at g1
    obtain ⟨m1, h1, -, w1⟩ := DataW.trod_string Tryd.underlying9 g1
    simp only [List.cons.injEq, and_true] at h1
    subst h1
    have g2 := get 2 _ _ rfl
    rw [z2] at g2
    simp only [List.drop_succ_cons, List.drop_zero, List.take_succ_cons, List.take_zero] at g2
    obtain ⟨m2, h2, -⟩ := DataW.trod_bool Tryd.underlying4 g2
    simp only [List.cons.injEq, and_true] at h2
    subst h2
    have g3 := get 3 _ _ rfl
    rw [z3] at g3
    simp only [List.drop_succ_cons, List.drop_zero, List.take_succ_cons, List.take_zero] at g3
    obtain ⟨m3, h3, -, w3⟩ := DataW.trod_int Tryd.underlying3 g3
    simp only [List.cons.injEq, and_true] at h3
    subst h3
    exact ⟨⟨m0, m1, m2, m3⟩, rfl, ⟨w0, w1, w3⟩⟩
theorem open_reply_val {v : Value} {b0 : Nat} {r : Reach} {fuel : Nat} {x : DataW H × List MemPlace} (hv : Value.okWide Tryd.prog w r b0 29 v) (h : DataW.trod enc Tryd.prog w base spare held fuel 29 v.cells.toList = some x) :
    ∃ o : ReplyR, v = .agg o.cells.toArray ∧ o.Ok := by
  obtain ⟨cs, rfl, hsz⟩ := okWide_struct Tryd.underlying29 hv
  rw [reply_cells.1] at hsz
  obtain ⟨o, ho, hw⟩ := open_reply (cs := cs.toList) (by simpa using hsz) h
  refine ⟨o, ?_, hw⟩
  congr 1
  rw [← ho]
structure AnswerR where
  f0 : Int
  f1 : Int
  f2 : ByteArray
  f3 : Bool
  f4 : Int
  f5 : Bool
def AnswerR.cells (o : AnswerR) : List Value := [.int .i64 o.f0, .int .i64 o.f1, .string o.f2, .bool o.f3, .int .i64 o.f4, .bool o.f5]
def AnswerR.Ok (o : AnswerR) : Prop := (Lit.int .i64 o.f0).wf = true ∧ (Lit.int .i64 o.f1).wf = true ∧ o.f2.size ≤ maxLen ∧ (Lit.int .i64 o.f4).wf = true
set_option maxRecDepth 100000 in
theorem answer_struct : (Tryd.prog.underlying 31).map fieldsOf = some [(27, 0), (29, 1), (4, 5)] := by kernel_rfl
theorem answer_cells : Tryd.prog.cellsOf 31 = 6 ∧ Tryd.prog.cellsOf 27 = 1 ∧ Tryd.prog.cellsOf 29 = 4 ∧ Tryd.prog.cellsOf 4 = 1 := ⟨by kernel_rfl, by kernel_rfl, by kernel_rfl, by kernel_rfl⟩
set_option maxRecDepth 100000 in
theorem open_answer {n : Nat} {cs : List Value} {y : DataW H × List MemPlace} (hl : cs.length = 6) (h : DataW.trod enc Tryd.prog w base spare held n 31 cs = some y) :
    ∃ o : AnswerR, cs = o.cells ∧ o.Ok := by
  obtain ⟨fs, hfs⟩ : ∃ fs, Tryd.prog.underlying 31 = some (.struct fs) := ⟨_, Tryd.underlying31⟩
  have hs := answer_struct
  rw [hfs] at hs
  obtain ⟨-, z0, z1, z2⟩ := answer_cells
  obtain ⟨xs, k, _, _, _, hxl, hf⟩ := DataW.trod_struct hfs h
  have hs' : fs.toList.map (fun (f : Field) => (f.type, f.offset)) = [(27, 0), (29, 1), (4, 5)] := Option.some.inj hs
  have hfl : fs.size = 3 := by have := congrArg List.length hs'; simpa using this
  have at' : ∀ (j : Nat) (t : TypeId) (o : Nat), ([(27, 0), (29, 1), (4, 5)] : List (TypeId × Nat))[j]? = some (t, o) → ∃ f : Field, fs[j]? = some f ∧ f.type = t ∧ f.offset = o := by
    intro j t o hj
    rw [← hs', List.getElem?_map] at hj
    cases hfj : fs.toList[j]? with
    | none => rw [hfj] at hj; cases hj
    | some f =>
      rw [hfj] at hj
      have : (f.type, f.offset) = (t, o) := Option.some.inj hj
      exact ⟨f, by rw [← Array.getElem?_toList]; exact hfj, congrArg Prod.fst this, congrArg Prod.snd this⟩
  have hx5 : xs.length = 3 := hxl.trans hfl
  match cs, hl, xs, hx5 with
  | [v0, v1, v2, v3, v4, v5], _, [x0, x1, x2], _ =>
    have get : ∀ (j : Nat) (t : TypeId) (o : Nat), ([(27, 0), (29, 1), (4, 5)] : List (TypeId × Nat))[j]? = some (t, o) → DataW.trod enc Tryd.prog w base spare held k t (([v0, v1, v2, v3, v4, v5].drop o).take (Tryd.prog.cellsOf t)) = [x0, x1, x2][j]? := by
      intro j t o hj
      obtain ⟨f, hf1, rfl, rfl⟩ := at' j t o hj
      exact hf j f hf1
    have g0 := get 0 _ _ rfl
    rw [z0] at g0
    simp only [List.drop_succ_cons, List.drop_zero, List.take_succ_cons, List.take_zero] at g0
    obtain ⟨m0, h0, -, w0⟩ := DataW.trod_int Tryd.underlying27 g0
    simp only [List.cons.injEq, and_true] at h0
    subst h0
    have g1 := get 1 _ _ rfl
    rw [z1] at g1
    simp only [List.drop_succ_cons, List.drop_zero, List.take_succ_cons, List.take_zero] at g1
    obtain ⟨o1, h1, w1⟩ := open_reply rfl g1
    unfold ReplyR.cells at h1
    simp only [List.cons.injEq, and_true] at h1
    obtain ⟨rfl, rfl, rfl, rfl⟩ := h1
    unfold ReplyR.Ok at w1
    obtain ⟨w1_0, w1_1, w1_3⟩ := w1
    have g2 := get 2 _ _ rfl
    rw [z2] at g2
    simp only [List.drop_succ_cons, List.drop_zero, List.take_succ_cons, List.take_zero] at g2
    obtain ⟨m2, h2, -⟩ := DataW.trod_bool Tryd.underlying4 g2
    simp only [List.cons.injEq, and_true] at h2
    subst h2
    exact ⟨⟨m0, o1.f0, o1.f1, o1.f2, o1.f3, m2⟩, rfl, ⟨w0, w1_0, w1_1, w1_3⟩⟩
theorem open_answer_val {v : Value} {b0 : Nat} {r : Reach} {fuel : Nat} {x : DataW H × List MemPlace} (hv : Value.okWide Tryd.prog w r b0 31 v) (h : DataW.trod enc Tryd.prog w base spare held fuel 31 v.cells.toList = some x) :
    ∃ o : AnswerR, v = .agg o.cells.toArray ∧ o.Ok := by
  obtain ⟨cs, rfl, hsz⟩ := okWide_struct Tryd.underlying31 hv
  rw [answer_cells.1] at hsz
  obtain ⟨o, ho, hw⟩ := open_answer (cs := cs.toList) (by simpa using hsz) h
  refine ⟨o, ?_, hw⟩
  congr 1
  rw [← ho]
end
end Go.Proofs.YtpjgmcoimniheaaDoor.Sl
