/- A copy over the beginning of bytes of one's own; the laws of torn meta pages, by walks. -/
import Derived.Test.YtpgpphmpnebafaaGreatMtT
import Derived.Laws.CopyOwn
namespace Go.Proofs.YtpgpphmpnebafaaGreat.Mt
open Go.RowKit Go.Proofs.YtpgpphmpnebafaaGreat.By
set_option linter.unusedSimpArgs false
set_option linter.unusedVariables false
set_option maxRecDepth 100000

/-- A copy over the beginning of a row, as an operation of a walk. -/
theorem wpList_copy_row {P : Program} {w : World} {ops : Array Oper} {rest : List Oper} {o : Oper} {a : Act} {Q : Exit → Act → World → Prop} (hgd : o.guard = none) (d s : Operand) (dT sT : TypeId)
    (ho : o.op = .call { callee := .builtin .copy, args := #[d, s], argTypes := #[dT, sT] }) (elem : TypeId) (hu : P.underlying dT = some (.slice elem)) (hsz : (P.info? elem).map (·.size) = some 1)
    (g dLen dCap sLen sCap : Nat) (sp : Option Addr) (hd : a.eval d = .slice (some ⟨g, 0, none⟩) dLen dCap) (hs : a.eval s = .slice sp sLen sCap)
    (cur : List Value) (t : TypeId) (hg : w.heap[g]? = some (.cells cur.toArray t (0, 0))) (cs : List Value) (hn : cs.length = Nat.min sLen dLen)
    (hsrc : 0 < cs.length → ∃ ad, sp = some ad ∧ ∀ (j : Nat) (v : Value), cs[j]? = some v → w.cell? (ad.add j) = some v) (hfit : cs.length ≤ cur.length) (h1 : ∀ v ∈ cs, v.oneCell' = true)
    (h : ∀ w', Chg (· = g) w w' → w'.heap.size = w.heap.size → w'.heap[g]? = some (.cells (cs ++ cur.drop cs.length).toArray t (0, 0)) → wpList P ops Q rest (a.put o.dst (goInt cs.length)) w') :
    wpList P ops Q (o :: rest) a w := by
  refine wpList_plain hgd fun K hK => ?_
  by_cases h0 : cs.length = 0
  · obtain rfl : cs = [] := List.eq_nil_of_length_eq_zero h0
    have hrun := run_copy_none (P := P) w dT sT o.type elem (some ⟨g, 0, none⟩) sp dLen dCap sLen sCap hu hsz (by simpa using hn.symm)
    unfold Oper.wp
    simp [execOp, ho, resolve, invoke, builtin, hd, hs, hrun, Result.andThen]
    exact hK _ _ (h w (Chg.refl _ _) rfl (by simpa using hg))
  · obtain ⟨ad, rfl, hsr⟩ := hsrc (by omega)
    have hrun := run_copy_row (P := P) w dT sT o.type elem g 0 dLen dCap ad sLen sCap cur.toArray t cs hu hsz hg hn hsr (by simpa using hfit) h1
    unfold Oper.wp
    simp [execOp, ho, resolve, invoke, builtin, hd, hs, hrun, Result.andThen]
    exact hK _ _ (h _ ⟨rfl, rfl, rfl, by simp [World.setRow], fun k _ hk => setRow_other w g k _ hk⟩ (by simp [World.setRow]) (by simpa using setRow_heap w g _ _ t _ hg))
theorem infoOne : (Tryz.prog.info? 5).map (·.size) = some 1 := by kernel_rfl
/-- What a copy of the first p bytes of one page over another leaves. -/
theorem own_mix {w' : World} {base g c : Nat} {cur : List Value} {x y : List Nat} {p : Nat} (hx : x.length = 256) (hxl : ∀ c ∈ x, c < 256) (hyl : ∀ c ∈ y, c < 256) (hp : p ≤ 256) (hy : y.length = 256) (hb : base ≤ g) (hc : 256 ≤ c) (hcm : c ≤ maxLen) (hcur : cur.length = c) (htk : cur.take 256 = Lib.strCells (ofNats y))
    (h : w'.heap[g]? = some (.cells ((Lib.strCells (ofNats x)).take p ++ cur.drop ((Lib.strCells (ofNats x)).take p).length).toArray 5 (0, 0))) : OwnB w' base (.slice (some ⟨g, 0, none⟩) 256 c) (ofNats (mix x y p)) := by
  have hxs : (Lib.strCells (ofNats x)).length = 256 := by rw [Lib.strCells_length, ofNats_size, hx]
  have hlp : ((Lib.strCells (ofNats x)).take p).length = p := by rw [List.length_take, hxs]; omega
  have hms : (ofNats (mix x y p)).size = 256 := by rw [ofNats_size, mix_length x y p hx hy hp]
  refine ⟨g, c, _, by rw [hms], hb, by rw [hms]; exact hc, hcm, h, ?_, ?_⟩
  · rw [List.size_toArray, List.length_append, hlp, List.length_drop, hcur]; omega
  · rw [hms, List.toList_toArray, hlp]
    rw [List.take_append, hlp, List.take_of_length_le (by rw [hlp]; exact hp), ← List.drop_take]
    rw [htk]
    rw [cells_ofNats _ (mix_lt hxl hyl), cells_ofNats _ hxl, cells_ofNats _ hyl]
    unfold mix
    rw [List.map_append, List.map_take, List.map_drop]
theorem u16_nat {n : Int} (h : (Lit.int .u16 n).wf = true) : ∃ m : Nat, n = (m : Int) ∧ m < 65536 := by
  have e0 : IntKind.u16.min = 0 := rfl
  have e1 : IntKind.u16.max = 65535 := rfl
  simp only [Lit.wf, Bool.and_eq_true, decide_eq_true_eq, e0, e1] at h
  exact ⟨n.toNat, by omega, by omega⟩
end Go.Proofs.YtpgpphmpnebafaaGreat.Mt
