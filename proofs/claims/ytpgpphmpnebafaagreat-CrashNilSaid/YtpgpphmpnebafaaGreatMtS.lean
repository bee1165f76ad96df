/- Put32, Put16; the check of bytes, and sealed bytes, by walks. -/
import Derived.Test.YtpgpphmpnebafaaGreatMtP
import Derived.Laws.Bits64b
namespace Go.Proofs.YtpgpphmpnebafaaGreat.Mt
open Go.RowKit Go.Proofs.YtpgpphmpnebafaaGreat.By
set_option linter.unusedSimpArgs false
set_option linter.unusedVariables false
set_option maxRecDepth 100000

theorem put32_any (Ao : Option Addr) (c : Nat) (s : ByteArray) (n : Nat) (w : World) (hr : RdB w Ao s) (hs : s.size ≤ 1000000) (hn : n < 4294967296) (hc0 : Ao = none → c = 0) :
    Calls Tryz.prog 90 #[.slice Ao s.size c, .int .i64 (n : Int)] w fun e w' => ∃ v, e = .returned v ∧ OwnB w' w.heap.size v (s ++ ofNats (be4 n)) ∧ Below w.heap.size w w' := by
  have HC := Lib.hid (put4_any Ao c s n w hr hs hn hc0)
  go_enter Tryz.func90, Tryz.ntmps90
  go_wp2_with fail
  refine HC.out.mono ?_
  rintro e w1 ⟨v, rfl, hv, hb⟩
  go_wp2_with fail
  go_ret
  exact ⟨v, rfl, hv, hb⟩
theorem put16_any (Ao : Option Addr) (c : Nat) (s : ByteArray) (n : Nat) (w : World) (hr : RdB w Ao s) (hs : s.size ≤ 1000000) (hn : n < 4294967296) (hc0 : Ao = none → c = 0) :
    Calls Tryz.prog 91 #[.slice Ao s.size c, .int .i64 (n : Int)] w fun e w' => ∃ v, e = .returned v ∧ OwnB w' w.heap.size v (s ++ ofNats (be2 n)) ∧ Below w.heap.size w w' := by
  have HC := Lib.hid (put2_any Ao c s n w hr hs hn hc0)
  go_enter Tryz.func91, Tryz.ntmps91
  go_wp2_with fail
  refine HC.out.mono ?_
  rintro e w1 ⟨v, rfl, hv, hb⟩
  go_wp2_with fail
  go_ret
  exact ⟨v, rfl, hv, hb⟩
/-- The table of what half a byte does, as a value. -/
abbrev halfV : Array Value := #[.int .u32 0, .int .u32 79764919, .int .u32 159529838, .int .u32 222504665, .int .u32 319059676, .int .u32 398814059, .int .u32 445009330, .int .u32 507990021, .int .u32 638119352, .int .u32 583659535, .int .u32 797628118, .int .u32 726387553, .int .u32 890018660, .int .u32 835552979, .int .u32 1015980042, .int .u32 944750013]
set_option maxHeartbeats 400000 in
theorem halves_any (w : World) : Calls Tryz.prog 164 #[] w fun e w' => e = .returned (.agg halfV) ∧ Below w.heap.size w w' := by
  go_enter Tryz.func164, Tryz.ntmps164
  go_wp2
  exact bodyPost_ret (v := .agg halfV) (by simp [results, Tryz.results164, go_sem]) rfl ⟨rfl, by repeat (first | exact Below.refl _ _ | apply below_al | (refine below_st ?_ (by simp) _))⟩
theorem xor_u32 (a b : Nat) (ha : a < 4294967296) (hb : b < 4294967296) : bits BinOp.xor IntKind.u32 (a : Int) (b : Int) = ((a ^^^ b : Nat) : Int) := by
  have h1 : (BitVec.ofInt 32 (a : Int)).toNat = a := by rw [BitVec.toNat_ofInt]; omega
  have h2 : (BitVec.ofInt 32 (b : Int)).toNat = b := by rw [BitVec.toNat_ofInt]; omega
  have h3 : a ^^^ b < 4294967296 := Nat.xor_lt_two_pow (n := 32) ha hb
  show IntKind.u32.wrap ((BitVec.ofInt 32 (a : Int) ^^^ BitVec.ofInt 32 (b : Int)).toNat : Int) = _
  rw [BitVec.toNat_xor, h1, h2, IntKind.wrap_u32]
  omega
theorem not_u32 (v : Nat) (hv : v < 2 ^ 32) : bits BinOp.xor IntKind.u32 IntKind.u32.max (v : Int) = ((4294967295 - v : Nat) : Int) := by
  have h1 : (BitVec.ofInt 32 (v : Int)).toNat = v := by rw [BitVec.toNat_ofInt]; omega
  have h2 : BitVec.ofInt 32 IntKind.u32.max = BitVec.allOnes 32 := by decide
  show IntKind.u32.wrap ((BitVec.ofInt 32 IntKind.u32.max ^^^ BitVec.ofInt 32 (v : Int)).toNat : Int) = _
  rw [h2, BitVec.allOnes_xor, BitVec.toNat_not, h1, IntKind.wrap_u32]
  omega
theorem ret_u32 {a b : Int} (h : a = b) : Ending.returned (.int .u32 a) = .returned (.int .u32 b) := by rw [h]
theorem and_u8 (a : Nat) (ha : a < 256) : bits BinOp.and IntKind.u8 (a : Int) 15 = ((a % 16 : Nat) : Int) := by
  have h1 : (BitVec.ofInt 8 (a : Int)).toNat = a := by rw [BitVec.toNat_ofInt]; omega
  have h2 : (BitVec.ofInt 8 (15 : Int)).toNat = 15 := by decide
  have h3 : a &&& 15 = a % 16 := Nat.and_two_pow_sub_one_eq_mod _ 4
  show IntKind.u8.wrap ((BitVec.ofInt 8 (a : Int) &&& BitVec.ofInt 8 15).toNat : Int) = _
  rw [BitVec.toNat_and, h1, h2, h3, IntKind.wrap_u8]
  omega
set_option maxRecDepth 100000 in
set_option maxHeartbeats 1000000 in
theorem of_any (Ao : Option Addr) (c : Nat) (s : ByteArray) (w : World) (hr : RdB w Ao s) (hs : s.size ≤ 1000000) :
    Calls Tryz.prog 128 #[.slice Ao s.size c] w fun e w' => e = .returned (.int .u32 (sumOf (nats s) : Int)) ∧ Below w.heap.size w w' := by
  have HR := Lib.hid hr
  clear hr
  go_enter Tryz.func128, Tryz.ntmps128
  go_wp2_with fail
  refine (halves_any _).mono ?_
  rintro e w1 ⟨rfl, hb1⟩
  have hb2 : Below w.heap.size w (w1.alloc (.cells halfV 270)) := bl hb1 (below_al (Below.refl _ _) _)
  have hT : ∀ j, j < 16 → (w1.alloc (.cells halfV 270)).cell? ⟨w1.heap.size, j, none⟩ = some (.int .u32 (halfN j : Int)) := by
    intro j hj
    rw [cell_at (new_block w1 _)]
    have : j = 0 ∨ j = 1 ∨ j = 2 ∨ j = 3 ∨ j = 4 ∨ j = 5 ∨ j = 6 ∨ j = 7 ∨ j = 8 ∨ j = 9 ∨ j = 10 ∨ j = 11 ∨ j = 12 ∨ j = 13 ∨ j = 14 ∨ j = 15 := by omega
    rcases this with rfl | rfl | rfl | rfl | rfl | rfl | rfl | rfl | rfl | rfl | rfl | rfl | rfl | rfl | rfl | rfl <;> rfl
  obtain ⟨w2, hw2⟩ : ∃ w2, w2 = w1.alloc (.cells halfV 270) := ⟨_, rfl⟩
  rw [← hw2] at hb2 hT
  have HB := Lib.hid hb2
  have HT := Lib.hid hT
  have HW2 := Lib.hid hw2
  clear hb1 hb2 hT hw2
  go_wp2_with fail
  rw [← HW2.out]
  have hz0 : (4294967295 : Int) = ((crc (BitVec.ofNat 32 4294967295) ((nats s).take 0)).toNat : Int) := by rfl
  have HZ := Lib.hid hz0
  clear hz0 HW2
  go_loop [4, 10] (fun n i => ∃ k : Nat, k ≤ s.size ∧ i = .int .i64 k ∧ n = .int .u32 ((crc (BitVec.ofNat 32 4294967295) ((nats s).take k)).toNat : Int)) (fun _ i => s.size - (intOf i).toNat)
  case atStart => exact ⟨0, Nat.zero_le _, rfl, congrArg (Value.int .u32) HZ.out⟩
  case round =>
    obtain ⟨k, hk, rfl, rfl⟩ := hrel
    by_cases hlt : k < s.size
    · have t1 : decide ((k : Int) < (s.size : Int)) = true := decide_eq_true (by omega)
      have t2 : decide (k < s.size) = true := decide_eq_true hlt
      obtain ⟨ad, rfl, hrd⟩ := HR.out (by omega)
      have hkn : k < (nats s).length := by rw [nats_length]; exact hlt
      obtain ⟨b, hb⟩ : ∃ b, (nats s)[k]? = some b := ⟨_, List.getElem?_eq_getElem hkn⟩
      have hb256 := nats_lt s b (List.mem_of_getElem? hb)
      have hcell := ((HB.out).cell (World.block_lt_of_cell? w _ (hrd k (.int .u8 (b : Int)) (by rw [cells_nats, List.getElem?_map, hb]; rfl)))).trans (hrd k (.int .u8 (b : Int)) (by rw [cells_nats, List.getElem?_map, hb]; rfl))
      obtain ⟨v, hv⟩ : ∃ v, v = crc (BitVec.ofNat 32 4294967295) ((nats s).take k) := ⟨_, rfl⟩
      have hnx : crc (BitVec.ofNat 32 4294967295) ((nats s).take (k + 1)) = byteStep v b := by rw [take_snoc _ _ _ hb, crc_snoc, hv]
      have hst := nib_step v b hb256
      have hvl := v.isLt
      rw [← hv]
      obtain ⟨n, hn⟩ : ∃ n, n = v.toNat := ⟨_, rfl⟩
      rw [← hn] at hst hvl ⊢
      obtain ⟨hjl, -⟩ := nib_lt n b (by omega) hb256
      have hx1 := xor_u32 (n / 268435456) (b / 16) (by omega) (by omega)
      have hc1 := HT.out _ hjl
      obtain ⟨J1, hJ1⟩ : ∃ J1, J1 = (n / 268435456) ^^^ (b / 16) := ⟨_, rfl⟩
      obtain ⟨N1, hN1⟩ : ∃ N1, N1 = nib1 n b := ⟨_, rfl⟩
      have hn1 : (n * 16 % 4294967296) ^^^ halfN J1 = N1 := by rw [hJ1, hN1]; rfl
      have hN1l : N1 < 4294967296 := by rw [hN1]; exact nib1_lt n b
      rw [← hJ1] at hx1 hc1 hjl
      obtain ⟨H1, hH1⟩ : ∃ H1, H1 = halfN J1 := ⟨_, rfl⟩
      have hH1l : H1 < 4294967296 := by rw [hH1]; exact halfN_lt _
      rw [← hH1] at hc1 hn1
      have hx2 := xor_u32 (n * 16 % 4294967296) H1 (by omega) hH1l
      rw [hn1] at hx2
      obtain ⟨-, hjl2⟩ := nib_lt N1 b hN1l hb256
      have hx3 := xor_u32 (N1 / 268435456) (b % 16) (by omega) (by omega)
      have hc2 := HT.out _ hjl2
      obtain ⟨J2, hJ2⟩ : ∃ J2, J2 = (N1 / 268435456) ^^^ (b % 16) := ⟨_, rfl⟩
      obtain ⟨N2, hN2⟩ : ∃ N2, N2 = nib2 N1 b := ⟨_, rfl⟩
      have hn2 : (N1 * 16 % 4294967296) ^^^ halfN J2 = N2 := by rw [hJ2, hN2]; rfl
      rw [← hJ2] at hx3 hc2 hjl2
      obtain ⟨H2, hH2⟩ : ∃ H2, H2 = halfN J2 := ⟨_, rfl⟩
      have hH2l : H2 < 4294967296 := by rw [hH2]; exact halfN_lt _
      rw [← hH2] at hc2 hn2
      have hx4 := xor_u32 (N1 * 16 % 4294967296) H2 (by omega) hH2l
      rw [hn2] at hx4
      have hfin : N2 = (crc (BitVec.ofNat 32 4294967295) ((nats s).take (k + 1))).toNat := by rw [hnx, ← hst, hN2, hN1]
      have HF := Lib.hid hfin
      have ha := and_u8 b hb256
      have hx1' : bits BinOp.xor IntKind.u32 ((n : Int) / 268435456) ((b : Int) / 16) = (J1 : Int) := hx1
      have hx2' : bits BinOp.xor IntKind.u32 ((n : Int) * 16 % 4294967296) (H1 : Int) = (N1 : Int) := hx2
      have hx3' : bits BinOp.xor IntKind.u32 ((N1 : Int) / 268435456) ((b : Int) % 16) = (J2 : Int) := hx3
      have hx4' : bits BinOp.xor IntKind.u32 ((N1 : Int) * 16 % 4294967296) (H2 : Int) = (N2 : Int) := hx4
      have ha' : bits BinOp.and IntKind.u8 (b : Int) 15 = (b : Int) % 16 := ha
      have hd1 : decide (J1 < 16) = true := decide_eq_true hjl
      have hd2 : decide (J2 < 16) = true := decide_eq_true hjl2
      clear hv hb hrd hn hx1 hx2 hx3 hx4 ha hJ1 hJ2 hN1 hN2 hn1 hn2 hH1 hH2 hst hnx hfin
      go_wp2_with fail
      go_round
      case rel => exact ⟨k + 1, by omega, by go_num, by rw [HF.out]⟩
      case measure => simp [intOf]; omega
    · have hks : k = s.size := by omega
      have t1 : decide ((k : Int) < (s.size : Int)) = false := decide_eq_false (by omega)
      have t2 : decide (k < s.size) = false := decide_eq_false hlt
      have hall : (nats s).take k = nats s := List.take_of_length_le (by rw [nats_length]; omega)
      rw [hall]
      have hvl := (crc (BitVec.ofNat 32 4294967295) (nats s)).isLt
      have hsum : sumOf (nats s) = 4294967295 - (crc (BitVec.ofNat 32 4294967295) (nats s)).toNat := rfl
      obtain ⟨v, hv⟩ : ∃ v, v = (crc (BitVec.ofNat 32 4294967295) (nats s)).toNat := ⟨_, rfl⟩
      rw [← hv] at hsum hvl ⊢
      have HS := Lib.hid hsum
      clear hall hks hsum hv
      go_wp2_with fail
      go_ret
      exact ⟨ret_u32 (by rw [not_u32 v hvl, HS.out]), HB.out⟩
/-- Bytes with their check behind. -/
def sealed (s : ByteArray) : ByteArray := s ++ ofNats (be4 (sumOf (nats s)))
theorem own_zero {w : World} {base n : Nat} {v : Value} {xs : List Value} (h : w.ownsRow base 5 1 v (0 + n) ([] ++ xs)) : w.ownsRow base 5 1 v n xs := by rwa [Nat.zero_add, List.nil_append] at h
theorem block_news {w : World} {g : Nat} {cs : Array Value} {t : TypeId} (h : w.heap[g]? = some (.cells cs t (0, 0))) : ∀ (j : Nat) (u : Value), cs.toList[j]? = some u → w.cell? ((⟨g, 0, none⟩ : Addr).add j) = some u := fun j u hj => by
  rw [add_plain, cell_at h, ← Array.getElem?_toList]; exact hj
theorem OwnB.row {w : World} {base n : Nat} {v : Value} {s : ByteArray} (h : w.ownsRow base 5 1 v n (Lib.strCells s)) (hv : v ≠ .slice none 0 0) : OwnB w base v s := ownB_of h hv
set_option maxRecDepth 100000 in
set_option maxHeartbeats 1000000 in
theorem seal_any (ad : Addr) (c : Nat) (s : ByteArray) (w : World) (hr : RdB w (some ad) s) (hs : s.size ≤ 1000000) :
    Calls Tryz.prog 92 #[.slice (some ad) s.size c] w fun e w' => ∃ v, e = .returned v ∧ OwnB w' w.heap.size v (sealed s) ∧ Below w.heap.size w w' := by
  obtain ⟨i0, hi, hz0, hz1, hz2⟩ := info_parts infoByte
  have HOF := Lib.hid (of_any (some ad) c s w hr hs)
  have hs1 := sumOf_lt (nats s)
  go_enter Tryz.func92, Tryz.ntmps92
  go_wp2_with fail
  refine HOF.out.mono ?_
  rintro e w1 ⟨rfl, hb1⟩
  obtain ⟨w2, hrun, hown, hgr⟩ := run_make_own (P := Tryz.prog) (w := w1) w.heap.size 22 5 i0 (.int .u8 0) 1 Tryz.underlying22 hi hz0 hz1 .i64 .i64 (s.size + 4) (by rw [hz2]; omega) (by unfold maxLen; omega) hb1.size
  rw [show (((s.size + 4 : Nat)) : Int) = (s.size : Int) + 4 from by omega] at hrun
  have hb2 : Below w.heap.size w w2 := bl hb1 (grown_none hgr)
  have hn := rd_some (hr.below hb2)
  have HN := Lib.hid hn
  have HO := Lib.hid hown
  have HB2 := Lib.hid hb2
  have HB1 := Lib.hid hb1
  have hs2 := hb2.size
  have hs12 := hb1.size
  obtain ⟨n, hnn⟩ : ∃ n, n = sumOf (nats s) := ⟨_, rfl⟩
  rw [← hnn] at hs1 ⊢
  have HE := Lib.hid hnn
  clear hn hown hgr hb1 hb2 hnn
  go_wp2_with (first | (at_builtin; refine wpList_append_own _ rfl _ _ 22 rfl w.heap.size 5 i0 (.int .u8 0) 1 1 Tryz.underlying22 hi hz0 hz1 hz2 rfl (by decide) v3 s.size (Lib.strCells s) rfl (own_below hown3' (below_al (Below.refl _ _) _)) ⟨w3.heap.size, 0, none⟩ 4 4 [.int .u8 ((n : Int) / 16777216), .int .u8 ((n : Int) / 65536 % 256), .int .u8 ((n : Int) / 256 % 256), .int .u8 ((n : Int) % 256)] rfl rfl (block_news (new_block w3 _)) (fun u hu => by simp at hu; rcases hu with rfl | rfl | rfl | rfl <;> rfl) (by unfold maxLen; omega) (by omega) (by rw [World.size_alloc]; omega) ?_; intro v4 w4 hown4 hgr4 hnil4) | (at_builtin; refine wpList_append_own _ rfl _ _ 22 rfl w.heap.size 5 i0 (.int .u8 0) 1 1 Tryz.underlying22 hi hz0 hz1 hz2 rfl (by decide) (.slice (some ⟨w1.heap.size, 0, none⟩) 0 (s.size + 4)) 0 [] rfl HO.out ad s.size c (Lib.strCells s) rfl (by rw [Lib.strCells_length, Nat.mul_one]) HN.out (Lib.strCells_oneCell s) (by unfold maxLen; omega) (by omega) hs2 ?_; intro v3 w3 hown3 hgr3 hnil3; have hne3 : v3 ≠ .slice none 0 0 := (fun e => by have := (hnil3.1 e).1; cases this); have hb3 : Below w.heap.size w w3 := HB2.out.grown hgr3 hs2 (fun k hk => by have : w1.heap.size = k := (by simpa [Value.ownBlock] using hk); omega); have hs3 := hb3.size; have hown3' := own_zero hown3; clear hown3))
  go_ret
  have hb4 : Below w.heap.size w w4 := put_grown hb3 hown3' hgr4
  have e : [Value.int .u8 ((n : Int) / 16777216), .int .u8 ((n : Int) / 65536 % 256), .int .u8 ((n : Int) / 256 % 256), .int .u8 ((n : Int) % 256)] = Lib.strCells (ofNats (be4 n)) := by
    rw [cells_ofNats _ (be4_lt n)]
    have : n / 16777216 % 256 = n / 16777216 := by omega
    simp only [be4, List.map_cons, List.map_nil, this]
    rfl
  rw [e, ← cells_append] at hown4
  refine ⟨v4, rfl, ?_, hb4⟩
  unfold sealed
  rw [← HE.out]
  exact ownB_of hown4 (fun e => by have := (hnil4.1 e).2; omega)
end Go.Proofs.YtpgpphmpnebafaaGreat.Mt
