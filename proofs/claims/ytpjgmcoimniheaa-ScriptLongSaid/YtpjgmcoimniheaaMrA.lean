/- The document's numbers, check and seal, by walks. -/
import Derived.Test.YtpjgmcoimniheaaMtF
namespace Go.Proofs.Ytpjgmcoimniheaa.Mt
open Go.RowKit Go.Proofs.Ytpjgmcoimniheaa.By
set_option linter.unusedSimpArgs false
set_option linter.unusedVariables false

/-- The last k bytes of a number. -/
def suf (n : Nat) : Nat → List Nat
  | 0 => []
  | k + 1 => n / 256 ^ k % 256 :: suf n k
theorem suf_four (n : Nat) : suf n 4 = be4 n := by
  unfold be4
  show [n / 256 ^ 3 % 256, n / 256 ^ 2 % 256, n / 256 ^ 1 % 256, n / 256 ^ 0 % 256] = _
  simp
theorem suf_two (n : Nat) : suf n 2 = be2 n := by
  unfold be2
  show [n / 256 ^ 1 % 256, n / 256 ^ 0 % 256] = _
  simp
theorem suf_length (n k : Nat) : (suf n k).length = k := by
  induction k with
  | zero => rfl
  | succ k ih => unfold suf; rw [List.length_cons, ih]
theorem and_255 (a : Nat) (ha : a < 4294967296) : bits BinOp.and IntKind.i64 (a : Int) 255 = ((a % 256 : Nat) : Int) := by
  have h1 : (BitVec.ofInt 64 (a : Int)).toNat = a := by rw [BitVec.toNat_ofInt]; omega
  have h2 : (BitVec.ofInt 64 (255 : Int)).toNat = 255 := by decide
  have h3 : a &&& 255 = a % 256 := Nat.and_two_pow_sub_one_eq_mod _ 8
  show IntKind.i64.wrap ((BitVec.ofInt 64 (a : Int) &&& BitVec.ofInt 64 255).toNat : Int) = _
  rw [BitVec.toNat_and, h1, h2, h3, IntKind.wrap_i64]
  omega
theorem conv_one (W : World) (b : Nat) (hb : b < 256) (t : TypeId) : (convert 25 9 (.slice (some ⟨W.heap.size, 0, none⟩) 1 1)).run Try.prog (W.alloc (.cells #[.int .u8 (b : Int)] 5)) = .ok (.string (ofNats [b])) (W.alloc (.cells #[.int .u8 (b : Int)] 5)) := by
  have h := conv_bytes (W := W.alloc (.cells #[.int .u8 (b : Int)] 5)) (A := some ⟨W.heap.size, 0, none⟩) (s := ofNats [b]) (RdB.of_block (new_block W _) (by rw [cells_ofNats _ (by simpa using hb)]; rfl)) (fun ad h => by cases h; rfl) 1
  exact h
set_option maxRecDepth 100000 in
set_option maxHeartbeats 1000000 in
theorem rnumber_any (n many : Nat) (w : World) (hn : n < 4294967296) (hm : many ≤ 4) :
    Calls Try.prog 52 #[.int .i64 (n : Int), .int .i64 (many : Int)] w fun x w' => x = .returned (.string (ofNats (suf n many))) ∧ Below w.heap.size w w' := by
  go_enter Try.func52, Try.ntmps52
  go_wp2_with fail
  go_loopw [0, 5, 6] (fun v s i wr => ∃ k : Nat, k ≤ many ∧ i = .int .i64 k ∧ v = .int .i64 ((n / 256 ^ k : Nat) : Int) ∧ s = .string (ofNats (suf n k)) ∧ Below w.heap.size w wr) (fun _ _ i _ => many - (intOf i).toNat)
  case atStart => exact ⟨0, Nat.zero_le _, rfl, by rw [Nat.pow_zero, Nat.div_one], rfl, Below.refl _ _⟩
  case round =>
    obtain ⟨k, hk, rfl, rfl, rfl, hbw⟩ := hrel
    by_cases hlt : k < many
    · have u1 : decide (k < many) = true := decide_eq_true hlt
      have u2 : decide ((k : Int) < (many : Int)) = true := decide_eq_true (by omega)
      have hnx : n / 256 ^ (k + 1) = n / 256 ^ k / 256 := by rw [Nat.pow_succ, Nat.div_div_eq_div_mul]
      have hsx : ofNats (suf n (k + 1)) = ofNats [n / 256 ^ k % 256] ++ ofNats (suf n k) := by rw [← ofNats_append]; rfl
      have hle : n / 256 ^ k ≤ n := Nat.div_le_self _ _
      have hss : (ofNats (suf n k)).size ≤ 4 := by rw [ofNats_size, suf_length]; omega
      obtain ⟨N, hN⟩ : ∃ N, N = n / 256 ^ k := ⟨_, rfl⟩
      obtain ⟨S, hS⟩ : ∃ S, S = ofNats (suf n k) := ⟨_, rfl⟩
      rw [← hN] at hnx hsx hle ⊢
      rw [← hS] at hsx hss ⊢
      have hN2 : N < 4294967296 := by omega
      have ha := and_255 N hN2
      obtain ⟨b, hb⟩ : ∃ b, b = N % 256 := ⟨_, rfl⟩
      have hb256 : b < 256 := by omega
      rw [← hb] at ha hsx
      have hcv := conv_one wr b hb256 0
      have hbs : (ofNats [b]).size ≤ 1 := by rw [ofNats_size]; exact Nat.le_refl 1
      have HB := Lib.hid (below_al hbw (.cells #[.int .u8 (b : Int)] 5))
      have HNX := Lib.hid hnx
      have HSX := Lib.hid hsx
      clear hN hS hb hnx hsx hbw
      go_wp2_with fail
      go_roundw
      case rel => exact ⟨k + 1, by omega, by go_num, by rw [HNX.out]; rfl, by rw [HSX.out], HB.out⟩
      case measure => simp [intOf]; omega
    · have u1 : decide (k < many) = false := decide_eq_false hlt
      have u2 : decide ((k : Int) < (many : Int)) = false := decide_eq_false (by omega)
      have hkm : k = many := by omega
      have HK := Lib.hid hkm
      clear hkm
      go_wp2_with fail
      go_ret
      exact ⟨by rw [HK.out]; rfl, hbw⟩
def b1i : Nat → B32 → B32
  | 0, v => v
  | k + 1, v => b1 (b1i k v)
theorem b1i_eight (v : B32) : b1i 8 v = b4 (b4 v) := rfl
theorem xor_i64 (a b : Nat) (ha : a < 4294967296) (hb : b < 4294967296) : bits BinOp.xor IntKind.i64 (a : Int) (b : Int) = ((a ^^^ b : Nat) : Int) := by
  have h1 : (BitVec.ofInt 64 (a : Int)).toNat = a := by rw [BitVec.toNat_ofInt]; omega
  have h2 : (BitVec.ofInt 64 (b : Int)).toNat = b := by rw [BitVec.toNat_ofInt]; omega
  have h3 : a ^^^ b < 4294967296 := Nat.xor_lt_two_pow (n := 32) ha hb
  show IntKind.i64.wrap ((BitVec.ofInt 64 (a : Int) ^^^ BitVec.ofInt 64 (b : Int)).toNat : Int) = _
  rw [BitVec.toNat_xor, h1, h2, IntKind.wrap_i64]
  omega
set_option maxRecDepth 100000 in
set_option maxHeartbeats 2000000 in
theorem rof_any (s : ByteArray) (w : World) (hs : s.size ≤ 1000000) :
    Calls Try.prog 63 #[.string s] w fun x w' => x = .returned (.int .i64 (sumOf (nats s) : Int)) ∧ w = w' := by
  have hz0 : (4294967295 : Int) = ((crc (BitVec.ofNat 32 4294967295) ((nats s).take 0)).toNat : Int) := by rfl
  have HZ := Lib.hid hz0
  clear hz0
  go_enter Try.func63, Try.ntmps63
  go_wp2_with fail
  go_loop [3, 4] (fun n i => ∃ k : Nat, k ≤ s.size ∧ i = .int .i64 k ∧ n = .int .i64 ((crc (BitVec.ofNat 32 4294967295) ((nats s).take k)).toNat : Int)) (fun _ i => s.size - (intOf i).toNat)
  case atStart => exact ⟨0, Nat.zero_le _, rfl, congrArg (Value.int .i64) HZ.out⟩
  case round =>
    obtain ⟨k, hk, rfl, rfl⟩ := hrel
    by_cases hlt : k < s.size
    · have u1 : decide (k < s.size) = true := decide_eq_true hlt
      have u2 : decide ((k : Int) < (s.size : Int)) = true := decide_eq_true (by omega)
      have hkn : k < (nats s).length := by rw [nats_length]; exact hlt
      obtain ⟨b, hb⟩ : ∃ b, (nats s)[k]? = some b := ⟨_, List.getElem?_eq_getElem hkn⟩
      have hb256 := nats_lt s b (List.mem_of_getElem? hb)
      have hsk : (s[k]'hlt).toNat = b := by
        unfold nats at hb
        rw [List.getElem?_map, List.getElem?_eq_getElem (by rw [← size_data]; exact hlt)] at hb
        exact Option.some.inj hb
      have e1 : wrap64 (((s[k]'hlt).toNat : Nat) : Int) = (b : Int) := by rw [hsk]; unfold wrap64; omega
      obtain ⟨v, hv⟩ : ∃ v, v = crc (BitVec.ofNat 32 4294967295) ((nats s).take k) := ⟨_, rfl⟩
      have hnx : crc (BitVec.ofNat 32 4294967295) ((nats s).take (k + 1)) = b1i 8 (v ^^^ BitVec.ofNat 32 (b * 16777216)) := by rw [take_snoc _ _ _ hb, crc_snoc, b1i_eight, hv]; rfl
      have hvl := v.isLt
      rw [← hv]
      have hM : v.toNat ^^^ (b * 16777216) = (v ^^^ BitVec.ofNat 32 (b * 16777216)).toNat := by rw [BitVec.toNat_xor, BitVec.toNat_ofNat, Nat.mod_eq_of_lt (show b * 16777216 < 2 ^ 32 by omega)]
      obtain ⟨V, hV⟩ : ∃ V, V = v ^^^ BitVec.ofNat 32 (b * 16777216) := ⟨_, rfl⟩
      rw [← hV] at hM hnx
      have hx := xor_i64 v.toNat (b * 16777216) (by omega) (by omega)
      rw [hM] at hx
      have hVl : (b1i 0 V).toNat < 2 ^ 32 := (b1i 0 V).isLt
      obtain ⟨n, hn⟩ : ∃ n, n = v.toNat := ⟨_, rfl⟩
      rw [← hn] at hx hvl ⊢
      obtain ⟨N0, hN0⟩ : ∃ N0, N0 = V.toNat := ⟨_, rfl⟩
      rw [← hN0] at hx
      have hx' : bits BinOp.xor IntKind.i64 (n : Int) ((b : Int) * 16777216) = (N0 : Int) := hx
      have HN0 := Lib.hid hN0
      have HNX := Lib.hid hnx
      clear hb hsk hv hnx hM hV hx hn hN0 hkn
      go_wp2_with fail
      go_loop [3, 5] (fun n i => ∃ m : Nat, m ≤ 8 ∧ i = .int .i64 m ∧ n = .int .i64 ((b1i m V).toNat : Int)) (fun _ i => 8 - (intOf i).toNat)
      case atStart => exact ⟨0, Nat.zero_le _, rfl, by rw [HN0.out]; rfl⟩
      case round =>
        obtain ⟨m, hm, rfl, rfl⟩ := hrel
        by_cases hm8 : m < 8
        · have v1 : decide (m < 8) = true := decide_eq_true hm8
          have v2 : decide ((m : Int) < 8) = true := decide_eq_true (by omega)
          have hb1 := b1_nat (b1i m V)
          have hlt32 := (b1i m V).isLt
          have hnx : (b1i (m + 1) V).toNat = (b1 (b1i m V)).toNat := rfl
          obtain ⟨X, hX⟩ : ∃ X, X = (b1i m V).toNat := ⟨_, rfl⟩
          rw [← hX] at hb1 hlt32 ⊢
          rw [hb1] at hnx
          by_cases hbig : 4294967295 < X * 2
          · have w1 : decide ((4294967295 : Int) < (X : Int) * 2) = true := decide_eq_true (by omega)
            rw [if_pos hbig] at hnx
            have hxx := xor_i64 (X * 2 - 4294967296) 79764919 (by omega) (by decide)
            have hsub : ((X * 2 - 4294967296 : Nat) : Int) = (X : Int) * 2 - 4294967296 := by omega
            rw [hsub] at hxx
            have hxx' : bits BinOp.xor IntKind.i64 ((X : Int) * 2 - 4294967296) 79764919 = (((X * 2 - 4294967296) ^^^ 79764919 : Nat) : Int) := hxx
            obtain ⟨Y, hY⟩ : ∃ Y, Y = (X * 2 - 4294967296) ^^^ 79764919 := ⟨_, rfl⟩
            rw [← hY] at hxx' hnx
            have HY := Lib.hid hnx
            clear hb1 hX hnx hxx hsub hY
            go_wp2_with fail
            go_round
            case rel => exact ⟨m + 1, by omega, by go_num, by rw [HY.out]⟩
            case measure => simp [intOf]; omega
          · have w1 : decide ((4294967295 : Int) < (X : Int) * 2) = false := decide_eq_false (by omega)
            rw [if_neg hbig] at hnx
            have HY := Lib.hid hnx
            clear hb1 hX hnx
            go_wp2_with fail
            go_round
            case rel => exact ⟨m + 1, by omega, by go_num, by rw [HY.out]; rfl⟩
            case measure => simp [intOf]; omega
        · have v1 : decide (m < 8) = false := decide_eq_false hm8
          have v2 : decide ((m : Int) < 8) = false := decide_eq_false (by omega)
          have hm88 : m = 8 := by omega
          subst hm88
          go_wp2_with fail
          go_round
          case rel => exact ⟨k + 1, by omega, by go_num, by rw [HNX.out]⟩
          case measure => simp [intOf]; omega
    · have u1 : decide (k < s.size) = false := decide_eq_false hlt
      have u2 : decide ((k : Int) < (s.size : Int)) = false := decide_eq_false (by omega)
      have hall : (nats s).take k = nats s := List.take_of_length_le (by rw [nats_length]; omega)
      rw [hall]
      have hvl := (crc (BitVec.ofNat 32 4294967295) (nats s)).isLt
      have hsum : sumOf (nats s) = 4294967295 - (crc (BitVec.ofNat 32 4294967295) (nats s)).toNat := rfl
      obtain ⟨v, hv⟩ : ∃ v, v = (crc (BitVec.ofNat 32 4294967295) (nats s)).toNat := ⟨_, rfl⟩
      rw [← hv] at hsum hvl ⊢
      have hsi : ((4294967295 - v : Nat) : Int) = 4294967295 - (v : Int) := by omega
      have HS := Lib.hid hsum
      have HI := Lib.hid hsi
      clear hall hsum hv hsi
      go_wp2_with fail
      go_ret
      exact ⟨by rw [HS.out, HI.out]; rfl, rfl⟩
end Go.Proofs.Ytpjgmcoimniheaa.Mt
