/- What a program that does nothing answers wrongly: the device is awake; by a walk. -/
import Derived.Test.YtpdhfnpnilpipaaDvF
import Derived.Test.YtpdhfnpnilpipaaDvD
namespace Go.Proofs.Ytpdhfnpnilpipaa.Dv
open Go.RowKit
set_option linter.unusedSimpArgs false
set_option linter.unusedVariables false

theorem fullPage_first (c : Nat) (hc : c < 256) : (Lib.strCells (fullPage c))[0]? = some (.int .u8 (c : Int)) := by
  rw [fullPage_cells c hc, List.getElem?_replicate]; rfl
theorem rdB_first {W : World} {s : ByteArray} {ad : Addr} (h : RdB W (some ad) s) {v : Value} (hv : (Lib.strCells s)[0]? = some v) (hs : 0 < s.size) : W.cell? ad = some v := by
  obtain ⟨a, ha, hc⟩ := h hs
  injection ha with ha
  subst ha
  have := hc 0 v hv
  have h0 : ad.add 0 = ad := by unfold Addr.add; split <;> simp_all
  rwa [h0] at this
set_option maxRecDepth 100000 in
set_option maxHeartbeats 1000000 in
theorem awake_any (w : World) : Calls Try.prog 21 #[] w fun e w' => e = .returned (.bool true) ∧ Below w.heap.size w w' := by
  have tok : True := trivial
  go_enter Try.func21, Try.ntmps21
  go_wp2_with fail
  refine (new_any 2 w).mono ?_
  rintro e w1 ⟨b, rfl, hd, hb1⟩
  have hl : (List.replicate (clamp 2) zeroPage).length = 2 := by rw [List.length_replicate]; rfl
  have h1 : 1 < (List.replicate (clamp 2) zeroPage).length := by rw [hl]; decide
  have hpq := pages_any hd
  rw [hl] at hpq
  go_wp2_with fail
  refine hpq.mono ?_
  rintro e w2 ⟨rfl, rfl⟩
  go_wp2_with fail
  refine (full_any 7 (by decide) _).mono ?_
  rintro e w3 ⟨v, rfl, hv, hb2⟩
  obtain ⟨A, c, rfl, hc, hr⟩ := hv.rd
  obtain ⟨ad, rfl, -⟩ := hr (by rw [fullPage_size]; decide)
  have hd3 := hd.below hb2
  have hw := write_ok hd3 1 h1 ad c (fullPage 7) (fullPage_size 7) hr (by decide)
  rw [fullPage_size] at hw hc
  go_wp2_with fail
  refine hw.mono ?_
  rintro e w4 ⟨rfl, hd4, hch4⟩
  have hb4 : Below w.heap.size w _ := hch4.below (bl hb1 hb2) (fun k hk => hk) (bl hb1 hb2).size
  go_wp2_with fail
  have hre := read_ok hd4 1 h1 (by decide)
  refine hre.mono ?_
  rintro e w5 ⟨v5, rfl, hv5, hb5⟩
  obtain ⟨A5, c5, rfl, hc5, hr5⟩ := hv5.rd
  have hd5 := hd4.below hb5
  have hpg := dRead_hit (List.replicate (clamp 2) zeroPage) [] (1, fullPage 7) h1
  have hr5' : RdB w5 A5 (fullPage 7) := by rw [show fullPage 7 = _ from hpg.symm]; exact hr5
  have hsz : (dRead (List.replicate (clamp 2) zeroPage) ([] ++ [(1, fullPage 7)]) 1).size = 256 := by rw [hpg, fullPage_size]
  rw [hsz] at hc5
  obtain ⟨ad5, rfl, -⟩ := hr5' (by rw [fullPage_size]; decide)
  have hfirst := rdB_first hr5' (fullPage_first 7 (by decide)) (by rw [fullPage_size]; decide)
  have hwt := waiting_any hd5 (by decide)
  have hc6 := hfirst
  rw [hsz]
  go_wp2_with fail
  refine hwt.mono ?_
  rintro e w6 ⟨rfl, rfl⟩
  go_wp2_with fail
  go_ret
  exact ⟨rfl, bl hb4 hb5⟩
end Go.Proofs.Ytpdhfnpnilpipaa.Dv
