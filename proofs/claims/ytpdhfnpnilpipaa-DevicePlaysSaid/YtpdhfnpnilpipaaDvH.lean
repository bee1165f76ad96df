/- A device and the document's one side by side, none of whose blocks is the other one's. -/
import Derived.Test.YtpdhfnpnilpipaaDvN
import Derived.Test.YtpdhfnpnilpipaaDrB
namespace Go.Proofs.Ytpdhfnpnilpipaa.Dv
open Go.RowKit

def Twin (w : World) (B Ta Tr a : Nat) (P : List ByteArray) (Q : List (Nat × ByteArray)) (r : Nat) (P' : List ByteArray) (Q' : List (Nat × ByteArray)) : Prop :=
  ∃ F G : Nat → Prop, Dev w F a P Q ∧ RDev w G r P' Q' ∧ (∀ k, F k → B ≤ k ∧ k < Ta ∧ ¬ G k) ∧ ∀ k, G k → B ≤ k ∧ k < Tr
section
variable {w w1 w2 : World} {B Ta Tr a r : Nat} {P P' : List ByteArray} {Q Q' : List (Nat × ByteArray)}
theorem Twin.below (h : Twin w B Ta Tr a P Q r P' Q') (hb : Below w.heap.size w w1) : Twin w1 B Ta Tr a P Q r P' Q' := by
  obtain ⟨F, G, h1, h2, h3, h4⟩ := h
  exact ⟨F, G, h1.below hb, h2.below hb, h3, h4⟩
theorem Twin.raise (h : Twin w B Ta Tr a P Q r P' Q') {T : Nat} (h1 : Ta ≤ T) (h2 : Tr ≤ T) : Twin w B T T a P Q r P' Q' := by
  obtain ⟨F, G, k1, k2, h3, h4⟩ := h
  exact ⟨F, G, k1, k2, fun k hk => ⟨(h3 k hk).1, Nat.lt_of_lt_of_le (h3 k hk).2.1 h1, (h3 k hk).2.2⟩, fun k hk => ⟨(h4 k hk).1, Nat.lt_of_lt_of_le (h4 k hk).2 h2⟩⟩
theorem Twin.useA (h : Twin w B Ta Tr a P Q r P' Q') (hB : B ≤ w.heap.size) (hTr : Tr ≤ w.heap.size) :
    ∃ F : Nat → Prop, Dev w F a P Q ∧ (∀ k, F k → B ≤ k ∧ k < Ta) ∧ ∀ (w1 : World) (P1 : List ByteArray) (Q1 : List (Nat × ByteArray)), Dev w1 (fun k => F k ∨ w.heap.size ≤ k) a P1 Q1 → Chg F w w1 → Twin w1 B w1.heap.size Tr a P1 Q1 r P' Q' := by
  obtain ⟨F, G, h1, h2, h3, h4⟩ := h
  refine ⟨F, h1, fun k hk => ⟨(h3 k hk).1, (h3 k hk).2.1⟩, fun w1 P1 Q1 hd hc => ?_⟩
  refine ⟨_, G, hd.tight, h2.other hc (fun k hk hf => (h3 k hf).2.2 hk), fun k hk => ⟨?_, hk.2, fun hg => ?_⟩, h4⟩
  · rcases hk.1 with hf | hf
    · exact (h3 k hf).1
    · omega
  · rcases hk.1 with hf | hf
    · exact (h3 k hf).2.2 hg
    · have := (h4 k hg).2; omega
theorem Twin.useR (h : Twin w B Ta Tr a P Q r P' Q') (hB : B ≤ w.heap.size) (hTa : Ta ≤ w.heap.size) :
    ∃ G : Nat → Prop, RDev w G r P' Q' ∧ (∀ k, G k → B ≤ k ∧ k < Tr) ∧ ∀ (w1 : World) (P1 : List ByteArray) (Q1 : List (Nat × ByteArray)), RDev w1 (fun k => G k ∨ w.heap.size ≤ k) r P1 Q1 → Chg G w w1 → Twin w1 B Ta w1.heap.size a P Q r P1 Q1 := by
  obtain ⟨F, G, h1, h2, h3, h4⟩ := h
  refine ⟨G, h2, h4, fun w1 P1 Q1 hd hc => ?_⟩
  refine ⟨F, _, h1.other hc (fun k hk hf => (h3 k hk).2.2 hf), hd.tight, fun k hk => ⟨(h3 k hk).1, (h3 k hk).2.1, fun hg => ?_⟩, fun k hk => ⟨?_, hk.2⟩⟩
  · rcases hg.1 with hf | hf
    · exact (h3 k hk).2.2 hf
    · have := (h3 k hk).2.1; omega
  · rcases hk.1 with hf | hf
    · exact (h4 k hf).1
    · omega
theorem twin_new {w1 w2 w3 : World} (h1 : Dev w2 (fun k => w1.heap.size ≤ k) a P Q) (h2 : RDev w3 (fun k => w2.heap.size ≤ k) r P' Q') (b1 : Below w1.heap.size w1 w2) (b2 : Below w2.heap.size w2 w3) : Twin w3 w1.heap.size w3.heap.size w3.heap.size a P Q r P' Q' := by
  have s1 := b1.size
  have s2 := b2.size
  refine ⟨_, _, h1.tight.below b2, h2.tight, fun k hk => ⟨hk.1, ?_, fun hg => ?_⟩, fun k hk => ⟨?_, hk.2⟩⟩
  · have := hk.2; omega
  · have := hk.2; have := hg.1; omega
  · have := hk.1; omega
/-- What a walk reads of the document's device: how many writes wait. -/
theorem Twin.waits (h : Twin w B Ta Tr a P Q r P' Q') : ∃ A c, w.cell? ⟨r, 1, none⟩ = some (.slice A Q'.length c) := by
  obtain ⟨F, G, h1, ⟨vp, vw, hd, hf⟩, h3, h4⟩ := h
  obtain ⟨A, c, rfl, hc⟩ := own_slice hd.rowQ
  exact ⟨A, c, cell_at hd.blk 1⟩
theorem Twin.waiting (h : Twin w B Ta Tr a P Q r P' Q') (hQ : Q.length ≤ 1000000) (n : Nat) : Calls Try.prog 28 #[.pointer (some ⟨a, 0, none⟩)] (w.drewN n) fun e w' => e = .returned (.int .i64 (Q.length : Int)) ∧ w' = w.drewN n := by
  obtain ⟨F, G, h1, _⟩ := h
  exact (waiting_any (h1.below (below_dn (Below.refl _ _) n)) hQ).mono fun e w' ⟨k1, k2⟩ => ⟨k1, k2.symm⟩
theorem own_conv_nil (w : World) : (convert 39 9 (.slice none 0 0)).run Try.prog w = .ok (.string ByteArray.empty) w := own_conv (s := ByteArray.empty) (World.ownsRow_nil w 0 5 1)
def PlayRel (w1 : World) (a r n k : Nat) (wr : World) : Prop := ∃ P Q, Twin wr w1.heap.size wr.heap.size wr.heap.size a P Q r P Q ∧ P.length = n ∧ Q.length ≤ k ∧ Below w1.heap.size w1 wr
theorem play_rel {n k m : Nat} {X : World} (h : Twin w B Ta Tr a P Q r P Q) (hB : B = w1.heap.size) (hb : Below w1.heap.size w1 w) (h1 : P.length = n) (h2 : Q.length ≤ k) (hTa : Ta ≤ w.heap.size) (hTr : Tr ≤ w.heap.size) (hX : X = w.drewN m) : PlayRel w1 a r n k X := by
  subst hB
  have := below_dn (Below.refl w.heap.size w) m
  rw [← hX] at this
  exact ⟨P, Q, (h.below this).raise (Nat.le_trans hTa this.size) (Nat.le_trans hTr this.size), h1, h2, bl hb this⟩
end
end Go.Proofs.Ytpdhfnpnilpipaa.Dv
