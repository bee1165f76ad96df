/- Three devices side by side, none of whose blocks is another one's. -/
import Derived.Test.YtpdhfnpnilpipaaDvU
import Derived.Test.YtpdhfnpnilpipaaDvM
namespace Go.Proofs.Ytpdhfnpnilpipaa.Dv
open Go.RowKit

/-- Three devices; their blocks are from B on, and below Ta, Tb, Tc. -/
def Dev3 (w : World) (B Ta Tb Tc a : Nat) (P : List ByteArray) (Q : List (Nat × ByteArray)) (b : Nat) (P' : List ByteArray) (Q' : List (Nat × ByteArray)) (c : Nat) (P'' : List ByteArray) (Q'' : List (Nat × ByteArray)) : Prop :=
  ∃ F G H : Nat → Prop, Dev w F a P Q ∧ Dev w G b P' Q' ∧ Dev w H c P'' Q'' ∧ (∀ k, F k → B ≤ k ∧ k < Ta ∧ ¬ G k) ∧ (∀ k, G k → B ≤ k ∧ k < Tb ∧ ¬ H k) ∧ (∀ k, H k → B ≤ k ∧ k < Tc ∧ ¬ F k)
section
variable {w w1 : World} {B Ta Tb Tc a b c : Nat} {P P' P'' : List ByteArray} {Q Q' Q'' : List (Nat × ByteArray)}
theorem Dev3.rot (h : Dev3 w B Ta Tb Tc a P Q b P' Q' c P'' Q'') : Dev3 w B Tb Tc Ta b P' Q' c P'' Q'' a P Q := by
  obtain ⟨F, G, H, h1, h2, h3, h4, h5, h6⟩ := h
  exact ⟨G, H, F, h2, h3, h1, h5, h6, h4⟩
theorem Dev3.below (h : Dev3 w B Ta Tb Tc a P Q b P' Q' c P'' Q'') (hb : Below w.heap.size w w1) : Dev3 w1 B Ta Tb Tc a P Q b P' Q' c P'' Q'' := by
  obtain ⟨F, G, H, h1, h2, h3, h4, h5, h6⟩ := h
  exact ⟨F, G, H, h1.below hb, h2.below hb, h3.below hb, h4, h5, h6⟩
theorem Dev3.raise (h : Dev3 w B Ta Tb Tc a P Q b P' Q' c P'' Q'') {T : Nat} (h1 : Ta ≤ T) (h2 : Tb ≤ T) (h3 : Tc ≤ T) : Dev3 w B T T T a P Q b P' Q' c P'' Q'' := by
  obtain ⟨F, G, H, k1, k2, k3, h4, h5, h6⟩ := h
  exact ⟨F, G, H, k1, k2, k3, fun k hk => ⟨(h4 k hk).1, Nat.lt_of_lt_of_le (h4 k hk).2.1 h1, (h4 k hk).2.2⟩, fun k hk => ⟨(h5 k hk).1, Nat.lt_of_lt_of_le (h5 k hk).2.1 h2, (h5 k hk).2.2⟩, fun k hk => ⟨(h6 k hk).1, Nat.lt_of_lt_of_le (h6 k hk).2.1 h3, (h6 k hk).2.2⟩⟩
/-- The first one is changed; new blocks are its own. -/
theorem Dev3.use (h : Dev3 w B Ta Tb Tc a P Q b P' Q' c P'' Q'') (hB : B ≤ w.heap.size) (hTb : Tb ≤ w.heap.size) (hTc : Tc ≤ w.heap.size) :
    ∃ F : Nat → Prop, Dev w F a P Q ∧ (∀ k, F k → B ≤ k ∧ k < Ta) ∧ ∀ (w1 : World) (P1 : List ByteArray) (Q1 : List (Nat × ByteArray)), Dev w1 (fun k => F k ∨ w.heap.size ≤ k) a P1 Q1 → Chg F w w1 → Dev3 w1 B w1.heap.size Tb Tc a P1 Q1 b P' Q' c P'' Q'' := by
  obtain ⟨F, G, H, h1, h2, h3, h4, h5, h6⟩ := h
  refine ⟨F, h1, fun k hk => ⟨(h4 k hk).1, (h4 k hk).2.1⟩, fun w1 P1 Q1 hd hc => ?_⟩
  refine ⟨fun k => (F k ∨ w.heap.size ≤ k) ∧ k < w1.heap.size, G, H, hd.tight, h2.other hc (fun k hk hf => (h4 k hf).2.2 hk), h3.other hc (fun k hk hf => (h6 k hk).2.2 hf), fun k hk => ⟨?_, hk.2, fun hg => ?_⟩, h5, fun k hk => ⟨(h6 k hk).1, (h6 k hk).2.1, fun hf => ?_⟩⟩
  · rcases hk.1 with hf | hf
    · exact (h4 k hf).1
    · omega
  · rcases hk.1 with hf | hf
    · exact (h4 k hf).2.2 hg
    · have := (h5 k hg).2.1; omega
  · rcases hf.1 with hf | hf
    · exact (h6 k hk).2.2 hf
    · have := (h6 k hk).2.1; omega
theorem dev3_new {w1 w2 w3 w4 : World} (h1 : Dev w2 (fun k => w1.heap.size ≤ k) a P Q) (h2 : Dev w3 (fun k => w2.heap.size ≤ k) b P' Q') (h3 : Dev w4 (fun k => w3.heap.size ≤ k) c P'' Q'')
    (b1 : Below w1.heap.size w1 w2) (b2 : Below w2.heap.size w2 w3) (b3 : Below w3.heap.size w3 w4) : Dev3 w4 w1.heap.size w4.heap.size w4.heap.size w4.heap.size a P Q b P' Q' c P'' Q'' := by
  have s1 := b1.size
  have s2 := b2.size
  have s3 := b3.size
  refine ⟨_, _, _, (h1.tight.below b2).below b3, h2.tight.below b3, h3.tight, fun k hk => ⟨hk.1, ?_, fun hg => ?_⟩, fun k hk => ⟨?_, ?_, fun hg => ?_⟩, fun k hk => ⟨?_, hk.2, fun hg => ?_⟩⟩
  · have := hk.2; omega
  · have := hk.2; have := hg.1; omega
  · have := hk.1; omega
  · have := hk.2; omega
  · have := hk.2; have := hg.1; omega
  · have := hk.1; omega
  · have := hk.1; have := hg.2; omega
end
end Go.Proofs.Ytpdhfnpnilpipaa.Dv
