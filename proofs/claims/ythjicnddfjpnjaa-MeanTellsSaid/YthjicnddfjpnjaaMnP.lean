/-
  PLAIN LAW of MeanTells: the graphs.
-/
import Derived.Test.YthjicnddfjpnjaaKarp
import Derived.Test.YthjicnddfjpnjaaPMostW
namespace Go.Proofs.Ythjicnddfjpnjaa
open Go.RowKit
set_option linter.unusedSimpArgs false
set_option linter.unusedVariables false

theorem wtOk_of {N : Nat} {es : List GE} (h : GraphOk (N : Int) es) : WtOk (pes es) := by
  intro e he
  obtain ⟨d, hd, rfl⟩ := List.mem_map.1 he
  have := h.2 d hd
  unfold EdgeOk at this
  exact ⟨this.2.2.2.2.1, this.2.2.2.2.2⟩
def HasCyc (es : List GE) : Prop := ∃ u c, IsWalk (pes es) u c u ∧ 0 < c.length
/-- what Greatest answers -/
def GreatSays (N : Int) (es : List GE) (a b r : Int) : Prop :=
  (¬ GraphOk N es ∧ a = 0 ∧ b = 0 ∧ r = 2) ∨ (GraphOk N es ∧ ¬ HasCyc es ∧ a = 0 ∧ b = 0 ∧ r = 3) ∨
  (GraphOk N es ∧ r = 0 ∧ ∃ (p : Int) (q : Nat), IsMean (pes es) p q ∧ a = p / (Int.gcd p q : Int) ∧ b = (q : Int) / (Int.gcd p q : Int))
theorem IsMean.one {es : List PE} {p p' : Int} {q q' : Nat} (h : IsMean es p q) (h' : IsMean es p' q') : p * q' = p' * q := by
  obtain ⟨u, c, h1, h2, h3⟩ := h.is
  obtain ⟨u', c', h1', h2', h3'⟩ := h'.is
  have a1 := h'.le u c h1
  have a2 := h.le u' c' h1'
  rw [h2, h3, Int.mul_comm (q : Int)] at a1
  rw [h2', h3', Int.mul_comm (q' : Int)] at a2
  omega
theorem IsMean.cyc {es : List GE} {p : Int} {q : Nat} (h : IsMean (pes es) p q) : HasCyc es := by
  obtain ⟨u, c, h1, h2, _⟩ := h.is
  exact ⟨u, c, h1, by rw [h2]; exact h.pos⟩
theorem greatSays_one {N : Int} {es : List GE} {a b r a' b' r' : Int} (h : GreatSays N es a b r) (h' : GreatSays N es a' b' r') : a = a' ∧ b = b' ∧ r = r' := by
  rcases h with ⟨h1, rfl, rfl, rfl⟩ | ⟨h1, h2, rfl, rfl, rfl⟩ | ⟨h1, rfl, p, q, hm, rfl, rfl⟩ <;> rcases h' with ⟨g1, rfl, rfl, rfl⟩ | ⟨g1, g2, rfl, rfl, rfl⟩ | ⟨g1, rfl, p', q', hm', rfl, rfl⟩
  · exact ⟨rfl, rfl, rfl⟩
  · exact absurd g1 h1
  · exact absurd g1 h1
  · exact absurd h1 g1
  · exact ⟨rfl, rfl, rfl⟩
  · exact absurd hm'.cyc h2
  · exact absurd h1 g1
  · exact absurd hm.cyc g2
  · have := hm.one hm'
    have hp := hm.pos
    have hp' := hm'.pos
    obtain ⟨e1, e2⟩ := reduce_eq (a := p) (b := q) (c := p') (d := q') (by omega) (by omega) this
    exact ⟨e1, e2, rfl⟩
theorem mean_of {N : Nat} {es : List GE} (h : GraphOk (N : Int) es) (hc : HasCyc es) : ∃ (p : Int) (q : Nat), q ≤ N ∧ IsMean (pes es) p q :=
  mean_ex (M := 1048576) (pes_in h) (wtOk_of h) hc
theorem mean_b {N : Nat} {es : List GE} (h : GraphOk (N : Int) es) {p : Int} {q : Nat} (hm : IsMean (pes es) p q) : -(q * 1048576 : Int) ≤ p ∧ p ≤ q * 1048576 := by
  obtain ⟨u, c, h1, h2, h3⟩ := hm.is
  have := wsum_bd (M := 1048576) (wtOk_of h) h1
  rw [h2, h3] at this; exact this
/-- the program's best, in lowest terms -/
theorem great_prog {N : Nat} {es : List GE} (h : GraphOk (N : Int) es) (hc : HasCyc es) : 0 < (bestF (pes es) N N).2 ∧ GreatSays N es ((bestF (pes es) N N).1 / (Int.gcd (bestF (pes es) N N).1 (bestF (pes es) N N).2 : Int)) ((bestF (pes es) N N).2 / (Int.gcd (bestF (pes es) N N).1 (bestF (pes es) N N).2 : Int)) 0 := by
  obtain ⟨p, q, hq, hm⟩ := mean_of h hc
  have hN : N ≤ 300 := by have := h.1.2.1; omega
  obtain ⟨h1, h2⟩ := bestF_mean (pes_in h) (wtOk_of h) (by omega) hm
  have hp := hm.pos
  obtain ⟨e1, e2⟩ := reduce_eq (a := (bestF (pes es) N N).1) (b := (bestF (pes es) N N).2) (c := p) (d := q) h1 (by omega) (by rw [h2, Int.mul_comm])
  exact ⟨h1, .inr (.inr ⟨h, rfl, p, q, hm, e1, e2⟩)⟩
theorem great_none {N : Nat} {es : List GE} (h : GraphOk (N : Int) es) (hc : ¬ HasCyc es) : (bestF (pes es) N N).2 = 0 :=
  bestF_none (pes_in h) (wtOk_of h) (by have := h.1.2.1; omega) hc
theorem great_ref {N : Nat} {es : List GE} {his : Nat → Int} (h : GraphOk (N : Int) es) (hc : HasCyc es) (hh : ∀ b : Nat, 1 ≤ b → b ≤ N → IsHi (pes es) b (his b)) : 0 < (refBest his N).2 ∧ GreatSays N es ((refBest his N).1 / (Int.gcd (refBest his N).1 (refBest his N).2 : Int)) ((refBest his N).2 / (Int.gcd (refBest his N).1 (refBest his N).2 : Int)) 0 := by
  obtain ⟨p, q, hq, hm⟩ := mean_of h hc
  obtain ⟨h1, h2⟩ := refBest_mean (pes_in h) hm hq hh
  have hp := hm.pos
  obtain ⟨e1, e2⟩ := reduce_eq (a := (refBest his N).1) (b := (refBest his N).2) (c := p) (d := q) h1 (by omega) (by rw [h2, Int.mul_comm])
  exact ⟨h1, .inr (.inr ⟨h, rfl, p, q, hm, e1, e2⟩)⟩
/-- the scaled graph -/
def sclG (es : List GE) (a b : Int) : List GE := es.map fun e => ⟨e.src, e.dst, e.wt * b - a⟩
theorem sclG_pes (es : List GE) (a b : Int) : pes (sclG es a b) = scl (pes es) a b := by simp [sclG, pes, scl, peOf]
theorem sclG_ok {N : Nat} {es : List GE} (h : GraphOk (N : Int) es) {a b : Int} (hb : 0 ≤ b ∧ b ≤ 300) (ha : -1000000000 ≤ a ∧ a ≤ 1000000000) : GraphOkW (N : Int) (sclG es a b) := by
  refine ⟨⟨h.1.1, h.1.2.1, by simp [sclG]; exact h.1.2.2⟩, fun e he => ?_⟩
  obtain ⟨d, hd, rfl⟩ := List.mem_map.1 he
  have := h.2 d hd
  unfold EdgeOk at this
  have h1 : -(1048576 * b) ≤ d.wt * b := by
    have := Int.mul_le_mul_of_nonneg_right (show -1048576 ≤ d.wt by omega) hb.1
    omega
  have h2 : d.wt * b ≤ 1048576 * b := Int.mul_le_mul_of_nonneg_right (by omega) hb.1
  unfold EdgeOkW
  dsimp only
  omega
theorem above_of {es : List GE} {a b : Int} : Above (pes es) a b ↔ ¬ HasPot (sclG es a b) := by
  unfold Above HasPot; rw [sclG_pes]

end Go.Proofs.Ythjicnddfjpnjaa
