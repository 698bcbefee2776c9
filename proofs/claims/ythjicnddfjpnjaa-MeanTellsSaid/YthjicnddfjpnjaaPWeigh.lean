/-
  PLAIN: what a walk weighs (chapter 17).
-/
import Derived.Test.YthjicnddfjpnjaaPGraph
namespace Go.Proofs.Ythjicnddfjpnjaa
open Go.RowKit
set_option linter.unusedSimpArgs false
set_option linter.unusedVariables false

/-- the k-th edge of a walk is one, and follows the one ahead of it -/
def StepOk (es : List GE) (ns : List Int) (k : Nat) : Prop := ∃ m e, ns[k]? = some ((m : Nat) : Int) ∧ es[m]? = some e ∧ (k = 0 ∨ ∃ m' e', ns[k - 1]? = some ((m' : Nat) : Int) ∧ es[m']? = some e' ∧ e'.dst = e.src)
/-- what its first k edges weigh -/
def wI (es : List GE) (ns : List Int) : Nat → Int
  | 0 => 0
  | k + 1 => IntKind.i64.wrap (wI es ns k + ((es[(ns.getD k 0).toNat]?).map GE.wt).getD 0)
theorem wI_succ {es : List GE} {ns : List Int} {k m : Nat} {e : GE} (hn : ns[k]? = some (m : Int)) (he : es[m]? = some e) : wI es ns (k + 1) = IntKind.i64.wrap (wI es ns k + e.wt) := by
  simp only [wI]; rw [getD_of hn]; simp [he]
/-- what Weigh answers -/
def WeighSays (N : Int) (es : List GE) (ns : List Int) (s r : Int) : Prop :=
  (¬ GraphOk N es ∧ s = 0 ∧ r = 2) ∨ (GraphOk N es ∧ (∀ k, k < ns.length → StepOk es ns k) ∧ s = wI es ns ns.length ∧ r = 0) ∨ (GraphOk N es ∧ (∃ k, k < ns.length ∧ ¬ StepOk es ns k) ∧ s = 0 ∧ r = 1)
theorem weigh_one {N : Int} {es : List GE} {ns : List Int} {s r s' r' : Int} (h : WeighSays N es ns s r) (h' : WeighSays N es ns s' r') : s = s' ∧ r = r' := by
  rcases h with ⟨h1, rfl, rfl⟩ | ⟨h1, h2, rfl, rfl⟩ | ⟨h1, ⟨k, hk, h2⟩, rfl, rfl⟩ <;> rcases h' with ⟨g1, rfl, rfl⟩ | ⟨g1, g2, rfl, rfl⟩ | ⟨g1, ⟨j, hj, g2⟩, rfl, rfl⟩
  · exact ⟨rfl, rfl⟩
  · exact absurd g1 h1
  · exact absurd g1 h1
  · exact absurd h1 g1
  · exact ⟨rfl, rfl⟩
  · exact absurd (h2 j hj) g2
  · exact absurd h1 g1
  · exact absurd (g2 k hk) h2
  · exact ⟨rfl, rfl⟩
def WeighEnds (N : Int) (es : List GE) (ns : List Int) (e : Ending) : Prop := ∃ s r, e = .returned (.tuple #[.int .i64 s, .int .i64 r]) ∧ WeighSays N es ns s r
theorem weighEnds {N : Int} {es : List GE} {ns : List Int} {s r : Int} (h : WeighSays N es ns s r) : WeighEnds N es ns (.returned (.tuple #[.int .i64 s, .int .i64 r])) := ⟨s, r, rfl, h⟩
theorem EdgesAt.src_ {w w' : World} {a : Option Addr} {n c : Nat} {es : List GE} {k : Nat} (h : EdgesAt w a n c es) (hb : Below w.heap.size w w') (hk : k < n) : ∃ ad e, a = some ad ∧ (ad.add (k * 3)).block < w.heap.size ∧ es[k]? = some e ∧
    w'.cell? (ad.add (k * 3)) = some (.int .i64 e.src) ∧ w'.cell? ⟨(ad.add (k * 3)).block, (ad.add (k * 3)).off + 1, none⟩ = some (.int .i64 e.dst) ∧ w'.cell? ⟨(ad.add (k * 3)).block, (ad.add (k * 3)).off + 2, none⟩ = some (.int .i64 e.wt) := by
  obtain ⟨ad, x, y, z, h1, h2, h3, h4, h5, h6⟩ := h.getB hb hk
  exact ⟨ad, ⟨x, y, z⟩, h1, h2, h3.out, h4, h5, h6⟩

end Go.Proofs.Ythjicnddfjpnjaa
