/-
  LEMMA: rules are equal to themselves.
-/
import Derived.Test.YtjjikhaaimfneaaDoorSl
import Derived.Test.YtjjikhaaimfneaaDoorChecked
import Derived.Test.YtjjikhaaimfneaaDoorBP
import Derived.DeepKeys
import Derived.Laws.StructEq
namespace Go.Proofs.YtjjikhaaimfneaaDoor
open Go.RowKit
set_option linter.unusedSimpArgs false
set_option linter.unusedVariables false

theorem eqSelfR {m : Nat} {t : TypeId} {x : Value} {D : Nat} {l : List Lit} (hm : m ≤ 10000) (hk : Tryd.prog.keyTypeAt m t = true) (hf : x.formed Tryd.prog t = true) (hl : Tryd.prog.keyLits D t x.cells.toList = some l) (w : World) :
    (Op.equalIn 10000 t x x).run Tryd.prog w = .ok true w := by
  have := run_equalIn_deep (P := Tryd.prog) (10000 - m) m t hk w D D x x l l hf hf hl hl
  rw [show 10000 - m + m = 10000 by omega] at this
  obtain ⟨r, hr, hi⟩ := this
  rw [hr, hi.2 rfl]
theorem cellsIntR : Tryd.prog.cellsOf 3 = 1 := by kernel_rfl
theorem cellsPairR : Tryd.prog.cellsOf 22 = 2 := by kernel_rfl
theorem cellsRules : Tryd.prog.cellsOf 24 = 5 := by kernel_rfl
theorem litsIntR {x : Int} {D : Nat} (h : (Lit.int .i64 x).wf = true) : Tryd.prog.keyLits (D + 1) 3 [.int .i64 x] = some [.int .i64 x] := by
  simp only [Program.keyLits, Tryd.underlying3, h, and_self, if_true]
theorem litsPairR {x y : Int} {D : Nat} (h : (Lit.int .i64 x).wf = true) (h' : (Lit.int .i64 y).wf = true) : Tryd.prog.keyLits (D + 1 + 1) 22 [.int .i64 x, .int .i64 y] = some [.int .i64 x, .int .i64 y] := by
  unfold Program.keyLits
  simp only [Tryd.underlying22]
  simp [cellsIntR, cellsPairR, List.range_succ, litsIntR h, litsIntR h']
theorem litsRules {x0 x1 x2 x3 x4 : Int} {D : Nat} (h0 : (Lit.int .i64 x0).wf = true) (h1 : (Lit.int .i64 x1).wf = true) (h2 : (Lit.int .i64 x2).wf = true) (h3 : (Lit.int .i64 x3).wf = true) (h4 : (Lit.int .i64 x4).wf = true) :
    Tryd.prog.keyLits (D + 1 + 1 + 1) 24 [.int .i64 x0, .int .i64 x1, .int .i64 x2, .int .i64 x3, .int .i64 x4] = some [.int .i64 x0, .int .i64 x1, .int .i64 x2, .int .i64 x3, .int .i64 x4] := by
  unfold Program.keyLits
  simp only [Tryd.underlying24]
  simp [cellsPairR, cellsIntR, cellsRules, litsPairR h0 h1, litsIntR (D := D + 1) h2, litsIntR (D := D + 1) h3, litsIntR (D := D + 1) h4]
set_option maxRecDepth 100000 in
theorem eqRules {x0 x1 x2 x3 x4 : Int} (h0 : (Lit.int .i64 x0).wf = true) (h1 : (Lit.int .i64 x1).wf = true) (h2 : (Lit.int .i64 x2).wf = true) (h3 : (Lit.int .i64 x3).wf = true) (h4 : (Lit.int .i64 x4).wf = true) (w : World) : (Op.equalIn 10000 24 (.agg #[.int .i64 x0, .int .i64 x1, .int .i64 x2, .int .i64 x3, .int .i64 x4]) (.agg #[.int .i64 x0, .int .i64 x1, .int .i64 x2, .int .i64 x3, .int .i64 x4])).run Tryd.prog w = .ok true w :=
  eqSelfR (m := 4) (D := 3 + 1 + 1 + 1) (by omega) (by kernel_rfl) (by kernel_rfl) (litsRules h0 h1 h2 h3 h4) w
theorem wf_of {x : Int} (h : 0 ≤ x ∧ x ≤ 100) : (Lit.int .i64 x).wf = true := by
  simp only [Lit.wf, IntKind.min, IntKind.max, IntKind.signed, IntKind.bits, Bool.and_eq_true, decide_eq_true_eq, if_true]
  omega
theorem psays_b {s : List UInt8} {x0 x1 x2 x3 x4 e : Int} (h : PSays s x0 x1 x2 x3 x4 e) : (0 ≤ x0 ∧ x0 ≤ 100) ∧ (0 ≤ x1 ∧ x1 ≤ 100) ∧ (0 ≤ x2 ∧ x2 ≤ 100) ∧ (0 ≤ x3 ∧ x3 ≤ 100) ∧ (0 ≤ x4 ∧ x4 ≤ 100) ∧ (e = 0 ∨ e = 1) := by
  rcases h with ⟨h, _, rfl⟩ | ⟨_, rfl, rfl, rfl, rfl, rfl, rfl⟩
  · unfold ROk at h; omega
  · omega
end Go.Proofs.YtjjikhaaimfneaaDoor
