/-
  LEMMA: a value of structs and arrays of numbers is equal to itself.
-/
import Derived.Test.YtmmjopmffpfccaaSl
import Derived.Test.YtmmjopmffpfccaaChecked
import Derived.DeepKeys
import Derived.Laws.StructEq
namespace Go.Proofs.Ytmmjopmffpfccaa
open Go.RowKit
set_option linter.unusedSimpArgs false
set_option linter.unusedVariables false

theorem eqSelf {m : Nat} {t : TypeId} {x : Value} {D : Nat} {l : List Lit} (hm : m ≤ 10000) (hk : Try.prog.keyTypeAt m t = true) (hf : x.formed Try.prog t = true) (hl : Try.prog.keyLits D t x.cells.toList = some l) (w : World) :
    (Op.equalIn 10000 t x x).run Try.prog w = .ok true w := by
  have := run_equalIn_deep (P := Try.prog) (10000 - m) m t hk w D D x x l l hf hf hl hl
  rw [show 10000 - m + m = 10000 by omega] at this
  obtain ⟨r, hr, hi⟩ := this
  rw [hr, hi.2 rfl]
theorem cellsInt : Try.prog.cellsOf 3 = 1 := by kernel_rfl
theorem cellsPair : Try.prog.cellsOf 22 = 2 := by kernel_rfl
theorem cellsRound : Try.prog.cellsOf 34 = 6 := by kernel_rfl
theorem litsInt {x : Int} {D : Nat} (h : (Lit.int .i64 x).wf = true) : Try.prog.keyLits (D + 1) 3 [.int .i64 x] = some [.int .i64 x] := by
  simp only [Program.keyLits, Try.underlying3, h, and_self, if_true]
theorem litsPair {x y : Int} {D : Nat} (h : (Lit.int .i64 x).wf = true) (h' : (Lit.int .i64 y).wf = true) : Try.prog.keyLits (D + 1 + 1) 22 [.int .i64 x, .int .i64 y] = some [.int .i64 x, .int .i64 y] := by
  unfold Program.keyLits
  simp only [Try.underlying22]
  simp [cellsInt, cellsPair, List.range_succ, litsInt h, litsInt h']
theorem litsRound {x0 x1 x2 x3 x4 x5 : Int} {D : Nat} (h0 : (Lit.int .i64 x0).wf = true) (h1 : (Lit.int .i64 x1).wf = true) (h2 : (Lit.int .i64 x2).wf = true) (h3 : (Lit.int .i64 x3).wf = true) (h4 : (Lit.int .i64 x4).wf = true) (h5 : (Lit.int .i64 x5).wf = true) :
    Try.prog.keyLits (D + 1 + 1 + 1) 34 [.int .i64 x0, .int .i64 x1, .int .i64 x2, .int .i64 x3, .int .i64 x4, .int .i64 x5] = some [.int .i64 x0, .int .i64 x1, .int .i64 x2, .int .i64 x3, .int .i64 x4, .int .i64 x5] := by
  unfold Program.keyLits
  simp only [Try.underlying34]
  simp [cellsPair, cellsRound, litsPair h0 h1, litsPair h2 h3, litsPair h4 h5]
set_option maxRecDepth 100000 in
theorem eqRound {x0 x1 x2 x3 x4 x5 : Int} (h0 : (Lit.int .i64 x0).wf = true) (h1 : (Lit.int .i64 x1).wf = true) (h2 : (Lit.int .i64 x2).wf = true) (h3 : (Lit.int .i64 x3).wf = true) (h4 : (Lit.int .i64 x4).wf = true) (h5 : (Lit.int .i64 x5).wf = true) (w : World) : (Op.equalIn 10000 34 (.agg #[.int .i64 x0, .int .i64 x1, .int .i64 x2, .int .i64 x3, .int .i64 x4, .int .i64 x5]) (.agg #[.int .i64 x0, .int .i64 x1, .int .i64 x2, .int .i64 x3, .int .i64 x4, .int .i64 x5])).run Try.prog w = .ok true w :=
  eqSelf (m := 4) (D := 3 + 1 + 1 + 1) (by omega) (by kernel_rfl) (by kernel_rfl) (litsRound h0 h1 h2 h3 h4 h5) w
set_option maxRecDepth 100000 in
theorem eqPair {y0 y1 : Int} (h0 : (Lit.int .i64 y0).wf = true) (h1 : (Lit.int .i64 y1).wf = true) (w : World) : (Op.equalIn 10000 22 (.agg #[.int .i64 y0, .int .i64 y1]) (.agg #[.int .i64 y0, .int .i64 y1])).run Try.prog w = .ok true w :=
  eqSelf (m := 4) (D := 3 + 1 + 1 + 1) (by omega) (by kernel_rfl) (by kernel_rfl) (litsPair h0 h1) w

end Go.Proofs.Ytmmjopmffpfccaa
