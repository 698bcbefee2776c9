/-
  PLAIN: graphs (chapter 17).
-/
import Derived.Test.YthjicnddfjpnjaaEdge
namespace Go.Proofs.Ythjicnddfjpnjaa
open Go.RowKit
set_option linter.unusedSimpArgs false
set_option linter.unusedVariables false

/-- an edge that may be in a graph of N nodes -/
def EdgeOk (N : Int) (e : GE) : Prop := 0 ≤ e.src ∧ e.src < N ∧ 0 ≤ e.dst ∧ e.dst < N ∧ -1048576 ≤ e.wt ∧ e.wt ≤ 1048576
def GraphOk (N : Int) (es : List GE) : Prop := (0 ≤ N ∧ N ≤ 300 ∧ es.length ≤ 4800) ∧ ∀ e ∈ es, EdgeOk N e

end Go.Proofs.Ythjicnddfjpnjaa
