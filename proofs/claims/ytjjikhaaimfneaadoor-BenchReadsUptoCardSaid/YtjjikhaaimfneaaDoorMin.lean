/-
  PLAIN: min and max as the walk spells them.
-/
import Derived.Test.YtjjikhaaimfneaaDoorMem
namespace Go.Proofs.YtjjikhaaimfneaaDoor
open Go.RowKit
set_option linter.unusedSimpArgs false
set_option linter.unusedVariables false

/-- the walk's own spelling of the builtins min and max, told as Lean's: omega knows these -/
theorem iteMin (x y : Int) : (if y < x then y else x) = min x y := by omega
theorem iteMinN (x y : Nat) : (if y < x then (y : Int) else (x : Int)) = min (x : Int) (y : Int) := by split <;> omega
theorem iteMaxN (x y : Nat) : (if x < y then (y : Int) else (x : Int)) = max (x : Int) (y : Int) := by split <;> omega
theorem iteMax (x y : Int) : (if x < y then y else x) = max x y := by omega

end Go.Proofs.YtjjikhaaimfneaaDoor
