/-
  Lemmas and walks for the statement: SOf.
-/
import Derived.Test.YtjjikhaaimfneaaGreatDoorU33
import Derived.Test.YtjjikhaaimfneaaGreatDoorU22
import Derived.Test.YtjjikhaaimfneaaGreatDoorU34
import Derived.Maps.AppendAt
import Derived.Deep.LoopGhost
import Derived.Deep.DeepCutAuto
namespace Go.Proofs.YtjjikhaaimfneaaGreatDoor
open Go.RowKit Go.Shelf
set_option linter.unusedSimpArgs false
set_option linter.unusedVariables false
attribute [local go_sem] iteMaxN iteMax
end Go.Proofs.YtjjikhaaimfneaaGreatDoor
