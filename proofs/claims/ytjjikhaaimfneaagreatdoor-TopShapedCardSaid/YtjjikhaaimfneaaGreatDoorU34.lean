/-
  Lemmas and walks for the statement: RegM5.
-/
import Derived.Test.YtjjikhaaimfneaaGreatDoorU32
namespace Go.Proofs.YtjjikhaaimfneaaGreatDoor
open Go Go.RowKit
set_option linter.unusedSimpArgs false
set_option linter.unusedVariables false
section
variable {P : Program} {ops : Array Oper} {Q : Exit → Act → World → Prop} {md : Region.Mode} {F : World → Prop} {c : Nat}
def lisE (t : Bool) (e : Nat) (L : Array Bool) : Array Bool := if t then L.setIfInBounds e true else L
def chkE (md : Region.Mode) (ops : Array Oper) (cs : List (Nat × Nat × Nat × Nat)) (e : Nat) (L : Array Bool) : Bool :=
 (stages cs.length).all fun st => [false, true].all fun t => (rem st == 0 && t) || !(closedB md ops (lst cs st (lisE t e L))) || (!(Region.ready md ops (lst cs st (lisE t e L))).isEmpty && (Region.ready md ops (lst cs st (lisE t e L))).all fun i => mayAt cs st i 0 || (!t && i == e))
section
variable {w0 : World} {a0 : Act} {cs : List Ch} {B : Nat}
end
end
end Go.Proofs.YtjjikhaaimfneaaGreatDoor
