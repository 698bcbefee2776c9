/-
  Lemmas and walks for the statement: PCurve.
-/
import Derived.Test.YtjjikhaaimfneaaGreatDoorU29
import Derived.Test.YtjjikhaaimfneaaGreatDoorU01
namespace Go.Proofs.YtjjikhaaimfneaaGreatDoor
open Go.RowKit
set_option linter.unusedSimpArgs false
set_option linter.unusedVariables false
def preI (xs : List Int) (k : Nat) : Int := (xs.take k).foldl plusI 0
def ofI (xs : List Int) : List Int := (List.range (xs.length + 1)).map (preI xs)
theorem of_len (xs : List Int) : (ofI xs).length = xs.length + 1 := by simp [ofI]
theorem of_get (xs : List Int) (k : Nat) (h : k ≤ xs.length) : preI xs k = (ofI xs).getD k 0 := by
 rw [List.getD_eq_getElem?_getD]; simp [ofI, List.getElem?_range, Nat.lt_succ_of_le h]
theorem pre_zero (xs : List Int) : preI xs 0 = 0 := rfl
theorem pre_succ (xs : List Int) (k : Nat) (x : Int) (h : xs[k]? = some x) : plusI (preI xs k) x = preI xs (k + 1) := by
 have hk := (List.getElem?_eq_some_iff.1 h).1
 have e : xs.take (k + 1) = xs.take k ++ [x] := by
  rw [List.take_succ_eq_append_getElem hk]
  rw [List.getElem?_eq_getElem hk] at h; injection h with h; rw [h]
 unfold preI; rw [e, List.foldl_append]; rfl
def stepsI (xs : List Int) : List Int := (List.range (xs.length - 1)).map fun k => lessI (xs.getD (k + 1) 0) (xs.getD k 0)
end Go.Proofs.YtjjikhaaimfneaaGreatDoor
