/-
  PLAIN: curves (chapter 4). No program in sight.
-/
import Derived.Test.YtdlljemabbccjaaPNum
import Derived.Test.YtdlljemabbccjaaSl
namespace Go.Proofs.Ytdlljemabbccjaa
open Go.RowKit
set_option linter.unusedSimpArgs false
set_option linter.unusedVariables false

def preI (xs : List Int) (k : Nat) : Int := (xs.take k).foldl plusI 0
def ofI (xs : List Int) : List Int := (List.range (xs.length + 1)).map (preI xs)
theorem of_len (xs : List Int) : (ofI xs).length = xs.length + 1 := by simp [ofI]
theorem of_get (xs : List Int) (k : Nat) (h : k ≤ xs.length) : preI xs k = (ofI xs).getD k 0 := by
  rw [List.getD_eq_getElem?_getD]; simp [ofI, List.getElem?_range, Nat.lt_succ_of_le h]
theorem pre_zero (xs : List Int) : preI xs 0 = 0 := rfl
theorem pre_succ (xs : List Int) (k : Nat) (x : Int) (h : xs[k]? = some x) : plusI (preI xs k) x = preI xs (k + 1) := by
  have hk := (List.getElem?_eq_some_iff.1 h).1
  have e : xs.take (k + 1) = xs.take k ++ [x] := by
    rw [List.take_succ_eq_append_getElem hk]
    rw [List.getElem?_eq_getElem hk] at h; injection h with h; rw [h]
  unfold preI; rw [e, List.foldl_append]; rfl
theorem pre_take (xs : List Int) (k j : Nat) (h : j ≤ k) : preI (xs.take k) j = preI xs j := by
  unfold preI; rw [List.take_take, Nat.min_eq_left h]
def stepsI (xs : List Int) : List Int := (List.range (xs.length - 1)).map fun k => lessI (xs.getD (k + 1) 0) (xs.getD k 0)
theorem steps_len (xs : List Int) : (stepsI xs).length = xs.length - 1 := by simp [stepsI]
theorem steps_get (xs : List Int) (k : Nat) (x y : Int) (h : xs[k + 1]? = some x) (h' : xs[k]? = some y) : lessI x y = (stepsI xs).getD k 0 := by
  have hk := (List.getElem?_eq_some_iff.1 h).1
  rw [List.getD_eq_getElem?_getD]
  have e1 := getD_of h; have e2 := getD_of h'
  simp [stepsI, List.getElem?_range, show k < xs.length - 1 by omega]
  rw [← e1, ← e2]; simp

end Go.Proofs.Ytdlljemabbccjaa
