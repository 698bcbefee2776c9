/-
  PLAIN: a queue (chapter 7).
-/
import Derived.Test.YtdlljemabbccjaaPBucket
namespace Go.Proofs.Ytdlljemabbccjaa
open Go.RowKit
set_option linter.unusedSimpArgs false
set_option linter.unusedVariables false

/-- what waits ahead of tick k -/
def qW (r m : Int) (xs : List Int) : Nat → Int
  | 0 => 0
  | k + 1 => qW r m xs k + xs.getD k 0 - min (qW r m xs k + xs.getD k 0) r - max (qW r m xs k + xs.getD k 0 - min (qW r m xs k + xs.getD k 0) r - m) 0
def qG (r m : Int) (xs : List Int) (k : Nat) : Int := min (qW r m xs k + xs.getD k 0) r
def qL (r m : Int) (xs : List Int) (k : Nat) : Int := max (qW r m xs k + xs.getD k 0 - min (qW r m xs k + xs.getD k 0) r - m) 0
def goL (r m : Int) (xs : List Int) : List Int := (List.range xs.length).map (qG r m xs)
def loL (r m : Int) (xs : List Int) : List Int := (List.range xs.length).map (qL r m xs)
def waL (r m : Int) (xs : List Int) : List Int := (List.range xs.length).map fun (k : Nat) => qW r m xs (k + 1)
theorem goL_len (r m : Int) (xs : List Int) : (goL r m xs).length = xs.length := by simp [goL]
theorem loL_len (r m : Int) (xs : List Int) : (loL r m xs).length = xs.length := by simp [loL]
theorem waL_len (r m : Int) (xs : List Int) : (waL r m xs).length = xs.length := by simp [waL]
theorem goL_get {r m : Int} {xs : List Int} {k : Nat} (h : k < xs.length) : qG r m xs k = (goL r m xs).getD k 0 := by
  rw [List.getD_eq_getElem?_getD]; simp [goL, List.getElem?_range, h]
theorem loL_get {r m : Int} {xs : List Int} {k : Nat} (h : k < xs.length) : qL r m xs k = (loL r m xs).getD k 0 := by
  rw [List.getD_eq_getElem?_getD]; simp [loL, List.getElem?_range, h]
theorem waL_get {r m : Int} {xs : List Int} {k : Nat} (h : k < xs.length) : qW r m xs (k + 1) = (waL r m xs).getD k 0 := by
  rw [List.getD_eq_getElem?_getD]; simp [waL, List.getElem?_range, h]
theorem qW_b {r m : Int} {xs : List Int} (hr : RightB r m xs) : ∀ k, 0 ≤ qW r m xs k ∧ qW r m xs k ≤ m
  | 0 => by have := hr.2.1; simp [qW]; omega
  | k + 1 => by
    have ih := qW_b hr k
    have hx := small_getD hr.2.2.2 k
    have h1 := hr.1
    have h2 := hr.2.1
    simp only [qW]; omega

end Go.Proofs.Ytdlljemabbccjaa
