/-
  PLAIN: what keeps to a bucket.
-/
import Derived.Test.YthokolfgagkmiaaPLine
import Derived.Test.YthokolfgagkmiaaPCurve
namespace Go.Proofs.Ythokolfgagkmiaa
open Go.RowKit
set_option linter.unusedSimpArgs false
set_option linter.unusedVariables false

def psB (xs : List Int) : Nat → Int
  | 0 => 0
  | k + 1 => psB xs k + xs.getD k 0
theorem ps_bounds {xs : List Int} (h : Small xs) : ∀ k, 0 ≤ psB xs k ∧ psB xs k ≤ k * 1099511627776
  | 0 => by simp [psB]
  | k + 1 => by
    have := ps_bounds h k
    have hx := small_getD h k
    simp only [psB]; omega
theorem ps_mono {xs : List Int} (h : Small xs) (i : Nat) : ∀ j, 0 ≤ psB xs (i + j) - psB xs i ∧ psB xs (i + j) - psB xs i ≤ j * 1099511627776
  | 0 => by simp
  | j + 1 => by
    have := ps_mono h i j
    have hx := small_getD h (i + j)
    rw [show i + (j + 1) = i + j + 1 by omega]; simp only [psB]; omega
theorem pre_ps {xs : List Int} (h : Small xs) (hn : xs.length < 300) : ∀ k, k ≤ xs.length → preI xs k = psB xs k
  | 0, _ => by simp [pre_zero, psB]
  | k + 1, hk => by
    have ih := pre_ps h hn k (by omega)
    have e : xs[k]? = some (xs.getD k 0) := by rw [List.getD_eq_getElem?_getD, List.getElem?_eq_getElem (by omega)]; rfl
    have hx := small_getD h k
    have hb := ps_bounds h k
    rw [← pre_succ xs k _ e, ih]
    simp only [psB]
    unfold plusI fitI
    omega
/-- what comes in any ticks that follow one another is within the line -/
def KeepsB (R B : Int) (xs : List Int) : Prop := ∀ i k, i < k → k ≤ xs.length → psB xs k - psB xs i ≤ lnB R B (k - i)
theorem sums_get {xs : List Int} (h : Small xs) (hn : xs.length < 300) {k : Nat} {x : Int} (hk : k ≤ xs.length) (hx : (ofI xs)[k]? = some x) : x = psB xs k := by
  have := of_get xs k hk
  rw [getD_of hx, pre_ps h hn k hk] at this; exact this.symm
theorem line_get {R B : Int} {N k : Nat} {x : Int} (hk : k < N) (hx : (lineB R B N)[k]? = some x) : x = lnB R B k := by
  have := lineB_get (R := R) (B := B) hk
  rw [getD_of hx] at this; exact this.symm
theorem IntsAt.take {w : World} {a : Option Addr} {n c : Nat} {xs : List Int} (h : IntsAt w a n c xs) {k : Nat} (hk : k ≤ n) : IntsAt w a k c (xs.take k) :=
  ⟨by rw [List.length_take, h.len]; omega, by have := h.cap; omega, by have := h.lim; omega, fun h0 => by
    obtain ⟨ad, e, hlt, hc⟩ := h.2.2.2 (by omega)
    refine ⟨ad, e, hlt, fun j x hx => hc j x ?_⟩
    rw [List.getElem?_take] at hx
    split at hx
    · exact hx
    · cases hx⟩

end Go.Proofs.Ythokolfgagkmiaa
