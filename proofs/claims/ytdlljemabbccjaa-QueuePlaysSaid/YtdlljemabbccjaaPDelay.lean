/-
  PLAIN: how late (chapter 7).
-/
import Derived.Test.YtdlljemabbccjaaPCurve
namespace Go.Proofs.Ytdlljemabbccjaa
open Go.RowKit
set_option linter.unusedSimpArgs false
set_option linter.unusedVariables false

/-- from s on, among m numbers, the first that is so; else the one behind them -/
def fnd (p : Nat → Bool) (s : Nat) : Nat → Nat
  | 0 => s
  | m + 1 => if p s = true then s else fnd p (s + 1) m
theorem fnd_eq {p : Nat → Bool} : ∀ (m s d : Nat), s ≤ d → d ≤ s + m → (∀ e, s ≤ e → e < d → p e = false) → (d < s + m → p d = true) → fnd p s m = d
  | 0, s, d, h1, h2, _, _ => by simp only [fnd]; omega
  | m + 1, s, d, h1, h2, h3, h4 => by
    simp only [fnd]
    by_cases hs : p s = true
    · rw [if_pos hs]
      rcases (show s = d ∨ s < d by omega) with h | h
      · exact h
      · rw [h3 s (by omega) h] at hs; cases hs
    · rw [if_neg hs]
      have hd : s ≠ d := fun e => hs (by rw [e]; exact h4 (by omega))
      exact fnd_eq m (s + 1) d (by omega) (by omega) (fun e h5 h6 => h3 e (by omega) h6) (fun h5 => h4 (by omega))
/-- how many ticks later all is gone that had come up to tick t + 1 -/
def dlQ (I O : List Int) (n t : Nat) : Int :=
  if fnd (fun e => decide (I.getD (t + 1) 0 ≤ O.getD e 0)) (t + 1) (n - t) = n + 1 then -1 else (fnd (fun e => decide (I.getD (t + 1) 0 ≤ O.getD e 0)) (t + 1) (n - t) : Int) - t - 1
def dlL (I O : List Int) (n : Nat) : List Int := (List.range n).map (dlQ I O n)
theorem dlL_len (I O : List Int) (n : Nat) : (dlL I O n).length = n := by simp [dlL]
theorem dlL_get {I O : List Int} {n k : Nat} (h : k < n) : dlQ I O n k = (dlL I O n).getD k 0 := by
  rw [List.getD_eq_getElem?_getD]; simp [dlL, List.getElem?_range, h]
theorem dlQ_of {I O : List Int} {n t d : Nat} (ht : t < n) (h1 : t + 1 ≤ d) (h2 : d ≤ n + 1) (h3 : ∀ e, t + 1 ≤ e → e < d → O.getD e 0 < I.getD (t + 1) 0) (h4 : d < n + 1 → I.getD (t + 1) 0 ≤ O.getD d 0) :
    dlQ I O n t = if d = n + 1 then -1 else (d : Int) - t - 1 := by
  have e : fnd (fun e => decide (I.getD (t + 1) 0 ≤ O.getD e 0)) (t + 1) (n - t) = d := fnd_eq _ _ _ h1 (by omega) (fun e h5 h6 => decide_eq_false (by have := h3 e h5 h6; omega)) (fun h5 => decide_eq_true (h4 (by omega)))
  unfold dlQ; rw [e]
theorem pre_b (xs : List Int) : ∀ k, k ≤ xs.length → 0 ≤ preI xs k ∧ preI xs k ≤ 1152921504606846976
  | 0, _ => by rw [pre_zero]; omega
  | k + 1, h => by
    have e : xs[k]? = some (xs.getD k 0) := by rw [List.getD_eq_getElem?_getD, List.getElem?_eq_getElem (by omega)]; rfl
    rw [← pre_succ xs k _ e]
    exact ⟨plus_ge _ _, plus_le _ _⟩
theorem of_mono (xs : List Int) {k : Nat} (h : k < xs.length) : (ofI xs).getD k 0 ≤ (ofI xs).getD (k + 1) 0 := by
  rw [← of_get xs k (by omega), ← of_get xs (k + 1) (by omega)]
  have e : xs[k]? = some (xs.getD k 0) := by rw [List.getD_eq_getElem?_getD, List.getElem?_eq_getElem h]; rfl
  rw [← pre_succ xs k _ e]
  have := pre_b xs k (by omega)
  have := fit_ge (xs.getD k 0)
  unfold plusI fitI at *
  omega

end Go.Proofs.Ytdlljemabbccjaa
