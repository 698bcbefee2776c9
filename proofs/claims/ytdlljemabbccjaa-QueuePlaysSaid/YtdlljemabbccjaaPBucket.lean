/-
  PLAIN: buckets (chapter of F). What a bucket lets pass is what the reference lets pass.
-/
import Derived.Test.YtdlljemabbccjaaBRight
namespace Go.Proofs.Ytdlljemabbccjaa
open Go.RowKit
set_option linter.unusedSimpArgs false
set_option linter.unusedVariables false

def minB (a b : Int) : Int := if a ≤ b then a else b
theorem minB_l {a b : Int} (h : a ≤ b) : minB a b = a := if_pos h
theorem minB_r {a b : Int} (h : b < a) : minB a b = b := if_neg (by omega)
/-- tokens, waits -/
def stB (R B : Int) (xs : List Int) : Nat → Int × Int
  | 0 => (B, 0)
  | k + 1 => (minB ((stB R B xs k).1 - minB ((stB R B xs k).2 + xs.getD k 0) (stB R B xs k).1 + R) B, (stB R B xs k).2 + xs.getD k 0 - minB ((stB R B xs k).2 + xs.getD k 0) (stB R B xs k).1)
def nowB (R B : Int) (xs : List Int) (k : Nat) : Int := minB ((stB R B xs k).2 + xs.getD k 0) (stB R B xs k).1
def passB (R B : Int) (xs : List Int) : List Int := (List.range xs.length).map (nowB R B xs)
theorem passB_len (R B : Int) (xs : List Int) : (passB R B xs).length = xs.length := by simp [passB]
theorem passB_get {R B : Int} {xs : List Int} {k : Nat} (h : k < xs.length) : nowB R B xs k = (passB R B xs).getD k 0 := by
  rw [List.getD_eq_getElem?_getD]; simp [passB, List.getElem?_range, h]
theorem st_succ1 (R B : Int) (xs : List Int) (k : Nat) : (stB R B xs (k + 1)).1 = minB ((stB R B xs k).1 - nowB R B xs k + R) B := rfl
theorem st_succ2 (R B : Int) (xs : List Int) (k : Nat) : (stB R B xs (k + 1)).2 = (stB R B xs k).2 + xs.getD k 0 - nowB R B xs k := rfl
theorem small_getD {xs : List Int} (h : Small xs) (k : Nat) : 0 ≤ xs.getD k 0 ∧ xs.getD k 0 ≤ 1099511627776 := by
  rcases Nat.lt_or_ge k xs.length with hk | hk
  · rw [List.getD_eq_getElem?_getD, List.getElem?_eq_getElem hk]
    exact h _ (List.getElem_mem hk)
  · rw [List.getD_eq_getElem?_getD, List.getElem?_eq_none hk]; simp
theorem st_bounds {R B : Int} {xs : List Int} (hr : RightB R B xs) : ∀ k, 0 ≤ (stB R B xs k).1 ∧ (stB R B xs k).1 ≤ B ∧ 0 ≤ (stB R B xs k).2 ∧ (stB R B xs k).2 ≤ k * 1099511627776
  | 0 => by have := hr.2.1; simp [stB]; omega
  | k + 1 => by
    obtain ⟨h1, h2, h3, h4⟩ := st_bounds hr k
    have hx := small_getD hr.2.2.2 k
    have hR := hr.1
    have hB := hr.2.1
    rw [st_succ1, st_succ2]
    unfold nowB minB
    refine ⟨?_, ?_, ?_, ?_⟩ <;> (repeat' split) <;> omega
theorem now_bounds {R B : Int} {xs : List Int} (hr : RightB R B xs) (k : Nat) : 0 ≤ nowB R B xs k ∧ nowB R B xs k ≤ (stB R B xs k).1 ∧ nowB R B xs k ≤ B := by
  obtain ⟨h1, h2, h3, h4⟩ := st_bounds hr k
  have hx := small_getD hr.2.2.2 k
  unfold nowB minB
  refine ⟨?_, ?_, ?_⟩ <;> split <;> omega
/-- what went at the j ticks before k -/
def sB (R B : Int) (xs : List Int) (k : Nat) : Nat → Int
  | 0 => 0
  | j + 1 => sB R B xs k j + nowB R B xs (k - 1 - j)
theorem sB_shift (R B : Int) (xs : List Int) (k : Nat) : ∀ j, sB R B xs (k + 1) (j + 1) = nowB R B xs k + sB R B xs k j
  | 0 => by simp [sB]
  | j + 1 => by
    have := sB_shift R B xs k j
    rw [sB, this, sB]
    rw [show k + 1 - 1 - (j + 1) = k - 1 - j by omega]; omega
theorem sB_bounds {R B : Int} {xs : List Int} (hr : RightB R B xs) (k : Nat) : ∀ j, 0 ≤ sB R B xs k j ∧ sB R B xs k j ≤ j * 1099511627776
  | 0 => by simp [sB]
  | j + 1 => by
    have h1 := sB_bounds hr k j
    have h2 := now_bounds hr (k - 1 - j)
    have hB := hr.2.1
    rw [sB]; omega
def lB (R B : Int) (xs : List Int) (k j : Nat) : Int := B + j * minB R B - sB R B xs k j
theorem lB_zero (R B : Int) (xs : List Int) (k : Nat) : lB R B xs k 0 = B := by simp [lB, sB]
theorem lB_shift (R B : Int) (xs : List Int) (k j : Nat) : lB R B xs (k + 1) (j + 1) = lB R B xs k j + minB R B - nowB R B xs k := by
  unfold lB
  rw [sB_shift, show ((j + 1 : Nat) : Int) * minB R B = j * minB R B + minB R B by rw [Int.natCast_succ, Int.add_mul, Int.one_mul]]
  omega
theorem tok_le {R B : Int} {xs : List Int} (hr : RightB R B xs) : ∀ k j, j ≤ k → (stB R B xs k).1 ≤ lB R B xs k j
  | k, 0, _ => by rw [lB_zero]; exact (st_bounds hr k).2.1
  | k + 1, j + 1, h => by
    have ih := tok_le hr k j (by omega)
    have h2 := now_bounds hr k
    rw [lB_shift, st_succ1]
    unfold minB
    (repeat' split) <;> omega
theorem tok_is {R B : Int} {xs : List Int} (hr : RightB R B xs) : ∀ k, ∃ j, j ≤ k ∧ (stB R B xs k).1 = lB R B xs k j
  | 0 => ⟨0, Nat.le_refl _, by rw [lB_zero]; rfl⟩
  | k + 1 => by
    obtain ⟨j, hj, he⟩ := tok_is hr k
    have h2 := now_bounds hr k
    rcases (show B < (stB R B xs k).1 - nowB R B xs k + R ∨ (stB R B xs k).1 - nowB R B xs k + R ≤ B by omega) with h | h
    · exact ⟨0, by omega, by rw [st_succ1, lB_zero, minB_r h]⟩
    · refine ⟨j + 1, by omega, ?_⟩
      rw [st_succ1, lB_shift, minB_l h, minB_l (show R ≤ B by omega)]
      omega
def hkB (R B : Int) (xs : List Int) (k : Nat) (w : Int) : Nat → Int
  | 0 => w
  | j + 1 => minB (hkB R B xs k w j) (lB R B xs k j)
theorem hkB_le (R B : Int) (xs : List Int) (k : Nat) (w : Int) : ∀ j, hkB R B xs k w j ≤ w ∧ ∀ i, i < j → hkB R B xs k w j ≤ lB R B xs k i
  | 0 => ⟨Int.le_refl _, fun i h => absurd h (by omega)⟩
  | j + 1 => by
    obtain ⟨h1, h2⟩ := hkB_le R B xs k w j
    rw [hkB]
    refine ⟨by unfold minB; split <;> omega, fun i hi => ?_⟩
    rcases Nat.lt_or_eq_of_le (Nat.lt_succ_iff.1 hi) with h | rfl
    · have := h2 i h
      unfold minB; split <;> omega
    · unfold minB; split <;> omega
theorem hkB_is (R B : Int) (xs : List Int) (k : Nat) (w : Int) : ∀ j, hkB R B xs k w j = w ∨ ∃ i, i < j ∧ hkB R B xs k w j = lB R B xs k i
  | 0 => .inl rfl
  | j + 1 => by
    rw [hkB]
    rcases (show hkB R B xs k w j ≤ lB R B xs k j ∨ lB R B xs k j < hkB R B xs k w j by omega) with h | h
    · rw [minB_l h]
      rcases hkB_is R B xs k w j with h1 | ⟨i, hi, h1⟩
      · exact .inl h1
      · exact .inr ⟨i, by omega, h1⟩
    · rw [minB_r h]; exact .inr ⟨j, by omega, rfl⟩
theorem hkB_all {R B : Int} {xs : List Int} (hr : RightB R B xs) (k : Nat) : hkB R B xs k ((stB R B xs k).2 + xs.getD k 0) (k + 1) = nowB R B xs k := by
  obtain ⟨h1, h2⟩ := hkB_le R B xs k ((stB R B xs k).2 + xs.getD k 0) (k + 1)
  obtain ⟨j, hj, he⟩ := tok_is hr k
  have h3 := h2 j (by omega)
  have hl := hkB_is R B xs k ((stB R B xs k).2 + xs.getD k 0) (k + 1)
  unfold nowB minB
  rcases hl with h | ⟨i, hi, h⟩
  · split <;> omega
  · have := tok_le hr k i (by omega)
    split <;> omega
theorem hkB_bounds {R B : Int} {xs : List Int} (hr : RightB R B xs) {k j : Nat} (hj : j ≤ k + 1) : 0 ≤ hkB R B xs k ((stB R B xs k).2 + xs.getD k 0) j ∧ hkB R B xs k ((stB R B xs k).2 + xs.getD k 0) j ≤ (k + 1) * 1099511627776 := by
  have h1 := (hkB_le R B xs k ((stB R B xs k).2 + xs.getD k 0) j).1
  obtain ⟨a1, a2, a3, a4⟩ := st_bounds hr k
  have hx := small_getD hr.2.2.2 k
  refine ⟨?_, by omega⟩
  rcases hkB_is R B xs k ((stB R B xs k).2 + xs.getD k 0) j with h | ⟨i, hi, h⟩
  · omega
  · have := tok_le hr k i (by omega)
    omega
theorem mul_bounds {R B : Int} {xs : List Int} (hr : RightB R B xs) (j : Nat) : 0 ≤ (j : Int) * minB R B ∧ (j : Int) * minB R B ≤ j * 1099511627776 := by
  have h0 : 0 ≤ minB R B := by have := hr.1; have := hr.2.1; unfold minB; split <;> omega
  have h1 : minB R B ≤ 1099511627776 := by have := hr.1; have := hr.2.1; unfold minB; split <;> omega
  exact ⟨Int.mul_nonneg (by omega) h0, Int.mul_le_mul_of_nonneg_left h1 (by omega)⟩

end Go.Proofs.Ytdlljemabbccjaa
