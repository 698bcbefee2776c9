/-
  PLAIN: means that forget (chapter 3).
-/
import Derived.Test.YthokolfgagkmiaaPNum
import Derived.Test.YthokolfgagkmiaaSl
namespace Go.Proofs.Ythokolfgagkmiaa
open Go.RowKit
set_option linter.unusedSimpArgs false
set_option linter.unusedVariables false

def clI (x : Int) : Int := min (fitI x) 1099511627776
theorem cl_b (x : Int) : 0 ≤ clI x ∧ clI x ≤ 1099511627776 := by have := fit_ge x; unfold clI; omega
/-- the mean behind k numbers, in parts -/
def smY (xs : List Int) (s : Nat) : Nat → Int
  | 0 => 0
  | 1 => clI (xs.getD 0 0) * 65536
  | k + 2 => smY xs s (k + 1) + (clI (xs.getD (k + 1) 0) * 65536 - smY xs s (k + 1)) / 2 ^ s
def smI (xs : List Int) (s : Nat) : List Int := (List.range xs.length).map fun k => smY xs s (k + 1) / 65536
theorem sm_len (xs : List Int) (s : Nat) : (smI xs s).length = xs.length := by simp [smI]
theorem sm_get {xs : List Int} {s k : Nat} (h : k < xs.length) : smY xs s (k + 1) / 65536 = (smI xs s).getD k 0 := by
  rw [List.getD_eq_getElem?_getD]; simp [smI, List.getElem?_range, h]
theorem pow_b {s : Nat} (h : s ≤ 16) : (1 : Int) ≤ 2 ^ s ∧ (2 : Int) ^ s ≤ 65536 := by
  have h1 : 1 ≤ 2 ^ s := Nat.one_le_two_pow
  have h2 : 2 ^ s ≤ 2 ^ 16 := Nat.pow_le_pow_right (by decide) h
  have h3 : ((2 ^ s : Nat) : Int) = (2 : Int) ^ s := by simp
  omega
theorem div_b {d P : Int} (hP : 1 ≤ P) : (0 ≤ d → 0 ≤ d / P ∧ d / P ≤ d) ∧ (d ≤ 0 → d ≤ d / P ∧ d / P ≤ 0) := by
  constructor
  · intro h
    refine ⟨Int.ediv_nonneg h (by omega), ?_⟩
    have := Int.ediv_le_self P h
    omega
  · intro h
    refine ⟨?_, ?_⟩
    · rw [Int.le_ediv_iff_mul_le (by omega)]
      have := Int.mul_nonneg (show 0 ≤ -d by omega) (show 0 ≤ P - 1 by omega)
      rw [Int.mul_sub, Int.neg_mul, Int.mul_one] at this
      omega
    · have h1 : d / P < 1 := by rw [Int.ediv_lt_iff_lt_mul (by omega)]; omega
      omega
theorem sm_b {s : Nat} (xs : List Int) : ∀ k, 0 ≤ smY xs s k ∧ smY xs s k ≤ 72057594037927936
  | 0 => by simp [smY]
  | 1 => by have := cl_b (xs.getD 0 0); simp only [smY]; omega
  | k + 2 => by
    have ih := sm_b (s := s) xs (k + 1)
    have hc := cl_b (xs.getD (k + 1) 0)
    have h1 : (1 : Int) ≤ 2 ^ s := by
      have h1 : 1 ≤ 2 ^ s := Nat.one_le_two_pow
      have h3 : ((2 ^ s : Nat) : Int) = (2 : Int) ^ s := by simp
      omega
    obtain ⟨d1, d2⟩ := div_b (d := clI (xs.getD (k + 1) 0) * 65536 - smY xs s (k + 1)) h1
    simp only [smY]
    omega
/-- a rest below 0, divided by what is left above -/
theorem div_up {d P : Int} (hP : 1 ≤ P) : (-d + P - 1) / P = -(d / P) := by
  have h2 := Int.emod_nonneg d (show P ≠ 0 by omega)
  have h3 := Int.emod_lt_of_pos d (show 0 < P by omega)
  have h4 : P * (d / P) + d % P = d := Int.mul_ediv_add_emod d P
  have e : -d + P - 1 = (P - 1 - d % P) + P * (-(d / P)) := by rw [Int.mul_neg]; omega
  rw [e, Int.add_mul_ediv_left _ _ (show P ≠ 0 by omega), Int.ediv_eq_zero_of_lt (by omega) (by omega)]
  omega
def farI (xs : List Int) (s : Nat) : List Int := (List.range xs.length).map fun k => max (clI (xs.getD k 0) - (smI xs s).getD (k - 1) 0) ((smI xs s).getD (k - 1) 0 - clI (xs.getD k 0))
theorem farI_len (xs : List Int) (s : Nat) : (farI xs s).length = xs.length := by simp [farI]
theorem farI_get {xs : List Int} {s k : Nat} (h : k < xs.length) : max (clI (xs.getD k 0) - (smI xs s).getD (k - 1) 0) ((smI xs s).getD (k - 1) 0 - clI (xs.getD k 0)) = (farI xs s).getD k 0 := by
  rw [List.getD_eq_getElem?_getD]; simp [farI, List.getElem?_range, h]
theorem smI_b {xs : List Int} {s k : Nat} : 0 ≤ (smI xs s).getD k 0 ∧ (smI xs s).getD k 0 ≤ 1099511627776 := by
  by_cases h : k < xs.length
  · rw [← sm_get h]
    have := sm_b (s := s) xs (k + 1)
    omega
  · rw [List.getD_eq_getElem?_getD, List.getElem?_eq_none (by rw [sm_len]; omega)]; simp

end Go.Proofs.Ythokolfgagkmiaa
