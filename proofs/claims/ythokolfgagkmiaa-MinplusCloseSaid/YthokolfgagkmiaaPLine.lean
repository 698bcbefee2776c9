/-
  PLAIN: a bucket's line.
-/
import Derived.Test.YthokolfgagkmiaaPBucket
namespace Go.Proofs.Ythokolfgagkmiaa
open Go.RowKit
set_option linter.unusedSimpArgs false
set_option linter.unusedVariables false

theorem own_below {w w' : World} {B e size n : Nat} {v : Value} {xs : List Value} (h : w.ownsRow B e size v n xs) (hb : Below w.heap.size w w') : w'.ownsRow B e size v n xs := by
  refine ⟨h.1, ?_⟩
  rcases h.2 with hn | ⟨g, cap, cur, rfl, hg, hgg, rest⟩
  · exact .inl hn
  · exact .inr ⟨g, cap, cur, rfl, hg, by rw [hb.block g (Array.getElem?_eq_some_iff.1 hgg).1]; exact hgg, rest⟩
/-- the line at tick k -/
def lnB (R B : Int) : Nat → Int
  | 0 => 0
  | j + 1 => B + j * minB R B
def lineB (R B : Int) (N : Nat) : List Int := (List.range N).map (lnB R B)
theorem lineB_len (R B : Int) (N : Nat) : (lineB R B N).length = N := by simp [lineB]
theorem lineB_get {R B : Int} {N k : Nat} (h : k < N) : lnB R B k = (lineB R B N).getD k 0 := by
  rw [List.getD_eq_getElem?_getD]; simp [lineB, List.getElem?_range, h]
/-- how many ticks are asked for -/
def Ticks (n : Int) (N : Nat) : Prop := (n < 0 ∧ N = 0) ∨ (0 ≤ n ∧ n ≤ 300 ∧ (N : Int) = n) ∨ (300 < n ∧ N = 300)
theorem ticks_ex (n : Int) : ∃ N, Ticks n N := by
  rcases (show n < 0 ∨ (0 ≤ n ∧ n ≤ 300) ∨ 300 < n by omega) with h | ⟨h1, h2⟩ | h
  · exact ⟨0, .inl ⟨h, rfl⟩⟩
  · exact ⟨n.toNat, .inr (.inl ⟨h1, h2, by omega⟩)⟩
  · exact ⟨300, .inr (.inr ⟨h, rfl⟩)⟩
theorem ticks_lim {n : Int} {N : Nat} (h : Ticks n N) : N ≤ 300 := by unfold Ticks at h; omega
theorem mul_bounds0 {R B : Int} (hR : 0 ≤ R ∧ R ≤ 1099511627776) (hB : 0 ≤ B ∧ B ≤ 1099511627776) (j : Nat) : 0 ≤ (j : Int) * minB R B ∧ (j : Int) * minB R B ≤ j * 1099511627776 := by
  have h0 : 0 ≤ minB R B := by unfold minB; split <;> omega
  have h1 : minB R B ≤ 1099511627776 := by unfold minB; split <;> omega
  exact ⟨Int.mul_nonneg (by omega) h0, Int.mul_le_mul_of_nonneg_left h1 (by omega)⟩
theorem lnB_step (R B : Int) (k : Nat) : lnB R B (k + 1 + 1) = lnB R B (k + 1) + minB R B := by
  simp only [lnB]; rw [Int.natCast_succ, Int.add_mul, Int.one_mul]; omega
theorem lnB_bounds {R B : Int} (hR : 0 ≤ R ∧ R ≤ 1099511627776) (hB : 0 ≤ B ∧ B ≤ 1099511627776) (k : Nat) : 0 ≤ lnB R B k ∧ lnB R B k ≤ k * 1099511627776 := by
  cases k with
  | zero => simp [lnB]
  | succ j => have := mul_bounds0 hR hB j; simp only [lnB]; omega

end Go.Proofs.Ythokolfgagkmiaa
