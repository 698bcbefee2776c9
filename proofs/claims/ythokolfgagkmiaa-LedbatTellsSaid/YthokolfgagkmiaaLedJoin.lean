/-
  THE WALK of LedbatTells, its callees by their contracts.
-/
import Derived.Test.YthokolfgagkmiaaLedLaw
namespace Go.Proofs.Ythokolfgagkmiaa
open Go.RowKit
set_option linter.unusedSimpArgs false
set_option linter.unusedVariables false

theorem clip_cases (m : Int) : (m < 1 ∧ clipW m = 1) ∨ (12 < m ∧ clipW m = 12) ∨ (1 ≤ m ∧ m ≤ 12 ∧ clipW m = m) := by
  unfold clipW
  rcases (show m < 1 ∨ 12 < m ∨ (1 ≤ m ∧ m ≤ 12) by omega) with h | h | ⟨h, h'⟩
  · exact .inl ⟨h, by rw [if_pos h]⟩
  · exact .inr (.inl ⟨h, by rw [if_neg (by omega), if_pos h]⟩)
  · exact .inr (.inr ⟨h, h', by rw [if_neg (by omega), if_neg (by omega)]⟩)

theorem ledWalk (k n b y s p : Int) (hw : ∀ x ∈ [k, n, b, y, s, p], (Lit.int .i64 x).wf = true) (d : Int) (wd : (Lit.int .i64 d).wf = true) (m : Int) (wm : (Lit.int .i64 m).wf = true) (w : World) :
    Calls Try.prog 3 #[.agg #[.int .i64 k, .int .i64 n, .int .i64 b, .int .i64 y, .int .i64 s, .int .i64 p], .int .i64 d, .int .i64 m] w fun e w' => e = .returned (.bool true) ∧ Below w.heap.size w w' := by
  have h3 := ledRight_any k n b y s p
  have h4 := mRight_any k n b y s p
  have h5 := ledNew_any m
  cases hr : ledRight ⟨k, n, b, y, s, p⟩ with
  | false => exact led_walk k n b y s p d m _ _ _ _ _ _ _ _ _ (clip_cases m) (ledNext_bad k n b y s p d hr) (mNext_bad k n b y s p d hr) h3 h4 h5 w
  | true =>
    by_cases hd : d < 0 ∨ 1099511627776 < d
    · exact led_walk k n b y s p d m _ _ _ _ _ _ _ _ _ (clip_cases m) (ledNext_far k n b y s p d hr hd) (mNext_far k n b y s p d hr hd) h3 h4 h5 w
    · have g0 : 0 ≤ d := by omega
      have g1 : d ≤ 1099511627776 := by omega
      have g2 := hr
      simp only [ledRight, decide_eq_true_eq] at g2
      have g3 : 0 ≤ d - lowBase b d := by unfold lowBase; omega
      have key := ledNext_ok k n b y s p d hr g0 g1
      rcases (show d - lowBase b d = 0 ∨ d - lowBase b d = 1 ∨ d - lowBase b d = 2 ∨ d - lowBase b d = 3 ∨ d - lowBase b d = 4 ∨ 5 ≤ d - lowBase b d by omega) with he | he | he | he | he | he
      · exact led_walk k n b y s p d m _ _ _ _ _ _ _ _ _ (clip_cases m) key (mNext_up2 k n b y s p d _ hr g0 g1 rfl he) h3 h4 h5 w
      · exact led_walk k n b y s p d m _ _ _ _ _ _ _ _ _ (clip_cases m) key (mNext_up1 k n b y s p d _ hr g0 g1 rfl he) h3 h4 h5 w
      · exact led_walk k n b y s p d m _ _ _ _ _ _ _ _ _ (clip_cases m) key (mNext_stay k n b y s p d _ hr g0 g1 rfl he) h3 h4 h5 w
      · exact led_walk k n b y s p d m _ _ _ _ _ _ _ _ _ (clip_cases m) key (mNext_dn1 k n b y s p d _ hr g0 g1 rfl he) h3 h4 h5 w
      · exact led_walk k n b y s p d m _ _ _ _ _ _ _ _ _ (clip_cases m) key (mNext_dn2a k n b y s p d _ hr g0 g1 rfl he) h3 h4 h5 w
      · exact led_walk k n b y s p d m _ _ _ _ _ _ _ _ _ (clip_cases m) key (mNext_dn2 k n b y s p d _ hr g0 g1 rfl he) h3 h4 h5 w

end Go.Proofs.Ythokolfgagkmiaa
