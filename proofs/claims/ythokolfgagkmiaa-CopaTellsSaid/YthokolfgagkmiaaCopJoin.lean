/-
  THE WALK of CopaTells, its callees by their contracts.
-/
import Derived.Test.YthokolfgagkmiaaCopLaw
namespace Go.Proofs.Ythokolfgagkmiaa
open Go.RowKit
set_option linter.unusedSimpArgs false
set_option linter.unusedVariables false

theorem clip_cases (m : Int) : (m < 1 ∧ clipW m = 1) ∨ (12 < m ∧ clipW m = 12) ∨ (1 ≤ m ∧ m ≤ 12 ∧ clipW m = m) := by
  unfold clipW
  rcases (show m < 1 ∨ 12 < m ∨ (1 ≤ m ∧ m ≤ 12) by omega) with h | h | ⟨h, h'⟩
  · exact .inl ⟨h, by rw [if_pos h]⟩
  · exact .inr (.inl ⟨h, by rw [if_neg (by omega), if_pos h]⟩)
  · exact .inr (.inr ⟨h, h', by rw [if_neg (by omega), if_neg (by omega)]⟩)

theorem copWalk (k n b y s p : Int) (hw : ∀ x ∈ [k, n, b, y, s, p], (Lit.int .i64 x).wf = true) (d : Int) (wd : (Lit.int .i64 d).wf = true) (m : Int) (wm : (Lit.int .i64 m).wf = true) (w : World) :
    Calls Try.prog 5 #[.agg #[.int .i64 k, .int .i64 n, .int .i64 b, .int .i64 y, .int .i64 s, .int .i64 p], .int .i64 d, .int .i64 m] w fun e w' => e = .returned (.bool true) ∧ Below w.heap.size w w' := by
  have h3 := copRight_any k n b y s p
  have h4 := lRight_any k n b y s p
  have h5 := copNew_any m
  cases hr : copRight ⟨k, n, b, y, s, p⟩ with
  | false => exact cop_walk k n b y s p d m _ _ _ _ _ _ _ _ _ (clip_cases m) (copNext_bad k n b y s p d hr) (lNext_bad k n b y s p d hr) h3 h4 h5 w
  | true =>
    by_cases hd : d < 0 ∨ 1099511627776 < d
    · exact cop_walk k n b y s p d m _ _ _ _ _ _ _ _ _ (clip_cases m) (copNext_far k n b y s p d hr hd) (lNext_far k n b y s p d hr hd) h3 h4 h5 w
    · have g0 : 0 ≤ d := by omega
      have g1 : d ≤ 1099511627776 := by omega
      have g2 := hr
      simp only [copRight, decide_eq_true_eq] at g2
      rcases (show 2 * (1 + d) < n * (d - lowBase b d) ∨ n * (d - lowBase b d) ≤ 2 * (1 + d) by omega) with hc | hc
      · rcases (show ¬ y = -1 ∨ (y = -1 ∧ s = 0) ∨ (y = -1 ∧ s = 1) ∨ (y = -1 ∧ s = 2) ∨ (y = -1 ∧ s = 3) ∨ (y = -1 ∧ s = 4) by omega) with hy | ⟨hy, hs⟩ | ⟨hy, hs⟩ | ⟨hy, hs⟩ | ⟨hy, hs⟩ | ⟨hy, hs⟩
        · exact cop_walk k n b y s p d m _ _ _ _ _ _ _ _ _ (clip_cases m) (copNext_dn_ne k n b y s p d hr g0 g1 hc hy) (lNext_dn_ne k n b y s p d hr g0 g1 hc hy) h3 h4 h5 w
        · exact cop_walk k n b y s p d m _ _ _ _ _ _ _ _ _ (clip_cases m) (copNext_dn_s0 k n b y s p d hr g0 g1 hc hy hs) (lNext_dn_s0 k n b y s p d hr g0 g1 hc hy hs) h3 h4 h5 w
        · exact cop_walk k n b y s p d m _ _ _ _ _ _ _ _ _ (clip_cases m) (copNext_dn_s1 k n b y s p d hr g0 g1 hc hy hs) (lNext_dn_s1 k n b y s p d hr g0 g1 hc hy hs) h3 h4 h5 w
        · exact cop_walk k n b y s p d m _ _ _ _ _ _ _ _ _ (clip_cases m) (copNext_dn_s2 k n b y s p d hr g0 g1 hc hy hs) (lNext_dn_s2 k n b y s p d hr g0 g1 hc hy hs) h3 h4 h5 w
        · exact cop_walk k n b y s p d m _ _ _ _ _ _ _ _ _ (clip_cases m) (copNext_dn_s3 k n b y s p d hr g0 g1 hc hy hs) (lNext_dn_s3 k n b y s p d hr g0 g1 hc hy hs) h3 h4 h5 w
        · exact cop_walk k n b y s p d m _ _ _ _ _ _ _ _ _ (clip_cases m) (copNext_dn_s4 k n b y s p d hr g0 g1 hc hy hs) (lNext_dn_s4 k n b y s p d hr g0 g1 hc hy hs) h3 h4 h5 w
      · rcases (show ¬ y = 1 ∨ (y = 1 ∧ s = 0) ∨ (y = 1 ∧ s = 1) ∨ (y = 1 ∧ s = 2) ∨ (y = 1 ∧ s = 3) ∨ (y = 1 ∧ s = 4) by omega) with hy | ⟨hy, hs⟩ | ⟨hy, hs⟩ | ⟨hy, hs⟩ | ⟨hy, hs⟩ | ⟨hy, hs⟩
        · exact cop_walk k n b y s p d m _ _ _ _ _ _ _ _ _ (clip_cases m) (copNext_up_ne k n b y s p d hr g0 g1 hc hy) (lNext_up_ne k n b y s p d hr g0 g1 hc hy) h3 h4 h5 w
        · exact cop_walk k n b y s p d m _ _ _ _ _ _ _ _ _ (clip_cases m) (copNext_up_s0 k n b y s p d hr g0 g1 hc hy hs) (lNext_up_s0 k n b y s p d hr g0 g1 hc hy hs) h3 h4 h5 w
        · exact cop_walk k n b y s p d m _ _ _ _ _ _ _ _ _ (clip_cases m) (copNext_up_s1 k n b y s p d hr g0 g1 hc hy hs) (lNext_up_s1 k n b y s p d hr g0 g1 hc hy hs) h3 h4 h5 w
        · exact cop_walk k n b y s p d m _ _ _ _ _ _ _ _ _ (clip_cases m) (copNext_up_s2 k n b y s p d hr g0 g1 hc hy hs) (lNext_up_s2 k n b y s p d hr g0 g1 hc hy hs) h3 h4 h5 w
        · exact cop_walk k n b y s p d m _ _ _ _ _ _ _ _ _ (clip_cases m) (copNext_up_s3 k n b y s p d hr g0 g1 hc hy hs) (lNext_up_s3 k n b y s p d hr g0 g1 hc hy hs) h3 h4 h5 w
        · exact cop_walk k n b y s p d m _ _ _ _ _ _ _ _ _ (clip_cases m) (copNext_up_s4 k n b y s p d hr g0 g1 hc hy hs) (lNext_up_s4 k n b y s p d hr g0 g1 hc hy hs) h3 h4 h5 w

end Go.Proofs.Ythokolfgagkmiaa
