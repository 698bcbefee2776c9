/-
  THE WALK of VegasTells, its callees by their contracts.
-/
import Derived.Test.YthokolfgagkmiaaVegLaw
namespace Go.Proofs.Ythokolfgagkmiaa
open Go.RowKit
set_option linter.unusedSimpArgs false
set_option linter.unusedVariables false

theorem clip_cases (m : Int) : (m < 1 ∧ clipW m = 1) ∨ (12 < m ∧ clipW m = 12) ∨ (1 ≤ m ∧ m ≤ 12 ∧ clipW m = m) := by
  unfold clipW
  rcases (show m < 1 ∨ 12 < m ∨ (1 ≤ m ∧ m ≤ 12) by omega) with h | h | ⟨h, h'⟩
  · exact .inl ⟨h, by rw [if_pos h]⟩
  · exact .inr (.inl ⟨h, by rw [if_neg (by omega), if_pos h]⟩)
  · exact .inr (.inr ⟨h, h', by rw [if_neg (by omega), if_neg (by omega)]⟩)

theorem vegWalk (k n b y s p : Int) (hw : ∀ x ∈ [k, n, b, y, s, p], (Lit.int .i64 x).wf = true) (d : Int) (wd : (Lit.int .i64 d).wf = true) (m : Int) (wm : (Lit.int .i64 m).wf = true) (w : World) :
    Calls Try.prog 4 #[.agg #[.int .i64 k, .int .i64 n, .int .i64 b, .int .i64 y, .int .i64 s, .int .i64 p], .int .i64 d, .int .i64 m] w fun e w' => e = .returned (.bool true) ∧ Below w.heap.size w w' := by
  have h3 := vegRight_any k n b y s p
  have h4 := kRight_any k n b y s p
  have h5 := vegNew_any m
  cases hr : vegRight ⟨k, n, b, y, s, p⟩ with
  | false => exact veg_walk k n b y s p d m _ _ _ _ _ _ _ _ _ (clip_cases m) (vegNext_bad k n b y s p d hr) (kNext_bad k n b y s p d hr) h3 h4 h5 w
  | true =>
    by_cases hd : d < 0 ∨ 1099511627776 < d
    · exact veg_walk k n b y s p d m _ _ _ _ _ _ _ _ _ (clip_cases m) (vegNext_far k n b y s p d hr hd) (kNext_far k n b y s p d hr hd) h3 h4 h5 w
    · have g0 : 0 ≤ d := by omega
      have g1 : d ≤ 1099511627776 := by omega
      rcases (show n * (d - lowBase b d) < 1 + d ∨ (1 + d ≤ n * (d - lowBase b d) ∧ n * (d - lowBase b d) < 3 * (1 + d)) ∨ 3 * (1 + d) ≤ n * (d - lowBase b d) by omega) with hc | hc | hc
      · exact veg_walk k n b y s p d m _ _ _ _ _ _ _ _ _ (clip_cases m) (vegNext_up k n b y s p d hr g0 g1 hc) (kNext_up k n b y s p d hr g0 g1 hc) h3 h4 h5 w
      · exact veg_walk k n b y s p d m _ _ _ _ _ _ _ _ _ (clip_cases m) (vegNext_mid k n b y s p d hr g0 g1 hc) (kNext_mid k n b y s p d hr g0 g1 hc) h3 h4 h5 w
      · exact veg_walk k n b y s p d m _ _ _ _ _ _ _ _ _ (clip_cases m) (vegNext_dn k n b y s p d hr g0 g1 hc) (kNext_dn k n b y s p d hr g0 g1 hc) h3 h4 h5 w

end Go.Proofs.Ythokolfgagkmiaa
