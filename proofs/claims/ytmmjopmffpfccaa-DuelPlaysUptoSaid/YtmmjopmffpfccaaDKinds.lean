/-
  JOIN: the three kinds of senders and the references' go on alike.
-/
import Derived.Test.YtmmjopmffpfccaaVegN
import Derived.Test.YtmmjopmffpfccaaKNext
import Derived.Test.YtmmjopmffpfccaaCopNU
import Derived.Test.YtmmjopmffpfccaaCopND
import Derived.Test.YtmmjopmffpfccaaLNU
import Derived.Test.YtmmjopmffpfccaaLND
import Derived.Test.YtmmjopmffpfccaaLedN
import Derived.Test.YtmmjopmffpfccaaMNext
namespace Go.Proofs.Ytmmjopmffpfccaa
open Go.RowKit
set_option linter.unusedSimpArgs false
set_option linter.unusedVariables false

/-- small numbers -/
def Sm (x : Int) : Prop := -4398046511104 ≤ x ∧ x ≤ 4398046511104
theorem clip_b (m : Int) : 1 ≤ clipW m ∧ clipW m ≤ 12 := by unfold clipW; split <;> (try split) <;> omega
theorem low_b {b d : Int} (h1 : -1 ≤ b) (h2 : b ≤ 1099511627776) (h3 : 0 ≤ d) (h4 : d ≤ 1099511627776) : 0 ≤ lowBase b d ∧ lowBase b d ≤ 1099511627776 ∧ lowBase b d ≤ d := by unfold lowBase; split <;> (try split) <;> omega
/-- what both answer when a flow goes on -/
def Both (f g : FuncId) (right : Ctl → Bool) (k n b y s p d : Int) : Prop := ∃ k' n' b' y' s' p' : Int, right ⟨k', n', b', y', s', p'⟩ = true ∧
  (∀ w : World, Calls Try.prog f #[.agg #[.int .i64 k, .int .i64 n, .int .i64 b, .int .i64 y, .int .i64 s, .int .i64 p], .int .i64 d] w fun e w' => e = .returned (.tuple #[.agg #[.int .i64 k', .int .i64 n', .int .i64 b', .int .i64 y', .int .i64 s', .int .i64 p'], .int .i64 0]) ∧ Below w.heap.size w w') ∧
  (∀ w : World, Calls Try.prog g #[.agg #[.int .i64 k, .int .i64 n, .int .i64 b, .int .i64 y, .int .i64 s, .int .i64 p], .int .i64 d] w fun e w' => e = .returned (.tuple #[.agg #[.int .i64 k', .int .i64 n', .int .i64 b', .int .i64 y', .int .i64 s', .int .i64 p'], .int .i64 0]) ∧ Below w.heap.size w w')
theorem veg_both {k n b y s p d : Int} (hr : vegRight ⟨k, n, b, y, s, p⟩ = true) (g0 : 0 ≤ d) (g1 : d ≤ 1099511627776) : Both 38 47 vegRight k n b y s p d := by
  have g2 := hr
  simp only [vegRight, decide_eq_true_eq] at g2
  have hl := low_b (b := b) (d := d) (by omega) (by omega) g0 g1
  have c1 := clip_b (n + 1)
  have c2 := clip_b (n - 1)
  rcases (show n * (d - lowBase b d) < 1 + d ∨ (1 + d ≤ n * (d - lowBase b d) ∧ n * (d - lowBase b d) < 3 * (1 + d)) ∨ 3 * (1 + d) ≤ n * (d - lowBase b d) by omega) with hc | hc | hc
  · exact ⟨_, _, _, _, _, _, by simp only [vegRight, decide_eq_true_eq]; omega, vegNext_up k n b y s p d hr g0 g1 hc, kNext_up k n b y s p d hr g0 g1 hc⟩
  · exact ⟨_, _, _, _, _, _, by simp only [vegRight, decide_eq_true_eq]; omega, vegNext_mid k n b y s p d hr g0 g1 hc, kNext_mid k n b y s p d hr g0 g1 hc⟩
  · exact ⟨_, _, _, _, _, _, by simp only [vegRight, decide_eq_true_eq]; omega, vegNext_dn k n b y s p d hr g0 g1 hc, kNext_dn k n b y s p d hr g0 g1 hc⟩
theorem cop_both {k n b y s p d : Int} (hr : copRight ⟨k, n, b, y, s, p⟩ = true) (g0 : 0 ≤ d) (g1 : d ≤ 1099511627776) : Both 41 48 copRight k n b y s p d := by
  have g2 := hr
  simp only [copRight, decide_eq_true_eq] at g2
  have hl := low_b (b := b) (d := d) (by omega) (by omega) g0 g1
  have c1 := clip_b (n + 1); have c2 := clip_b (n - 1); have c3 := clip_b (n + 2); have c4 := clip_b (n - 2); have c5 := clip_b (n + 4); have c6 := clip_b (n - 4)
  rcases (show 2 * (1 + d) < n * (d - lowBase b d) ∨ n * (d - lowBase b d) ≤ 2 * (1 + d) by omega) with hc | hc
  · rcases (show ¬ y = -1 ∨ (y = -1 ∧ s = 0) ∨ (y = -1 ∧ s = 1) ∨ (y = -1 ∧ s = 2) ∨ (y = -1 ∧ s = 3) ∨ (y = -1 ∧ s = 4) by omega) with hy | ⟨hy, hs⟩ | ⟨hy, hs⟩ | ⟨hy, hs⟩ | ⟨hy, hs⟩ | ⟨hy, hs⟩
    · exact ⟨_, _, _, _, _, _, by simp only [copRight, decide_eq_true_eq]; omega, copNext_dn_ne k n b y s p d hr g0 g1 hc hy, lNext_dn_ne k n b y s p d hr g0 g1 hc hy⟩
    · exact ⟨_, _, _, _, _, _, by simp only [copRight, decide_eq_true_eq]; omega, copNext_dn_s0 k n b y s p d hr g0 g1 hc hy hs, lNext_dn_s0 k n b y s p d hr g0 g1 hc hy hs⟩
    · exact ⟨_, _, _, _, _, _, by simp only [copRight, decide_eq_true_eq]; omega, copNext_dn_s1 k n b y s p d hr g0 g1 hc hy hs, lNext_dn_s1 k n b y s p d hr g0 g1 hc hy hs⟩
    · exact ⟨_, _, _, _, _, _, by simp only [copRight, decide_eq_true_eq]; omega, copNext_dn_s2 k n b y s p d hr g0 g1 hc hy hs, lNext_dn_s2 k n b y s p d hr g0 g1 hc hy hs⟩
    · exact ⟨_, _, _, _, _, _, by simp only [copRight, decide_eq_true_eq]; omega, copNext_dn_s3 k n b y s p d hr g0 g1 hc hy hs, lNext_dn_s3 k n b y s p d hr g0 g1 hc hy hs⟩
    · exact ⟨_, _, _, _, _, _, by simp only [copRight, decide_eq_true_eq]; omega, copNext_dn_s4 k n b y s p d hr g0 g1 hc hy hs, lNext_dn_s4 k n b y s p d hr g0 g1 hc hy hs⟩
  · rcases (show ¬ y = 1 ∨ (y = 1 ∧ s = 0) ∨ (y = 1 ∧ s = 1) ∨ (y = 1 ∧ s = 2) ∨ (y = 1 ∧ s = 3) ∨ (y = 1 ∧ s = 4) by omega) with hy | ⟨hy, hs⟩ | ⟨hy, hs⟩ | ⟨hy, hs⟩ | ⟨hy, hs⟩ | ⟨hy, hs⟩
    · exact ⟨_, _, _, _, _, _, by simp only [copRight, decide_eq_true_eq]; omega, copNext_up_ne k n b y s p d hr g0 g1 hc hy, lNext_up_ne k n b y s p d hr g0 g1 hc hy⟩
    · exact ⟨_, _, _, _, _, _, by simp only [copRight, decide_eq_true_eq]; omega, copNext_up_s0 k n b y s p d hr g0 g1 hc hy hs, lNext_up_s0 k n b y s p d hr g0 g1 hc hy hs⟩
    · exact ⟨_, _, _, _, _, _, by simp only [copRight, decide_eq_true_eq]; omega, copNext_up_s1 k n b y s p d hr g0 g1 hc hy hs, lNext_up_s1 k n b y s p d hr g0 g1 hc hy hs⟩
    · exact ⟨_, _, _, _, _, _, by simp only [copRight, decide_eq_true_eq]; omega, copNext_up_s2 k n b y s p d hr g0 g1 hc hy hs, lNext_up_s2 k n b y s p d hr g0 g1 hc hy hs⟩
    · exact ⟨_, _, _, _, _, _, by simp only [copRight, decide_eq_true_eq]; omega, copNext_up_s3 k n b y s p d hr g0 g1 hc hy hs, lNext_up_s3 k n b y s p d hr g0 g1 hc hy hs⟩
    · exact ⟨_, _, _, _, _, _, by simp only [copRight, decide_eq_true_eq]; omega, copNext_up_s4 k n b y s p d hr g0 g1 hc hy hs, lNext_up_s4 k n b y s p d hr g0 g1 hc hy hs⟩
theorem led_b {k n b y s p e : Int} (h1 : 1 ≤ n) (h2 : n ≤ 12) (h3 : 0 ≤ p) (h4 : p < 4) : 4 ≤ ledAll ⟨k, n, b, y, s, p⟩ e ∧ ledAll ⟨k, n, b, y, s, p⟩ e ≤ 48 := by
  simp only [ledAll]
  split <;> (try split) <;> (try split) <;> omega
theorem led_both {k n b y s p d : Int} (hr : ledRight ⟨k, n, b, y, s, p⟩ = true) (g0 : 0 ≤ d) (g1 : d ≤ 1099511627776) : Both 44 49 ledRight k n b y s p d := by
  have g2 := hr
  simp only [ledRight, decide_eq_true_eq] at g2
  have hl := low_b (b := b) (d := d) (by omega) (by omega) g0 g1
  have hb := led_b (k := k) (b := b) (y := y) (s := s) (e := d - lowBase b d) g2.2.1 g2.2.2.1 g2.2.2.2.2.2.2.2.1 g2.2.2.2.2.2.2.2.2.1
  have key := ledNext_ok k n b y s p d hr g0 g1
  refine ⟨_, _, _, _, _, _, ?_, key, ?_⟩
  · simp only [ledRight, decide_eq_true_eq]; omega
  · rcases (show d - lowBase b d = 0 ∨ d - lowBase b d = 1 ∨ d - lowBase b d = 2 ∨ d - lowBase b d = 3 ∨ d - lowBase b d = 4 ∨ 5 ≤ d - lowBase b d by omega) with he | he | he | he | he | he
    · exact mNext_up2 k n b y s p d _ hr g0 g1 rfl he
    · exact mNext_up1 k n b y s p d _ hr g0 g1 rfl he
    · exact mNext_stay k n b y s p d _ hr g0 g1 rfl he
    · exact mNext_dn1 k n b y s p d _ hr g0 g1 rfl he
    · exact mNext_dn2a k n b y s p d _ hr g0 g1 rfl he
    · exact mNext_dn2 k n b y s p d _ hr g0 g1 rfl he

end Go.Proofs.Ytmmjopmffpfccaa
