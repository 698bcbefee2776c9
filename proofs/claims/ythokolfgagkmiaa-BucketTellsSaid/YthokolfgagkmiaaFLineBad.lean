/-
  WALKS: the reference's FLine, of a bucket that may not be.
-/
import Derived.Test.YthokolfgagkmiaaPLine
import Derived.Test.YthokolfgagkmiaaFRight
import Derived.Test.YthokolfgagkmiaaNum
namespace Go.Proofs.Ythokolfgagkmiaa
open Go.RowKit
set_option linter.unusedSimpArgs false
set_option linter.unusedVariables false

set_option maxRecDepth 100000 in
set_option maxHeartbeats 4000000 in
theorem fLine_bad (R B n : Int) (w : World) (hr : ¬ RightB R B []) :
    Calls Try.prog 70 #[.agg #[.int .i64 R, .int .i64 B], .int .i64 n] w fun e w' => e = .returned (.slice none 0 0) ∧ Below w.heap.size w w' := by
  have HR := hide hr
  clear hr
  rcases (show n ≤ 0 ∨ 0 < n by omega) with hn | hn
  · have h5 : decide ((0 : Int) < n) = false := by simp; omega
    go_enter Try.func70, Try.ntmps70
    go_wp2
    refine wp_loop_rounds 1 ?_
    rw [rounds_succ]
    go_wp2
    go_ret
    exact ⟨rfl, (Below.refl _ _).alloc (Nat.le_refl _) _⟩
  · go_enter Try.func70, Try.ntmps70
    go_wp2
    refine wp_loop_rounds 1 ?_
    rw [rounds_succ]
    go_wp2_with (go_at_call 68; refine (callF (fRight_any R B none 0 0 [] _ (IntsAt.nil_ _) (fun _ => ⟨rfl, rfl⟩) (by omega)) HR.out).mono ?_; rintro e w2 ⟨rfl, B2⟩)
    go_wp2
    go_ret
    exact ⟨rfl, ((Below.refl _ _).alloc (Nat.le_refl _) _).trans (B2.mono (by simp))⟩

end Go.Proofs.Ythokolfgagkmiaa
