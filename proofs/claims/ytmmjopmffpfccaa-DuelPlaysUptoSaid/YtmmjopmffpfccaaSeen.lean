/-
  WALKS: the reference's seen.
-/
import Derived.Test.YtmmjopmffpfccaaLed
namespace Go.Proofs.Ytmmjopmffpfccaa
open Go.RowKit
set_option linter.unusedSimpArgs false
set_option linter.unusedVariables false

set_option maxHeartbeats 1000000 in
theorem seen_any (k n b y s p d : Int) (hb0 : -1 ≤ b) (hb1 : b ≤ 1099511627776) (hd0 : 0 ≤ d) (hd1 : d ≤ 1099511627776) (w : World) :
    Calls Try.prog 57 #[.agg #[.int .i64 k, .int .i64 n, .int .i64 b, .int .i64 y, .int .i64 s, .int .i64 p], .int .i64 d] w fun e w' => e = .returned (.tuple #[.agg #[.int .i64 k, .int .i64 n, .int .i64 (lowBase b d), .int .i64 y, .int .i64 s, .int .i64 p], .int .i64 (d - lowBase b d)]) ∧ Below w.heap.size w w' := by
  rcases (show b = -1 ∨ (0 ≤ b ∧ d < b) ∨ (0 ≤ b ∧ b ≤ d) by omega) with h | ⟨h, h'⟩ | ⟨h, h'⟩
  · subst h
    go_enter Try.func57, Try.ntmps57
    go_wp2
    go_region
    all_goals (try go_wp2)
    all_goals (refine bodyPost_ret (v := .tuple #[.agg #[.int .i64 k, .int .i64 n, .int .i64 (lowBase (-1) d), .int .i64 y, .int .i64 s, .int .i64 p], .int .i64 (d - lowBase (-1) d)]) ?_ rfl ⟨rfl, ?_⟩)
    all_goals first | ((repeat' (first | (with_reducible exact Below.refl _ _) | (with_reducible refine Below.alloc ?_ ?_ _) | (with_reducible refine Below.setCell ?_ ?_ _) | (with_reducible refine Below.drewN ?_ _) | (with_reducible refine Below.drew ?_) | omega | (simp; done) | (simp; omega))); done) | skip
    all_goals (simp [results, Try.results57, go_sem, lowBase])
  all_goals
    have hne : ((b : Int) == -1) = false := by simp; omega
    go_enter Try.func57, Try.ntmps57
    go_wp2
    go_region
    all_goals (try go_wp2)
    all_goals (refine bodyPost_ret (v := .tuple #[.agg #[.int .i64 k, .int .i64 n, .int .i64 (lowBase b d), .int .i64 y, .int .i64 s, .int .i64 p], .int .i64 (d - lowBase b d)]) ?_ rfl ⟨rfl, ?_⟩)
    all_goals first | ((repeat' (first | (with_reducible exact Below.refl _ _) | (with_reducible refine Below.alloc ?_ ?_ _) | (with_reducible refine Below.setCell ?_ ?_ _) | (with_reducible refine Below.drewN ?_ _) | (with_reducible refine Below.drew ?_) | omega | (simp; done) | (simp; omega))); done) | skip
    all_goals (simp [results, Try.results57, go_sem, lowBase])
    all_goals (repeat split)
    all_goals omega

end Go.Proofs.Ytmmjopmffpfccaa
