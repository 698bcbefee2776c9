/-
  WALKS: num.Fit, Plus, Less, and the reference's.
-/
import Derived.Test.YthjicnddfjpnjaaPNum
import Derived.Test.YthjicnddfjpnjaaProg
namespace Go.Proofs.Ythjicnddfjpnjaa
open Go.RowKit
set_option linter.unusedSimpArgs false
set_option linter.unusedVariables false

set_option maxHeartbeats 1000000 in
theorem fit_any (a : Int) (w : World) :
    Calls Try.prog 35 #[.int .i64 a] w fun e w' => e = .returned (.int .i64 (fitI a)) ∧ w = w' := by
  go_enter Try.func35, Try.ntmps35
  go_wp2
  all_goals (go_ret; refine ⟨retI ?_, rfl⟩)
  all_goals (unfold fitI; omega)


set_option maxHeartbeats 1000000 in
theorem rfit_any (a : Int) (w : World) :
    Calls Try.prog 37 #[.int .i64 a] w fun e w' => e = .returned (.int .i64 (fitI a)) ∧ w = w' := by
  go_enter Try.func37, Try.ntmps37
  go_wp2
  all_goals (go_ret; refine ⟨retI ?_, rfl⟩)
  all_goals (unfold fitI; omega)










end Go.Proofs.Ythjicnddfjpnjaa
