/-
  PLAIN: numbers that end at one (chapter 1). No program in sight.
-/
import Derived.Test.YthjicnddfjpnjaaMem
namespace Go.Proofs.Ythjicnddfjpnjaa
open Go.RowKit
set_option linter.unusedSimpArgs false
set_option linter.unusedVariables false

def fitI (a : Int) : Int := if a < 0 then 0 else if 1152921504606846976 < a then 1152921504606846976 else a
def plusI (a b : Int) : Int := if 1152921504606846976 < fitI a + fitI b then 1152921504606846976 else fitI a + fitI b
def lessI (a b : Int) : Int := if fitI b = 1152921504606846976 then 0 else if fitI a < fitI b then 0 else if fitI a = 1152921504606846976 then 1152921504606846976 else fitI a - fitI b
theorem fit_ge (a : Int) : 0 ≤ fitI a := by unfold fitI; omega
theorem fit_le (a : Int) : fitI a ≤ 1152921504606846976 := by unfold fitI; omega
theorem fit_fit (a : Int) : fitI (fitI a) = fitI a := by unfold fitI; omega
theorem plus_ge (a b : Int) : 0 ≤ plusI a b := by have := fit_ge a; have := fit_ge b; unfold plusI; omega
theorem plus_le (a b : Int) : plusI a b ≤ 1152921504606846976 := by unfold plusI; omega
theorem less_ge (a b : Int) : 0 ≤ lessI a b := by have := fit_ge b; unfold lessI; omega
theorem less_le (a b : Int) : lessI a b ≤ 1152921504606846976 := by have := fit_ge b; have := fit_le a; unfold lessI; omega
theorem fit_plus (a b : Int) : fitI (plusI a b) = plusI a b := by have := plus_ge a b; have := plus_le a b; unfold fitI; omega
theorem fit_less (a b : Int) : fitI (lessI a b) = lessI a b := by have := less_ge a b; have := less_le a b; unfold fitI; omega

end Go.Proofs.Ythjicnddfjpnjaa
