/-
  THE WALK of CurveTells.
-/
import Derived.Test.YthokolfgagkmiaaOf
import Derived.Test.YthokolfgagkmiaaDOf
import Derived.Test.YthokolfgagkmiaaSteps
import Derived.Test.YthokolfgagkmiaaDSteps
import Derived.Test.YthokolfgagkmiaaDRight
import Derived.Test.YthokolfgagkmiaaAt
import Derived.Test.YthokolfgagkmiaaEqual
namespace Go.Proofs.Ythokolfgagkmiaa
open Go.RowKit
set_option linter.unusedSimpArgs false
set_option linter.unusedVariables false

set_option maxHeartbeats 2000000 in
theorem curveTellsWalk (w : World) (a0 : Option Addr) (n0 c0 : Nat) (xs0 : List Int) (i0 : IntsAt w a0 n0 c0 xs0) (u0 : ∀ x ∈ xs0, (Lit.int .i64 x).wf = true) (b0 : n0 * 8 ≤ 140737488351232) (t : Int) (wt : (Lit.int .i64 t).wf = true) :
    Calls Try.prog 11 #[.slice a0 n0 c0, .int .i64 t] w fun e w' => e = .returned (.bool true) ∧ Below w.heap.size w w' := by
  clear u0 wt
  have hb : n0 + 1 ≤ 17592186044416 := by omega
  go_enter Try.func11, Try.ntmps11
  go_wp2_with fail
  refine (of_any _ _ _ _ _ i0 hb).mono ?_
  rintro e w1 ⟨p1, m1, q1, rfl, I1, B1⟩
  have i0 := i0.below B1
  go_wp2_with fail
  refine (dof_any _ _ _ _ _ i0 hb).mono ?_
  rintro e w2 ⟨p2, m2, q2, rfl, I2, B2⟩
  have i0 := i0.below B2
  have I1 := I1.below B2
  have C2 := B1.trans (B2.mono B1.size)
  go_wp2_with fail
  refine (equal_any _ _ _ _ _ _ _ _ _ I1 I2).mono ?_
  rintro e w3 ⟨rfl, B3⟩
  have i0 := i0.below B3
  have C3 := C2.trans (B3.mono C2.size)
  clear I1 I2
  go_wp2_with fail
  refine (right_any _ _ _ _ _ i0).mono ?_
  rintro e w4 ⟨⟨r, hr, rfl⟩, B4⟩
  have HR := hide hr
  have i0 := i0.below B4
  have C4 := C3.trans (B4.mono C3.size)
  clear hr
  go_wp2_with fail
  refine (dright_any _ _ _ _ _ i0).mono ?_
  rintro e w5 ⟨⟨r', hr', rfl⟩, B5⟩
  obtain rfl : r = r' := by rw [Bool.eq_iff_iff, HR.out, hr']
  clear hr'
  have i0 := i0.below B5
  have C5 := C4.trans (B5.mono C4.size)
  go_wp2_with fail
  refine (steps_any _ _ _ _ _ i0).mono ?_
  rintro e w6 ⟨p6, m6, q6, rfl, I6, B6⟩
  have i0 := i0.below B6
  have C6 := C5.trans (B6.mono C5.size)
  go_wp2_with fail
  refine (dsteps_any _ _ _ _ _ i0).mono ?_
  rintro e w7 ⟨p7, m7, q7, rfl, I7, B7⟩
  have i0 := i0.below B7
  have I6 := I6.below B7
  have C7 := C6.trans (B7.mono C6.size)
  go_wp2_with fail
  refine (equal_any _ _ _ _ _ _ _ _ _ I6 I7).mono ?_
  rintro e w8 ⟨rfl, B8⟩
  have i0 := i0.below B8
  have C8 := C7.trans (B8.mono C7.size)
  clear I6 I7
  go_wp2_with fail
  refine (at_any _ _ _ _ _ _ i0).mono ?_
  rintro e w9 ⟨rfl, rfl⟩
  go_wp2_with fail
  refine (dat_any _ _ _ _ _ _ i0).mono ?_
  rintro e w9 ⟨rfl, rfl⟩
  go_wp2
  go_ret
  exact ⟨by simp, C8⟩

end Go.Proofs.Ythokolfgagkmiaa
