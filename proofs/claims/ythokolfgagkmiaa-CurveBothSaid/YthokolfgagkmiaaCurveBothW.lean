/-
  THE WALK of CurveBoth.
-/
import Derived.Test.YthokolfgagkmiaaZip2
import Derived.Test.YthokolfgagkmiaaDBoth
import Derived.Test.YthokolfgagkmiaaDWithin
import Derived.Test.YthokolfgagkmiaaEqual
namespace Go.Proofs.Ythokolfgagkmiaa
open Go.RowKit
set_option linter.unusedSimpArgs false
set_option linter.unusedVariables false

set_option maxHeartbeats 2000000 in
theorem curveBothWalk (w : World) (a0 : Option Addr) (n0 c0 : Nat) (xs0 : List Int) (i0 : IntsAt w a0 n0 c0 xs0) (u0 : ∀ x ∈ xs0, (Lit.int .i64 x).wf = true) (b0 : n0 * 8 ≤ 140737488351232) (a1 : Option Addr) (n1 c1 : Nat) (xs1 : List Int) (i1 : IntsAt w a1 n1 c1 xs1) (u1 : ∀ x ∈ xs1, (Lit.int .i64 x).wf = true) (b1 : n1 * 8 ≤ 140737488351232) :
    Calls Try.prog 6 #[.slice a0 n0 c0, .slice a1 n1 c1] w fun e w' => e = .returned (.bool true) ∧ Below w.heap.size w w' := by
  clear u0 u1
  go_enter Try.func6, Try.ntmps6
  go_wp2_with fail
  refine (within_any _ _ _ _ _ _ _ _ _ i0 i1).mono ?_
  rintro e w1 ⟨rfl, B1⟩
  have i0 := i0.below B1
  have i1 := i1.below B1
  go_wp2_with fail
  refine (dwithin_any _ _ _ _ _ _ _ _ _ i0 i1).mono ?_
  rintro e w2 ⟨rfl, B2⟩
  have i0 := i0.below B2
  have i1 := i1.below B2
  go_wp2_with fail
  refine (lower_any _ _ _ _ _ _ _ _ _ i0 i1).mono ?_
  rintro e w3 ⟨p3, m3, q3, rfl, I3, B3⟩
  have i0 := i0.below B3
  have i1 := i1.below B3
  go_wp2_with fail
  refine (dLower _ _ _ _ _ _ _ _ _ i0 i1).mono ?_
  rintro e w4 ⟨p4, m4, q4, rfl, I4, B4⟩
  have i0 := i0.below B4
  have i1 := i1.below B4
  have I3 := I3.below B4
  go_wp2_with fail
  refine (equal_any _ _ _ _ _ _ _ _ _ I3 I4).mono ?_
  rintro e w5 ⟨rfl, B5⟩
  have i0 := i0.below B5
  have i1 := i1.below B5
  go_wp2_with fail
  refine (sum_any _ _ _ _ _ _ _ _ _ i0 i1).mono ?_
  rintro e w6 ⟨p6, m6, q6, rfl, I6, B6⟩
  have i0 := i0.below B6
  have i1 := i1.below B6
  go_wp2_with fail
  refine (dSum _ _ _ _ _ _ _ _ _ i0 i1).mono ?_
  rintro e w7 ⟨p7, m7, q7, rfl, I7, B7⟩
  have I6 := I6.below B7
  go_wp2_with fail
  refine (equal_any _ _ _ _ _ _ _ _ _ I6 I7).mono ?_
  rintro e w8 ⟨rfl, B8⟩
  go_wp2
  go_ret
  refine ⟨by simp, ?_⟩
  exact B1.trans ((B2.mono B1.size).trans ((B3.mono (by have := B1.size; have := B2.size; omega)).trans ((B4.mono (by have := B1.size; have := B2.size; have := B3.size; omega)).trans ((B5.mono (by have := B1.size; have := B2.size; have := B3.size; have := B4.size; omega)).trans ((B6.mono (by have := B1.size; have := B2.size; have := B3.size; have := B4.size; have := B5.size; omega)).trans ((B7.mono (by have := B1.size; have := B2.size; have := B3.size; have := B4.size; have := B5.size; have := B6.size; omega)).trans (B8.mono (by have := B1.size; have := B2.size; have := B3.size; have := B4.size; have := B5.size; have := B6.size; have := B7.size; omega))))))))

end Go.Proofs.Ythokolfgagkmiaa
