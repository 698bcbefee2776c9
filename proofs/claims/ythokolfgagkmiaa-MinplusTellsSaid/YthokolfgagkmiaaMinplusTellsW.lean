/-
  THE WALK of MinplusTells.
-/
import Derived.Test.YthokolfgagkmiaaEUnit
import Derived.Test.YthokolfgagkmiaaEConv
import Derived.Test.YthokolfgagkmiaaOver
import Derived.Test.YthokolfgagkmiaaEOver
import Derived.Test.YthokolfgagkmiaaEqual
namespace Go.Proofs.Ythokolfgagkmiaa
open Go.RowKit
set_option linter.unusedSimpArgs false
set_option linter.unusedVariables false

def GivesN (f : FuncId) (n : Int) (zs : List Int) : Prop := ∀ (w : World),
    Calls Try.prog f #[.int .i64 n] w fun e w' => ∃ b m d, e = .returned (.slice b m d) ∧ IntsAt w' b m d zs ∧ Below w.heap.size w w'
theorem unitBoth (n : Int) : ∃ zs, GivesN 48 n zs ∧ GivesN 49 n zs := by
  obtain ⟨N, hN⟩ := ticks_ex n
  exact ⟨unI N, fun w => unit_any _ _ _ hN, fun w => eunit_any _ _ _ hN⟩

set_option maxRecDepth 100000 in
set_option maxHeartbeats 4000000 in
theorem minplusTellsW (w : World) (n0 : Int) (a : Option Addr) (n c : Nat) (xs : List Int) (h : IntsAt w a n c xs) (a' : Option Addr) (n' c' : Nat) (ys : List Int) (h' : IntsAt w a' n' c' ys) :
    Calls Try.prog 10 #[.int .i64 n0, .slice a n c, .slice a' n' c'] w fun e w' => e = .returned (.bool true) ∧ Below w.heap.size w w' := by
  obtain ⟨zs, P1, P2⟩ := unitBoth n0
  have hd : decide (zs = zs) = true := by simp
  have hd2 : decide (cvI xs ys (min n n') = cvI xs ys (min n n')) = true := by simp
  have hd3 : decide (ovI xs ys n n' = ovI xs ys n n') = true := by simp
  go_enter Try.func10, Try.ntmps10
  go_wp2_with fail
  refine (P1 _).mono ?_
  rintro e w1 ⟨p1, m1, q1, rfl, I1, B1⟩
  have h := h.below B1; have h' := h'.below B1
  go_wp2_with fail
  refine (P2 _).mono ?_
  rintro e w2 ⟨p2, m2, q2, rfl, I2, B2⟩
  have h := h.below B2; have h' := h'.below B2; have I1 := I1.below B2
  have C2 := B1.trans (B2.mono B1.size)
  go_wp2_with fail
  refine (equal_any _ _ _ _ _ _ _ _ _ I1 I2).mono ?_
  rintro e w3 ⟨rfl, B3⟩
  have h := h.below B3; have h' := h'.below B3
  have C3 := C2.trans (B3.mono C2.size)
  clear I1 I2
  go_wp2_with fail
  refine (conv_any _ _ _ _ _ _ _ _ _ h h').mono ?_
  rintro e w4 ⟨p4, m4, q4, rfl, I4, B4⟩
  have h := h.below B4; have h' := h'.below B4
  have C4 := C3.trans (B4.mono C3.size)
  go_wp2_with fail
  refine (econv_any _ _ _ _ _ _ _ _ _ h h').mono ?_
  rintro e w5 ⟨p5, m5, q5, rfl, I5, B5⟩
  have I4 := I4.below B5
  have h := h.below B5; have h' := h'.below B5
  have C5 := C4.trans (B5.mono C4.size)
  go_wp2_with fail
  refine (equal_any _ _ _ _ _ _ _ _ _ I4 I5).mono ?_
  rintro e w6 ⟨rfl, B6⟩
  have h := h.below B6; have h' := h'.below B6
  have C6 := C5.trans (B6.mono C5.size)
  clear I4 I5
  go_wp2_with fail
  refine (over_any _ _ _ _ _ _ _ _ _ h h').mono ?_
  rintro e w7 ⟨p7, m7, q7, rfl, I7, B7⟩
  have h := h.below B7; have h' := h'.below B7
  have C7 := C6.trans (B7.mono C6.size)
  go_wp2_with fail
  refine (eover_any _ _ _ _ _ _ _ _ _ h h').mono ?_
  rintro e w8 ⟨p8, m8, q8, rfl, I8, B8⟩
  have I7 := I7.below B8
  have C8 := C7.trans (B8.mono C7.size)
  go_wp2_with fail
  refine (equal_any _ _ _ _ _ _ _ _ _ I7 I8).mono ?_
  rintro e w9 ⟨rfl, B9⟩
  have C9 := C8.trans (B9.mono C8.size)
  clear I7 I8 h h'
  go_wp2
  go_ret
  exact ⟨by first | rfl | simp, C9⟩

end Go.Proofs.Ythokolfgagkmiaa
