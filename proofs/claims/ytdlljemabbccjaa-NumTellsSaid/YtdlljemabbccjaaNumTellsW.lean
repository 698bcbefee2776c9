/-
  THE WALK of NumTells.
-/
import Derived.Test.YtdlljemabbccjaaAMulDiv
namespace Go.Proofs.Ytdlljemabbccjaa
open Go.RowKit
set_option linter.unusedSimpArgs false
set_option linter.unusedVariables false

set_option maxHeartbeats 1000000 in
theorem numTellsW (a b c : Int) (w : World) :
    Calls Try.prog 4 #[.int .i64 a, .int .i64 b, .int .i64 c] w fun e w' => e = .returned (.bool true) ∧ Below w.heap.size w w' := by
  obtain ⟨A, hA⟩ : ∃ A : Nat, fitI a = (A : Int) := ⟨(fitI a).toNat, by have := fit_ge a; omega⟩
  obtain ⟨B, hB⟩ : ∃ B : Nat, fitI b = (B : Int) := ⟨(fitI b).toNat, by have := fit_ge b; omega⟩
  obtain ⟨C, hC⟩ : ∃ C : Nat, fitI c = (C : Int) := ⟨(fitI c).toNat, by have := fit_ge c; omega⟩
  have M1 := hide (fun w => mulDiv_any a b c A B C hA hB hC w)
  have M2 := hide (fun w => aMulDiv_any a b c A B C hA hB hC w)
  clear hA hB hC
  go_enter Try.func4, Try.ntmps4
  go_wp2_with (first | (go_at_call 13; refine (fit_any _ _).mono ?_; rintro e w1 ⟨rfl, rfl⟩) | (go_at_call 14; refine (rfit_any _ _).mono ?_; rintro e w1 ⟨rfl, rfl⟩) | (go_at_call 15; refine (plus_any _ _ _).mono ?_; rintro e w1 ⟨rfl, rfl⟩) | (go_at_call 16; refine (rplus_any _ _ _).mono ?_; rintro e w1 ⟨rfl, rfl⟩) | (go_at_call 17; refine (less_any _ _ _).mono ?_; rintro e w1 ⟨rfl, rfl⟩) | (go_at_call 18; refine (rless_any _ _ _).mono ?_; rintro e w1 ⟨rfl, rfl⟩) | (go_at_call 19; refine (M1.out _).mono ?_; rintro e w1 ⟨rfl, nn, rfl⟩) | (go_at_call 20; refine (M2.out _).mono ?_; rintro e w1 ⟨rfl, rfl⟩))
  go_ret
  exact ⟨by first | rfl | simp, below_drewN (Below.refl _ _) _⟩

end Go.Proofs.Ytdlljemabbccjaa
