/-
  THE WALK of MinplusClose.
-/
import Derived.Test.YthokolfgagkmiaaClose
import Derived.Test.YthokolfgagkmiaaEClose
import Derived.Test.YthokolfgagkmiaaParts
import Derived.Test.YthokolfgagkmiaaEParts
import Derived.Test.YthokolfgagkmiaaEqual
namespace Go.Proofs.Ythokolfgagkmiaa
open Go.RowKit
set_option linter.unusedSimpArgs false
set_option linter.unusedVariables false

def GivesC (f : FuncId) (xs zs : List Int) : Prop := ∀ (a : Option Addr) (n c : Nat) (w : World), IntsAt w a n c xs →
    Calls Try.prog f #[.slice a n c] w fun e w' => ∃ b m d, e = .returned (.slice b m d) ∧ IntsAt w' b m d zs ∧ Below w.heap.size w w'
theorem closeBoth (xs : List Int) : ∃ zs, GivesC 44 xs zs ∧ GivesC 45 xs zs := by
  refine ⟨clI xs, fun a n c w h => close_any _ _ _ _ _ h, fun a n c w h => ?_⟩
  rcases Nat.eq_zero_or_pos n with h0 | h0
  · subst h0
    have hx : xs = [] := List.eq_nil_of_length_eq_zero h.len
    subst hx
    exact (eclose_nil _ _ _).mono fun _ _ ⟨h1, h2⟩ => ⟨none, 0, 0, h1, IntsAt.nil_ _, h2 ▸ Below.refl _ _⟩
  · obtain ⟨m, rfl⟩ : ∃ m, n = m + 1 := ⟨n - 1, by omega⟩
    obtain ⟨ad, _, rfl, _⟩ := h.get h0
    exact eclose_pos _ _ _ _ _ h

set_option maxRecDepth 100000 in
set_option maxHeartbeats 4000000 in
theorem minplusCloseW (w : World) (a : Option Addr) (n c : Nat) (xs : List Int) (h : IntsAt w a n c xs) :
    Calls Try.prog 9 #[.slice a n c] w fun e w' => e = .returned (.bool true) ∧ Below w.heap.size w w' := by
  obtain ⟨zs, P1, P2⟩ := closeBoth xs
  have hd : decide (zs = zs) = true := by simp
  go_enter Try.func9, Try.ntmps9
  go_wp2_with fail
  refine (P1 _ _ _ _ h).mono ?_
  rintro e w1 ⟨p1, m1, q1, rfl, I1, B1⟩
  have h := h.below B1
  go_wp2_with fail
  refine (P2 _ _ _ _ h).mono ?_
  rintro e w2 ⟨p2, m2, q2, rfl, I2, B2⟩
  have h := h.below B2; have I1 := I1.below B2
  have C2 := B1.trans (B2.mono B1.size)
  go_wp2_with fail
  refine (equal_any _ _ _ _ _ _ _ _ _ I1 I2).mono ?_
  rintro e w3 ⟨rfl, B3⟩
  have h := h.below B3
  have C3 := C2.trans (B3.mono C2.size)
  clear I1 I2
  go_wp2_with fail
  refine (parts_any _ _ _ _ _ h).mono ?_
  rintro e w8 ⟨⟨k1, hk1, rfl⟩, B8⟩
  have h := h.below B8
  have C8 := C3.trans (B8.mono C3.size)
  have HK := hide hk1
  clear hk1
  go_wp2_with fail
  refine (eparts_any _ _ _ _ _ h).mono ?_
  rintro e w9 ⟨⟨k2, hk2, rfl⟩, rfl⟩
  obtain rfl : k1 = k2 := by rw [Bool.eq_iff_iff, HK.out, hk2]
  clear hk2 HK h
  go_wp2
  go_ret
  exact ⟨by first | rfl | simp, C8⟩

end Go.Proofs.Ythokolfgagkmiaa
