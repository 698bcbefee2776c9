/-
  THE WALK of FilterTells.
-/
import Derived.Test.YthokolfgagkmiaaSpread
import Derived.Test.YthokolfgagkmiaaCSpread
import Derived.Test.YthokolfgagkmiaaEqual
namespace Go.Proofs.Ythokolfgagkmiaa
open Go.RowKit
set_option linter.unusedSimpArgs false
set_option linter.unusedVariables false

def GivesF (f : FuncId) (s : Int) (xs zs : List Int) : Prop := ∀ (a : Option Addr) (n c : Nat) (w : World), IntsAt w a n c xs →
    Calls Try.prog f #[.slice a n c, .int .i64 s] w fun e w' => ∃ b m d, e = .returned (.slice b m d) ∧ IntsAt w' b m d zs ∧ Below w.heap.size w w'
theorem nilSame {P : Program} {f : FuncId} {args : Array Value} {w : World} (h : Calls P f args w fun e w' => e = .returned (.slice none 0 0) ∧ w = w') : Calls P f args w fun e w' => ∃ b m d, e = .returned (.slice b m d) ∧ IntsAt w' b m d [] ∧ Below w.heap.size w w' :=
  h.mono fun _ _ ⟨h1, h2⟩ => ⟨none, 0, 0, h1, IntsAt.nil_ _, h2 ▸ Below.refl _ _⟩
theorem smBoth (s : Int) (xs : List Int) : ∃ zs us, GivesF 38 s xs zs ∧ GivesF 39 s xs zs ∧ GivesF 40 s xs us ∧ GivesF 41 s xs us := by
  by_cases hs : s < 0 ∨ 16 < s
  · refine ⟨[], [], fun a n c w h => nilSame (smooth_bad _ _ _ _ _ hs), fun a n c w h => nilSame (csmooth_bad _ _ _ _ _ hs), fun a n c w h => nilSame (spread_bad _ _ _ _ _ hs), fun a n c w h => nilSame ?_⟩
    rcases Nat.eq_zero_or_pos n with h0 | h0
    · subst h0; exact cspread_bad0 _ _ _ _ hs
    · exact cspread_bad1 _ _ _ _ _ h0 hs
  · obtain ⟨k, rfl⟩ : ∃ k : Nat, s = (k : Int) := ⟨s.toNat, by omega⟩
    have hk : k ≤ 16 := by omega
    exact ⟨_, _, fun a n c w h => smooth_ok _ _ _ _ _ _ hk h, fun a n c w h => csmooth_ok _ _ _ _ _ _ hk h, fun a n c w h => spread_ok _ _ _ _ _ _ hk h, fun a n c w h => cspread_ok _ _ _ _ _ _ hk h⟩

set_option maxRecDepth 100000 in
set_option maxHeartbeats 4000000 in
theorem filterTellsW (w : World) (a : Option Addr) (n c : Nat) (xs : List Int) (h : IntsAt w a n c xs) (s : Int) :
    Calls Try.prog 7 #[.slice a n c, .int .i64 s] w fun e w' => e = .returned (.bool true) ∧ Below w.heap.size w w' := by
  obtain ⟨zs, us, P1, P2, P3, P4⟩ := smBoth s xs
  have hd : decide (zs = zs) = true := by simp
  have hd2 : decide (us = us) = true := by simp
  go_enter Try.func7, Try.ntmps7
  go_wp2_with fail
  refine (P1 _ _ _ _ h).mono ?_
  rintro e w1 ⟨p1, m1, q1, rfl, I1, B1⟩
  have h := h.below B1
  go_wp2_with fail
  refine (P2 _ _ _ _ h).mono ?_
  rintro e w2 ⟨p2, m2, q2, rfl, I2, B2⟩
  have h := h.below B2; have I1 := I1.below B2
  have C2 := B1.trans (B2.mono B1.size)
  go_wp2_with fail
  refine (equal_any _ _ _ _ _ _ _ _ _ I1 I2).mono ?_
  rintro e w3 ⟨rfl, B3⟩
  have h := h.below B3
  have C3 := C2.trans (B3.mono C2.size)
  clear I1 I2
  go_wp2_with fail
  refine (P3 _ _ _ _ h).mono ?_
  rintro e w4 ⟨p4, m4, q4, rfl, I4, B4⟩
  have h := h.below B4
  have C4 := C3.trans (B4.mono C3.size)
  go_wp2_with fail
  refine (P4 _ _ _ _ h).mono ?_
  rintro e w5 ⟨p5, m5, q5, rfl, I5, B5⟩
  have I4 := I4.below B5
  have C5 := C4.trans (B5.mono C4.size)
  clear h
  go_wp2_with fail
  refine (equal_any _ _ _ _ _ _ _ _ _ I4 I5).mono ?_
  rintro e w6 ⟨rfl, B6⟩
  have C6 := C5.trans (B6.mono C5.size)
  clear I4 I5
  go_wp2
  go_ret
  exact ⟨by first | rfl | simp, C6⟩

end Go.Proofs.Ythokolfgagkmiaa
