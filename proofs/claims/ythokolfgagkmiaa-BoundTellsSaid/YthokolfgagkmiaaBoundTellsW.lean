/-
  THE WALK of BoundTells.
-/
import Derived.Test.YthokolfgagkmiaaHigh
import Derived.Test.YthokolfgagkmiaaHHigh
import Derived.Test.YthokolfgagkmiaaFar
import Derived.Test.YthokolfgagkmiaaHFar
import Derived.Test.YthokolfgagkmiaaHServes
import Derived.Test.YthokolfgagkmiaaHbKeeps
import Derived.Test.YthokolfgagkmiaaHKeeps
import Derived.Test.YthokolfgagkmiaaEqual
namespace Go.Proofs.Ythokolfgagkmiaa
open Go.RowKit
set_option linter.unusedSimpArgs false
set_option linter.unusedVariables false

def GivesS (f : FuncId) (r l n : Int) (zs : List Int) : Prop := ∀ (w : World),
    Calls Try.prog f #[.int .i64 r, .int .i64 l, .int .i64 n] w fun e w' => ∃ b m d, e = .returned (.slice b m d) ∧ IntsAt w' b m d zs ∧ Below w.heap.size w w'
theorem servesBoth (r l n : Int) (hl : l ≤ 9223372036854775807) : ∃ zs, GivesS 77 r l n zs ∧ GivesS 78 r l n zs := by
  obtain ⟨N, hN⟩ := ticks_ex n
  by_cases hg : GoodS r l
  · exact ⟨srvI r l N, fun w => serves_ok _ _ _ _ _ hg hl hN, fun w => hserves_ok _ _ _ _ _ hg hl hN⟩
  · exact ⟨[], fun w => (serves_bad _ _ _ _ hg).mono fun _ _ ⟨h1, h2⟩ => ⟨none, 0, 0, h1, IntsAt.nil_ _, h2 ▸ Below.refl _ _⟩, fun w => (hserves_bad _ _ _ _ hg).mono fun _ _ ⟨h1, h2⟩ => ⟨none, 0, 0, h1, IntsAt.nil_ _, h2 ▸ Below.refl _ _⟩⟩
theorem wf_int {x : Int} (h : (Lit.int .i64 x).wf = true) : -9223372036854775808 ≤ x ∧ x ≤ 9223372036854775807 := by
  simp [Lit.wf, IntKind.min, IntKind.max, IntKind.signed, IntKind.bits] at h; omega

set_option maxRecDepth 100000 in
set_option maxHeartbeats 4000000 in
theorem boundTellsW (w : World) (a : Option Addr) (n c : Nat) (xs : List Int) (h : IntsAt w a n c xs) (a' : Option Addr) (n' c' : Nat) (ys : List Int) (h' : IntsAt w a' n' c' ys) (r : Int) (l : Int) (hl : (Lit.int .i64 l).wf = true) (n0 : Int) :
    Calls Try.prog 14 #[.slice a n c, .slice a' n' c', .int .i64 r, .int .i64 l, .int .i64 n0] w fun e w' => e = .returned (.bool true) ∧ Below w.heap.size w w' := by
  obtain ⟨zs, P3, P4⟩ := servesBoth r l n0 (wf_int hl).2
  have hd : decide (zs = zs) = true := by simp
  clear hl
  go_enter Try.func14, Try.ntmps14
  go_wp2_with fail
  refine (far_any _ _ _ _ _ _ _ _ _ h h').mono ?_
  rintro e w1 ⟨⟨m, o, rfl, hs⟩, B1⟩
  have h := h.below B1; have h' := h'.below B1
  have HS := hide hs
  clear hs
  go_wp2_with fail
  refine (hfar_any _ _ _ _ _ _ _ _ _ h h').mono ?_
  rintro e w2 ⟨⟨m', o', rfl, hs⟩, B2⟩
  obtain ⟨rfl, rfl⟩ := says_one HS.out hs
  have h := h.below B2; have h' := h'.below B2
  have C2 := B1.trans (B2.mono B1.size)
  clear hs HS
  go_wp2_with fail
  refine (high_any _ _ _ _ _ _ _ _ _ h h').mono ?_
  rintro e w3 ⟨rfl, B3⟩
  have h := h.below B3; have h' := h'.below B3
  have C3 := C2.trans (B3.mono C2.size)
  go_wp2_with fail
  refine (hhigh_any _ _ _ _ _ _ _ _ _ h h').mono ?_
  rintro e w4 ⟨rfl, B4⟩
  have h := h.below B4; have h' := h'.below B4
  have C4 := C3.trans (B4.mono C3.size)
  have e1 : (o == o) = true := by simp
  go_wp2_with fail
  refine (P3 _).mono ?_
  rintro e w5 ⟨p3, m3, q3, rfl, I3, B5⟩
  have h := h.below B5; have h' := h'.below B5
  have C5 := C4.trans (B5.mono C4.size)
  go_wp2_with fail
  refine (P4 _).mono ?_
  rintro e w6 ⟨p4, m4, q4, rfl, I4, B6⟩
  have h := h.below B6; have h' := h'.below B6; have I3 := I3.below B6
  have C6 := C5.trans (B6.mono C5.size)
  go_wp2_with fail
  refine (equal_any _ _ _ _ _ _ _ _ _ I3 I4).mono ?_
  rintro e w7 ⟨rfl, B7⟩
  have h := h.below B7; have h' := h'.below B7
  have C7 := C6.trans (B7.mono C6.size)
  clear I3 I4
  go_wp2_with fail
  refine (hbkeeps_any _ _ _ _ _ _ _ _ _ h h').mono ?_
  rintro e w8 ⟨⟨k1, hk1, rfl⟩, B8⟩
  have h := h.below B8; have h' := h'.below B8
  have C8 := C7.trans (B8.mono C7.size)
  have HK := hide hk1
  clear hk1
  go_wp2_with fail
  refine (hkeeps_any _ _ _ _ _ _ _ _ _ h h').mono ?_
  rintro e w9 ⟨⟨k2, hk2, rfl⟩, rfl⟩
  obtain rfl : k1 = k2 := by rw [Bool.eq_iff_iff, HK.out, hk2]
  clear hk2 HK h h'
  go_wp2
  go_ret
  exact ⟨by first | rfl | simp, C8⟩

end Go.Proofs.Ythokolfgagkmiaa
