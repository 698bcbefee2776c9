/-
  THE WALK of QueuePlays.
-/
import Derived.Test.YtdlljemabbccjaaGPlay
import Derived.Test.YtdlljemabbccjaaGDelays
import Derived.Test.YtdlljemabbccjaaEqual
namespace Go.Proofs.Ytdlljemabbccjaa
open Go.RowKit
set_option linter.unusedSimpArgs false
set_option linter.unusedVariables false

theorem playBoth (r m : Int) (xs : List Int) : ∃ A B C, GivesP 28 r m xs A B C ∧ GivesP 29 r m xs A B C ∧ (A.length = xs.length ∨ A.length = 0) := by
  by_cases hr : RightB r m xs
  · exact ⟨_, _, _, fun a n c w h _ _ => play_ok _ _ _ _ _ _ _ h hr, fun a n c w h hno _ => gplay_ok _ _ _ _ _ _ _ h hno hr, .inl (goL_len _ _ _)⟩
  · exact ⟨[], [], [], fun a n c w h _ _ => play_bad _ _ _ _ _ _ _ h hr, fun a n c w h hno hl => gplay_bad _ _ _ _ _ _ _ h hno hl hr, .inr rfl⟩
theorem rightBothQ (r m : Int) (xs : List Int) : ∃ b : Bool, (∀ (a : Option Addr) (n c : Nat) (w : World), IntsAt w a n c xs → Calls Try.prog 30 #[.int .i64 r, .int .i64 m, .slice a n c] w fun e w' => e = .returned (.bool b) ∧ Below w.heap.size w w') ∧
    (∀ (a : Option Addr) (n c : Nat) (w : World), IntsAt w a n c xs → (a = none → n = 0 ∧ c = 0) → n + 2 ≤ 17592186044416 → Calls Try.prog 31 #[.agg #[.int .i64 r, .int .i64 m], .slice a n c] w fun e w' => e = .returned (.bool b) ∧ Below w.heap.size w w') := by
  by_cases hr : RightB r m xs
  · exact ⟨true, fun a n c w h => callT (right_ok _ _ _ _ _ _ _ h) hr, fun a n c w h hno hl => callT (fRight_any _ _ _ _ _ _ _ h hno hl) hr⟩
  · exact ⟨false, fun a n c w h => callF (right_ok _ _ _ _ _ _ _ h) hr, fun a n c w h hno hl => callF (fRight_any _ _ _ _ _ _ _ h hno hl) hr⟩

set_option maxRecDepth 100000 in
set_option maxHeartbeats 4000000 in
theorem queuePlaysW (w : World) (r m : Int) (a : Option Addr) (n c : Nat) (xs : List Int) (h : IntsAt w a n c xs) (hno : a = none → n = 0 ∧ c = 0) (hlim : n + 2 ≤ 17592186044416) :
    Calls Try.prog 6 #[.int .i64 r, .int .i64 m, .slice a n c] w fun e w' => e = .returned (.bool true) ∧ Below w.heap.size w w' := by
  obtain ⟨A, B, C, P1, P2, _⟩ := playBoth r m xs
  obtain ⟨A', B', C', P3, P4, hA'⟩ := playBoth r 1099511627776 xs
  obtain ⟨b, P5, P6⟩ := rightBothQ r m xs
  rw [h.len] at hA'
  obtain ⟨zs, hzs⟩ : ∃ zs, dlL (ofI xs) (ofI A') A'.length = zs := ⟨_, rfl⟩
  have P7 := fun w h => delays_any r a n c xs A' B' C' w h hno hlim P3 hA'
  have P8 := fun w h => gdelays_any r a n c xs A' B' C' w h hno hlim P4 hA'
  rw [hzs] at P7 P8
  have hd1 : decide (A = A) = true := by simp
  have hd2 : decide (B = B) = true := by simp
  have hd3 : decide (C = C) = true := by simp
  have hd4 : decide (zs = zs) = true := by simp
  have hb : (b == b) = true := by simp
  have P3 := hide P3; have P4 := hide P4; have P1 := hide P1; have P2 := hide P2; have P5 := hide P5; have P6 := hide P6; have P7 := hide P7; have P8 := hide P8
  clear hA' hzs
  go_enter Try.func6, Try.ntmps6
  go_wp2_with fail
  refine (P1.out _ _ _ _ h hno hlim).mono ?_
  rintro e w1 ⟨⟨b1, n1, d1, b2, n2, d2, b3, n3, d3, rfl, I1, I2, I3⟩, B1⟩
  have h := h.below B1
  go_wp2_with fail
  refine (P2.out _ _ _ _ h hno hlim).mono ?_
  rintro e w2 ⟨⟨b4, n4, d4, b5, n5, d5, b6, n6, d6, rfl, I4, I5, I6⟩, B2⟩
  have h := h.below B2; have I1 := I1.below B2; have I2 := I2.below B2; have I3 := I3.below B2
  have C2 := B1.trans (B2.mono B1.size)
  clear B1 B2
  go_wp2_with fail
  refine (P5.out _ _ _ _ h).mono ?_
  rintro e w3 ⟨rfl, B3⟩
  have h := h.below B3; have I1 := I1.below B3; have I2 := I2.below B3; have I3 := I3.below B3; have I4 := I4.below B3; have I5 := I5.below B3; have I6 := I6.below B3
  have C3 := C2.trans (B3.mono C2.size)
  clear B3 C2
  go_wp2_with fail
  refine (P6.out _ _ _ _ h hno hlim).mono ?_
  rintro e w4 ⟨rfl, B4⟩
  have h := h.below B4; have I1 := I1.below B4; have I2 := I2.below B4; have I3 := I3.below B4; have I4 := I4.below B4; have I5 := I5.below B4; have I6 := I6.below B4
  have C4 := C3.trans (B4.mono C3.size)
  clear B4 C3
  go_wp2_with fail
  refine (equal_any _ _ _ _ _ _ _ _ _ I1 I4).mono ?_
  rintro e w5 ⟨rfl, B5⟩
  have h := h.below B5; have I2 := I2.below B5; have I3 := I3.below B5; have I5 := I5.below B5; have I6 := I6.below B5
  have C5 := C4.trans (B5.mono C4.size)
  clear B5 C4 I1 I4
  go_wp2_with fail
  refine (equal_any _ _ _ _ _ _ _ _ _ I2 I5).mono ?_
  rintro e w6 ⟨rfl, B6⟩
  have h := h.below B6; have I3 := I3.below B6; have I6 := I6.below B6
  have C6 := C5.trans (B6.mono C5.size)
  clear B6 C5 I2 I5
  go_wp2_with fail
  refine (equal_any _ _ _ _ _ _ _ _ _ I3 I6).mono ?_
  rintro e w7 ⟨rfl, B7⟩
  have h := h.below B7
  have C7 := C6.trans (B7.mono C6.size)
  clear B7 C6 I3 I6
  go_wp2_with fail
  refine (P7.out _ h).mono ?_
  rintro e w8 ⟨p8, m8, q8, rfl, I8, B8⟩
  have h := h.below B8
  have C8 := C7.trans (B8.mono C7.size)
  go_wp2_with fail
  refine (P8.out _ h).mono ?_
  rintro e w9 ⟨p9, m9, q9, rfl, I9, B9⟩
  have I8 := I8.below B9
  have C9 := C8.trans (B9.mono C8.size)
  clear h
  go_wp2_with fail
  refine (equal_any _ _ _ _ _ _ _ _ _ I8 I9).mono ?_
  rintro e w10 ⟨rfl, B10⟩
  have C10 := C9.trans (B10.mono C9.size)
  clear I8 I9
  go_wp2
  go_ret
  exact ⟨by first | rfl | simp, C10⟩

end Go.Proofs.Ytdlljemabbccjaa
