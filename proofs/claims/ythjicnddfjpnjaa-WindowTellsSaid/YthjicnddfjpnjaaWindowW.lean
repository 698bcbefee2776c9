/-
  THE WALK of WindowTells.
-/
import Derived.Test.YthjicnddfjpnjaaSlide
import Derived.Test.YthjicnddfjpnjaaCWaits
import Derived.Test.YthjicnddfjpnjaaEqual
import Derived.Test.YthjicnddfjpnjaaFrame
namespace Go.Proofs.Ythjicnddfjpnjaa
open Go.RowKit Go.ChangeShapes Go.WideShapes
set_option linter.unusedSimpArgs false
set_option linter.unusedVariables false

attribute [local go_sem] iteMin iteMax iteMinN iteMaxN

theorem bslide_any (low : Bool) (a : Option Addr) (n c : Nat) (xs : List Int) (win : Int) (w : World) (h : IntsAt w a n c xs) (hw : win ≤ 9223372036854775807) :
    Calls Try.prog 24 #[.slice a n c, .int .i64 win, .bool low] w fun e w' => BackI (slideI xs win low) e w' ∧ Below w.heap.size w w' := by
  by_cases hs : win < 1
  · exact bslide_no low a n c xs win w h hs
  · obtain ⟨q, rfl⟩ : ∃ q : Nat, win = (q : Int) := ⟨win.toNat, by omega⟩
    exact bslide_ok low a n c xs q w h (by omega) hw
theorem wf_leW {x : Int} (h : (Lit.int .i64 x).wf = true) : x ≤ 9223372036854775807 := by
  simp only [Lit.wf, IntKind.min, IntKind.max, IntKind.signed, IntKind.bits, Bool.and_eq_true, decide_eq_true_eq, if_true] at h
  omega
theorem equal_sameW (a a' : Option Addr) (n n' c c' : Nat) (xs : List Int) (w : World) (h : IntsAt w a n c xs) (h' : IntsAt w a' n' c' xs) :
    Calls Try.prog 9 #[.slice a n c, .slice a' n' c'] w fun e w' => e = .returned (.bool true) ∧ Below w.heap.size w w' :=
  (equal_any a a' n n' c c' xs xs w h h').mono fun e w' ⟨he, hb⟩ => ⟨by rw [he]; simp, hb⟩
set_option maxRecDepth 100000 in
set_option maxHeartbeats 4000000 in
theorem windowTellsW {w : World} {A B : Prop} (a : Option Addr) (n c : Nat) (xs : List Int) (h : IntsAt w a n c xs) (_ : A) (_ : B) (win : Int) (hw : (Lit.int .i64 win).wf = true) (part : Int) (hp : (Lit.int .i64 part).wf = true) (keep : Int) (hq : (Lit.int .i64 keep).wf = true) :
    Calls Try.prog 6 #[.slice a n c, .int .i64 win, .int .i64 part, .int .i64 keep] w fun e w' => e = .returned (.bool true) ∧ Below w.heap.size w w' := by
  have lw := wf_leW hw
  have lp := wf_leW hp
  have lq := wf_leW hq
  have C1 := hide (fun (w' : World) (hb : Below w.heap.size w w') => min_any a n c xs win w' (h.below hb) lw)
  have C2 := hide (fun (w' : World) (hb : Below w.heap.size w w') => bslide_any true a n c xs win w' (h.below hb) lw)
  have C3 := hide (fun (w' : World) (hb : Below w.heap.size w w') => max_any a n c xs win w' (h.below hb) lw)
  have C4 := hide (fun (w' : World) (hb : Below w.heap.size w w') => bslide_any false a n c xs win w' (h.below hb) lw)
  have C5 := hide (fun (w' : World) (hb : Below w.heap.size w w') => base_any a n c xs part keep w' (h.below hb) lp lq)
  have C6 := hide (fun (w' : World) (hb : Below w.heap.size w w') => bbase_any a n c xs part keep w' (h.below hb) lp lq)
  have HB := hide (Below.refl w.heap.size w)
  clear h hw hp hq lw lp lq
  go_enter Try.func6, Try.ntmps6
  go_wp2_with fail
  refine (C1.out w HB.out).mono ?_
  rintro e w1 ⟨⟨b1, m1, d1, rfl, hI1⟩, hB1⟩
  have HI1 := hide hI1
  have HB := hide (HB.out.trans (hB1.mono HB.out.size))
  clear hI1 hB1 C1
  go_wp2_with fail
  refine (C2.out w1 HB.out).mono ?_
  rintro e w2 ⟨⟨b2, m2, d2, rfl, hI2⟩, hB2⟩
  have HI1 := hide (HI1.out.below hB2)
  have HI2 := hide hI2
  have HB := hide (HB.out.trans (hB2.mono HB.out.size))
  clear hI2 hB2 C2
  go_wp2_with fail
  refine (equal_sameW _ _ _ _ _ _ _ w2 HI1.out HI2.out).mono ?_
  rintro e w3 ⟨rfl, hB⟩
  have HB := hide (HB.out.trans (hB.mono HB.out.size))
  clear hB HI1 HI2
  go_wp2_with fail
  refine (C3.out w3 HB.out).mono ?_
  rintro e w4 ⟨⟨b3, m3, d3, rfl, hI3⟩, hB3⟩
  have HI3 := hide hI3
  have HB := hide (HB.out.trans (hB3.mono HB.out.size))
  clear hI3 hB3 C3
  go_wp2_with fail
  refine (C4.out w4 HB.out).mono ?_
  rintro e w5 ⟨⟨b4, m4, d4, rfl, hI4⟩, hB4⟩
  have HI3 := hide (HI3.out.below hB4)
  have HI4 := hide hI4
  have HB := hide (HB.out.trans (hB4.mono HB.out.size))
  clear hI4 hB4 C4
  go_wp2_with fail
  refine (equal_sameW _ _ _ _ _ _ _ w5 HI3.out HI4.out).mono ?_
  rintro e w6 ⟨rfl, hB⟩
  have HB := hide (HB.out.trans (hB.mono HB.out.size))
  clear hB HI3 HI4
  go_wp2_with fail
  refine (C5.out w6 HB.out).mono ?_
  rintro e w7 ⟨⟨b5, m5, d5, rfl, hI5⟩, hB5⟩
  have HI5 := hide hI5
  have HB := hide (HB.out.trans (hB5.mono HB.out.size))
  clear hI5 hB5 C5
  go_wp2_with fail
  refine (C6.out w7 HB.out).mono ?_
  rintro e w8 ⟨⟨b6, m6, d6, rfl, hI6⟩, hB6⟩
  have HI5 := hide (HI5.out.below hB6)
  have HI6 := hide hI6
  have HB := hide (HB.out.trans (hB6.mono HB.out.size))
  clear hI6 hB6 C6
  go_wp2_with fail
  refine (equal_sameW _ _ _ _ _ _ _ w8 HI5.out HI6.out).mono ?_
  rintro e w9 ⟨rfl, hB⟩
  have HB := hide (HB.out.trans (hB.mono HB.out.size))
  clear hB HI5 HI6
  go_wp2
  go_ret
  exact ⟨by first | rfl | simp, HB.out⟩

end Go.Proofs.Ythjicnddfjpnjaa
