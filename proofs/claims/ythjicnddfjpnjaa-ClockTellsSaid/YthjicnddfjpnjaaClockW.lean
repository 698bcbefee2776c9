/-
  THE WALK of ClockTells.
-/
import Derived.Test.YthjicnddfjpnjaaCWaits
import Derived.Test.YthjicnddfjpnjaaEqual
import Derived.Test.YthjicnddfjpnjaaFrame
namespace Go.Proofs.Ythjicnddfjpnjaa
open Go.RowKit Go.ChangeShapes Go.WideShapes
set_option linter.unusedSimpArgs false
set_option linter.unusedVariables false

attribute [local go_sem] iteMin iteMax iteMinN iteMaxN

section
variable {H : Type} {enc : TypeId × Value → H} {P : Program} {w : World} {base : Nat}
theorem open_pairs {t te : TypeId} {k n c : Nat} {a : Option Addr} {d : DataW H} {p : List MemPlace} (ht : P.underlying t = some (.slice te)) (hfl : flatI P k te = true) (hC : P.cellsOf te = 2)
    (h : DataW.Trod enc P w base (fun _ => true) true t (.slice a n c) d p) : ∃ es, (n ≤ 17592186044416 → PairsAt w a n c es) ∧ (n = 0 ∨ ∃ el sp, d = .slice el sp ∧ n ≤ el.length + sp.length) := by
  obtain ⟨fuel, hf⟩ := h
  obtain ⟨_, _, _, es, hv, hP, hn⟩ := pairs_of_slice (v := .slice a n c) ht hfl hC (by simpa [Value.cells] using hf)
  cases hv
  exact ⟨es, hP, hn⟩
end
theorem wf_le {x : Int} (h : (Lit.int .i64 x).wf = true) : x ≤ 9223372036854775807 := by
  simp only [Lit.wf, IntKind.min, IntKind.max, IntKind.signed, IntKind.bits, Bool.and_eq_true, decide_eq_true_eq, if_true] at h
  omega
theorem equal_same (a a' : Option Addr) (n n' c c' : Nat) (xs : List Int) (w : World) (h : IntsAt w a n c xs) (h' : IntsAt w a' n' c' xs) :
    Calls Try.prog 9 #[.slice a n c, .slice a' n' c'] w fun e w' => e = .returned (.bool true) ∧ Below w.heap.size w w' :=
  (equal_any a a' n n' c c' xs xs w h h').mono fun e w' ⟨he, hb⟩ => ⟨by rw [he]; simp, hb⟩
set_option maxRecDepth 100000 in
set_option maxHeartbeats 4000000 in
theorem clockW0 (a : Option Addr) (n c : Nat) (es : List P2) (part keep : Int) (w : World) (h : PairsAt w a n c es) (hn : n ≤ 8796093022208) (hp : part ≤ 9223372036854775807) (hq : keep ≤ 9223372036854775807) (t : Bool)
    (ht : t = true ↔ AllPk es) (hu : ((wayL es).length = n ↔ t = true)) :
    Calls Try.prog 3 #[.slice a n c, .int .i64 part, .int .i64 keep] w fun e w' => e = .returned (.bool true) ∧ Below w.heap.size w w' := by
  have HH := hide h
  have H7 := hide (fun (w' : World) (hw : Below w.heap.size w w') => jways_any a n c es w' (h.below hw) hn)
  have H8 : Hid (∀ w' : World, Below w.heap.size w w' → Calls Try.prog 8 #[.slice a n c] w' fun e w'' => e = .returned (.bool t) ∧ Below w'.heap.size w' w'') := fun w' hw => (cRight_any a n c es w' (h.below hw)).mono fun e w'' ⟨⟨r, hr, he⟩, hb⟩ => ⟨by
    rw [he]
    exact retB (by
      have h1 : r = true ↔ t = true := hr.trans ht.symm
      cases r <;> cases t <;> simp_all), hb⟩
  have H10 := hide (fun (w' : World) (hw : Below w.heap.size w w') => ways_any a n c es w' (h.below hw) hn)
  have H11 := hide (fun (w' : World) (hw : Below w.heap.size w w') => waits_any a n c es part keep w' (h.below hw) hn hp hq)
  have H12 := hide (fun (w' : World) (hw : Below w.heap.size w w') => jwaits_any a n c es part keep w' (h.below hw) hn hp hq)
  have HU := hide hu
  clear h ht hu hp hq
  go_enter Try.func3, Try.ntmps3
  go_wp2_with fail
  refine (H7.out w (Below.refl _ _)).mono ?_
  rintro e w1 ⟨⟨b1, m1, d1, rfl, hI1⟩, hB1⟩
  have hm1 := hI1.len
  rw [hm1] at HU
  have HI1 := hide hI1
  have HB := hide hB1
  clear hI1 hB1 H7 hm1
  go_wp2_with fail
  refine (H8.out w1 HB.out).mono ?_
  rintro e w2 ⟨rfl, hB2⟩
  have hb : (t == ((m1 : Int) == (n : Int))) = true := by
    have := HU.out
    cases t <;> simp_all <;> omega
  have HI1 := hide (HI1.out.below hB2)
  have HB := hide (HB.out.trans (hB2.mono HB.out.size))
  clear hB2 H8 HU
  have hbt : t = ((m1 : Int) == (n : Int)) := by simpa using hb
  clear hb
  subst hbt
  go_wp2_with fail
  refine (H10.out w2 HB.out).mono ?_
  rintro e w3 ⟨⟨b3, m3, d3, rfl, hI3⟩, hB3⟩
  have HI1 := hide (HI1.out.below hB3)
  have HB := hide (HB.out.trans (hB3.mono HB.out.size))
  have HI3 := hide hI3
  clear hB3 H10 hI3
  go_wp2_with fail
  refine (equal_same _ _ _ _ _ _ _ w3 HI3.out HI1.out).mono ?_
  rintro e w4 ⟨rfl, hB4⟩
  have HB := hide (HB.out.trans (hB4.mono HB.out.size))
  clear hB4 HI3 HI1
  go_wp2_with fail
  refine (H11.out w4 HB.out).mono ?_
  rintro e w5 ⟨⟨b5, m5, d5, rfl, hI5⟩, hB5⟩
  have HB := hide (HB.out.trans (hB5.mono HB.out.size))
  have HI5 := hide hI5
  clear hB5 H11 hI5
  go_wp2_with fail
  refine (H12.out w5 HB.out).mono ?_
  rintro e w6 ⟨⟨b6, m6, d6, rfl, hI6⟩, hB6⟩
  have HB := hide (HB.out.trans (hB6.mono HB.out.size))
  have HI5 := hide (HI5.out.below hB6)
  have HI6 := hide hI6
  clear hB6 H12 hI6
  go_wp2_with fail
  refine (equal_same _ _ _ _ _ _ _ w6 HI5.out HI6.out).mono ?_
  rintro e w7 ⟨rfl, hB7⟩
  have HB := hide (HB.out.trans (hB7.mono HB.out.size))
  clear hB7 HI5 HI6
  go_wp2
  go_ret
  exact ⟨by first | rfl | simp, HB.out⟩
theorem clockTellsW {w : World} (a : Option Addr) (n c : Nat) (es : List P2) (h : PairsAt w a n c es) (hn : n ≤ 8796093022208) (part : Int) (hp : (Lit.int .i64 part).wf = true) (keep : Int) (hq : (Lit.int .i64 keep).wf = true) :
    Calls Try.prog 3 #[.slice a n c, .int .i64 part, .int .i64 keep] w fun e w' => e = .returned (.bool true) ∧ Below w.heap.size w w' := by
  by_cases hs : AllPk es
  · exact clockW0 a n c es part keep w h hn (wf_le hp) (wf_le hq) true (by simp [hs]) (by rw [wayL_ok hs, waysL_len, h.len]; simp)
  · refine clockW0 a n c es part keep w h hn (wf_le hp) (wf_le hq) false (by simp [hs]) ?_
    rw [wayL_no hs]
    have : 0 < n := by
      rcases Nat.eq_zero_or_pos n with h0 | h0
      · refine absurd (fun p hp => ?_) hs
        have hl := h.len
        rw [h0] at hl
        rw [List.eq_nil_of_length_eq_zero hl] at hp
        cases hp
      · exact h0
    simp; omega

end Go.Proofs.Ythjicnddfjpnjaa
