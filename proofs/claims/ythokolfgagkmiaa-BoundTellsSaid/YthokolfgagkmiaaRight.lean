/-
  WALKS: curve.Right.
-/
import Derived.Test.YthokolfgagkmiaaNum
import Derived.Test.YthokolfgagkmiaaPCurve
import Derived.Test.YthokolfgagkmiaaSorted
namespace Go.Proofs.Ythokolfgagkmiaa
open Go.RowKit
set_option linter.unusedSimpArgs false
set_option linter.unusedVariables false

def RightP (xs : List Int) : Prop := xs[0]? = some 0 ∧ Rises xs ∧ ∀ y, xs[xs.length - 1]? = some y → fitI y = y
theorem rises_le {xs : List Int} (h : Rises xs) : ∀ (d i : Nat) (x y : Int), xs[i]? = some x → xs[i + d]? = some y → x ≤ y := by
  intro d
  induction d with
  | zero => intro i x y h1 h2; rw [Nat.add_zero, h1] at h2; injection h2 with h2; omega
  | succ d ih =>
    intro i x y h1 h2
    have hl := (List.getElem?_eq_some_iff.1 h2).1
    obtain ⟨z, hz⟩ : ∃ z, xs[i + d]? = some z := ⟨_, List.getElem?_eq_getElem (by omega)⟩
    have := ih i x z h1 hz
    have := h (i + d) z y hz h2
    omega
theorem right_ok {xs : List Int} (h : RightP xs) (j : Nat) (x : Int) (hx : xs[j]? = some x) : 0 ≤ x ∧ x ≤ 1152921504606846976 ∧ (j = 0 → x = 0) ∧ (∀ i y, j = i + 1 → xs[i]? = some y → y ≤ x) := by
  have hl := (List.getElem?_eq_some_iff.1 hx).1
  refine ⟨rises_le h.2.1 j 0 0 x h.1 (by rw [Nat.zero_add]; exact hx), ?_, fun h0 => by subst h0; rw [h.1] at hx; injection hx with hx; omega, fun i y hi hy => by subst hi; exact h.2.1 i y x hy hx⟩
  obtain ⟨y, hy⟩ : ∃ y, xs[xs.length - 1]? = some y := ⟨_, List.getElem?_eq_getElem (by omega)⟩
  have h1 := rises_le h.2.1 (xs.length - 1 - j) j x y hx (by rw [show j + (xs.length - 1 - j) = xs.length - 1 by omega]; exact hy)
  have h2 := h.2.2 y hy
  have := fit_le y
  omega
theorem ok_right {xs : List Int} (h0 : 0 < xs.length) (h : ∀ (j : Nat) (x : Int), xs[j]? = some x → 0 ≤ x ∧ x ≤ 1152921504606846976 ∧ (j = 0 → x = 0) ∧ (∀ i y, j = i + 1 → xs[i]? = some y → y ≤ x)) : RightP xs := by
  refine ⟨?_, fun k x y h1 h2 => (h (k + 1) y h2).2.2.2 k x rfl h1, fun y hy => ?_⟩
  · have e := List.getElem?_eq_getElem h0
    rw [e, (h 0 _ e).2.2.1 rfl]
  · have := h _ y hy; unfold fitI; omega
def atK (xs : List Int) (t : Int) (k : Nat) : Int := if k = 0 ∨ t < 0 then 0 else fitI (xs.getD (min t.toNat (k - 1)) 0)
theorem atK_step {xs : List Int} {t : Int} {k : Nat} {x : Int} (hx : xs[k]? = some x) (h : (k : Int) ≤ t) : fitI x = atK xs t (k + 1) := by
  unfold atK; rw [if_neg (by omega), show min t.toNat (k + 1 - 1) = k by omega, getD_of hx]
theorem atK_stay (xs : List Int) {t : Int} {k : Nat} (h : t < (k : Int)) : atK xs t (k + 1) = atK xs t k := by
  unfold atK
  by_cases h0 : t < 0
  · rw [if_pos (.inr h0), if_pos (.inr h0)]
  · rw [if_neg (by omega), if_neg (by omega), show min t.toNat (k + 1 - 1) = min t.toNat (k - 1) by omega]

theorem sorted_t (a : Option Addr) (n c : Nat) (xs : List Int) (w : World) (h : IntsAt w a n c xs) (hr : Rises xs) : Calls Try.prog 93 #[.slice a n c] w fun e w' => e = .returned (.bool true) ∧ Below w.heap.size w w' :=
  (sorted_any a n c xs w h).mono fun _ _ ⟨⟨r, h1, h2⟩, hb⟩ => ⟨by rw [h2]; exact retB (h1.2 hr), hb⟩
theorem sorted_f (a : Option Addr) (n c : Nat) (xs : List Int) (w : World) (h : IntsAt w a n c xs) (hr : ¬ Rises xs) : Calls Try.prog 93 #[.slice a n c] w fun e w' => e = .returned (.bool false) ∧ Below w.heap.size w w' :=
  (sorted_any a n c xs w h).mono fun _ _ ⟨⟨r, h1, h2⟩, hb⟩ => ⟨by rw [h2]; exact retB (by cases r; rfl; exact absurd (h1.1 rfl) hr), hb⟩

set_option maxRecDepth 100000 in
set_option maxHeartbeats 4000000 in
theorem right_any (a : Option Addr) (n c : Nat) (xs : List Int) (w : World) (h : IntsAt w a n c xs) :
    Calls Try.prog 56 #[.slice a n c] w fun e w' => (∃ r : Bool, (r = true ↔ RightP xs) ∧ e = .returned (.bool r)) ∧ Below w.heap.size w w' := by
  have hl := h.len
  have hlim := h.lim
  rcases Nat.eq_zero_or_pos n with h0 | h0
  · subst h0
    have HF := hide (show ¬ RightP xs from fun hr => by have := (List.getElem?_eq_some_iff.1 hr.1).1; omega)
    clear hl h
    go_enter Try.func56, Try.ntmps56
    go_wp2
    refine wp_region_beyond (by kernel_rfl) (by kernel_rfl) ?_
    repeat (first | go_big_quiet_step (fail) | quiet_step (fail))
    refine wpQuiet_nil ?_
    intro _ hw'
    obtain ⟨pq, hw''⟩ := hw'
    subst hw''
    go_wp2
    go_ret
    exact ⟨⟨false, by simp [HF.out], rfl⟩, pq.h⟩
  · obtain ⟨m, rfl⟩ : ∃ m, n = m + 1 := ⟨n - 1, by omega⟩
    obtain ⟨ad, x, rfl, hbd, hc, HX⟩ := h.get0 (Below.refl _ _) h0
    obtain ⟨ad2, y, he2, hbd', hc', HY⟩ := h.getB (Below.refl _ _) (show m < m + 1 by omega)
    injection he2 with he2
    subst he2
    have F0 : ∀ q : Beyond w, q.w.cell? ad = some (.int .i64 x) := fun q => q.cell hbd hc
    have F1 : ∀ q : Beyond w, q.w.cell? (ad.add m) = some (.int .i64 y) := fun q => q.cell hbd' hc'
    have m0 : (0 : Int) ≤ (m : Int) := Int.natCast_nonneg _
    have m1 : (m : Int) < (m : Int) + 1 := by omega
    have m2 : (0 : Int) < (m : Int) + 1 := by omega
    have HH := hide h
    have HL := hide hl
    clear h hl hc hc'
    by_cases hx : x = 0
    · subst hx
      by_cases hr : Rises xs
      · by_cases hy : fitI y = y
        · have HF := hide (show RightP xs from ⟨HX.out, hr, fun z hz => by rw [HL.out, Nat.add_sub_cancel, HY.out] at hz; injection hz with hz; rw [← hz]; exact hy⟩)
          have hyb : (fitI y == y) = true := by simpa using hy
          have HR := hide hr
          clear hr hy
          go_enter Try.func56, Try.ntmps56
          go_wp2
          have hw1 : IntKind.i64.wrap ((m : Int) + 1 - 1) = (m : Int) := by rw [show (m : Int) + 1 - 1 = m by omega]; exact IntWalk.i64_in _ (by omega)
          have hw2 : IntKind.i64.wrap (m : Int) = (m : Int) := IntWalk.i64_in _ (by omega)
          refine wp_region_beyond (by kernel_rfl) (by kernel_rfl) ?_
          repeat (first | go_big_quiet_step (first | (go_at_call 93; exact beyondCall (sorted_t _ _ _ _ _ (HH.out.beyond _) HR.out)) | (go_at_call 85; exact beyondSame (fit_any _ _))) | quiet_step (first | (go_at_call 93; exact beyondCall (sorted_t _ _ _ _ _ (HH.out.beyond _) HR.out)) | (go_at_call 85; exact beyondSame (fit_any _ _))))
          refine wpQuiet_nil ?_
          intro _ hw'
          obtain ⟨pq, hw''⟩ := hw'
          subst hw''
          clear hw1 hw2
          go_wp2
          go_ret
          exact ⟨⟨true, by simp [HF.out], rfl⟩, pq.h⟩
        · have HF := hide (show ¬ RightP xs from fun h => hy (h.2.2 y (by rw [HL.out, Nat.add_sub_cancel, HY.out])))
          have hyb : (fitI y == y) = false := by simpa using hy
          have HR := hide hr
          clear hr hy
          go_enter Try.func56, Try.ntmps56
          go_wp2
          have hw1 : IntKind.i64.wrap ((m : Int) + 1 - 1) = (m : Int) := by rw [show (m : Int) + 1 - 1 = m by omega]; exact IntWalk.i64_in _ (by omega)
          have hw2 : IntKind.i64.wrap (m : Int) = (m : Int) := IntWalk.i64_in _ (by omega)
          refine wp_region_beyond (by kernel_rfl) (by kernel_rfl) ?_
          repeat (first | go_big_quiet_step (first | (go_at_call 93; exact beyondCall (sorted_t _ _ _ _ _ (HH.out.beyond _) HR.out)) | (go_at_call 85; exact beyondSame (fit_any _ _))) | quiet_step (first | (go_at_call 93; exact beyondCall (sorted_t _ _ _ _ _ (HH.out.beyond _) HR.out)) | (go_at_call 85; exact beyondSame (fit_any _ _))))
          refine wpQuiet_nil ?_
          intro _ hw'
          obtain ⟨pq, hw''⟩ := hw'
          subst hw''
          clear hw1 hw2
          go_wp2
          go_ret
          exact ⟨⟨false, by simp [HF.out], rfl⟩, pq.h⟩
      · have HF := hide (show ¬ RightP xs from fun h => hr h.2.1)
        have HR := hide hr
        clear hr
        go_enter Try.func56, Try.ntmps56
        go_wp2
        refine wp_region_beyond (by kernel_rfl) (by kernel_rfl) ?_
        repeat (first | go_big_quiet_step ((go_at_call 93; exact beyondCall (sorted_f _ _ _ _ _ (HH.out.beyond _) HR.out))) | quiet_step ((go_at_call 93; exact beyondCall (sorted_f _ _ _ _ _ (HH.out.beyond _) HR.out))))
        refine wpQuiet_nil ?_
        intro _ hw'
        obtain ⟨pq, hw''⟩ := hw'
        subst hw''
        go_wp2
        go_ret
        exact ⟨⟨false, by simp [HF.out], rfl⟩, pq.h⟩
    · have HF := hide (show ¬ RightP xs from fun h => hx (by have := HX.out; rw [h.1] at this; injection this with this; exact this.symm))
      have hxb : ((x : Int) == 0) = false := by simpa using hx
      clear hx
      go_enter Try.func56, Try.ntmps56
      go_wp2
      refine wp_region_beyond (by kernel_rfl) (by kernel_rfl) ?_
      repeat (first | go_big_quiet_step (fail) | quiet_step (fail))
      refine wpQuiet_nil ?_
      intro _ hw'
      obtain ⟨pq, hw''⟩ := hw'
      subst hw''
      go_wp2
      go_ret
      exact ⟨⟨false, by simp [HF.out], rfl⟩, pq.h⟩

end Go.Proofs.Ythokolfgagkmiaa
