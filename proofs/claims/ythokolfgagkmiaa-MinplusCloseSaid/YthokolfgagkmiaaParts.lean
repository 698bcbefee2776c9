/-
  WALKS: minplus.Parts.
-/
import Derived.Test.YthokolfgagkmiaaPClose
import Derived.Test.YthokolfgagkmiaaConv
import Derived.Test.YthokolfgagkmiaaWithin
namespace Go.Proofs.Ythokolfgagkmiaa
open Go.RowKit
set_option linter.unusedSimpArgs false
set_option linter.unusedVariables false

attribute [local go_sem] iteMin iteMax iteMinN iteMaxN

set_option maxHeartbeats 4000000 in
theorem parts_any (a : Option Addr) (n c : Nat) (xs : List Int) (w : World) (h : IntsAt w a n c xs) :
    Calls Try.prog 46 #[.slice a n c] w fun e w' => IsB (PartsI xs) e ∧ Below w.heap.size w w' := by
  have hn := h.lim
  have HL := hide h.len
  rcases Nat.eq_zero_or_pos n with h0 | h0
  · subst h0
    have HT := hide (show PartsI xs from .inl HL.out)
    clear h
    go_enter Try.func46, Try.ntmps46
    go_wp2
    go_ret
    exact ⟨IsB.t HT.out, Below.refl _ _⟩
  · obtain ⟨ad, x, rfl, hbd, hc, HX⟩ := h.get0 (Below.refl _ _) h0
    have hnz : (0 : Int) < (n : Int) := by omega
    have hnz2 : ¬ ((n : Int) = 0) := by omega
    have hnz3 : ((n : Int) == 0) = false := by simp; omega
    by_cases hx : fitI x = 0
    · have hx2 : (fitI x == 0) = true := by simp [hx]
      have HP := hide (show withinB xs (cvI xs xs n) = true ↔ PartsI xs from by
        have hg : ∀ t, t < n → (cvI xs xs n)[t]? = some (cvA xs xs t (t + 1)) := fun t ht => by simp [cvI, List.getElem?_range, ht]
        have hxa : ∀ t, t < n → xs[t]? = some (xs.getD t 0) := fun t ht => by
          rw [List.getD_eq_getElem?_getD, List.getElem?_eq_getElem (by rw [HL.out]; exact ht)]; rfl
        have hfc : ∀ t, fitI (cvA xs xs t (t + 1)) = cvA xs xs t (t + 1) := fun t => by
          have := cvA_b xs xs t (t + 1); unfold fitI; omega
        constructor
        · intro hw
          refine .inr ⟨by rw [getD_of HX.out]; exact hx, fun s u hsu => ?_⟩
          rw [HL.out] at hsu
          rcases Int.lt_or_le (cvA xs xs (s + u) (s + u + 1)) (fitI (xs.getD (s + u) 0)) with hlt | hle
          · have := within_no xs (cvI xs xs n) (s + u) _ _ (hxa _ hsu) (hg _ hsu) (by rw [hfc]; exact hlt)
            rw [this] at hw; cases hw
          · have := cvA_le xs xs (s + u) (s + u + 1) s (by omega)
            rw [show s + u - s = u by omega] at this; omega
        · intro hp
          rcases hp with hp | ⟨_, hp⟩
          · rw [HL.out] at hp; omega
          · refine within_yes xs (cvI xs xs n) (fun t y z hy hz => ?_)
            have ht : t < n := by have := (List.getElem?_eq_some_iff.1 hy).1; rw [HL.out] at this; exact this
            rw [hg t ht] at hz; injection hz with hz
            rw [← hz, hfc]
            have := getD_of hy
            rw [← this]
            refine cvA_ge (fit_le _) _ (fun i hi => ?_)
            have := hp i (t - i) (by rw [HL.out]; omega)
            rwa [show i + (t - i) = t by omega] at this)
      have HFX := hide hx
      clear hx
      have hx3 : fitI x = 0 := HFX.out
      go_enter Try.func46, Try.ntmps46
      go_wp2_with (go_at_call 85; refine (fit_any _ _).mono ?_; rintro e w' ⟨rfl, rfl⟩)
      refine (conv_any _ _ _ _ _ _ _ _ _ h h).mono ?_
      rintro e w1 ⟨p1, m1, q1, rfl, I1, B1⟩
      rw [Nat.min_self] at I1
      have h := h.below B1
      go_wp2_with fail
      refine (within_any _ _ _ _ _ _ _ _ _ h I1).mono ?_
      rintro e w2 ⟨rfl, B2⟩
      clear h I1
      go_wp2
      go_ret
      exact ⟨IsB.d HP.out, B1.trans (B2.mono B1.size)⟩
    · have hx2 : (fitI x == 0) = false := by simp [hx]
      have HF := hide (show ¬ PartsI xs from by
        rintro (hp | ⟨hp, _⟩)
        · rw [HL.out] at hp; omega
        · rw [getD_of HX.out] at hp; exact hx hp)
      clear h
      go_enter Try.func46, Try.ntmps46
      go_wp2_with (go_at_call 85; refine (fit_any _ _).mono ?_; rintro e w' ⟨rfl, rfl⟩)
      go_ret
      exact ⟨IsB.f HF.out, Below.refl _ _⟩

end Go.Proofs.Ythokolfgagkmiaa
