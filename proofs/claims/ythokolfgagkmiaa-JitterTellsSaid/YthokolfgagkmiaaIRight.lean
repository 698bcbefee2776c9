/-
  WALKS: the reference's IRight.
-/
import Derived.Test.YthokolfgagkmiaaJRight
import Derived.IntWalk
namespace Go.Proofs.Ythokolfgagkmiaa
open Go.RowKit
set_option linter.unusedSimpArgs false
set_option linter.unusedVariables false

set_option maxRecDepth 100000 in
set_option maxHeartbeats 8000000 in
theorem iRight_any (a a' : Option Addr) (n n' c c' : Nat) (xs ys : List Int) (w : World) (h : IntsAt w a n c xs) (h' : IntsAt w a' n' c' ys) :
    Calls Try.prog 63 #[.slice a n c, .slice a' n' c'] w fun e w' => IsB (RightJ xs ys) e ∧ Below w.heap.size w w' := by
  have HL := hide h.len
  have HL' := hide h'.len
  have hlim := h.lim
  by_cases hn : n = n'
  · subst hn
    go_enter Try.func63, Try.ntmps63
    go_wp2
    go_loopw [13] (fun i wr => ∃ k : Nat, k ≤ n ∧ i = .int .i64 k ∧ (∀ (j : Nat) (x y : Int), j < k → xs[j]? = some x → ys[j]? = some y → (0 ≤ x ∧ x ≤ 1099511627776 ∧ 0 ≤ y ∧ y ≤ 1099511627776) ∧ ∀ i z, j = i + 1 → xs[i]? = some z → z ≤ x) ∧ Below w.heap.size w wr) (fun i _ => n - (intOf i).toNat)
    case atStart => exact ⟨0, Nat.zero_le _, rfl, fun j _ _ hj => absurd hj (by omega), Below.refl _ _⟩
    case round =>
      obtain ⟨k, hk, rfl, hall, hB⟩ := hrel
      have HA := hide hall
      clear hall
      by_cases hlt : k < n
      · have k0 : (0 : Int) ≤ (k : Int) := Int.natCast_nonneg _
        have k1 : (k : Int) < (n : Int) := by omega
        rcases Nat.eq_zero_or_pos k with hz | hz
        · subst hz
          obtain ⟨ad, x, rfl, hbd, hc, HX⟩ := h.get0 hB hlt
          obtain ⟨ad', y, rfl, hbd', hc', HY⟩ := h'.get0 hB hlt
          clear h h'
          rcases (show x < 0 ∨ (0 ≤ x ∧ y < 0) ∨ (0 ≤ x ∧ 0 ≤ y ∧ 1099511627776 < x) ∨ (0 ≤ x ∧ 0 ≤ y ∧ x ≤ 1099511627776 ∧ 1099511627776 < y) ∨ (0 ≤ x ∧ 0 ≤ y ∧ x ≤ 1099511627776 ∧ y ≤ 1099511627776) by omega) with q1 | ⟨q1, q2⟩ | ⟨q1, q2, q3⟩ | ⟨q1, q2, q3, q4⟩ | ⟨q1, q2, q3, q4⟩
          · have HF := hide (show ¬ RightJ xs ys from fun hr => by
              have e1 := small_at hr.2.1 HX.out; have e2 := small_at hr.2.2.1 HY.out; omega)
            go_wp2
            go_quiet (fail)
            go_wp2
            go_ret
            exact ⟨IsB.f HF.out, below_drewN hB _⟩
          · have HF := hide (show ¬ RightJ xs ys from fun hr => by
              have e1 := small_at hr.2.1 HX.out; have e2 := small_at hr.2.2.1 HY.out; omega)
            have d0 : decide (x < 0) = false := by simp; try omega
            go_wp2
            go_quiet (fail)
            go_wp2
            go_ret
            exact ⟨IsB.f HF.out, below_drewN hB _⟩
          · have HF := hide (show ¬ RightJ xs ys from fun hr => by
              have e1 := small_at hr.2.1 HX.out; have e2 := small_at hr.2.2.1 HY.out; omega)
            have d0 : decide (x < 0) = false := by simp; try omega
            have d1 : decide (y < 0) = false := by simp; try omega
            go_wp2
            go_quiet (fail)
            go_wp2
            go_ret
            exact ⟨IsB.f HF.out, below_drewN hB _⟩
          · have HF := hide (show ¬ RightJ xs ys from fun hr => by
              have e1 := small_at hr.2.1 HX.out; have e2 := small_at hr.2.2.1 HY.out; omega)
            have d0 : decide (x < 0) = false := by simp; try omega
            have d1 : decide (y < 0) = false := by simp; try omega
            have d2 : decide (1099511627776 < x) = false := by simp; try omega
            go_wp2
            go_quiet (fail)
            go_wp2
            go_ret
            exact ⟨IsB.f HF.out, below_drewN hB _⟩
          · have d0 : decide (x < 0) = false := by simp; try omega
            have d1 : decide (y < 0) = false := by simp; try omega
            have d2 : decide (1099511627776 < x) = false := by simp; try omega
            have d3 : decide (1099511627776 < y) = false := by simp; try omega
            go_wp2
            go_quiet (fail)
            go_wp2
            go_roundw
            case rel => exact ⟨1, by omega, rfl, fun j u v hj h1 h2 => by
              obtain rfl : j = 0 := by omega
              rw [HX.out] at h1; rw [HY.out] at h2; injection h1 with h1; injection h2 with h2; subst h1; subst h2
              exact ⟨⟨q1, q3, q2, q4⟩, fun i z hi => by omega⟩, below_drewN hB _⟩
            case measure => simp [intOf]; omega
        · obtain ⟨j, rfl⟩ : ∃ j, k = j + 1 := ⟨k - 1, by omega⟩
          obtain ⟨ad, x, rfl, hbd, hc, HX⟩ := h.getS hB hlt
          obtain ⟨ad2, z, he2, hbd2, hc2, HZ⟩ := h.getB hB (show j < n by omega)
          injection he2 with he2
          subst he2
          obtain ⟨ad', y, rfl, hbd', hc', HY⟩ := h'.getS hB hlt
          have j0 : (0 : Int) ≤ (j : Int) := Int.natCast_nonneg _
          have j1 : (j : Int) + 1 < (n : Int) := by omega
          have j2 : (j : Int) < (n : Int) := by omega
          have j3 : (0 : Int) ≤ (j : Int) + 1 := by omega
          clear h h' hz
          rcases (show x < 0 ∨ (0 ≤ x ∧ y < 0) ∨ (0 ≤ x ∧ 0 ≤ y ∧ 1099511627776 < x) ∨ (0 ≤ x ∧ 0 ≤ y ∧ x ≤ 1099511627776 ∧ 1099511627776 < y) ∨ (0 ≤ x ∧ 0 ≤ y ∧ x ≤ 1099511627776 ∧ y ≤ 1099511627776 ∧ x < z) ∨ (0 ≤ x ∧ 0 ≤ y ∧ x ≤ 1099511627776 ∧ y ≤ 1099511627776 ∧ z ≤ x) by omega) with q1 | ⟨q1, q2⟩ | ⟨q1, q2, q3⟩ | ⟨q1, q2, q3, q4⟩ | ⟨q1, q2, q3, q4, q5⟩ | ⟨q1, q2, q3, q4, q5⟩
          · have HF := hide (show ¬ RightJ xs ys from fun hr => by
              have e1 := small_at hr.2.1 HX.out; have e2 := small_at hr.2.2.1 HY.out; omega)
            go_wp2
            have hw1 : IntKind.i64.wrap ((j : Int) + 1 - 1) = (j : Int) := by rw [show (j : Int) + 1 - 1 = j by omega]; exact IntWalk.i64_in _ (by omega)
            have hw2 : IntKind.i64.wrap (j : Int) = (j : Int) := IntWalk.i64_in _ (by omega)
            go_quiet (fail)
            clear hw1 hw2
            go_wp2
            go_ret
            exact ⟨IsB.f HF.out, below_drewN hB _⟩
          · have HF := hide (show ¬ RightJ xs ys from fun hr => by
              have e1 := small_at hr.2.1 HX.out; have e2 := small_at hr.2.2.1 HY.out; omega)
            have d0 : decide (x < 0) = false := by simp; try omega
            go_wp2
            have hw1 : IntKind.i64.wrap ((j : Int) + 1 - 1) = (j : Int) := by rw [show (j : Int) + 1 - 1 = j by omega]; exact IntWalk.i64_in _ (by omega)
            have hw2 : IntKind.i64.wrap (j : Int) = (j : Int) := IntWalk.i64_in _ (by omega)
            go_quiet (fail)
            clear hw1 hw2
            go_wp2
            go_ret
            exact ⟨IsB.f HF.out, below_drewN hB _⟩
          · have HF := hide (show ¬ RightJ xs ys from fun hr => by
              have e1 := small_at hr.2.1 HX.out; have e2 := small_at hr.2.2.1 HY.out; omega)
            have d0 : decide (x < 0) = false := by simp; try omega
            have d1 : decide (y < 0) = false := by simp; try omega
            go_wp2
            have hw1 : IntKind.i64.wrap ((j : Int) + 1 - 1) = (j : Int) := by rw [show (j : Int) + 1 - 1 = j by omega]; exact IntWalk.i64_in _ (by omega)
            have hw2 : IntKind.i64.wrap (j : Int) = (j : Int) := IntWalk.i64_in _ (by omega)
            go_quiet (fail)
            clear hw1 hw2
            go_wp2
            go_ret
            exact ⟨IsB.f HF.out, below_drewN hB _⟩
          · have HF := hide (show ¬ RightJ xs ys from fun hr => by
              have e1 := small_at hr.2.1 HX.out; have e2 := small_at hr.2.2.1 HY.out; omega)
            have d0 : decide (x < 0) = false := by simp; try omega
            have d1 : decide (y < 0) = false := by simp; try omega
            have d2 : decide (1099511627776 < x) = false := by simp; try omega
            go_wp2
            have hw1 : IntKind.i64.wrap ((j : Int) + 1 - 1) = (j : Int) := by rw [show (j : Int) + 1 - 1 = j by omega]; exact IntWalk.i64_in _ (by omega)
            have hw2 : IntKind.i64.wrap (j : Int) = (j : Int) := IntWalk.i64_in _ (by omega)
            go_quiet (fail)
            clear hw1 hw2
            go_wp2
            go_ret
            exact ⟨IsB.f HF.out, below_drewN hB _⟩
          · have HF := hide (show ¬ RightJ xs ys from fun hr => by
              have e1 := small_at hr.2.1 HX.out; have e2 := small_at hr.2.2.1 HY.out; have := hr.2.2.2 j z x HZ.out HX.out; omega)
            have d0 : decide (x < 0) = false := by simp; try omega
            have d1 : decide (y < 0) = false := by simp; try omega
            have d2 : decide (1099511627776 < x) = false := by simp; try omega
            have d3 : decide (1099511627776 < y) = false := by simp; try omega
            go_wp2
            have hw1 : IntKind.i64.wrap ((j : Int) + 1 - 1) = (j : Int) := by rw [show (j : Int) + 1 - 1 = j by omega]; exact IntWalk.i64_in _ (by omega)
            have hw2 : IntKind.i64.wrap (j : Int) = (j : Int) := IntWalk.i64_in _ (by omega)
            go_quiet (fail)
            clear hw1 hw2
            go_wp2
            go_ret
            exact ⟨IsB.f HF.out, below_drewN hB _⟩
          · have d0 : decide (x < 0) = false := by simp; try omega
            have d1 : decide (y < 0) = false := by simp; try omega
            have d2 : decide (1099511627776 < x) = false := by simp; try omega
            have d3 : decide (1099511627776 < y) = false := by simp; try omega
            have d4 : decide (x < z) = false := by simp; try omega
            go_wp2
            have hw1 : IntKind.i64.wrap ((j : Int) + 1 - 1) = (j : Int) := by rw [show (j : Int) + 1 - 1 = j by omega]; exact IntWalk.i64_in _ (by omega)
            have hw2 : IntKind.i64.wrap (j : Int) = (j : Int) := IntWalk.i64_in _ (by omega)
            go_quiet (fail)
            clear hw1 hw2
            go_wp2
            go_roundw
            case rel => exact ⟨j + 1 + 1, by omega, by go_num, fun i u v hi h1 h2 => by
              rcases (show i < j + 1 ∨ i = j + 1 by omega) with h3 | rfl
              · exact HA.out i u v h3 h1 h2
              · rw [HX.out] at h1; rw [HY.out] at h2; injection h1 with h1; injection h2 with h2; subst h1; subst h2
                exact ⟨⟨q1, q3, q2, q4⟩, fun i' z' hi' hz' => by
                  obtain rfl : i' = j := by omega
                  rw [HZ.out] at hz'; injection hz' with hz'; omega⟩, below_drewN hB _⟩
            case measure => simp [intOf]; omega
      · have HF := hide (show RightJ xs ys from by
          have hget : ∀ j, j < n → ∃ x y, xs[j]? = some x ∧ ys[j]? = some y := fun j hj => ⟨_, _, List.getElem?_eq_getElem (by rw [HL.out]; exact hj), List.getElem?_eq_getElem (by rw [HL'.out]; exact hj)⟩
          refine ⟨by rw [HL.out, HL'.out], small_of fun j x hx => ?_, small_of fun j y hy => ?_, fun j x y h1 h2 => ?_⟩
          · have := (List.getElem?_eq_some_iff.1 hx).1
            rw [HL.out] at this
            obtain ⟨_, y, _, hy⟩ := hget j this
            have := (HA.out j x y (by omega) hx hy).1
            omega
          · have := (List.getElem?_eq_some_iff.1 hy).1
            rw [HL'.out] at this
            obtain ⟨x, _, hx, _⟩ := hget j this
            have := (HA.out j x y (by omega) hx hy).1
            omega
          · have := (List.getElem?_eq_some_iff.1 h2).1
            rw [HL.out] at this
            obtain ⟨_, u, _, hu⟩ := hget (j + 1) this
            exact (HA.out (j + 1) y u (by omega) h2 hu).2 j x rfl h1)
        clear h h'
        go_wp2
        go_ret
        exact ⟨IsB.t HF.out, hB⟩
  · have HF := hide (show ¬ RightJ xs ys from fun hr => hn (by rw [← HL.out, ← HL'.out, hr.1]))
    have hb : ((n : Int) != (n' : Int)) = true := by simp; omega
    clear hn h h'
    go_enter Try.func63, Try.ntmps63
    go_wp2
    go_ret
    exact ⟨IsB.f HF.out, Below.refl _ _⟩

end Go.Proofs.Ythokolfgagkmiaa
