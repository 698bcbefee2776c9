/-
  WALKS: the reference's HFar.
-/
import Derived.Test.YthokolfgagkmiaaPBound
import Derived.Test.YthokolfgagkmiaaNum
import Derived.Test.YthokolfgagkmiaaMin
namespace Go.Proofs.Ythokolfgagkmiaa
open Go.RowKit
set_option linter.unusedSimpArgs false
set_option linter.unusedVariables false

attribute [local go_sem] iteMin iteMax iteMinN iteMaxN

set_option maxHeartbeats 4000000 in
theorem hfar_any (a a' : Option Addr) (n n' c c' : Nat) (xs ys : List Int) (w : World) (h : IntsAt w a n c xs) (h' : IntsAt w a' n' c' ys) :
    Calls Try.prog 74 #[.slice a n c, .slice a' n' c'] w fun e w' => FarEnds xs ys e ∧ Below w.heap.size w w' := by
  have hn := h.lim
  have hn' := h'.lim
  have HL := hide h.len
  have HL' := hide h'.len
  go_enter Try.func74, Try.ntmps74
  go_wp2
  go_loopw [6, 13] (fun v i wr => ∃ k : Nat, ∃ m : Int, k ≤ n ∧ i = .int .i64 k ∧ v = .int .i64 m ∧ Hid (FarK xs ys k m) ∧ Below w.heap.size w wr) (fun _ i _ => n - (intOf i).toNat)
  case atStart => exact ⟨0, 0, Nat.zero_le _, rfl, rfl, hide rfl, Below.refl _ _⟩
  case round =>
    obtain ⟨k, m, hk, rfl, rfl, HK, hB⟩ := hrel
    by_cases hlt : k < n
    · obtain ⟨ad, x, rfl, hbd, hc, HX⟩ := h.getB hB hlt
      have k0 : (0 : Int) ≤ (k : Int) := Int.natCast_nonneg _
      have k1 : (k : Int) < (n : Int) := by omega
      go_wp2
      go_loopw [9, 10] (fun b i ws => ∃ u : Int, ∃ z : Int, -1 ≤ u ∧ u < (n' : Int) ∧ i = .int .i64 u ∧ b = .int .i64 z ∧ Hid ((k : Int) ≤ u + 1 ∨ u + 1 = n') ∧ Hid ((z = -1 ∧ ∀ (j : Nat) (y : Int), ys[j]? = some y → u < (j : Int) → k ≤ j → fitI y < fitI x) ∨ ∃ d : Nat, z = d ∧ u < (k : Int) + d ∧ (∃ y, ys[k + d]? = some y ∧ fitI x ≤ fitI y) ∧ ∀ (e : Nat) (y : Int), e < d → u < (k : Int) + e → ys[k + e]? = some y → fitI y < fitI x) ∧ Below w.heap.size w ws) (fun _ i _ => (intOf i + 1).toNat)
      case atStart => exact ⟨(n' : Int) - 1, -1, by omega, by omega, rfl, rfl, hide (.inr (by omega)), hide (.inl ⟨rfl, fun j y hy h1 _ => by have := (List.getElem?_eq_some_iff.1 hy).1; rw [HL'.out] at this; omega⟩), hB⟩
      case round =>
        obtain ⟨u, z, u0, u1, rfl, rfl, HU, HZ, hB'⟩ := hrel
        by_cases huk : (k : Int) ≤ u
        · obtain ⟨j, rfl⟩ : ∃ j : Nat, u = (j : Int) := ⟨u.toNat, by omega⟩
          have hj : j < n' := by omega
          have hkj : k ≤ j := by omega
          obtain ⟨ad', y, rfl, hbd', hc', HY⟩ := h'.getB hB' hj
          by_cases hf : fitI x ≤ fitI y
          · clear h h'
            go_wp2_with (go_at_call 89; refine (rfit_any _ _).mono ?_; rintro e w' ⟨rfl, rfl⟩)
            go_roundw
            case rel => exact ⟨(j : Int) - 1, (j : Int) - k, by omega, by omega, rfl, rfl, hide (.inl (by omega)), hide (.inr ⟨j - k, by omega, by omega, ⟨y, by rw [show k + (j - k) = j by omega]; exact HY.out, hf⟩, fun e y' he h1 hy' => by omega⟩), hB'⟩
            case measure => (simp [intOf] <;> omega)
          · have hf' : fitI y < fitI x := by omega
            have HN : Hid ((z = -1 ∧ ∀ (i : Nat) (y : Int), ys[i]? = some y → (j : Int) - 1 < (i : Int) → k ≤ i → fitI y < fitI x) ∨ ∃ d : Nat, z = d ∧ (j : Int) - 1 < (k : Int) + d ∧ (∃ y, ys[k + d]? = some y ∧ fitI x ≤ fitI y) ∧ ∀ (e : Nat) (y : Int), e < d → (j : Int) - 1 < (k : Int) + e → ys[k + e]? = some y → fitI y < fitI x) := hide (by
              rcases HZ.out with ⟨h1, h2⟩ | ⟨d, h1, h2, h3, h4⟩
              · refine .inl ⟨h1, fun i y' hy' h5 h6 => ?_⟩
                rcases (show (j : Int) < (i : Int) ∨ i = j by omega) with h7 | rfl
                · exact h2 i y' hy' h7 h6
                · rw [HY.out] at hy'; injection hy' with hy'; rw [← hy']; exact hf'
              · refine .inr ⟨d, h1, by omega, h3, fun e y' he h5 hy' => ?_⟩
                rcases (show (j : Int) < (k : Int) + e ∨ k + e = j by omega) with h7 | h7
                · exact h4 e y' he h7 hy'
                · rw [h7, HY.out] at hy'; injection hy' with hy'; rw [← hy']; exact hf')
            clear h h' hf
            go_wp2_with (go_at_call 89; refine (rfit_any _ _).mono ?_; rintro e w' ⟨rfl, rfl⟩)
            go_roundw
            case rel => exact ⟨(j : Int) - 1, z, by omega, by omega, rfl, rfl, hide (.inl (by omega)), HN, hB'⟩
            case measure => (simp [intOf] <;> omega)
        · have huk' : u < (k : Int) := by omega
          rcases HZ.out with ⟨hz, h2⟩ | ⟨d, hz, h2, ⟨y, hy, hfy⟩, h4⟩
          · have HF := hide (show FarNo xs ys from ⟨k, x, HX.out, fun e y hy => h2 (k + e) y hy (by omega) (by omega)⟩)
            subst hz
            clear h h' h2 huk
            go_wp2
            go_ret2
            exact ⟨farEnds (.inr ⟨rfl, rfl, HF.out⟩), hB'⟩
          · have HFR := hide (show First ys k (xs.getD k 0) d from by
              rw [getD_of HX.out]
              refine ⟨⟨y, hy, hfy⟩, fun e he => ?_⟩
              have hlen := (List.getElem?_eq_some_iff.1 hy).1
              have e1 : ys[k + e]? = some (ys[k + e]'(by omega)) := List.getElem?_eq_getElem (by omega)
              exact ⟨_, e1, h4 e _ he (by omega) e1⟩)
            subst hz
            have d0 : (0 : Int) ≤ (d : Int) := Int.natCast_nonneg _
            clear h h' h2 h4 hy huk
            go_wp2
            go_roundw
            case rel => exact ⟨k + 1, _, by omega, by go_num, rfl, hide ⟨m, d, HK.out, HFR.out, rfl⟩, hB'⟩
            case measure => (simp [intOf] <;> omega)
    · obtain rfl : k = n := by omega
      have HF := hide (show FarK xs ys xs.length m by rw [HL.out]; exact HK.out)
      clear h h'
      go_wp2
      go_ret2
      exact ⟨farEnds (.inl ⟨rfl, HF.out⟩), hB⟩

end Go.Proofs.Ythokolfgagkmiaa
