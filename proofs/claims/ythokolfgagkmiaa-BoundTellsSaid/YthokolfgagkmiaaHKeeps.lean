/-
  WALKS: the reference's HKeeps.
-/
import Derived.Test.YthokolfgagkmiaaPBound
import Derived.Test.YthokolfgagkmiaaNum
import Derived.Test.YthokolfgagkmiaaMin
import Derived.Test.YthokolfgagkmiaaAt
import Derived.IntWalk
namespace Go.Proofs.Ythokolfgagkmiaa
open Go.RowKit
set_option linter.unusedSimpArgs false
set_option linter.unusedVariables false

attribute [local go_sem] iteMin iteMax iteMinN iteMaxN

set_option maxHeartbeats 4000000 in
theorem hkeeps_any (a a' : Option Addr) (n n' c c' : Nat) (xs ys : List Int) (w : World) (h : IntsAt w a n c xs) (h' : IntsAt w a' n' c' ys) :
    Calls Try.prog 80 #[.slice a n c, .slice a' n' c'] w fun e w' => IsB (KeepsH xs fun t => atK ys t n') e ∧ w = w' := by
  have hn := h.lim
  have hn' := h'.lim
  have HL := hide h.len
  go_enter Try.func80, Try.ntmps80
  go_wp2
  go_loop [5, 12] (fun b i => ∃ k : Nat, ∃ o : Bool, k ≤ n ∧ i = .int .i64 k ∧ b = .bool o ∧ Hid (o = true ↔ ∀ s t : Nat, s < k → s ≤ t → t < n → lessI (xs.getD t 0) (xs.getD s 0) ≤ atK ys ((t : Int) - (s : Int)) n')) (fun _ i => n - (intOf i).toNat)
  case atStart => exact ⟨0, true, Nat.zero_le _, rfl, rfl, hide ⟨fun _ s t h1 => absurd h1 (by omega), fun _ => rfl⟩⟩
  case round =>
    obtain ⟨k, o, hk, rfl, rfl, HA⟩ := hrel
    have k0 : (0 : Int) ≤ (k : Int) := Int.natCast_nonneg _
    by_cases hlt : k < n
    · have k1 : (k : Int) < (n : Int) := by omega
      obtain ⟨ad, x, rfl, hbd, hc, HX⟩ := h.getB (Below.refl _ _) hlt
      go_wp2
      go_loop [5, 19] (fun b i => ∃ j : Nat, ∃ p : Bool, j ≤ n ∧ i = .int .i64 j ∧ b = .bool p ∧ Hid (p = true ↔ (o = true ∧ ∀ t : Nat, k ≤ t → t < j → lessI (xs.getD t 0) (xs.getD k 0) ≤ atK ys ((t : Int) - (k : Int)) n'))) (fun _ i => n - (intOf i).toNat)
      case atStart => exact ⟨0, o, Nat.zero_le _, rfl, rfl, hide ⟨fun h1 => ⟨h1, fun t h2 h3 => absurd h3 (by omega)⟩, fun h1 => h1.1⟩⟩
      case round =>
        obtain ⟨j, p, hj, rfl, rfl, HI⟩ := hrel
        have j0 : (0 : Int) ≤ (j : Int) := Int.natCast_nonneg _
        by_cases hjl : j < n
        · have j1 : (j : Int) < (n : Int) := by omega
          obtain ⟨ad5, y, he5, hbd5, hc5, HY⟩ := h.getB (Below.refl _ _) hjl
          obtain rfl : ad5 = ad := by injection he5 with he5; exact he5.symm
          cases p
          · have HP := hide (show (false = true ↔ (o = true ∧ ∀ t : Nat, k ≤ t → t < j + 1 → lessI (xs.getD t 0) (xs.getD k 0) ≤ atK ys ((t : Int) - (k : Int)) n')) from ⟨(fun h1 => by cases h1), fun h1 => HI.out.2 ⟨h1.1, fun t h2 h3 => h1.2 t h2 (by omega)⟩⟩)
            clear h h'
            go_wp2
            go_round
            case rel => exact ⟨j + 1, false, by omega, by go_num, rfl, HP⟩
            case measure => simp [intOf]; omega
          · rcases (show j < k ∨ k ≤ j by omega) with hkj | hkj
            · have hd : decide ((j : Int) < (k : Int)) = true := by simp; omega
              have HP := hide (show (true = true ↔ (o = true ∧ ∀ t : Nat, k ≤ t → t < j + 1 → lessI (xs.getD t 0) (xs.getD k 0) ≤ atK ys ((t : Int) - (k : Int)) n')) from ⟨fun _ => ⟨(HI.out.1 rfl).1, fun t h2 h3 => absurd h3 (by omega)⟩, fun _ => rfl⟩)
              clear h h'
              go_wp2
              go_round
              case rel => exact ⟨j + 1, true, by omega, by go_num, rfl, HP⟩
              case measure => simp [intOf]; omega
            · have hd : decide ((j : Int) < (k : Int)) = false := by simp; omega
              have HP := hide (show (decide (lessI y x ≤ atK ys ((j : Int) - (k : Int)) n') = true ↔ (o = true ∧ ∀ t : Nat, k ≤ t → t < j + 1 → lessI (xs.getD t 0) (xs.getD k 0) ≤ atK ys ((t : Int) - (k : Int)) n')) from ⟨fun h1 => ⟨(HI.out.1 rfl).1, fun t h2 h3 => by
                rcases (show t < j ∨ t = j by omega) with h4 | rfl
                · exact (HI.out.1 rfl).2 t h2 h4
                · rw [getD_of HX.out, getD_of HY.out]; simpa using h1⟩, fun h1 => by
                  have := h1.2 j hkj (by omega)
                  rw [getD_of HX.out, getD_of HY.out] at this
                  simpa using this⟩)
              go_wp2_with (first | (go_at_call 92; refine (rless_any _ _ _).mono ?_; rintro e w' ⟨rfl, rfl⟩) | (go_at_call 61; refine (dat_any _ _ _ _ _ _ h').mono ?_; rintro e w' ⟨rfl, rfl⟩))
              go_round
              case rel => exact ⟨j + 1, _, by omega, by go_num, rfl, hide (by first | exact HP.out | (rw [show decide (j < k) = false by simp; omega, Bool.false_or]; exact HP.out))⟩
              case measure => simp [intOf]; omega
        · obtain rfl : j = n := by omega
          have HP := hide (show (p = true ↔ ∀ s t : Nat, s < k + 1 → s ≤ t → t < j → lessI (xs.getD t 0) (xs.getD s 0) ≤ atK ys ((t : Int) - (s : Int)) n') from
            ⟨fun h1 s t h2 h3 h4 => by
              rcases (show s < k ∨ s = k by omega) with h5 | rfl
              · exact HA.out.1 (HI.out.1 h1).1 s t h5 h3 h4
              · exact (HI.out.1 h1).2 t h3 h4, fun h1 => HI.out.2 ⟨HA.out.2 fun s t h2 h3 h4 => h1 s t (by omega) h3 h4, fun t h2 h3 => h1 k t (by omega) h2 h3⟩⟩)
          clear h h'
          go_wp2
          go_round
          case rel => exact ⟨k + 1, p, by omega, by go_num, rfl, HP⟩
          case measure => simp [intOf]; omega
    · obtain rfl : k = n := by omega
      have HF := hide (show o = true ↔ KeepsH xs (fun t => atK ys t n') from ⟨fun h1 s t h2 h3 => HA.out.1 h1 s t (by rw [HL.out] at h3; omega) h2 (by rw [HL.out] at h3; exact h3), fun h1 => HA.out.2 fun s t h2 h3 h4 => h1 s t h3 (by rw [HL.out]; exact h4)⟩)
      clear h h'
      go_wp2
      go_ret
      exact ⟨IsB.d HF.out, rfl⟩

end Go.Proofs.Ythokolfgagkmiaa
