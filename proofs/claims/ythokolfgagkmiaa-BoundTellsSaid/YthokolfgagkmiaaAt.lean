/-
  WALKS: curve.At and the reference's DAt.
-/
import Derived.Test.YthokolfgagkmiaaRight
namespace Go.Proofs.Ythokolfgagkmiaa
open Go.RowKit
set_option linter.unusedSimpArgs false
set_option linter.unusedVariables false

set_option maxHeartbeats 4000000 in
theorem at_any (a : Option Addr) (n c : Nat) (xs : List Int) (t : Int) (w : World) (h : IntsAt w a n c xs) :
    Calls Try.prog 60 #[.slice a n c, .int .i64 t] w fun e w' => e = .returned (.int .i64 (atK xs t n)) ∧ w = w' := by
  have HL := hide h.len
  have hlim := h.lim
  rcases Nat.eq_zero_or_pos n with h0 | h0
  · subst h0
    have HF := hide (show atK xs t 0 = 0 by unfold atK; rw [if_pos (.inl rfl)])
    clear h
    go_enter Try.func60, Try.ntmps60
    go_wp2
    go_ret
    exact ⟨retI (by rw [HF.out]), rfl⟩
  · obtain ⟨m, rfl⟩ : ∃ m, n = m + 1 := ⟨n - 1, by omega⟩
    have m0 : (0 : Int) ≤ (m : Int) := Int.natCast_nonneg _
    have m1 : (((m + 1 : Nat) : Int) == 0) = false := by simp; omega
    have m3 : (((m : Int) + 1) == 0) = false := by simp; omega
    rcases (show t < 0 ∨ (0 ≤ t ∧ t ≤ (m : Int)) ∨ (m : Int) < t by omega) with ht | ⟨ht, ht'⟩ | ht
    · have HF := hide (show atK xs t (m + 1) = 0 by unfold atK; rw [if_pos (.inr ht)])
      clear h
      go_enter Try.func60, Try.ntmps60
      go_wp2
      go_ret
      exact ⟨retI (by rw [HF.out]), rfl⟩
    · obtain ⟨j, rfl⟩ := Int.eq_ofNat_of_zero_le ht
      have hjm : j ≤ m := by omega
      obtain ⟨ad, x, rfl, hbd, hc, HX⟩ := h.getB (Below.refl _ _) (show j < m + 1 by omega)
      have HF := hide (show atK xs (j : Int) (m + 1) = fitI x by unfold atK; rw [if_neg (by omega), show min (j : Int).toNat (m + 1 - 1) = j by omega, getD_of HX.out])
      have j1 : (j : Int) < (m : Int) + 1 := by omega
      clear h
      go_enter Try.func60, Try.ntmps60
      go_wp2_with (go_at_call 85; refine (fit_any _ _).mono ?_; rintro e w1 ⟨rfl, rfl⟩)
      all_goals (go_ret; exact ⟨retI (by rw [HF.out]), rfl⟩)
    · obtain ⟨ad, x, rfl, hbd, hc, HX⟩ := h.getB (Below.refl _ _) (show m < m + 1 by omega)
      have HF := hide (show atK xs t (m + 1) = fitI x by unfold atK; rw [if_neg (by omega), show min t.toNat (m + 1 - 1) = m by omega, getD_of HX.out])
      clear h
      go_enter Try.func60, Try.ntmps60
      go_wp2_with (go_at_call 85; refine (fit_any _ _).mono ?_; rintro e w1 ⟨rfl, rfl⟩)
      all_goals (go_ret; exact ⟨retI (by rw [HF.out]), rfl⟩)

set_option maxHeartbeats 2000000 in
theorem dat_any (a : Option Addr) (n c : Nat) (xs : List Int) (t : Int) (w : World) (h : IntsAt w a n c xs) :
    Calls Try.prog 61 #[.slice a n c, .int .i64 t] w fun e w' => e = .returned (.int .i64 (atK xs t n)) ∧ w = w' := by
  have hlim := h.lim
  go_enter Try.func61, Try.ntmps61
  go_wp2
  go_loop [5, 10] (fun s i => ∃ k : Nat, k ≤ n ∧ i = .int .i64 k ∧ s = .int .i64 (atK xs t k)) (fun _ i => n - (intOf i).toNat)
  case atStart => exact ⟨0, Nat.zero_le _, rfl, by unfold atK; rw [if_pos (.inl rfl)]⟩
  case round =>
    obtain ⟨k, hk, rfl, rfl⟩ := hrel
    by_cases hlt : k < n
    · obtain ⟨ad, x, rfl, hbd, hc, HX⟩ := h.getB (Below.refl _ _) hlt
      have k0 : (0 : Int) ≤ (k : Int) := Int.natCast_nonneg _
      have k1 : (k : Int) < (n : Int) := by omega
      clear h
      by_cases ht : (k : Int) ≤ t
      · have HS := hide (atK_step HX.out ht)
        go_wp2_with (go_at_call 89; refine (rfit_any _ _).mono ?_; rintro e w1 ⟨rfl, rfl⟩)
        go_round
        case rel => exact ⟨k + 1, by omega, by go_num, by rw [HS.out]⟩
        case measure => simp [intOf]; omega
      · have ht' : t < (k : Int) := by omega
        have HS := hide (atK_stay xs ht')
        clear ht
        go_wp2
        go_round
        case rel => exact ⟨k + 1, by omega, by go_num, by rw [HS.out]⟩
        case measure => simp [intOf]; omega
    · obtain rfl : k = n := by omega
      clear h
      go_wp2
      go_ret
      exact ⟨rfl, rfl⟩

end Go.Proofs.Ythokolfgagkmiaa
