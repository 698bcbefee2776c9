/-
  WALKS: the reference's EParts.
-/
import Derived.Test.YthokolfgagkmiaaPClose
import Derived.Test.YthokolfgagkmiaaConv
namespace Go.Proofs.Ythokolfgagkmiaa
open Go.RowKit
set_option linter.unusedSimpArgs false
set_option linter.unusedVariables false

attribute [local go_sem] iteMin iteMax iteMinN iteMaxN

set_option maxHeartbeats 8000000 in
theorem eparts_any (a : Option Addr) (n c : Nat) (xs : List Int) (w : World) (h : IntsAt w a n c xs) :
    Calls Try.prog 47 #[.slice a n c] w fun e w' => IsB (PartsI xs) e ∧ w = w' := by
  have hn := h.lim
  have HL := hide h.len
  go_enter Try.func47, Try.ntmps47
  go_wp2
  go_loop [9] (fun i => ∃ k : Nat, k ≤ n ∧ i = .int .i64 k ∧ Hid (∀ s u, s < k → s + u < n → fitI (xs.getD (s + u) 0) ≤ plusI (xs.getD s 0) (xs.getD u 0))) (fun i => n - (intOf i).toNat)
  case atStart => exact ⟨0, Nat.zero_le _, rfl, hide fun s u h1 => absurd h1 (by omega)⟩
  case round =>
    obtain ⟨k, hk, rfl, HA⟩ := hrel
    have k0 : (0 : Int) ≤ (k : Int) := Int.natCast_nonneg _
    by_cases hlt : k < n
    · have k1 : (k : Int) < (n : Int) := by omega
      obtain ⟨ad, x, rfl, hbd, hc, HX⟩ := h.getB (Below.refl _ _) hlt
      go_wp2
      go_loop [16] (fun i => ∃ j : Nat, j ≤ n ∧ i = .int .i64 j ∧ Hid (∀ u, u < j → k + u < n → fitI (xs.getD (k + u) 0) ≤ plusI (xs.getD k 0) (xs.getD u 0))) (fun i => n - (intOf i).toNat)
      case atStart => exact ⟨0, Nat.zero_le _, rfl, hide fun u h1 => absurd h1 (by omega)⟩
      case round =>
        obtain ⟨j, hj, rfl, HI⟩ := hrel
        have j0 : (0 : Int) ≤ (j : Int) := Int.natCast_nonneg _
        by_cases hjl : j < n
        · have j1 : (j : Int) < (n : Int) := by omega
          obtain ⟨ad5, y, he5, hbd5, hc5, HY⟩ := h.getB (Below.refl _ _) hjl
          obtain rfl : ad5 = ad := by injection he5 with he5; exact he5.symm
          by_cases hkj : k + j < n
          · have t1 : (k : Int) + (j : Int) < (n : Int) := by omega
            obtain ⟨ad6, z, he6, hbd6, hc6, HZ⟩ := h.getB (Below.refl _ _) hkj
            obtain rfl : ad6 = ad5 := by injection he6 with he6; exact he6.symm
            by_cases hv : fitI z ≤ plusI x y
            · clear h
              go_wp2_with (first | (go_at_call 89; refine (rfit_any _ _).mono ?_; rintro e w' ⟨rfl, rfl⟩) | (go_at_call 37; refine (rplus_any _ _ _).mono ?_; rintro e w' ⟨rfl, rfl⟩))
              go_round
              case rel => exact ⟨j + 1, by omega, by go_num, hide fun u hu hku => by
                rcases (show u < j ∨ u = j by omega) with h1 | rfl
                · exact HI.out u h1 hku
                · rw [getD_of HX.out, getD_of HY.out, getD_of HZ.out]; exact hv⟩
              case measure => (simp [intOf] <;> omega)
            · have hv' : plusI x y < fitI z := by omega
              have HF := hide (show ¬ PartsI xs from by
                rintro (hp | ⟨_, hp⟩)
                · rw [HL.out] at hp; omega
                · have := hp k j (by rw [HL.out]; exact hkj)
                  rw [getD_of HX.out, getD_of HY.out, getD_of HZ.out] at this; omega)
              clear h hv
              go_wp2_with (first | (go_at_call 89; refine (rfit_any _ _).mono ?_; rintro e w' ⟨rfl, rfl⟩) | (go_at_call 37; refine (rplus_any _ _ _).mono ?_; rintro e w' ⟨rfl, rfl⟩))
              go_ret
              exact ⟨IsB.f HF.out, rfl⟩
          · have t1 : (n : Int) ≤ (k : Int) + (j : Int) := by omega
            have h5 : decide ((k : Int) + (j : Int) < (n : Int)) = false := by simp; omega
            clear h
            go_wp2
            go_round
            case rel => exact ⟨j + 1, by omega, by go_num, hide fun u hu hku => by
              rcases (show u < j ∨ u = j by omega) with h1 | rfl
              · exact HI.out u h1 hku
              · omega⟩
            case measure => (simp [intOf] <;> omega)
        · obtain rfl : j = n := by omega
          clear h
          go_wp2
          go_round
          case rel => exact ⟨k + 1, by omega, by go_num, hide fun s u hs hsu => by
            rcases (show s < k ∨ s = k by omega) with h1 | rfl
            · exact HA.out s u h1 hsu
            · exact HI.out u (by omega) hsu⟩
          case measure => (simp [intOf] <;> omega)
    · obtain rfl : k = n := by omega
      rcases Nat.eq_zero_or_pos k with h0 | h0
      · subst h0
        have HT := hide (show PartsI xs from .inl HL.out)
        clear h
        go_wp2
        go_ret
        exact ⟨IsB.t HT.out, rfl⟩
      · obtain ⟨ad, x, rfl, hbd, hc, HX⟩ := h.get0 (Below.refl _ _) h0
        have hnz : (0 : Int) < (k : Int) := by omega
        have hnz2 : ¬ ((k : Int) = 0) := by omega
        have hnz3 : ((k : Int) == 0) = false := by simp; omega
        have HP := hide (show decide (x ≤ 0) = true ↔ PartsI xs from by
          constructor
          · intro hx
            refine .inr ⟨by rw [getD_of HX.out]; have : x ≤ 0 := by simpa using hx
                            unfold fitI; omega, fun s u hsu => HA.out s u (by rw [HL.out] at hsu; omega) (by rw [HL.out] at hsu; exact hsu)⟩
          · rintro (hp | ⟨hp, _⟩)
            · rw [HL.out] at hp; omega
            · rw [getD_of HX.out] at hp
              have : x ≤ 0 := by unfold fitI at hp; omega
              simpa using this)
        clear h
        go_wp2
        go_ret
        exact ⟨IsB.d HP.out, rfl⟩

end Go.Proofs.Ythokolfgagkmiaa
