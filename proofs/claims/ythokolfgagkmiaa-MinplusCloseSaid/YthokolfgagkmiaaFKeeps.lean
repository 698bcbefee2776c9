/-
  WALKS: the reference's FKeeps.
-/
import Derived.Test.YthokolfgagkmiaaFRight
import Derived.Test.YthokolfgagkmiaaPKeeps
import Derived.Test.YthokolfgagkmiaaMin
namespace Go.Proofs.Ythokolfgagkmiaa
open Go.RowKit
set_option linter.unusedSimpArgs false
set_option linter.unusedVariables false

attribute [local go_sem] iteMin iteMax

theorem add_add (a : Addr) (i j : Nat) : (a.add i).add j = a.add (i + j) := by
  unfold Addr.add; (repeat' split) <;> simp_all <;> omega

theorem IntsAt.drop {w : World} {a : Addr} {n c : Nat} {xs : List Int} (h : IntsAt w (some a) n c xs) (k : Nat) (hk : k ≤ n) : IntsAt w (some (a.add k)) (n - k) (c - k) (xs.drop k) :=
  ⟨by rw [List.length_drop, h.len], by have := h.cap; omega, by have := h.lim; omega, fun h0 => by
    obtain ⟨ad, e, hlt, hc⟩ := h.2.2.2 (by omega)
    injection e with e
    subst e
    refine ⟨_, rfl, by rw [block_add]; exact hlt, fun j x hx => ?_⟩
    rw [List.getElem?_drop] at hx
    rw [add_add]; exact hc _ _ hx⟩

set_option maxRecDepth 100000 in
set_option maxHeartbeats 4000000 in
theorem fKeeps_ok (R B : Int) (a : Option Addr) (n c : Nat) (xs : List Int) (w : World) (h : IntsAt w a n c xs) (hno : a = none → n = 0 ∧ c = 0) (hr : RightB R B xs) :
    Calls Try.prog 72 #[.agg #[.int .i64 R, .int .i64 B], .slice a n c] w fun e w' => IsB (KeepsB R B xs) e ∧ Below w.heap.size w w' := by
  have HR := hide hr
  have HL := hide h.len
  have hn : n < 300 := by rw [← HL.out]; exact hr.2.2.1
  have HSM := hide hr.2.2.2
  obtain ⟨hR0, hR1⟩ := hr.1
  obtain ⟨hB0, hB1⟩ := hr.2.1
  have hcap := h.cap
  have hW := h.below ((Below.refl w.heap.size w).alloc (Nat.le_refl _) (.cells #[.int .i64 R, .int .i64 B] 38))
  clear hr
  go_enter Try.func72, Try.ntmps72
  go_wp2_with fail
  refine (callT (fRight_any _ _ _ _ _ _ _ hW hno (by omega)) HR.out).mono ?_
  rintro e w1 ⟨rfl, B1⟩
  have b0 : w1.cell? ⟨w.heap.size, 0, none⟩ = some (.int .i64 R) := by rw [B1.cell (by simp)]; simp [go_sem]
  have b1 : w1.cell? ⟨w.heap.size, 1, none⟩ = some (.int .i64 B) := by rw [B1.cell (by simp)]; simp [go_sem]
  have h1 := hW.below B1
  have hBw : Below w.heap.size w w1 := ((Below.refl _ _).alloc (Nat.le_refl _) _).trans (B1.mono (by simp))
  clear h hW B1
  go_wp2
  go_loop [15] (fun i => ∃ k : Nat, k ≤ n ∧ i = .int .i64 k ∧ Hid (∀ i k', i < k → i < k' → k' ≤ n → psB xs k' - psB xs i ≤ lnB R B (k' - i))) (fun i => n - (intOf i).toNat)
  case atStart => exact ⟨0, Nat.zero_le _, rfl, hide fun i k' h => absurd h (by omega)⟩
  case round =>
    obtain ⟨k, hk, rfl, HA⟩ := hrel
    by_cases hlt : k < n
    · obtain ⟨ad, x0, rfl, _, _, _⟩ := h1.getB (Below.refl _ _) hlt
      have J := h1.drop k (by omega)
      have k0 : (0 : Int) ≤ (k : Int) := Int.natCast_nonneg _
      have k1 : (k : Int) < (n : Int) := by omega
      have k2 : (k : Int) < (c : Int) := by omega
      have k3 : k < c := by omega
      have k4 : k ≤ n := by omega
      have k5 : ¬ (c = k) := by omega
      clear h1
      go_wp2
      go_loop [6, 22] (fun s i => ∃ j : Nat, j ≤ n - k ∧ i = .int .i64 j ∧ s = .int .i64 (psB xs (k + j) - psB xs k) ∧ Hid (∀ k', k < k' → k' ≤ k + j → psB xs k' - psB xs k ≤ lnB R B (k' - k))) (fun _ i => n - k - (intOf i).toNat)
      case atStart => exact ⟨0, Nat.zero_le _, rfl, by simp, hide fun k' h => by omega⟩
      case round =>
        obtain ⟨j, hj, rfl, rfl, HI⟩ := hrel
        by_cases hjl : j < n - k
        · obtain ⟨ad5, y, he5, hbd5, hc5, HY⟩ := J.getB (Below.refl _ _) hjl
          obtain rfl : ad5 = ad.add k := by injection he5 with he5; exact he5.symm
          have hy : psB xs (k + j + 1) = psB xs (k + j) + y := by
            have := HY.out
            rw [List.getElem?_drop] at this
            simp only [psB]; rw [getD_of this]
          obtain ⟨s0, s1⟩ := ps_mono HSM.out k j
          obtain ⟨s2, s3⟩ := ps_mono HSM.out k (j + 1)
          obtain ⟨m1, m2⟩ := mul_bounds0 ⟨hR0, hR1⟩ ⟨hB0, hB1⟩ j
          rw [show k + (j + 1) = k + j + 1 by omega, hy] at s2 s3
          have hm : minB R B = min R B := by unfold minB; omega
          rw [hm] at m1 m2
          have HM := hide hm
          obtain ⟨t, ht⟩ : ∃ t, psB xs (k + j) - psB xs k = t := ⟨_, rfl⟩
          have e2 : psB xs (k + j) + y - psB xs k = t + y := by omega
          rw [e2] at s2 s3
          rw [ht] at s0 s1 ⊢
          have HY2 := hide (show psB xs (k + j + 1) - psB xs k = t + y by omega)
          have j0 : (0 : Int) ≤ (j : Int) := Int.natCast_nonneg _
          have hnk : ((n - k : Nat) : Int) = (n : Int) - (k : Int) := by omega
          have j1 : (j : Int) < (n : Int) - (k : Int) := by omega
          have j2 : (j : Int) < ((n - k : Nat) : Int) := by omega
          have HNK := hide hnk
          clear hy ht e2 hm hnk J
          by_cases htt : t + y ≤ B + (j : Int) * min R B
          · go_wp2
            go_round
            case rel => exact ⟨j + 1, by omega, by go_num, by rw [show k + (j + 1) = k + j + 1 by omega, HY2.out], hide fun k' h1 h2 => by
              rcases (show k' ≤ k + j ∨ k' = k + j + 1 by omega) with h3 | rfl
              · exact HI.out k' h1 h3
              · rw [HY2.out, show k + j + 1 - k = j + 1 by omega]; simp only [lnB]; rw [HM.out]; exact htt⟩
            case measure => simp [intOf]; omega
          · have htt' : B + (j : Int) * min R B < t + y := by omega
            have HF := hide (show ¬ KeepsB R B xs from fun hk' => by
              have := hk' k (k + j + 1) (by omega) (by rw [HL.out]; omega)
              rw [HY2.out, show k + j + 1 - k = j + 1 by omega] at this; simp only [lnB] at this; rw [HM.out] at this; omega)
            clear htt
            go_wp2
            go_ret
            exact ⟨IsB.f HF.out, hBw⟩
        · obtain rfl : j = n - k := by omega
          have hnk : ((n - k : Nat) : Int) = (n : Int) - (k : Int) := by omega
          have HNK := hide hnk
          clear J hnk
          go_wp2
          go_round
          case rel => exact ⟨k + 1, by omega, by go_num, hide fun i k' h1 h2 h3 => by
            rcases (show i < k ∨ i = k by omega) with h4 | rfl
            · exact HA.out i k' h4 h2 h3
            · exact HI.out k' h2 (by omega)⟩
          case measure => simp [intOf]; omega
    · obtain rfl : k = n := by omega
      have HF := hide (show KeepsB R B xs from fun i k' hi hk' => HA.out i k' (by rw [HL.out] at hk'; omega) hi (by rw [HL.out] at hk'; exact hk'))
      clear h1
      go_wp2
      go_ret
      exact ⟨IsB.t HF.out, hBw⟩

set_option maxHeartbeats 1000000 in
theorem fKeeps_bad (R B : Int) (a : Option Addr) (n c : Nat) (xs : List Int) (w : World) (h : IntsAt w a n c xs) (hno : a = none → n = 0 ∧ c = 0) (hlim : n + 2 ≤ 17592186044416) (hr : ¬ RightB R B xs) :
    Calls Try.prog 72 #[.agg #[.int .i64 R, .int .i64 B], .slice a n c] w fun e w' => e = .returned (.bool false) ∧ Below w.heap.size w w' := by
  have HR := hide hr
  have hW := h.below ((Below.refl w.heap.size w).alloc (Nat.le_refl _) (.cells #[.int .i64 R, .int .i64 B] 38))
  clear hr h
  go_enter Try.func72, Try.ntmps72
  go_wp2_with fail
  refine (callF (fRight_any _ _ _ _ _ _ _ hW hno hlim) HR.out).mono ?_
  rintro e w1 ⟨rfl, B1⟩
  go_wp2
  go_ret
  exact ⟨rfl, ((Below.refl _ _).alloc (Nat.le_refl _) _).trans (B1.mono (by simp))⟩

end Go.Proofs.Ythokolfgagkmiaa
