/-
  WALKS: bound.Keeps.
-/
import Derived.Test.YthokolfgagkmiaaPBound
import Derived.Test.YthokolfgagkmiaaNum
import Derived.Test.YthokolfgagkmiaaMin
import Derived.Test.YthokolfgagkmiaaAt
import Derived.IntWalk
namespace Go.Proofs.Ythokolfgagkmiaa
open Go.RowKit
set_option linter.unusedSimpArgs false
set_option linter.unusedVariables false

attribute [local go_sem] iteMin iteMax iteMinN iteMaxN

set_option maxHeartbeats 2000000 in
theorem hbkeeps_any (a a' : Option Addr) (n n' c c' : Nat) (xs ys : List Int) (w : World) (h : IntsAt w a n c xs) (h' : IntsAt w a' n' c' ys) :
    Calls Try.prog 79 #[.slice a n c, .slice a' n' c'] w fun e w' => IsB (KeepsH xs fun t => atK ys t n') e ∧ Below w.heap.size w w' := by
  have hn := h.lim
  have hn' := h'.lim
  have HL := hide h.len
  go_enter Try.func79, Try.ntmps79
  go_wp2
  go_loopw [9] (fun i wr => ∃ k : Nat, k ≤ n ∧ i = .int .i64 k ∧ Hid (∀ s t : Nat, s ≤ t → t < k → lessI (xs.getD t 0) (xs.getD s 0) ≤ atK ys ((t : Int) - (s : Int)) n') ∧ Below w.heap.size w wr) (fun i _ => n - (intOf i).toNat)
  case atStart => exact ⟨0, Nat.zero_le _, rfl, hide fun s t h1 h2 => absurd h2 (by omega), Below.refl _ _⟩
  case round =>
    obtain ⟨k, hk, rfl, HA, hB⟩ := hrel
    have k0 : (0 : Int) ≤ (k : Int) := Int.natCast_nonneg _
    by_cases hlt : k < n
    · have k1 : (k : Int) < (n : Int) := by omega
      go_wp2
      go_loopw [14] (fun i ws => ∃ j : Nat, j ≤ k + 1 ∧ i = .int .i64 j ∧ Hid (∀ s : Nat, s < j → lessI (xs.getD k 0) (xs.getD s 0) ≤ atK ys ((k : Int) - (s : Int)) n') ∧ Below w.heap.size w ws) (fun i _ => k + 1 - (intOf i).toNat)
      case atStart => exact ⟨0, Nat.zero_le _, rfl, hide fun s h1 => absurd h1 (by omega), hB⟩
      case round =>
        obtain ⟨j, hj, rfl, HI, hB'⟩ := hrel
        have j0 : (0 : Int) ≤ (j : Int) := Int.natCast_nonneg _
        by_cases hjl : j < k + 1
        · obtain ⟨ad, x, rfl, hbd, hc, HX⟩ := h.getB hB' hlt
          obtain ⟨ad5, y, he5, hbd5, hc5, HY⟩ := h.getB hB' (show j < n by omega)
          obtain rfl : ad5 = ad := by injection he5 with he5; exact he5.symm
          have HJ := hide (fun m => (h'.below hB').below (below_drewN (Below.refl _ _) m))
          have j1 : (j : Int) < (k : Int) + 1 := by omega
          have j2 : (j : Int) < (n : Int) := by omega
          have hw : IntKind.i64.wrap ((k : Int) - (j : Int)) = (k : Int) - (j : Int) := IntWalk.i64_in _ (by omega)
          by_cases ht : lessI x y ≤ atK ys ((k : Int) - (j : Int)) n'
          · clear h h'
            go_wp2
            go_quiet ((first | (go_at_call 91; exact quietL (less_any _ _ _)) | (go_at_call 60; exact quietL (at_any _ _ _ _ _ _ (HJ.out _)))))
            clear hw
            go_wp2
            go_roundw
            case rel => exact ⟨j + 1, by omega, by go_num, hide fun s hs => by
              rcases (show s < j ∨ s = j by omega) with h1 | rfl
              · exact HI.out s h1
              · rw [getD_of HX.out, getD_of HY.out]; exact ht, below_drewN hB' _⟩
            case measure => simp [intOf]; omega
          · have ht' : atK ys ((k : Int) - (j : Int)) n' < lessI x y := by omega
            have HF := hide (show ¬ KeepsH xs (fun t => atK ys t n') from fun hk' => by
              have := hk' j k (by omega) (by rw [HL.out]; exact hlt)
              rw [getD_of HX.out, getD_of HY.out] at this
              simp only at this
              omega)
            clear h h' ht
            go_wp2
            go_quiet ((first | (go_at_call 91; exact quietL (less_any _ _ _)) | (go_at_call 60; exact quietL (at_any _ _ _ _ _ _ (HJ.out _)))))
            clear hw
            go_wp2
            go_ret
            exact ⟨IsB.f HF.out, below_drewN hB' _⟩
        · obtain rfl : j = k + 1 := by omega
          clear h h'
          go_wp2
          go_roundw
          case rel => exact ⟨k + 1, by omega, by go_num, hide fun s t h1 h2 => by
            rcases (show t < k ∨ t = k by omega) with h3 | rfl
            · exact HA.out s t h1 h3
            · exact HI.out s (by omega), hB'⟩
          case measure => simp [intOf]; omega
    · obtain rfl : k = n := by omega
      have HF := hide (show KeepsH xs (fun t => atK ys t n') from fun s t h1 h2 => HA.out s t h1 (by rw [HL.out] at h2; exact h2))
      clear h h'
      go_wp2
      go_ret
      exact ⟨IsB.t HF.out, hB⟩

end Go.Proofs.Ythokolfgagkmiaa
