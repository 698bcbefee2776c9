/-
  WALKS: bound.High.
-/
import Derived.Test.YthokolfgagkmiaaPBound
import Derived.Test.YthokolfgagkmiaaNum
import Derived.Test.YthokolfgagkmiaaMin
namespace Go.Proofs.Ythokolfgagkmiaa
open Go.RowKit
set_option linter.unusedSimpArgs false
set_option linter.unusedVariables false

attribute [local go_sem] iteMin iteMax iteMinN iteMaxN

set_option maxHeartbeats 2000000 in
theorem high_any (a a' : Option Addr) (n n' c c' : Nat) (xs ys : List Int) (w : World) (h : IntsAt w a n c xs) (h' : IntsAt w a' n' c' ys) :
    Calls Try.prog 75 #[.slice a n c, .slice a' n' c'] w fun e w' => e = .returned (.int .i64 (hiI xs ys (min n n'))) ∧ Below w.heap.size w w' := by
  have hn := h.lim
  have hn' := h'.lim
  obtain ⟨N, hN⟩ : ∃ N, min n n' = N := ⟨_, rfl⟩
  have hNz : min (n : Int) (n' : Int) = (N : Int) := by omega
  have H1 : N ≤ n := by omega
  have H2 : N ≤ n' := by omega
  rw [hN]
  clear hN
  go_enter Try.func75, Try.ntmps75
  go_wp2
  go_loopw [5, 12] (fun v i wr => ∃ k : Nat, k ≤ N ∧ i = .int .i64 k ∧ v = .int .i64 (hiI xs ys k) ∧ Below w.heap.size w wr) (fun _ i _ => N - (intOf i).toNat)
  case atStart => exact ⟨0, Nat.zero_le _, rfl, rfl, Below.refl _ _⟩
  case round =>
    obtain ⟨k, hk, rfl, rfl, hB⟩ := hrel
    obtain ⟨g1, g2⟩ := hi_ge xs ys k
    by_cases hlt : k < N
    · obtain ⟨ad, x, rfl, hbd, hc, HX⟩ := h.getB hB (show k < n by omega)
      obtain ⟨ad', y, rfl, hbd', hc', HY⟩ := h'.getB hB (show k < n' by omega)
      have k0 : (0 : Int) ≤ (k : Int) := Int.natCast_nonneg _
      have k1 : (k : Int) < (n : Int) := by omega
      have k2 : (k : Int) < (n' : Int) := by omega
      have HS := hide (show hiI xs ys (k + 1) = max (hiI xs ys k) (lessI x y) by simp only [hiI]; rw [getD_of HX.out, getD_of HY.out])
      have k3 : (k : Int) < (N : Int) := by omega
      clear h h'
      go_wp2
      go_quiet ((go_at_call 91; exact quietL (less_any _ _ _)))
      go_wp2
      go_roundw
      case rel => exact ⟨k + 1, by omega, by go_num, by rw [HS.out], below_drewN hB _⟩
      case measure => simp [intOf]; omega
    · obtain rfl : k = N := by omega
      clear h h'
      go_wp2
      go_ret
      exact ⟨rfl, hB⟩

end Go.Proofs.Ythokolfgagkmiaa
