/-
  WALKS: minplus.Unit.
-/
import Derived.Test.YthokolfgagkmiaaConv
import Derived.Test.YthokolfgagkmiaaPLine
namespace Go.Proofs.Ythokolfgagkmiaa
open Go.RowKit
set_option linter.unusedSimpArgs false
set_option linter.unusedVariables false

attribute [local go_sem] iteMin iteMax iteMinN iteMaxN

set_option maxHeartbeats 2000000 in
theorem unit_any (n : Int) (N : Nat) (w : World) (hN : Ticks n N) :
    Calls Try.prog 48 #[.int .i64 n] w fun e w' => ∃ b m d, e = .returned (.slice b m d) ∧ IntsAt w' b m d (unI N) ∧ Below w.heap.size w w' := by
  obtain ⟨i0, hi0, hz0, hz1, hz2⟩ := info_parts intInfoMp
  have HQ := hide (un_len N)
  have hN3 := ticks_lim hN
  have hNz : min (max n 0) 300 = (N : Int) := by unfold Ticks at hN; omega
  clear hN
  go_enter Try.func48, Try.ntmps48
  go_wp2
  go_loopw [3, 8] (fun v i wr => ∃ k : Nat, k ≤ N ∧ i = .int .i64 k ∧ wr.ownsRow w.heap.size 3 1 v k (((unI N).take k).map (Value.int .i64)) ∧ Below w.heap.size w wr) (fun _ i _ => N - (intOf i).toNat)
  case atStart => exact ⟨0, Nat.zero_le _, rfl, own_start _ _ _ _, Below.refl _ _⟩
  case round =>
    obtain ⟨k, hk, rfl, hown, hB⟩ := hrel
    have k0 : (0 : Int) ≤ (k : Int) := Int.natCast_nonneg _
    have hBs := hB.size
    by_cases hlt : k < N
    · have k1 : (k : Int) < (N : Int) := by omega
      have HN := hide (un_get hlt)
      rcases (show k = 0 ∨ ∃ q, k = q + 1 from by cases k with | zero => exact .inl rfl | succ j => exact .inr ⟨j, rfl⟩) with h0 | ⟨q, h0⟩
      · subst h0
        have HN := hide (by have := HN.out; simp only [if_pos] at this; exact this : (0 : Int) = (unI N).getD 0 0)
        go_wp2_with (at_builtin; refine wpList_append_own _ rfl _ _ 30 rfl w.heap.size 3 i0 (.int .i64 0) 1 8 Try.underlying30 hi0 hz0 hz1 hz2 rfl (by decide) _ _ _ rfl (hown.alloc _) ⟨wr.heap.size, 0, none⟩ 1 1 [.int .i64 (0)] rfl rfl (cell_one_new _ _ _) (by simp [Value.oneCell']) (by unfold maxLen; omega) (by omega) (by simp; omega) ?_; intro v' w1 hown1 hgrow _)
        go_wp2
        go_roundw
        case rel => exact ⟨1, by omega, by go_num, own_next (by rw [HQ.out]; omega) HN.out hown1, (hB.alloc hBs _).grown hgrow (by simp; omega) (own_row hown)⟩
        case measure => (simp [intOf] <;> omega)
      · subst h0
        have HN := hide (by have := HN.out; rw [if_neg (by omega)] at this; exact this : (1152921504606846976 : Int) = (unI N).getD (q + 1) 0)
        have q1 : ¬ ((q : Int) + 1 = 0) := by omega
        have q2 : ((q : Int) + 1 == 0) = false := by simp; omega
        go_wp2_with (at_builtin; refine wpList_append_own _ rfl _ _ 30 rfl w.heap.size 3 i0 (.int .i64 0) 1 8 Try.underlying30 hi0 hz0 hz1 hz2 rfl (by decide) _ _ _ rfl (hown.alloc _) ⟨wr.heap.size, 0, none⟩ 1 1 [.int .i64 (1152921504606846976)] rfl rfl (cell_one_new _ _ _) (by simp [Value.oneCell']) (by unfold maxLen; omega) (by omega) (by simp; omega) ?_; intro v' w1 hown1 hgrow _)
        go_wp2
        go_roundw
        case rel => exact ⟨q + 1 + 1, by omega, by go_num, own_next (by rw [HQ.out]; omega) HN.out hown1, (hB.alloc hBs _).grown hgrow (by simp; omega) (own_row hown)⟩
        case measure => (simp [intOf] <;> omega)
    · obtain rfl : k = N := by omega
      obtain ⟨b, d, hv, hI⟩ := IntsAt.of_own (own_all HQ.out.symm hown) (by rw [HQ.out]; omega)
      subst hv
      clear hown
      go_wp2
      go_ret
      exact ⟨b, _, d, rfl, hI, hB⟩

end Go.Proofs.Ythokolfgagkmiaa
