/-
  WALKS: the reference's HServes.
-/
import Derived.Test.YthokolfgagkmiaaServes
namespace Go.Proofs.Ythokolfgagkmiaa
open Go.RowKit
set_option linter.unusedSimpArgs false
set_option linter.unusedVariables false

attribute [local go_sem] iteMin iteMax iteMinN iteMaxN

set_option maxHeartbeats 4000000 in
theorem hserves_ok (r l n : Int) (N : Nat) (w : World) (hg : GoodS r l) (hl : l ≤ 9223372036854775807) (hN : Ticks n N) :
    Calls Try.prog 78 #[.int .i64 r, .int .i64 l, .int .i64 n] w fun e w' => ∃ b m d, e = .returned (.slice b m d) ∧ IntsAt w' b m d (srvI r l N) ∧ Below w.heap.size w w' := by
  obtain ⟨i0, hi0, hz0, hz1, hz2⟩ := info_parts intInfoSv
  have HQ := hide (srv_len r l N)
  have hN3 := ticks_lim hN
  have HNl := hide hN
  obtain ⟨⟨g1, g2⟩, g3⟩ := hg
  have HG := hide (show 0 ≤ r ∧ r ≤ 1099511627776 from ⟨g1, g2⟩)
  clear hN
  go_enter Try.func78, Try.ntmps78
  go_wp2
  go_loopw [7, 8] (fun v i wr => ∃ k : Nat, k ≤ N ∧ i = .int .i64 k ∧ wr.ownsRow w.heap.size 3 1 v k (((srvI r l N).take k).map (Value.int .i64)) ∧ Below w.heap.size w wr) (fun _ i _ => N - (intOf i).toNat)
  case atStart => exact ⟨0, Nat.zero_le _, rfl, own_start _ _ _ _, Below.refl _ _⟩
  case round =>
    obtain ⟨k, hk, rfl, hown, hB⟩ := hrel
    have k0 : (0 : Int) ≤ (k : Int) := Int.natCast_nonneg _
    have hBs := hB.size
    by_cases hlt : k < N
    · have k1 : (k : Int) < n := by have := HNl.out; unfold Ticks at this; omega
      have k2 : (k : Int) < 300 := by omega
      have HN := hide (srv_get (r := r) (l := l) hlt)
      obtain ⟨p1, p2⟩ := srv_b HG.out g3 k2
      by_cases hkl : l < (k : Int)
      · have e1 : max ((k : Int) - l) 0 = (k : Int) - l := by omega
        have HN := hide (by have := HN.out; rw [e1, Int.mul_comm] at this; exact this : ((k : Int) - l) * r = (srvI r l N).getD k 0)
        rw [e1, Int.mul_comm] at p1 p2
        clear e1
        go_wp2_with (at_builtin; refine wpList_append_own _ rfl _ _ 30 rfl w.heap.size 3 i0 (.int .i64 0) 1 8 Try.underlying30 hi0 hz0 hz1 hz2 rfl (by decide) _ _ _ rfl (hown.alloc _) ⟨wr.heap.size, 0, none⟩ 1 1 [.int .i64 (((k : Int) - l) * r)] rfl rfl (cell_one_new _ _ _) (by simp [Value.oneCell']) (by unfold maxLen; omega) (by omega) (by simp; omega) ?_; intro v' w1 hown1 hgrow _)
        go_wp2
        go_roundw
        case rel => exact ⟨k + 1, by omega, by go_num, own_next (by rw [HQ.out]; omega) HN.out hown1, (hB.alloc hBs _).grown hgrow (by simp; omega) (own_row hown)⟩
        case measure => simp [intOf]; omega
      · have e1 : max ((k : Int) - l) 0 = 0 := by omega
        have HN := hide (by have := HN.out; rw [e1, Int.mul_zero] at this; exact this : (0 : Int) = (srvI r l N).getD k 0)
        clear e1 p1 p2
        go_wp2_with (at_builtin; refine wpList_append_own _ rfl _ _ 30 rfl w.heap.size 3 i0 (.int .i64 0) 1 8 Try.underlying30 hi0 hz0 hz1 hz2 rfl (by decide) _ _ _ rfl (hown.alloc _) ⟨wr.heap.size, 0, none⟩ 1 1 [.int .i64 (0)] rfl rfl (cell_one_new _ _ _) (by simp [Value.oneCell']) (by unfold maxLen; omega) (by omega) (by simp; omega) ?_; intro v' w1 hown1 hgrow _)
        go_wp2
        go_roundw
        case rel => exact ⟨k + 1, by omega, by go_num, own_next (by rw [HQ.out]; omega) HN.out hown1, (hB.alloc hBs _).grown hgrow (by simp; omega) (own_row hown)⟩
        case measure => simp [intOf]; omega
    · obtain rfl : k = N := by omega
      obtain ⟨b, d, hv, hI⟩ := IntsAt.of_own (own_all HQ.out.symm hown) (by rw [HQ.out]; omega)
      subst hv
      have hex := HNl.out
      rcases (show n ≤ (k : Int) ∨ ((k : Int) < n ∧ (300 : Int) ≤ (k : Int)) by unfold Ticks at hex; omega) with h3 | ⟨h3, h4⟩
      · have h5 : decide ((k : Int) < n) = false := by simp; omega
        clear hown hex
        go_wp2
        go_ret
        exact ⟨b, _, d, rfl, hI, hB⟩
      · have h5 : decide ((k : Int) < 300) = false := by simp; omega
        clear hown hex
        go_wp2
        go_ret
        exact ⟨b, _, d, rfl, hI, hB⟩

set_option maxHeartbeats 2000000 in
theorem hserves_bad (r l n : Int) (w : World) (hg : ¬ GoodS r l) :
    Calls Try.prog 78 #[.int .i64 r, .int .i64 l, .int .i64 n] w fun e w' => e = .returned (.slice none 0 0) ∧ w = w' := by
  rcases (show n ≤ 0 ∨ (0 < n ∧ r < 0) ∨ (0 < n ∧ 0 ≤ r ∧ 1099511627776 < r) ∨ (0 < n ∧ 0 ≤ r ∧ r ≤ 1099511627776 ∧ l < 0) by unfold GoodS at hg; omega) with hn | ⟨hn, h1⟩ | ⟨hn, h1, h2⟩ | ⟨hn, h1, h2, h3⟩
  · have h5 : decide ((0 : Int) < n) = false := by simp; omega
    clear hg
    go_enter Try.func78, Try.ntmps78
    go_wp2
    refine wp_loop_rounds 1 ?_
    rw [rounds_succ]
    go_wp2
    go_ret
    exact ⟨rfl, rfl⟩
  · have h5 : decide ((0 : Int) ≤ r) = false := by simp; omega
    clear hg
    go_enter Try.func78, Try.ntmps78
    go_wp2
    refine wp_loop_rounds 1 ?_
    rw [rounds_succ]
    go_wp2
    go_ret
    exact ⟨rfl, rfl⟩
  · have h5 : decide (r ≤ 1099511627776) = false := by simp; omega
    clear hg
    go_enter Try.func78, Try.ntmps78
    go_wp2
    refine wp_loop_rounds 1 ?_
    rw [rounds_succ]
    go_wp2
    go_ret
    exact ⟨rfl, rfl⟩
  · have h5 : decide ((0 : Int) ≤ l) = false := by simp; omega
    clear hg
    go_enter Try.func78, Try.ntmps78
    go_wp2
    refine wp_loop_rounds 1 ?_
    rw [rounds_succ]
    go_wp2
    go_ret
    exact ⟨rfl, rfl⟩

end Go.Proofs.Ythokolfgagkmiaa
