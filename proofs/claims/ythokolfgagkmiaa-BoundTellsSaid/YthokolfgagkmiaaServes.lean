/-
  WALKS: bound.Serves.
-/
import Derived.Test.YthokolfgagkmiaaPBound
import Derived.Test.YthokolfgagkmiaaPLine
import Derived.Test.YthokolfgagkmiaaMin
namespace Go.Proofs.Ythokolfgagkmiaa
open Go.RowKit
set_option linter.unusedSimpArgs false
set_option linter.unusedVariables false

attribute [local go_sem] iteMin iteMax iteMinN iteMaxN

theorem intInfoSv : (Try.prog.info? 3).map (fun i => (i.zero, i.size, i.bytes)) = some (some (.int .i64 0), 1, 8) := by kernel_rfl

theorem srv_b {r l : Int} (hr : 0 ≤ r ∧ r ≤ 1099511627776) (hl : 0 ≤ l) {k : Nat} (hk : (k : Int) < 300) : 0 ≤ r * max ((k : Int) - l) 0 ∧ r * max ((k : Int) - l) 0 ≤ 329853488332800 := by
  have h1 : 0 ≤ max ((k : Int) - l) 0 := by omega
  have h2 : max ((k : Int) - l) 0 ≤ 300 := by omega
  refine ⟨Int.mul_nonneg hr.1 h1, ?_⟩
  have := Int.mul_le_mul hr.2 h2 h1 (by omega)
  omega

theorem hsmall_any (x : Int) (w : World) : Calls Try.prog 100 #[.int .i64 x] w fun e w' => IsB (0 ≤ x ∧ x ≤ 1099511627776) e ∧ w = w' := by
  rcases (show x < 0 ∨ 0 ≤ x by omega) with h | h
  · have h0 : decide ((0 : Int) ≤ x) = false := by simp; omega
    go_enter Try.func100, Try.ntmps100
    go_wp2
    go_ret
    exact ⟨IsB.f (by omega), rfl⟩
  · go_enter Try.func100, Try.ntmps100
    go_wp2
    go_ret
    exact ⟨IsB.d (by simp; omega), rfl⟩

def GoodS (r l : Int) : Prop := (0 ≤ r ∧ r ≤ 1099511627776) ∧ 0 ≤ l

set_option maxHeartbeats 2000000 in
theorem serves_ok (r l n : Int) (N : Nat) (w : World) (hg : GoodS r l) (hl : l ≤ 9223372036854775807) (hN : Ticks n N) :
    Calls Try.prog 77 #[.int .i64 r, .int .i64 l, .int .i64 n] w fun e w' => ∃ b m d, e = .returned (.slice b m d) ∧ IntsAt w' b m d (srvI r l N) ∧ Below w.heap.size w w' := by
  obtain ⟨i0, hi0, hz0, hz1, hz2⟩ := info_parts intInfoSv
  have HQ := hide (srv_len r l N)
  have hN3 := ticks_lim hN
  have hNz : min (max n 0) 300 = (N : Int) := by unfold Ticks at hN; omega
  obtain ⟨⟨g1, g2⟩, g3⟩ := hg
  have HG := hide (show 0 ≤ r ∧ r ≤ 1099511627776 from ⟨g1, g2⟩)
  have g4 : ¬ l < 0 := by omega
  clear hN
  go_enter Try.func77, Try.ntmps77
  go_wp2_with (go_at_call 100; refine (callT (hsmall_any _ _) HG.out).mono ?_; rintro e w1 ⟨rfl, rfl⟩)
  go_wp2
  go_loopw [7, 19] (fun v i wr => ∃ k : Nat, k ≤ N ∧ i = .int .i64 k ∧ wr.ownsRow w.heap.size 3 1 v k (((srvI r l N).take k).map (Value.int .i64)) ∧ Below w.heap.size w wr) (fun _ i _ => N - (intOf i).toNat)
  case atStart => exact ⟨0, Nat.zero_le _, rfl, own_start _ _ _ _, Below.refl _ _⟩
  case round =>
    obtain ⟨k, hk, rfl, hown, hB⟩ := hrel
    have k0 : (0 : Int) ≤ (k : Int) := Int.natCast_nonneg _
    have hBs := hB.size
    by_cases hlt : k < N
    · have k1 : (k : Int) < (N : Int) := by omega
      have k2 : (k : Int) < 300 := by omega
      have HN := hide (srv_get (r := r) (l := l) hlt)
      obtain ⟨p1, p2⟩ := srv_b HG.out g3 k2
      go_wp2_with (at_builtin; refine wpList_append_own _ rfl _ _ 30 rfl w.heap.size 3 i0 (.int .i64 0) 1 8 Try.underlying30 hi0 hz0 hz1 hz2 rfl (by decide) _ _ _ rfl (hown.alloc _) ⟨wr.heap.size, 0, none⟩ 1 1 [.int .i64 (r * max ((k : Int) - l) 0)] rfl rfl (cell_one_new _ _ _) (by simp [Value.oneCell']) (by unfold maxLen; omega) (by omega) (by simp; omega) ?_; intro v' w1 hown1 hgrow _)
      go_wp2
      go_roundw
      case rel => exact ⟨k + 1, by omega, by go_num, own_next (by rw [HQ.out]; omega) HN.out hown1, (hB.alloc hBs _).grown hgrow (by simp; omega) (own_row hown)⟩
      case measure => simp [intOf]; omega
    · obtain rfl : k = N := by omega
      obtain ⟨b, d, hv, hI⟩ := IntsAt.of_own (own_all HQ.out.symm hown) (by rw [HQ.out]; omega)
      subst hv
      clear hown
      go_wp2
      go_ret
      exact ⟨b, _, d, rfl, hI, hB⟩

set_option maxHeartbeats 2000000 in
theorem serves_bad (r l n : Int) (w : World) (hg : ¬ GoodS r l) :
    Calls Try.prog 77 #[.int .i64 r, .int .i64 l, .int .i64 n] w fun e w' => e = .returned (.slice none 0 0) ∧ w = w' := by
  by_cases hs : 0 ≤ r ∧ r ≤ 1099511627776
  · have hl : l < 0 := by unfold GoodS at hg; omega
    have HS := hide hs
    clear hg hs
    go_enter Try.func77, Try.ntmps77
    go_wp2_with (go_at_call 100; refine (callT (hsmall_any _ _) HS.out).mono ?_; rintro e w1 ⟨rfl, rfl⟩)
    go_wp2
    go_ret
    exact ⟨rfl, rfl⟩
  · have HS := hide hs
    clear hg hs
    go_enter Try.func77, Try.ntmps77
    go_wp2_with (go_at_call 100; refine (callF (hsmall_any _ _) HS.out).mono ?_; rintro e w1 ⟨rfl, rfl⟩)
    go_wp2
    go_ret
    exact ⟨rfl, rfl⟩

end Go.Proofs.Ythokolfgagkmiaa
