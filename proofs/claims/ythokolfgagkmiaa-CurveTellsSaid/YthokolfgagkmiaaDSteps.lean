/-
  WALKS: the reference's DSteps.
-/
import Derived.Test.YthokolfgagkmiaaNum
import Derived.Test.YthokolfgagkmiaaPCurve
namespace Go.Proofs.Ythokolfgagkmiaa
open Go.RowKit
set_option linter.unusedSimpArgs false
set_option linter.unusedVariables false

theorem intInfoDS : (Try.prog.info? 3).map (fun i => (i.zero, i.size, i.bytes)) = some (some (.int .i64 0), 1, 8) := by kernel_rfl

set_option maxHeartbeats 2000000 in
theorem dsteps_any (a : Option Addr) (n c : Nat) (xs : List Int) (w : World) (h : IntsAt w a n c xs) :
    Calls Try.prog 59 #[.slice a n c] w fun e w' => ∃ b m d, e = .returned (.slice b m d) ∧ IntsAt w' b m d (stepsI xs) ∧ Below w.heap.size w w' := by
  obtain ⟨i0, hi0, hz0, hz1, hz2⟩ := info_parts intInfoDS
  have HQ := hide (show (stepsI xs).length = n - 1 by rw [steps_len, h.len])
  have hlim := h.lim
  go_enter Try.func59, Try.ntmps59
  go_wp2
  go_loopw [3, 8] (fun v i wr => ∃ k j : Nat, k ≤ n ∧ j = k - 1 ∧ i = .int .i64 k ∧ wr.ownsRow w.heap.size 3 1 v j (((stepsI xs).take j).map (Value.int .i64)) ∧ Below w.heap.size w wr) (fun _ i _ => n - (intOf i).toNat)
  case atStart => exact ⟨0, 0, Nat.zero_le _, rfl, rfl, own_start _ _ _ _, Below.refl _ _⟩
  case round =>
    obtain ⟨k, j, hk, hj, rfl, hown, hB⟩ := hrel
    by_cases hlt : k < n
    · have k0 : (0 : Int) ≤ (k : Int) := Int.natCast_nonneg _
      have k1 : (k : Int) < (n : Int) := by omega
      have hBs := hB.size
      rcases (show k = 0 ∨ k = j + 1 by omega) with h0 | h0
      · subst h0
        obtain rfl : j = 0 := by omega
        obtain ⟨ad, x, rfl, hbd, hc, HX⟩ := h.get0 hB hlt
        clear h hj
        go_wp2
        go_roundw
        case rel => exact ⟨1, 0, by omega, rfl, rfl, hown, hB⟩
        case measure => simp [intOf]; omega
      · subst h0
        obtain ⟨ad, x, rfl, hbd, hc, HX⟩ := h.getS hB hlt
        obtain ⟨ad2, y, he2, hbd', hc', HY⟩ := h.getB hB (show j < n by omega)
        injection he2 with he2
        subst he2
        have HZ := hide (steps_get xs j x y HX.out HY.out)
        have j0 : (0 : Int) ≤ (j : Int) := Int.natCast_nonneg _
        clear h hj
        go_wp2_with (first | (go_at_call 92; refine (rless_any _ _ _).mono ?_; rintro e w1 ⟨rfl, rfl⟩) | (at_builtin; refine wpList_append_own _ rfl _ _ 30 rfl w.heap.size 3 i0 (.int .i64 0) 1 8 Try.underlying30 hi0 hz0 hz1 hz2 rfl (by decide) _ _ _ rfl (hown.alloc _) ⟨wr.heap.size, 0, none⟩ 1 1 [.int .i64 (lessI x y)] rfl rfl (cell_one_new _ _ _) (by simp [Value.oneCell']) (by unfold maxLen; omega) (by omega) (by simp; omega) ?_; intro v' w1 hown1 hgrow _))
        go_wp2
        go_roundw
        case rel => exact ⟨j + 1 + 1, j + 1, by omega, by omega, by go_num, own_next (by rw [HQ.out]; omega) HZ.out hown1, (hB.alloc hBs _).grown hgrow (by simp; omega) (own_row hown)⟩
        case measure => simp [intOf]; omega
    · have hjn : j = n - 1 := by omega
      subst hjn
      obtain ⟨b, d, hv, hI⟩ := IntsAt.of_own (own_all (by rw [HQ.out]) hown) (by rw [HQ.out]; omega)
      subst hv
      clear h hown
      go_wp2
      go_ret
      exact ⟨b, _, d, rfl, hI, hB⟩

end Go.Proofs.Ythokolfgagkmiaa
