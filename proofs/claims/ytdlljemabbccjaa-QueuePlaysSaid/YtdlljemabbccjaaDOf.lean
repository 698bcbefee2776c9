/-
  WALKS: the reference's DOf.
-/
import Derived.Test.YtdlljemabbccjaaNum
import Derived.Test.YtdlljemabbccjaaPCurve
namespace Go.Proofs.Ytdlljemabbccjaa
open Go.RowKit
set_option linter.unusedSimpArgs false
set_option linter.unusedVariables false

theorem intInfoD : (Try.prog.info? 3).map (fun i => (i.zero, i.size, i.bytes)) = some (some (.int .i64 0), 1, 8) := by kernel_rfl

set_option maxRecDepth 100000 in
set_option maxHeartbeats 2000000 in
theorem dof_any (a : Option Addr) (n c : Nat) (xs : List Int) (w : World) (h : IntsAt w a n c xs) (hlim : n + 1 ≤ 17592186044416) :
    Calls Try.prog 69 #[.slice a n c] w fun e w' => ∃ b m d, e = .returned (.slice b m d) ∧ IntsAt w' b m d (ofI xs) ∧ Below w.heap.size w w' := by
  obtain ⟨i0, hi0, hz0, hz1, hz2⟩ := info_parts intInfoD
  have HQ := hide (show (ofI xs).length = n + 1 by rw [of_len, h.len])
  have HL := hide h.len
  have hcap := h.cap
  go_enter Try.func69, Try.ntmps69
  go_wp2
  go_loopw [3, 11] (fun v i wr => ∃ k : Nat, k ≤ n + 1 ∧ i = .int .i64 k ∧ wr.ownsRow w.heap.size 3 1 v k (((ofI xs).take k).map (Value.int .i64)) ∧ Below w.heap.size w wr) (fun _ i _ => n + 1 - (intOf i).toNat)
  case atStart => exact ⟨0, Nat.zero_le _, rfl, own_start _ _ _ _, Below.refl _ _⟩
  case round =>
    obtain ⟨k, hk, rfl, hown, hB⟩ := hrel
    by_cases hlt : k < n + 1
    · have k0 : (0 : Int) ≤ (k : Int) := Int.natCast_nonneg _
      have k1 : (k : Int) < (n : Int) + 1 := by omega
      have k2 : (k : Int) ≤ (c : Int) := by omega
      have hBs := hB.size
      have HZ := hide (of_get xs k (by rw [HL.out]; omega))
      obtain ⟨wo, hwo⟩ : ∃ wo : World, wo = wr := ⟨_, rfl⟩
      subst hwo
      go_wp2
      go_loop [5, 18] (fun s i => ∃ j : Nat, j ≤ k ∧ i = .int .i64 j ∧ s = .int .i64 (preI xs j)) (fun _ i => k - (intOf i).toNat)
      case atStart => exact ⟨0, Nat.zero_le _, rfl, rfl⟩
      case round =>
        obtain ⟨j, hj, rfl, rfl⟩ := hrel
        by_cases hjl : j < k
        · obtain ⟨ad, x, rfl, hbd, hc, HX⟩ := h.getB hB (show j < n by omega)
          have j0 : (0 : Int) ≤ (j : Int) := Int.natCast_nonneg _
          have j1 : (j : Int) < (k : Int) := by omega
          have HS := hide (pre_succ xs j x HX.out)
          clear h
          go_wp2_with (go_at_call 16; refine (rplus_any _ _ _).mono ?_; rintro e w1 ⟨rfl, rfl⟩)
          go_round
          case rel => exact ⟨j + 1, by omega, by go_num, by rw [HS.out]⟩
          case measure => simp [intOf]; omega
        · obtain rfl : j = k := by omega
          clear h
          obtain ⟨y, hy⟩ : ∃ y, preI xs j = y := ⟨_, rfl⟩
          rw [hy] at HZ
          rw [hy]
          clear hy
          go_wp2_with (at_builtin; refine wpList_append_own _ rfl _ _ 24 rfl w.heap.size 3 i0 (.int .i64 0) 1 8 Try.underlying24 hi0 hz0 hz1 hz2 rfl (by decide) _ _ _ rfl (hown.alloc _) ⟨wo.heap.size, 0, none⟩ 1 1 [.int .i64 (y)] rfl rfl (cell_one_new _ _ _) (by simp [Value.oneCell']) (by unfold maxLen; omega) (by omega) (by simp; omega) ?_; intro v' w1 hown1 hgrow _)
          go_wp2
          go_roundw
          case rel => exact ⟨j + 1, by omega, by go_num, own_next (by rw [HQ.out]; omega) HZ.out hown1, (hB.alloc hBs _).grown hgrow (by simp; omega) (own_row hown)⟩
          case measure => simp [intOf]; omega
    · obtain ⟨b, d, hv, hI⟩ := IntsAt.of_own (own_all (by rw [HQ.out]; omega) hown) (by rw [HQ.out]; omega)
      subst hv
      clear h hown
      go_wp2
      go_ret
      exact ⟨b, _, d, rfl, hI, hB⟩

end Go.Proofs.Ytdlljemabbccjaa
