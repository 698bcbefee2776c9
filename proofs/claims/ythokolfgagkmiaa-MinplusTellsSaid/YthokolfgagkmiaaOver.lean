/-
  WALKS: minplus.Over.
-/
import Derived.Test.YthokolfgagkmiaaConv
namespace Go.Proofs.Ythokolfgagkmiaa
open Go.RowKit
set_option linter.unusedSimpArgs false
set_option linter.unusedVariables false

attribute [local go_sem] iteMin iteMax iteMinN iteMaxN

set_option maxRecDepth 100000 in
set_option maxHeartbeats 4000000 in
theorem over_any (a a' : Option Addr) (n n' c c' : Nat) (xs ys : List Int) (w : World) (h : IntsAt w a n c xs) (h' : IntsAt w a' n' c' ys) :
    Calls Try.prog 52 #[.slice a n c, .slice a' n' c'] w fun e w' => ∃ b m d, e = .returned (.slice b m d) ∧ IntsAt w' b m d (ovI xs ys n n') ∧ Below w.heap.size w w' := by
  obtain ⟨i0, hi0, hz0, hz1, hz2⟩ := info_parts intInfoMp
  have hn := h.lim
  have hn' := h'.lim
  have HQ := hide (ov_len xs ys n n')
  go_enter Try.func52, Try.ntmps52
  go_wp2
  go_loopw [5, 11] (fun v i wr => ∃ k : Nat, k ≤ n ∧ i = .int .i64 k ∧ wr.ownsRow w.heap.size 3 1 v k (((ovI xs ys n n').take k).map (Value.int .i64)) ∧ Below w.heap.size w wr) (fun _ i _ => n - (intOf i).toNat)
  case atStart => exact ⟨0, Nat.zero_le _, rfl, own_start _ _ _ _, Below.refl _ _⟩
  case round =>
    obtain ⟨k, hk, rfl, hown, hB⟩ := hrel
    have k0 : (0 : Int) ≤ (k : Int) := Int.natCast_nonneg _
    have hBs := hB.size
    by_cases hlt : k < n
    · have k1 : (k : Int) < (n : Int) := by omega
      have HN := hide (ov_get (xs := xs) (ys := ys) (n' := n') hlt)
      go_wp2
      go_loopw [7, 8] (fun v i ws => ∃ j : Nat, j ≤ n' ∧ k + j ≤ n ∧ i = .int .i64 j ∧ v = .int .i64 (ovA xs ys k j) ∧ Hid (ws.ownsRow w.heap.size 3 1 u5 k (((ovI xs ys n n').take k).map (Value.int .i64))) ∧ Below w.heap.size w ws) (fun _ i _ => n' - (intOf i).toNat)
      case atStart => exact ⟨0, Nat.zero_le _, by omega, rfl, rfl, hide hown, hB⟩
      case round =>
        clear hown hB hBs
        obtain ⟨j, hj, hj2, rfl, rfl, HO, hB⟩ := hrel
        have hBs := hB.size
        have j0 : (0 : Int) ≤ (j : Int) := Int.natCast_nonneg _
        obtain ⟨g1, g2⟩ := ovA_b xs ys k j
        by_cases hjl : j < n' ∧ k + j < n
        · obtain ⟨hj3, hj4⟩ := hjl
          obtain ⟨ad, x, rfl, hbd, hc, HX⟩ := h.getB hB hj4
          obtain ⟨ad', y, rfl, hbd', hc', HY⟩ := h'.getB hB hj3
          have HS := hide (show ovA xs ys k (j + 1) = max (ovA xs ys k j) (lessI x y) by simp only [ovA]; rw [getD_of HX.out, getD_of HY.out])
          have j1 : (j : Int) < (n' : Int) := by omega
          have j2 : (k : Int) + (j : Int) < (n : Int) := by omega
          have j3 : (0 : Int) ≤ (k : Int) + (j : Int) := by omega
          have hw : IntKind.i64.wrap ((k : Int) + (j : Int)) = (k : Int) + (j : Int) := IntWalk.i64_in _ (by omega)
          have hw2 : ((k : Int) + (j : Int)).toNat = k + j := by omega
          clear h h'
          go_wp2
          go_quiet ((go_at_call 91; exact quietL (less_any _ _ _)))
          clear hw hw2
          go_wp2
          go_roundw
          case rel => exact ⟨j + 1, by omega, by omega, by go_num, by rw [HS.out], hide (own_drewN HO.out _), below_drewN hB _⟩
          case measure => (simp [intOf] <;> omega)
        · have hown := HO.out
          obtain ⟨V, hV⟩ : ∃ V, ovA xs ys k j = V := ⟨_, rfl⟩
          have HN := hide (by have := HN.out; rw [show min n' (n - k) = j by omega, hV] at this; exact this)
          rw [hV] at g1 g2 ⊢
          rcases (show j = n' ∨ (j < n' ∧ k + j = n) by omega) with h3 | ⟨h3, h4⟩
          · have h5 : decide ((j : Int) < (n' : Int)) = false := by simp; omega
            have h6 : decide (j < n') = false := by simp; omega
            clear h h' hV HO hjl
            go_wp2_with (at_builtin; refine wpList_append_own _ rfl _ _ 30 rfl w.heap.size 3 i0 (.int .i64 0) 1 8 Try.underlying30 hi0 hz0 hz1 hz2 rfl (by decide) _ _ _ rfl (hown.alloc _) ⟨wr.heap.size, 0, none⟩ 1 1 [.int .i64 (V)] rfl rfl (cell_one_new _ _ _) (by simp [Value.oneCell']) (by unfold maxLen; omega) (by omega) (by simp; omega) ?_; intro v' w1 hown1 hgrow _)
            go_wp2
            go_roundw
            case rel => exact ⟨k + 1, by omega, by go_num, own_next (by rw [HQ.out]; omega) HN.out hown1, (hB.alloc hBs _).grown hgrow (by simp; omega) (own_row hown)⟩
            case measure => (simp [intOf] <;> omega)
          · have h5 : (n : Int) ≤ (k : Int) + (j : Int) := by omega
            have h6 : (j : Int) < (n' : Int) := by omega
            clear h h' hV HO hjl
            go_wp2_with (at_builtin; refine wpList_append_own _ rfl _ _ 30 rfl w.heap.size 3 i0 (.int .i64 0) 1 8 Try.underlying30 hi0 hz0 hz1 hz2 rfl (by decide) _ _ _ rfl (hown.alloc _) ⟨wr.heap.size, 0, none⟩ 1 1 [.int .i64 (V)] rfl rfl (cell_one_new _ _ _) (by simp [Value.oneCell']) (by unfold maxLen; omega) (by omega) (by simp; omega) ?_; intro v' w1 hown1 hgrow _)
            go_wp2
            go_roundw
            case rel => exact ⟨k + 1, by omega, by go_num, own_next (by rw [HQ.out]; omega) HN.out hown1, (hB.alloc hBs _).grown hgrow (by simp; omega) (own_row hown)⟩
            case measure => (simp [intOf] <;> omega)
    · obtain rfl : k = n := by omega
      obtain ⟨b, d, hv, hI⟩ := IntsAt.of_own (own_all HQ.out.symm hown) (by rw [HQ.out]; omega)
      subst hv
      clear h h' hown
      go_wp2
      go_ret
      exact ⟨b, _, d, rfl, hI, hB⟩

end Go.Proofs.Ythokolfgagkmiaa
