/-
  WALKS: minplus.Conv.
-/
import Derived.Test.YthokolfgagkmiaaPMin
import Derived.Test.YthokolfgagkmiaaNum
import Derived.Test.YthokolfgagkmiaaMin
import Derived.IntWalk
namespace Go.Proofs.Ythokolfgagkmiaa
open Go.RowKit
set_option linter.unusedSimpArgs false
set_option linter.unusedVariables false

attribute [local go_sem] iteMin iteMax iteMinN iteMaxN

theorem intInfoMp : (Try.prog.info? 3).map (fun i => (i.zero, i.size, i.bytes)) = some (some (.int .i64 0), 1, 8) := by kernel_rfl

theorem own_drewN {w : World} {B e size n : Nat} {v : Value} {xs : List Value} (h : w.ownsRow B e size v n xs) (m : Nat) : (w.drewN m).ownsRow B e size v n xs := h

set_option maxRecDepth 100000 in
set_option maxHeartbeats 4000000 in
theorem conv_any (a a' : Option Addr) (n n' c c' : Nat) (xs ys : List Int) (w : World) (h : IntsAt w a n c xs) (h' : IntsAt w a' n' c' ys) :
    Calls Try.prog 50 #[.slice a n c, .slice a' n' c'] w fun e w' => ∃ b m d, e = .returned (.slice b m d) ∧ IntsAt w' b m d (cvI xs ys (min n n')) ∧ Below w.heap.size w w' := by
  obtain ⟨i0, hi0, hz0, hz1, hz2⟩ := info_parts intInfoMp
  have hn := h.lim
  have hn' := h'.lim
  obtain ⟨N, hN⟩ : ∃ N, min n n' = N := ⟨_, rfl⟩
  have hNz : min (n : Int) (n' : Int) = (N : Int) := by omega
  have H1 : N ≤ n := by omega
  have H2 : N ≤ n' := by omega
  rw [hN]
  have HQ := hide (cv_len xs ys N)
  clear hN
  go_enter Try.func50, Try.ntmps50
  go_wp2
  go_loopw [5, 14] (fun v i wr => ∃ k : Nat, k ≤ N ∧ i = .int .i64 k ∧ wr.ownsRow w.heap.size 3 1 v k (((cvI xs ys N).take k).map (Value.int .i64)) ∧ Below w.heap.size w wr) (fun _ i _ => N - (intOf i).toNat)
  case atStart => exact ⟨0, Nat.zero_le _, rfl, own_start _ _ _ _, Below.refl _ _⟩
  case round =>
    obtain ⟨k, hk, rfl, hown, hB⟩ := hrel
    have k0 : (0 : Int) ≤ (k : Int) := Int.natCast_nonneg _
    have hBs := hB.size
    by_cases hlt : k < N
    · have k1 : (k : Int) < (N : Int) := by omega
      have HN := hide (cv_get (xs := xs) (ys := ys) hlt)
      go_wp2
      go_loopw [7, 19] (fun v i ws => ∃ j : Nat, j ≤ k + 1 ∧ i = .int .i64 j ∧ v = .int .i64 (cvA xs ys k j) ∧ Hid (ws.ownsRow w.heap.size 3 1 u5 k (((cvI xs ys N).take k).map (Value.int .i64))) ∧ Below w.heap.size w ws) (fun _ i _ => k + 1 - (intOf i).toNat)
      case atStart => exact ⟨0, Nat.zero_le _, rfl, rfl, hide hown, hB⟩
      case round =>
        clear hown hB hBs
        obtain ⟨j, hj, rfl, rfl, HO, hB⟩ := hrel
        have hBs := hB.size
        have j0 : (0 : Int) ≤ (j : Int) := Int.natCast_nonneg _
        obtain ⟨g1, g2⟩ := cvA_b xs ys k j
        by_cases hjl : j < k + 1
        · obtain ⟨q, hq⟩ : ∃ q, q = k - j := ⟨_, rfl⟩
          obtain ⟨ad, x, rfl, hbd, hc, HX⟩ := h.getB hB (show j < n by omega)
          obtain ⟨ad', y, rfl, hbd', hc', HY⟩ := h'.getB hB (show q < n' by omega)
          have HS := hide (show cvA xs ys k (j + 1) = min (cvA xs ys k j) (plusI x y) by simp only [cvA]; rw [getD_of HX.out, ← hq, getD_of HY.out])
          have j1 : (j : Int) < (k : Int) + 1 := by omega
          have j2 : (j : Int) < (n : Int) := by omega
          have hw : IntKind.i64.wrap ((k : Int) - (j : Int)) = (q : Int) := by rw [show (k : Int) - (j : Int) = (q : Int) by omega]; exact IntWalk.i64_in _ (by omega)
          have q0 : (0 : Int) ≤ (q : Int) := Int.natCast_nonneg _
          have q1 : (q : Int) < (n' : Int) := by omega
          have hqz : (k : Int) - (j : Int) = (q : Int) := by omega
          have hw2 : IntKind.i64.wrap (q : Int) = (q : Int) := IntWalk.i64_in _ (by omega)
          clear h h' hq
          go_wp2
          go_quiet ((go_at_call 90; exact quietL (plus_any _ _ _)))
          clear hw hw2 hqz
          go_wp2
          go_roundw
          case rel => exact ⟨j + 1, by omega, by go_num, by rw [HS.out], hide (own_drewN HO.out _), below_drewN hB _⟩
          case measure => (simp [intOf] <;> omega)
        · obtain rfl : j = k + 1 := by omega
          have hown := HO.out
          obtain ⟨V, hV⟩ : ∃ V, cvA xs ys k (k + 1) = V := ⟨_, rfl⟩
          have HN := hide (by have := HN.out; rw [hV] at this; exact this)
          rw [hV] at g1 g2 ⊢
          clear h h' hV HO
          go_wp2_with (at_builtin; refine wpList_append_own _ rfl _ _ 30 rfl w.heap.size 3 i0 (.int .i64 0) 1 8 Try.underlying30 hi0 hz0 hz1 hz2 rfl (by decide) _ _ _ rfl (hown.alloc _) ⟨wr.heap.size, 0, none⟩ 1 1 [.int .i64 (V)] rfl rfl (cell_one_new _ _ _) (by simp [Value.oneCell']) (by unfold maxLen; omega) (by omega) (by simp; omega) ?_; intro v' w1 hown1 hgrow _)
          go_wp2
          go_roundw
          case rel => exact ⟨k + 1, by omega, by go_num, own_next (by rw [HQ.out]; omega) HN.out hown1, (hB.alloc hBs _).grown hgrow (by simp; omega) (own_row hown)⟩
          case measure => (simp [intOf] <;> omega)
    · obtain rfl : k = N := by omega
      obtain ⟨b, d, hv, hI⟩ := IntsAt.of_own (own_all HQ.out.symm hown) (by rw [HQ.out]; omega)
      subst hv
      clear h h' hown
      go_wp2
      go_ret
      exact ⟨b, _, d, rfl, hI, hB⟩

end Go.Proofs.Ythokolfgagkmiaa
