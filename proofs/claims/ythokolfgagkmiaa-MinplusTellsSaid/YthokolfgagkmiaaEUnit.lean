/-
  WALKS: the reference's EUnit.
-/
import Derived.Test.YthokolfgagkmiaaUnit
namespace Go.Proofs.Ythokolfgagkmiaa
open Go.RowKit
set_option linter.unusedSimpArgs false
set_option linter.unusedVariables false

attribute [local go_sem] iteMin iteMax iteMinN iteMaxN

theorem cell_one_new' (w : World) (v : Value) (t : TypeId) (g : Nat) (hg : w.heap.size = g) : ∀ (j : Nat) (u : Value), [v][j]? = some u → (w.alloc (.cells #[v] t)).cell? ((⟨g, 0, none⟩ : Addr).add j) = some u := by
  subst hg; exact cell_one_new w v t
set_option maxHeartbeats 4000000 in
theorem eunit_any (n : Int) (N : Nat) (w : World) (hN : Ticks n N) :
    Calls Try.prog 49 #[.int .i64 n] w fun e w' => ∃ b m d, e = .returned (.slice b m d) ∧ IntsAt w' b m d (unI N) ∧ Below w.heap.size w w' := by
  obtain ⟨i0, hi0, hz0, hz1, hz2⟩ := info_parts intInfoMp
  have HQ := hide (un_len N)
  have hN3 := ticks_lim hN
  have HNl := hide hN
  clear hN
  go_enter Try.func49, Try.ntmps49
  go_wp2
  go_loopw [3, 4] (fun v i wr => ∃ k : Nat, k ≤ N ∧ i = .int .i64 k ∧ wr.ownsRow w.heap.size 3 1 v k (((unI N).take k).map (Value.int .i64)) ∧ Below w.heap.size w wr) (fun _ i _ => N - (intOf i).toNat)
  case atStart => exact ⟨0, Nat.zero_le _, rfl, own_start _ _ _ _, Below.refl _ _⟩
  case round =>
    obtain ⟨k, hk, rfl, hown, hB⟩ := hrel
    have k0 : (0 : Int) ≤ (k : Int) := Int.natCast_nonneg _
    have hBs := hB.size
    by_cases hlt : k < N
    · have k1 : (k : Int) < n := by have := HNl.out; unfold Ticks at this; omega
      have k2 : (k : Int) < 300 := by omega
      have HN := hide (un_get hlt)
      rcases (show k = 0 ∨ ∃ q, k = q + 1 from by cases k with | zero => exact .inl rfl | succ j => exact .inr ⟨j, rfl⟩) with h0 | ⟨q, h0⟩
      · subst h0
        have HN := hide (by have := HN.out; simp only [if_pos] at this; exact this : (0 : Int) = (unI N).getD 0 0)
        go_wp2_with (at_builtin; refine wpList_append_own _ rfl _ _ 30 rfl w.heap.size 3 i0 (.int .i64 0) 1 8 Try.underlying30 hi0 hz0 hz1 hz2 rfl (by decide) _ _ _ rfl ((hown.alloc _).alloc _) ⟨wr.heap.size + 1, 0, none⟩ 1 1 [.int .i64 (0)] rfl rfl (cell_one_new' _ _ _ _ (by simp)) (by simp [Value.oneCell']) (by unfold maxLen; omega) (by omega) (by simp; omega) ?_; intro v' w1 hown1 hgrow _)
        go_wp2
        go_roundw
        case rel => exact ⟨1, by omega, by go_num, own_next (by rw [HQ.out]; omega) HN.out hown1, ((hB.alloc hBs _).alloc (by simp; omega) _).grown hgrow (by simp; omega) (own_row hown)⟩
        case measure => (simp [intOf] <;> omega)
      · subst h0
        have HN := hide (by have := HN.out; rw [if_neg (by omega)] at this; exact this : (1152921504606846976 : Int) = (unI N).getD (q + 1) 0)
        have q1 : min ((q : Int) + 1) 1 = 1 := by omega
        have q2 : (q : Int) + 1 < 300 := by omega
        have q3 : (q : Int) + 1 < n := by omega
        go_wp2_with (at_builtin; refine wpList_append_own _ rfl _ _ 30 rfl w.heap.size 3 i0 (.int .i64 0) 1 8 Try.underlying30 hi0 hz0 hz1 hz2 rfl (by decide) _ _ _ rfl ((hown.alloc _).alloc _) ⟨wr.heap.size + 1, 0, none⟩ 1 1 [.int .i64 (1152921504606846976)] rfl rfl (cell_one_new' _ _ _ _ (by simp)) (by simp [Value.oneCell']) (by unfold maxLen; omega) (by omega) (by simp; omega) ?_; intro v' w1 hown1 hgrow _)
        go_wp2
        go_roundw
        case rel => exact ⟨q + 1 + 1, by omega, by go_num, own_next (by rw [HQ.out]; omega) HN.out hown1, ((hB.alloc hBs _).alloc (by simp; omega) _).grown hgrow (by simp; omega) (own_row hown)⟩
        case measure => (simp [intOf] <;> omega)
    · obtain rfl : k = N := by omega
      obtain ⟨b, d, hv, hI⟩ := IntsAt.of_own (own_all HQ.out.symm hown) (by rw [HQ.out]; omega)
      subst hv
      have hex := HNl.out
      rcases (show n ≤ (k : Int) ∨ ((k : Int) < n ∧ (300 : Int) ≤ (k : Int)) by unfold Ticks at hex; omega) with h3 | ⟨h3, h4⟩
      · have h5 : decide ((k : Int) < n) = false := by simp; omega
        clear hown hex
        go_wp2
        go_ret
        exact ⟨b, _, d, rfl, hI, hB⟩
      · have h5 : decide ((k : Int) < 300) = false := by simp; omega
        clear hown hex
        go_wp2
        go_ret
        exact ⟨b, _, d, rfl, hI, hB⟩

end Go.Proofs.Ythokolfgagkmiaa
