/-
  WALKS: filter.Spread.
-/
import Derived.Test.YthokolfgagkmiaaSmooth
import Derived.IntWalk
namespace Go.Proofs.Ythokolfgagkmiaa
open Go.RowKit
set_option linter.unusedSimpArgs false
set_option linter.unusedVariables false

attribute [local go_sem] iteMin iteMax iteMinN iteMaxN

set_option maxRecDepth 100000 in
set_option maxHeartbeats 8000000 in
theorem spread_ok (a : Option Addr) (n c : Nat) (xs : List Int) (s : Nat) (w : World) (hs : s ≤ 16) (h : IntsAt w a n c xs) :
    Calls Try.prog 40 #[.slice a n c, .int .i64 s] w fun e w' => ∃ b m d, e = .returned (.slice b m d) ∧ IntsAt w' b m d (smI (farI xs s) s) ∧ Below w.heap.size w w' := by
  obtain ⟨i0, hi0, hz0, hz1, hz2⟩ := info_parts intInfoSm
  have hn := h.lim
  have HL := hide h.len
  have HQ := hide (show (farI xs s).length = n by rw [farI_len, h.len])
  have HQ2 := hide (show (smI xs s).length = n by rw [sm_len, h.len])
  have HS := hide hs
  clear hs
  go_enter Try.func40, Try.ntmps40
  go_wp2_with fail
  refine (smooth_ok _ _ _ _ _ _ HS.out h).mono ?_
  rintro e w1 ⟨p1, m1, q1, rfl, I1, B1⟩
  obtain rfl : m1 = n := by rw [← I1.len]; exact HQ2.out
  have hI := h.below B1
  clear h
  go_wp2_with fail
  go_loopw [6, 15] (fun v i wr => ∃ k : Nat, k ≤ m1 ∧ i = .int .i64 k ∧ wr.ownsRow w1.heap.size 3 1 v k (((farI xs s).take k).map (Value.int .i64)) ∧ Below w1.heap.size w1 wr) (fun _ i _ => m1 - (intOf i).toNat)
  case atStart => exact ⟨0, Nat.zero_le _, rfl, own_start _ _ _ _, Below.refl _ _⟩
  case round =>
    obtain ⟨k, hk, rfl, hown, hB⟩ := hrel
    have k0 : (0 : Int) ≤ (k : Int) := Int.natCast_nonneg _
    have hBs := hB.size
    by_cases hlt : k < m1
    · have k1 : (k : Int) < (m1 : Int) := by omega
      have HN := hide (farI_get (xs := xs) (s := s) (k := k) (by rw [HL.out]; exact hlt))
      rcases (show k = 0 ∨ ∃ q, k = q + 1 from by cases k with | zero => exact .inl rfl | succ j => exact .inr ⟨j, rfl⟩) with h0 | ⟨q, h0⟩
      · subst h0
        obtain ⟨ad, x, rfl, hbd, hc, HX⟩ := hI.get0 hB hlt
        obtain ⟨ad', y, rfl, hbd', hc', HY⟩ := I1.get0 hB hlt
        obtain ⟨x0, x1⟩ := cl_b x
        obtain ⟨y0, y1⟩ := smI_b (xs := xs) (s := s) (k := 0)
        have hy := getD_of HY.out
        rw [hy] at y0 y1
        have HN := hide (by have := HN.out; rw [hy, getD_of HX.out] at this; exact this : max (clI x - y) (y - clI x) = (farI xs s).getD 0 0)
        have hcl : min (fitI x) 1099511627776 = clI x := rfl
        clear hI I1 hy
        go_wp2
        go_quiet ((go_at_call 85; exact quietL (fit_any _ _)))
        go_wp2_with (at_builtin; refine wpList_append_own _ rfl _ _ 30 rfl w1.heap.size 3 i0 (.int .i64 0) 1 8 Try.underlying30 hi0 hz0 hz1 hz2 rfl (by decide) _ _ _ rfl (hown.alloc _) ⟨wr.heap.size, 0, none⟩ 1 1 [.int .i64 (max (clI x - y) (y - clI x))] rfl rfl (cell_one_new _ _ _) (by simp [Value.oneCell']) (by unfold maxLen; omega) (by omega) (by simp; omega) ?_; intro v' w1 hown1 hgrow _)
        go_wp2
        go_roundw
        case rel => exact ⟨1, by omega, by go_num, own_next (by rw [HQ.out]; omega) HN.out hown1, ((below_drewN hB _).alloc (by simp; exact hBs) _).grown hgrow (by simp; omega) (own_row hown)⟩
        case measure => (simp [intOf] <;> omega)
      · subst h0
        obtain ⟨ad, x, rfl, hbd, hc, HX⟩ := hI.getS hB hlt
        obtain ⟨ad', y, rfl, hbd', hc', HY⟩ := I1.getB hB (show q < m1 by omega)
        obtain ⟨x0, x1⟩ := cl_b x
        obtain ⟨y0, y1⟩ := smI_b (xs := xs) (s := s) (k := q)
        have hy := getD_of HY.out
        rw [hy] at y0 y1
        have HN := hide (by have := HN.out; rw [show q + 1 - 1 = q by omega, hy, getD_of HX.out] at this; exact this : max (clI x - y) (y - clI x) = (farI xs s).getD (q + 1) 0)
        have hcl : min (fitI x) 1099511627776 = clI x := rfl
        have j0 : (0 : Int) ≤ (q : Int) := Int.natCast_nonneg _
        have j3 : (q : Int) < (m1 : Int) := by omega
        have j4 : (q : Int) + 1 < (m1 : Int) := by omega
        have j5 : (0 : Int) ≤ (q : Int) + 1 := by omega
        have hw1 : IntKind.i64.wrap ((q : Int) + 1 - 1) = (q : Int) := by rw [show (q : Int) + 1 - 1 = (q : Int) by omega]; exact IntWalk.i64_in _ (by omega)
        have hw2 : IntKind.i64.wrap (q : Int) = (q : Int) := IntWalk.i64_in _ (by omega)
        have hmx : max (q : Int) 0 = (q : Int) := by omega
        have hw3 : (q : Int).toNat = q := by omega
        have hw4 : ((q : Int) + 1).toNat = q + 1 := by omega
        have hw5 : ¬ (q : Int) < 0 := by omega
        clear hI I1 hy
        go_wp2
        go_quiet ((go_at_call 85; exact quietL (fit_any _ _)))
        clear hw1 hw2 hw3 hw4 hmx
        go_wp2_with (at_builtin; refine wpList_append_own _ rfl _ _ 30 rfl w1.heap.size 3 i0 (.int .i64 0) 1 8 Try.underlying30 hi0 hz0 hz1 hz2 rfl (by decide) _ _ _ rfl (hown.alloc _) ⟨wr.heap.size, 0, none⟩ 1 1 [.int .i64 (max (clI x - y) (y - clI x))] rfl rfl (cell_one_new _ _ _) (by simp [Value.oneCell']) (by unfold maxLen; omega) (by omega) (by simp; omega) ?_; intro v' w1 hown1 hgrow _)
        go_wp2
        go_roundw
        case rel => exact ⟨q + 1 + 1, by omega, by go_num, own_next (by rw [HQ.out]; omega) HN.out hown1, ((below_drewN hB _).alloc (by simp; exact hBs) _).grown hgrow (by simp; omega) (own_row hown)⟩
        case measure => (simp [intOf] <;> omega)
    · obtain rfl : k = m1 := by omega
      obtain ⟨b, d, hv, hI3⟩ := IntsAt.of_own (own_all HQ.out.symm hown) (by rw [HQ.out]; omega)
      subst hv
      clear hI I1 hown
      have HB := hide (B1.trans (hB.mono B1.size))
      go_wp2_with fail
      refine (smooth_ok _ _ _ _ _ _ HS.out hI3).mono ?_
      rintro e w5 ⟨p5, m5, q5, rfl, I5, B5⟩
      go_wp2
      go_ret
      exact ⟨_, _, _, rfl, I5, HB.out.trans (B5.mono (Nat.le_trans B1.size hBs))⟩

set_option maxHeartbeats 2000000 in
theorem spread_bad (a : Option Addr) (n c : Nat) (s : Int) (w : World) (hs : s < 0 ∨ 16 < s) :
    Calls Try.prog 40 #[.slice a n c, .int .i64 s] w fun e w' => e = .returned (.slice none 0 0) ∧ w = w' := by
  have HS := hide hs
  clear hs
  go_enter Try.func40, Try.ntmps40
  go_wp2_with (go_at_call 38; refine (smooth_bad _ _ _ _ _ HS.out).mono ?_; rintro e w1 ⟨rfl, rfl⟩)
  refine wp_loop_rounds 1 ?_
  rw [rounds_succ]
  go_wp2_with (go_at_call 38; refine (smooth_bad _ _ _ _ _ HS.out).mono ?_; rintro e w1 ⟨rfl, rfl⟩)
  go_ret
  exact ⟨rfl, rfl⟩

end Go.Proofs.Ythokolfgagkmiaa
