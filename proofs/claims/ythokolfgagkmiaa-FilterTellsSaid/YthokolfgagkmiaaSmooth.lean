/-
  WALKS: filter.Smooth.
-/
import Derived.Test.YthokolfgagkmiaaPFilter
import Derived.Test.YthokolfgagkmiaaNum
import Derived.Test.YthokolfgagkmiaaMin
namespace Go.Proofs.Ythokolfgagkmiaa
open Go.RowKit
set_option linter.unusedSimpArgs false
set_option linter.unusedVariables false

attribute [local go_sem] iteMin iteMax iteMinN iteMaxN

theorem intInfoSm : (Try.prog.info? 3).map (fun i => (i.zero, i.size, i.bytes)) = some (some (.int .i64 0), 1, 8) := by kernel_rfl

set_option maxHeartbeats 4000000 in
theorem smooth_ok (a : Option Addr) (n c : Nat) (xs : List Int) (s : Nat) (w : World) (hs : s ≤ 16) (h : IntsAt w a n c xs) :
    Calls Try.prog 38 #[.slice a n c, .int .i64 s] w fun e w' => ∃ b m d, e = .returned (.slice b m d) ∧ IntsAt w' b m d (smI xs s) ∧ Below w.heap.size w w' := by
  obtain ⟨i0, hi0, hz0, hz1, hz2⟩ := info_parts intInfoSm
  have hn := h.lim
  have HL := hide h.len
  have HQ := hide (show (smI xs s).length = n by rw [sm_len, h.len])
  obtain ⟨P, hP⟩ : ∃ P, (2 : Int) ^ s = P := ⟨_, rfl⟩
  obtain ⟨P1, P2⟩ := pow_b hs
  rw [hP] at P1 P2
  have HP := hide hP
  have s0 : (0 : Int) ≤ (s : Int) := Int.natCast_nonneg _
  have s1 : (s : Int) ≤ 16 := by omega
  have s2 : ¬ (16 : Int) < (s : Int) := by omega
  go_enter Try.func38, Try.ntmps38
  go_wp2
  go_loopw [5, 6, 17] (fun v y i wr => ∃ k : Nat, k ≤ n ∧ i = .int .i64 k ∧ y = .int .i64 (smY xs s k) ∧ wr.ownsRow w.heap.size 3 1 v k (((smI xs s).take k).map (Value.int .i64)) ∧ Below w.heap.size w wr) (fun _ _ i _ => n - (intOf i).toNat)
  case atStart => exact ⟨0, Nat.zero_le _, rfl, rfl, own_start _ _ _ _, Below.refl _ _⟩
  case round =>
    obtain ⟨k, hk, rfl, rfl, hown, hB⟩ := hrel
    have k0 : (0 : Int) ≤ (k : Int) := Int.natCast_nonneg _
    have hBs := hB.size
    by_cases hlt : k < n
    · have k1 : (k : Int) < (n : Int) := by omega
      have HN := hide (show smY xs s (k + 1) / 65536 = (smI xs s).getD k 0 from sm_get (by rw [HL.out]; exact hlt))
      obtain ⟨y0, y1⟩ := sm_b (s := s) xs (k + 1)
      rcases (show k = 0 ∨ ∃ q, k = q + 1 from by cases k with | zero => exact .inl rfl | succ j => exact .inr ⟨j, rfl⟩) with h0 | ⟨q, h0⟩
      · subst h0
        obtain ⟨ad, x, rfl, hbd, hc, HX⟩ := h.get0 hB hlt
        obtain ⟨x0, x1⟩ := cl_b x
        obtain ⟨f0, f1⟩ := And.intro (fit_ge x) (fit_le x)
        have hcl : min (fitI x) 1099511627776 = clI x := rfl
        clear h
        have e1 : smY xs s (0 + 1) = clI x * 65536 := by simp only [smY]; rw [getD_of HX.out]
        rw [e1] at y0 y1
        have HN := hide (by have := HN.out; rw [e1] at this; exact this : clI x * 65536 / 65536 = (smI xs s).getD 0 0)
        have HE := hide e1
        have hP0 : (0 : Int) / P = 0 := by simp
        have ez : smY xs s 0 = 0 := rfl
        have e5 : clI x * 65536 / 65536 = clI x := by omega
        have HN := hide (by have := HN.out; rw [e5] at this; exact this : clI x = (smI xs s).getD 0 0)
        clear e1
        go_wp2_with (first | (go_at_call 85; refine (fit_any _ _).mono ?_; rintro e w' ⟨rfl, rfl⟩) | (at_builtin; refine wpList_append_own _ rfl _ _ 30 rfl w.heap.size 3 i0 (.int .i64 0) 1 8 Try.underlying30 hi0 hz0 hz1 hz2 rfl (by decide) _ _ _ rfl (hown.alloc _) ⟨wr.heap.size, 0, none⟩ 1 1 [.int .i64 (clI x)] rfl rfl (cell_one_new _ _ _) (by simp [Value.oneCell']) (by unfold maxLen; omega) (by omega) (by simp; omega) ?_; intro v' w1 hown1 hgrow _))
        go_wp2
        go_roundw
        case rel => exact ⟨1, by omega, by go_num, by rw [HE.out], own_next (by rw [HQ.out]; omega) HN.out hown1, (hB.alloc hBs _).grown hgrow (by simp; omega) (own_row hown)⟩
        case measure => (simp [intOf] <;> omega)
      · subst h0
        obtain ⟨ad, x, rfl, hbd, hc, HX⟩ := h.getS hB hlt
        obtain ⟨x0, x1⟩ := cl_b x
        obtain ⟨f0, f1⟩ := And.intro (fit_ge x) (fit_le x)
        have hcl : min (fitI x) 1099511627776 = clI x := rfl
        clear h
        obtain ⟨v0, v1⟩ := sm_b (s := s) xs (q + 1)
        have e1 : smY xs s (q + 1 + 1) = smY xs s (q + 1) + (clI x * 65536 - smY xs s (q + 1)) / P := by rw [← HP.out, ← getD_of HX.out]; rfl
        obtain ⟨Y, hY⟩ : ∃ Y, smY xs s (q + 1) = Y := ⟨_, rfl⟩
        rw [hY] at e1 v0 v1
        rw [e1] at y0 y1
        have HN := hide (by have := HN.out; rw [e1] at this; exact this : (Y + (clI x * 65536 - Y) / P) / 65536 = (smI xs s).getD (q + 1) 0)
        have HE := hide e1
        have HY := hide hY
        rw [hY]
        obtain ⟨d1, d2⟩ := div_b (d := clI x * 65536 - Y) P1
        have d3 : -72057594037927936 ≤ (clI x * 65536 - Y) / P := by omega
        have d4 : (clI x * 65536 - Y) / P ≤ 72057594037927936 := by omega
        have q1 : ¬ ((q : Int) + 1 = 0) := by omega
        have q2 : ((q : Int) + 1 == 0) = false := by simp; omega
        clear e1 hY d1 d2
        go_wp2_with (first | (go_at_call 85; refine (fit_any _ _).mono ?_; rintro e w' ⟨rfl, rfl⟩) | (at_builtin; refine wpList_append_own _ rfl _ _ 30 rfl w.heap.size 3 i0 (.int .i64 0) 1 8 Try.underlying30 hi0 hz0 hz1 hz2 rfl (by decide) _ _ _ rfl (hown.alloc _) ⟨wr.heap.size, 0, none⟩ 1 1 [.int .i64 ((Y + (clI x * 65536 - Y) / P) / 65536)] rfl rfl (cell_one_new _ _ _) (by simp [Value.oneCell']) (by unfold maxLen; omega) (by omega) (by simp; omega) ?_; intro v' w1 hown1 hgrow _))
        go_wp2
        go_roundw
        case rel => exact ⟨q + 1 + 1, by omega, by go_num, by rw [HE.out], own_next (by rw [HQ.out]; omega) HN.out hown1, (hB.alloc hBs _).grown hgrow (by simp; omega) (own_row hown)⟩
        case measure => (simp [intOf] <;> omega)
    · obtain rfl : k = n := by omega
      obtain ⟨b, d, hv, hI⟩ := IntsAt.of_own (own_all HQ.out.symm hown) (by rw [HQ.out]; omega)
      subst hv
      clear h hown
      go_wp2
      go_ret
      exact ⟨b, _, d, rfl, (by have := hI; rwa [HQ.out] at this), hB⟩

set_option maxHeartbeats 1000000 in
theorem smooth_bad (a : Option Addr) (n c : Nat) (s : Int) (w : World) (hs : s < 0 ∨ 16 < s) :
    Calls Try.prog 38 #[.slice a n c, .int .i64 s] w fun e w' => e = .returned (.slice none 0 0) ∧ w = w' := by
  rcases hs with h | h
  · go_enter Try.func38, Try.ntmps38
    go_wp2
    go_ret
    exact ⟨rfl, rfl⟩
  · have h0 : ¬ s < 0 := by omega
    go_enter Try.func38, Try.ntmps38
    go_wp2
    go_ret
    exact ⟨rfl, rfl⟩

end Go.Proofs.Ythokolfgagkmiaa
