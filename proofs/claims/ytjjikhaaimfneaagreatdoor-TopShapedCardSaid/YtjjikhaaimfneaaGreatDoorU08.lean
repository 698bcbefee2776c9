/-
  Lemmas and walks for the statement: LNU, LND, LedN, Lmore.
-/
import Derived.Test.YtjjikhaaimfneaaGreatDoorU06
import Derived.Test.YtjjikhaaimfneaaGreatDoorU05
namespace Go.Proofs.YtjjikhaaimfneaaGreatDoor
open Go.RowKit
set_option linter.unusedSimpArgs false
set_option linter.unusedVariables false
set_option maxHeartbeats 1000000 in
theorem lNext_bad (k n b y s p d : Int) (h : copRight ⟨k, n, b, y, s, p⟩ = false) (w : World) :
 Calls Tryz.prog 139 #[.agg #[.int .i64 k, .int .i64 n, .int .i64 b, .int .i64 y, .int .i64 s, .int .i64 p], .int .i64 d] w fun e w' => e = .returned (.tuple #[.agg #[.int .i64 0, .int .i64 0, .int .i64 0, .int .i64 0, .int .i64 0, .int .i64 0], .int .i64 1]) ∧ Below w.heap.size w w' := by
 have H := hide h
 clear h
 go_enter Tryz.func139, Tryz.ntmps139
 go_wp2_with (go_at_call 159; refine (lRight_f _ _ _ _ _ _ H.out _).mono ?_; rintro e w1 ⟨rfl, hb1⟩; have hz1 := hb1.size; simp at hz1; obtain ⟨fz1, fc1, c0, c1, c2, c3, c4, c5, z0, z1, z2, z3, z4, z5⟩ := boxes26 hb1)
 all_goals (refine bodyPost_ret (v := .tuple #[.agg #[.int .i64 0, .int .i64 0, .int .i64 0, .int .i64 0, .int .i64 0, .int .i64 0], .int .i64 1]) ?_ rfl ⟨rfl, ?_⟩)
 all_goals first | (exact BL; done) | skip
 all_goals (simp [results, Tryz.results139, go_sem, z0, z1, z2, z3, z4, z5])
set_option maxHeartbeats 2000000 in
theorem lNext_up_ne (k n b y s p d : Int) (h : copRight ⟨k, n, b, y, s, p⟩ = true) (hd0 : 0 ≤ d) (hd1 : d ≤ 1099511627776) (hc : n * (d - lowBase b d) ≤ 2 * (1 + d)) (hy : ¬ y = 1) (w : World) :
 Calls Tryz.prog 139 #[.agg #[.int .i64 k, .int .i64 n, .int .i64 b, .int .i64 y, .int .i64 s, .int .i64 p], .int .i64 d] w fun e w' => e = .returned (.tuple #[.agg #[.int .i64 k, .int .i64 (clipW (n + 1)), .int .i64 (lowBase b d), .int .i64 (1), .int .i64 1, .int .i64 p], .int .i64 0]) ∧ Below w.heap.size w w' := by
 have H := hide h
 simp only [copRight, decide_eq_true_eq] at h
 obtain ⟨q1, q2, q3, q4, q5, q6, q7, q8, q9, q10⟩ := h
 clear q1 q10
 have hyb : ((1 : Int) == y) = false := by simp; omega
 clear hy
 obtain ⟨e, he⟩ : ∃ e, d - lowBase b d = e := ⟨_, rfl⟩
 rw [he] at hc
 have e0 : 0 ≤ e := by unfold lowBase at he; omega
 have e1 : e ≤ 1099511627777 := by unfold lowBase at he; omega
 have m0 : 0 ≤ n * e := Int.mul_nonneg (by omega) e0
 have m1 : n * e ≤ 12 * e := Int.mul_le_mul_of_nonneg_right q3 e0
 have HE := hide he
 clear he
 go_enter Tryz.func139, Tryz.ntmps139
 go_wp2_with (first | (go_at_call 159; refine (lRight_t _ _ _ _ _ _ H.out _).mono ?_; rintro e w1 ⟨rfl, hb1⟩; have hz1 := hb1.size; simp at hz1; obtain ⟨fz1, fc1, c0, c1, c2, c3, c4, c5, z0, z1, z2, z3, z4, z5⟩ := boxes26 hb1) | (go_at_call 157; refine (seen_any _ _ _ _ _ _ _ q4 q5 hd0 hd1 _).mono ?_; rintro e w2 ⟨rfl, hb2⟩; obtain ⟨⟨s2, s2a, s2b, s2c, s2d, s2e⟩, fz2, y0, y1, y2, y3, y4, y5, g0, g1, g2, g3, g4, g5⟩ := keep26 hb2 fz1 c0 c1 c2 c3 c4 c5 z0 z1 z2 z3 z4 z5; rw [HE.out]) | (go_at_call 158; refine (clip_any _ _).mono ?_; rintro e w3 ⟨rfl, rfl⟩))
 all_goals (refine bodyPost_ret (v := .tuple #[.agg #[.int .i64 k, .int .i64 (clipW (n + 1)), .int .i64 (lowBase b d), .int .i64 (1), .int .i64 1, .int .i64 p], .int .i64 0]) ?_ rfl ⟨rfl, ?_⟩)
 all_goals first | (exact BL; done) | skip
 all_goals (simp [results, Tryz.results139, go_sem, s2, s2a, s2b, s2c, s2d, s2e, g0, g1, g2, g3, g4, g5, y0, y1, y2, y3, y4, y5])
 all_goals (unfold clipW; omega)
set_option maxHeartbeats 2000000 in
theorem lNext_up_s0 (k n b y s p d : Int) (h : copRight ⟨k, n, b, y, s, p⟩ = true) (hd0 : 0 ≤ d) (hd1 : d ≤ 1099511627776) (hc : n * (d - lowBase b d) ≤ 2 * (1 + d)) (hy : y = 1) (hs : s = 0) (w : World) :
 Calls Tryz.prog 139 #[.agg #[.int .i64 k, .int .i64 n, .int .i64 b, .int .i64 y, .int .i64 s, .int .i64 p], .int .i64 d] w fun e w' => e = .returned (.tuple #[.agg #[.int .i64 k, .int .i64 (clipW (n + 1)), .int .i64 (lowBase b d), .int .i64 (1), .int .i64 1, .int .i64 p], .int .i64 0]) ∧ Below w.heap.size w w' := by
 have H := hide h
 simp only [copRight, decide_eq_true_eq] at h
 obtain ⟨q1, q2, q3, q4, q5, q6, q7, q8, q9, q10⟩ := h
 clear q1 q10
 subst hy; subst hs
 obtain ⟨e, he⟩ : ∃ e, d - lowBase b d = e := ⟨_, rfl⟩
 rw [he] at hc
 have e0 : 0 ≤ e := by unfold lowBase at he; omega
 have e1 : e ≤ 1099511627777 := by unfold lowBase at he; omega
 have m0 : 0 ≤ n * e := Int.mul_nonneg (by omega) e0
 have m1 : n * e ≤ 12 * e := Int.mul_le_mul_of_nonneg_right q3 e0
 have HE := hide he
 clear he
 go_enter Tryz.func139, Tryz.ntmps139
 go_wp2_with (first | (go_at_call 159; refine (lRight_t _ _ _ _ _ _ H.out _).mono ?_; rintro e w1 ⟨rfl, hb1⟩; have hz1 := hb1.size; simp at hz1; obtain ⟨fz1, fc1, c0, c1, c2, c3, c4, c5, z0, z1, z2, z3, z4, z5⟩ := boxes26 hb1) | (go_at_call 157; refine (seen_any _ _ _ _ _ _ _ q4 q5 hd0 hd1 _).mono ?_; rintro e w2 ⟨rfl, hb2⟩; obtain ⟨⟨s2, s2a, s2b, s2c, s2d, s2e⟩, fz2, y0, y1, y2, y3, y4, y5, g0, g1, g2, g3, g4, g5⟩ := keep26 hb2 fz1 c0 c1 c2 c3 c4 c5 z0 z1 z2 z3 z4 z5; rw [HE.out]) | (go_at_call 158; refine (clip_any _ _).mono ?_; rintro e w3 ⟨rfl, rfl⟩))
 all_goals (refine bodyPost_ret (v := .tuple #[.agg #[.int .i64 k, .int .i64 (clipW (n + 1)), .int .i64 (lowBase b d), .int .i64 (1), .int .i64 1, .int .i64 p], .int .i64 0]) ?_ rfl ⟨rfl, ?_⟩)
 all_goals first | (exact BL; done) | skip
 all_goals (simp [results, Tryz.results139, go_sem, s2, s2a, s2b, s2c, s2d, s2e, g0, g1, g2, g3, g4, g5, y0, y1, y2, y3, y4, y5])
 all_goals (unfold clipW; omega)
set_option maxHeartbeats 2000000 in
theorem lNext_up_s1 (k n b y s p d : Int) (h : copRight ⟨k, n, b, y, s, p⟩ = true) (hd0 : 0 ≤ d) (hd1 : d ≤ 1099511627776) (hc : n * (d - lowBase b d) ≤ 2 * (1 + d)) (hy : y = 1) (hs : s = 1) (w : World) :
 Calls Tryz.prog 139 #[.agg #[.int .i64 k, .int .i64 n, .int .i64 b, .int .i64 y, .int .i64 s, .int .i64 p], .int .i64 d] w fun e w' => e = .returned (.tuple #[.agg #[.int .i64 k, .int .i64 (clipW (n + 2)), .int .i64 (lowBase b d), .int .i64 (1), .int .i64 2, .int .i64 p], .int .i64 0]) ∧ Below w.heap.size w w' := by
 have H := hide h
 simp only [copRight, decide_eq_true_eq] at h
 obtain ⟨q1, q2, q3, q4, q5, q6, q7, q8, q9, q10⟩ := h
 clear q1 q10
 subst hy; subst hs
 obtain ⟨e, he⟩ : ∃ e, d - lowBase b d = e := ⟨_, rfl⟩
 rw [he] at hc
 have e0 : 0 ≤ e := by unfold lowBase at he; omega
 have e1 : e ≤ 1099511627777 := by unfold lowBase at he; omega
 have m0 : 0 ≤ n * e := Int.mul_nonneg (by omega) e0
 have m1 : n * e ≤ 12 * e := Int.mul_le_mul_of_nonneg_right q3 e0
 have HE := hide he
 clear he
 go_enter Tryz.func139, Tryz.ntmps139
 go_wp2_with (first | (go_at_call 159; refine (lRight_t _ _ _ _ _ _ H.out _).mono ?_; rintro e w1 ⟨rfl, hb1⟩; have hz1 := hb1.size; simp at hz1; obtain ⟨fz1, fc1, c0, c1, c2, c3, c4, c5, z0, z1, z2, z3, z4, z5⟩ := boxes26 hb1) | (go_at_call 157; refine (seen_any _ _ _ _ _ _ _ q4 q5 hd0 hd1 _).mono ?_; rintro e w2 ⟨rfl, hb2⟩; obtain ⟨⟨s2, s2a, s2b, s2c, s2d, s2e⟩, fz2, y0, y1, y2, y3, y4, y5, g0, g1, g2, g3, g4, g5⟩ := keep26 hb2 fz1 c0 c1 c2 c3 c4 c5 z0 z1 z2 z3 z4 z5; rw [HE.out]) | (go_at_call 158; refine (clip_any _ _).mono ?_; rintro e w3 ⟨rfl, rfl⟩))
 all_goals (refine bodyPost_ret (v := .tuple #[.agg #[.int .i64 k, .int .i64 (clipW (n + 2)), .int .i64 (lowBase b d), .int .i64 (1), .int .i64 2, .int .i64 p], .int .i64 0]) ?_ rfl ⟨rfl, ?_⟩)
 all_goals first | (exact BL; done) | skip
 all_goals (simp [results, Tryz.results139, go_sem, s2, s2a, s2b, s2c, s2d, s2e, g0, g1, g2, g3, g4, g5, y0, y1, y2, y3, y4, y5])
 all_goals (unfold clipW; omega)
set_option maxHeartbeats 2000000 in
theorem lNext_up_s2 (k n b y s p d : Int) (h : copRight ⟨k, n, b, y, s, p⟩ = true) (hd0 : 0 ≤ d) (hd1 : d ≤ 1099511627776) (hc : n * (d - lowBase b d) ≤ 2 * (1 + d)) (hy : y = 1) (hs : s = 2) (w : World) :
 Calls Tryz.prog 139 #[.agg #[.int .i64 k, .int .i64 n, .int .i64 b, .int .i64 y, .int .i64 s, .int .i64 p], .int .i64 d] w fun e w' => e = .returned (.tuple #[.agg #[.int .i64 k, .int .i64 (clipW (n + 4)), .int .i64 (lowBase b d), .int .i64 (1), .int .i64 4, .int .i64 p], .int .i64 0]) ∧ Below w.heap.size w w' := by
 have H := hide h
 simp only [copRight, decide_eq_true_eq] at h
 obtain ⟨q1, q2, q3, q4, q5, q6, q7, q8, q9, q10⟩ := h
 clear q1 q10
 subst hy; subst hs
 obtain ⟨e, he⟩ : ∃ e, d - lowBase b d = e := ⟨_, rfl⟩
 rw [he] at hc
 have e0 : 0 ≤ e := by unfold lowBase at he; omega
 have e1 : e ≤ 1099511627777 := by unfold lowBase at he; omega
 have m0 : 0 ≤ n * e := Int.mul_nonneg (by omega) e0
 have m1 : n * e ≤ 12 * e := Int.mul_le_mul_of_nonneg_right q3 e0
 have HE := hide he
 clear he
 go_enter Tryz.func139, Tryz.ntmps139
 go_wp2_with (first | (go_at_call 159; refine (lRight_t _ _ _ _ _ _ H.out _).mono ?_; rintro e w1 ⟨rfl, hb1⟩; have hz1 := hb1.size; simp at hz1; obtain ⟨fz1, fc1, c0, c1, c2, c3, c4, c5, z0, z1, z2, z3, z4, z5⟩ := boxes26 hb1) | (go_at_call 157; refine (seen_any _ _ _ _ _ _ _ q4 q5 hd0 hd1 _).mono ?_; rintro e w2 ⟨rfl, hb2⟩; obtain ⟨⟨s2, s2a, s2b, s2c, s2d, s2e⟩, fz2, y0, y1, y2, y3, y4, y5, g0, g1, g2, g3, g4, g5⟩ := keep26 hb2 fz1 c0 c1 c2 c3 c4 c5 z0 z1 z2 z3 z4 z5; rw [HE.out]) | (go_at_call 158; refine (clip_any _ _).mono ?_; rintro e w3 ⟨rfl, rfl⟩))
 all_goals (refine bodyPost_ret (v := .tuple #[.agg #[.int .i64 k, .int .i64 (clipW (n + 4)), .int .i64 (lowBase b d), .int .i64 (1), .int .i64 4, .int .i64 p], .int .i64 0]) ?_ rfl ⟨rfl, ?_⟩)
 all_goals first | (exact BL; done) | skip
 all_goals (simp [results, Tryz.results139, go_sem, s2, s2a, s2b, s2c, s2d, s2e, g0, g1, g2, g3, g4, g5, y0, y1, y2, y3, y4, y5])
 all_goals (unfold clipW; omega)
set_option maxHeartbeats 2000000 in
theorem lNext_up_s3 (k n b y s p d : Int) (h : copRight ⟨k, n, b, y, s, p⟩ = true) (hd0 : 0 ≤ d) (hd1 : d ≤ 1099511627776) (hc : n * (d - lowBase b d) ≤ 2 * (1 + d)) (hy : y = 1) (hs : s = 3) (w : World) :
 Calls Tryz.prog 139 #[.agg #[.int .i64 k, .int .i64 n, .int .i64 b, .int .i64 y, .int .i64 s, .int .i64 p], .int .i64 d] w fun e w' => e = .returned (.tuple #[.agg #[.int .i64 k, .int .i64 (clipW (n + 4)), .int .i64 (lowBase b d), .int .i64 (1), .int .i64 4, .int .i64 p], .int .i64 0]) ∧ Below w.heap.size w w' := by
 have H := hide h
 simp only [copRight, decide_eq_true_eq] at h
 obtain ⟨q1, q2, q3, q4, q5, q6, q7, q8, q9, q10⟩ := h
 clear q1 q10
 subst hy; subst hs
 obtain ⟨e, he⟩ : ∃ e, d - lowBase b d = e := ⟨_, rfl⟩
 rw [he] at hc
 have e0 : 0 ≤ e := by unfold lowBase at he; omega
 have e1 : e ≤ 1099511627777 := by unfold lowBase at he; omega
 have m0 : 0 ≤ n * e := Int.mul_nonneg (by omega) e0
 have m1 : n * e ≤ 12 * e := Int.mul_le_mul_of_nonneg_right q3 e0
 have HE := hide he
 clear he
 go_enter Tryz.func139, Tryz.ntmps139
 go_wp2_with (first | (go_at_call 159; refine (lRight_t _ _ _ _ _ _ H.out _).mono ?_; rintro e w1 ⟨rfl, hb1⟩; have hz1 := hb1.size; simp at hz1; obtain ⟨fz1, fc1, c0, c1, c2, c3, c4, c5, z0, z1, z2, z3, z4, z5⟩ := boxes26 hb1) | (go_at_call 157; refine (seen_any _ _ _ _ _ _ _ q4 q5 hd0 hd1 _).mono ?_; rintro e w2 ⟨rfl, hb2⟩; obtain ⟨⟨s2, s2a, s2b, s2c, s2d, s2e⟩, fz2, y0, y1, y2, y3, y4, y5, g0, g1, g2, g3, g4, g5⟩ := keep26 hb2 fz1 c0 c1 c2 c3 c4 c5 z0 z1 z2 z3 z4 z5; rw [HE.out]) | (go_at_call 158; refine (clip_any _ _).mono ?_; rintro e w3 ⟨rfl, rfl⟩))
 all_goals (refine bodyPost_ret (v := .tuple #[.agg #[.int .i64 k, .int .i64 (clipW (n + 4)), .int .i64 (lowBase b d), .int .i64 (1), .int .i64 4, .int .i64 p], .int .i64 0]) ?_ rfl ⟨rfl, ?_⟩)
 all_goals first | (exact BL; done) | skip
 all_goals (simp [results, Tryz.results139, go_sem, s2, s2a, s2b, s2c, s2d, s2e, g0, g1, g2, g3, g4, g5, y0, y1, y2, y3, y4, y5])
 all_goals (unfold clipW; omega)
set_option maxHeartbeats 2000000 in
theorem lNext_up_s4 (k n b y s p d : Int) (h : copRight ⟨k, n, b, y, s, p⟩ = true) (hd0 : 0 ≤ d) (hd1 : d ≤ 1099511627776) (hc : n * (d - lowBase b d) ≤ 2 * (1 + d)) (hy : y = 1) (hs : s = 4) (w : World) :
 Calls Tryz.prog 139 #[.agg #[.int .i64 k, .int .i64 n, .int .i64 b, .int .i64 y, .int .i64 s, .int .i64 p], .int .i64 d] w fun e w' => e = .returned (.tuple #[.agg #[.int .i64 k, .int .i64 (clipW (n + 4)), .int .i64 (lowBase b d), .int .i64 (1), .int .i64 4, .int .i64 p], .int .i64 0]) ∧ Below w.heap.size w w' := by
 have H := hide h
 simp only [copRight, decide_eq_true_eq] at h
 obtain ⟨q1, q2, q3, q4, q5, q6, q7, q8, q9, q10⟩ := h
 clear q1 q10
 subst hy; subst hs
 obtain ⟨e, he⟩ : ∃ e, d - lowBase b d = e := ⟨_, rfl⟩
 rw [he] at hc
 have e0 : 0 ≤ e := by unfold lowBase at he; omega
 have e1 : e ≤ 1099511627777 := by unfold lowBase at he; omega
 have m0 : 0 ≤ n * e := Int.mul_nonneg (by omega) e0
 have m1 : n * e ≤ 12 * e := Int.mul_le_mul_of_nonneg_right q3 e0
 have HE := hide he
 clear he
 go_enter Tryz.func139, Tryz.ntmps139
 go_wp2_with (first | (go_at_call 159; refine (lRight_t _ _ _ _ _ _ H.out _).mono ?_; rintro e w1 ⟨rfl, hb1⟩; have hz1 := hb1.size; simp at hz1; obtain ⟨fz1, fc1, c0, c1, c2, c3, c4, c5, z0, z1, z2, z3, z4, z5⟩ := boxes26 hb1) | (go_at_call 157; refine (seen_any _ _ _ _ _ _ _ q4 q5 hd0 hd1 _).mono ?_; rintro e w2 ⟨rfl, hb2⟩; obtain ⟨⟨s2, s2a, s2b, s2c, s2d, s2e⟩, fz2, y0, y1, y2, y3, y4, y5, g0, g1, g2, g3, g4, g5⟩ := keep26 hb2 fz1 c0 c1 c2 c3 c4 c5 z0 z1 z2 z3 z4 z5; rw [HE.out]) | (go_at_call 158; refine (clip_any _ _).mono ?_; rintro e w3 ⟨rfl, rfl⟩))
 all_goals (refine bodyPost_ret (v := .tuple #[.agg #[.int .i64 k, .int .i64 (clipW (n + 4)), .int .i64 (lowBase b d), .int .i64 (1), .int .i64 4, .int .i64 p], .int .i64 0]) ?_ rfl ⟨rfl, ?_⟩)
 all_goals first | (exact BL; done) | skip
 all_goals (simp [results, Tryz.results139, go_sem, s2, s2a, s2b, s2c, s2d, s2e, g0, g1, g2, g3, g4, g5, y0, y1, y2, y3, y4, y5])
 all_goals (unfold clipW; omega)
end Go.Proofs.YtjjikhaaimfneaaGreatDoor
namespace Go.Proofs.YtjjikhaaimfneaaGreatDoor
open Go.RowKit
set_option linter.unusedSimpArgs false
set_option linter.unusedVariables false
set_option maxHeartbeats 2000000 in
theorem lNext_dn_ne (k n b y s p d : Int) (h : copRight ⟨k, n, b, y, s, p⟩ = true) (hd0 : 0 ≤ d) (hd1 : d ≤ 1099511627776) (hc : 2 * (1 + d) < n * (d - lowBase b d)) (hy : ¬ y = -1) (w : World) :
 Calls Tryz.prog 139 #[.agg #[.int .i64 k, .int .i64 n, .int .i64 b, .int .i64 y, .int .i64 s, .int .i64 p], .int .i64 d] w fun e w' => e = .returned (.tuple #[.agg #[.int .i64 k, .int .i64 (clipW (n - 1)), .int .i64 (lowBase b d), .int .i64 (-1), .int .i64 1, .int .i64 p], .int .i64 0]) ∧ Below w.heap.size w w' := by
 have H := hide h
 simp only [copRight, decide_eq_true_eq] at h
 obtain ⟨q1, q2, q3, q4, q5, q6, q7, q8, q9, q10⟩ := h
 clear q1 q10
 have hyb : ((-1 : Int) == y) = false := by simp; omega
 clear hy
 obtain ⟨e, he⟩ : ∃ e, d - lowBase b d = e := ⟨_, rfl⟩
 rw [he] at hc
 have e0 : 0 ≤ e := by unfold lowBase at he; omega
 have e1 : e ≤ 1099511627777 := by unfold lowBase at he; omega
 have m0 : 0 ≤ n * e := Int.mul_nonneg (by omega) e0
 have m1 : n * e ≤ 12 * e := Int.mul_le_mul_of_nonneg_right q3 e0
 have HE := hide he
 clear he
 go_enter Tryz.func139, Tryz.ntmps139
 go_wp2_with (first | (go_at_call 159; refine (lRight_t _ _ _ _ _ _ H.out _).mono ?_; rintro e w1 ⟨rfl, hb1⟩; have hz1 := hb1.size; simp at hz1; obtain ⟨fz1, fc1, c0, c1, c2, c3, c4, c5, z0, z1, z2, z3, z4, z5⟩ := boxes26 hb1) | (go_at_call 157; refine (seen_any _ _ _ _ _ _ _ q4 q5 hd0 hd1 _).mono ?_; rintro e w2 ⟨rfl, hb2⟩; obtain ⟨⟨s2, s2a, s2b, s2c, s2d, s2e⟩, fz2, y0, y1, y2, y3, y4, y5, g0, g1, g2, g3, g4, g5⟩ := keep26 hb2 fz1 c0 c1 c2 c3 c4 c5 z0 z1 z2 z3 z4 z5; rw [HE.out]) | (go_at_call 158; refine (clip_any _ _).mono ?_; rintro e w3 ⟨rfl, rfl⟩))
 all_goals (refine bodyPost_ret (v := .tuple #[.agg #[.int .i64 k, .int .i64 (clipW (n - 1)), .int .i64 (lowBase b d), .int .i64 (-1), .int .i64 1, .int .i64 p], .int .i64 0]) ?_ rfl ⟨rfl, ?_⟩)
 all_goals first | (exact BL; done) | skip
 all_goals (simp [results, Tryz.results139, go_sem, s2, s2a, s2b, s2c, s2d, s2e, g0, g1, g2, g3, g4, g5, y0, y1, y2, y3, y4, y5])
 all_goals (unfold clipW; omega)
set_option maxHeartbeats 2000000 in
theorem lNext_dn_s0 (k n b y s p d : Int) (h : copRight ⟨k, n, b, y, s, p⟩ = true) (hd0 : 0 ≤ d) (hd1 : d ≤ 1099511627776) (hc : 2 * (1 + d) < n * (d - lowBase b d)) (hy : y = -1) (hs : s = 0) (w : World) :
 Calls Tryz.prog 139 #[.agg #[.int .i64 k, .int .i64 n, .int .i64 b, .int .i64 y, .int .i64 s, .int .i64 p], .int .i64 d] w fun e w' => e = .returned (.tuple #[.agg #[.int .i64 k, .int .i64 (clipW (n - 1)), .int .i64 (lowBase b d), .int .i64 (-1), .int .i64 1, .int .i64 p], .int .i64 0]) ∧ Below w.heap.size w w' := by
 have H := hide h
 simp only [copRight, decide_eq_true_eq] at h
 obtain ⟨q1, q2, q3, q4, q5, q6, q7, q8, q9, q10⟩ := h
 clear q1 q10
 subst hy; subst hs
 obtain ⟨e, he⟩ : ∃ e, d - lowBase b d = e := ⟨_, rfl⟩
 rw [he] at hc
 have e0 : 0 ≤ e := by unfold lowBase at he; omega
 have e1 : e ≤ 1099511627777 := by unfold lowBase at he; omega
 have m0 : 0 ≤ n * e := Int.mul_nonneg (by omega) e0
 have m1 : n * e ≤ 12 * e := Int.mul_le_mul_of_nonneg_right q3 e0
 have HE := hide he
 clear he
 go_enter Tryz.func139, Tryz.ntmps139
 go_wp2_with (first | (go_at_call 159; refine (lRight_t _ _ _ _ _ _ H.out _).mono ?_; rintro e w1 ⟨rfl, hb1⟩; have hz1 := hb1.size; simp at hz1; obtain ⟨fz1, fc1, c0, c1, c2, c3, c4, c5, z0, z1, z2, z3, z4, z5⟩ := boxes26 hb1) | (go_at_call 157; refine (seen_any _ _ _ _ _ _ _ q4 q5 hd0 hd1 _).mono ?_; rintro e w2 ⟨rfl, hb2⟩; obtain ⟨⟨s2, s2a, s2b, s2c, s2d, s2e⟩, fz2, y0, y1, y2, y3, y4, y5, g0, g1, g2, g3, g4, g5⟩ := keep26 hb2 fz1 c0 c1 c2 c3 c4 c5 z0 z1 z2 z3 z4 z5; rw [HE.out]) | (go_at_call 158; refine (clip_any _ _).mono ?_; rintro e w3 ⟨rfl, rfl⟩))
 all_goals (refine bodyPost_ret (v := .tuple #[.agg #[.int .i64 k, .int .i64 (clipW (n - 1)), .int .i64 (lowBase b d), .int .i64 (-1), .int .i64 1, .int .i64 p], .int .i64 0]) ?_ rfl ⟨rfl, ?_⟩)
 all_goals first | (exact BL; done) | skip
 all_goals (simp [results, Tryz.results139, go_sem, s2, s2a, s2b, s2c, s2d, s2e, g0, g1, g2, g3, g4, g5, y0, y1, y2, y3, y4, y5])
 all_goals (unfold clipW; omega)
set_option maxHeartbeats 2000000 in
theorem lNext_dn_s1 (k n b y s p d : Int) (h : copRight ⟨k, n, b, y, s, p⟩ = true) (hd0 : 0 ≤ d) (hd1 : d ≤ 1099511627776) (hc : 2 * (1 + d) < n * (d - lowBase b d)) (hy : y = -1) (hs : s = 1) (w : World) :
 Calls Tryz.prog 139 #[.agg #[.int .i64 k, .int .i64 n, .int .i64 b, .int .i64 y, .int .i64 s, .int .i64 p], .int .i64 d] w fun e w' => e = .returned (.tuple #[.agg #[.int .i64 k, .int .i64 (clipW (n - 2)), .int .i64 (lowBase b d), .int .i64 (-1), .int .i64 2, .int .i64 p], .int .i64 0]) ∧ Below w.heap.size w w' := by
 have H := hide h
 simp only [copRight, decide_eq_true_eq] at h
 obtain ⟨q1, q2, q3, q4, q5, q6, q7, q8, q9, q10⟩ := h
 clear q1 q10
 subst hy; subst hs
 obtain ⟨e, he⟩ : ∃ e, d - lowBase b d = e := ⟨_, rfl⟩
 rw [he] at hc
 have e0 : 0 ≤ e := by unfold lowBase at he; omega
 have e1 : e ≤ 1099511627777 := by unfold lowBase at he; omega
 have m0 : 0 ≤ n * e := Int.mul_nonneg (by omega) e0
 have m1 : n * e ≤ 12 * e := Int.mul_le_mul_of_nonneg_right q3 e0
 have HE := hide he
 clear he
 go_enter Tryz.func139, Tryz.ntmps139
 go_wp2_with (first | (go_at_call 159; refine (lRight_t _ _ _ _ _ _ H.out _).mono ?_; rintro e w1 ⟨rfl, hb1⟩; have hz1 := hb1.size; simp at hz1; obtain ⟨fz1, fc1, c0, c1, c2, c3, c4, c5, z0, z1, z2, z3, z4, z5⟩ := boxes26 hb1) | (go_at_call 157; refine (seen_any _ _ _ _ _ _ _ q4 q5 hd0 hd1 _).mono ?_; rintro e w2 ⟨rfl, hb2⟩; obtain ⟨⟨s2, s2a, s2b, s2c, s2d, s2e⟩, fz2, y0, y1, y2, y3, y4, y5, g0, g1, g2, g3, g4, g5⟩ := keep26 hb2 fz1 c0 c1 c2 c3 c4 c5 z0 z1 z2 z3 z4 z5; rw [HE.out]) | (go_at_call 158; refine (clip_any _ _).mono ?_; rintro e w3 ⟨rfl, rfl⟩))
 all_goals (refine bodyPost_ret (v := .tuple #[.agg #[.int .i64 k, .int .i64 (clipW (n - 2)), .int .i64 (lowBase b d), .int .i64 (-1), .int .i64 2, .int .i64 p], .int .i64 0]) ?_ rfl ⟨rfl, ?_⟩)
 all_goals first | (exact BL; done) | skip
 all_goals (simp [results, Tryz.results139, go_sem, s2, s2a, s2b, s2c, s2d, s2e, g0, g1, g2, g3, g4, g5, y0, y1, y2, y3, y4, y5])
 all_goals (unfold clipW; omega)
set_option maxHeartbeats 2000000 in
theorem lNext_dn_s2 (k n b y s p d : Int) (h : copRight ⟨k, n, b, y, s, p⟩ = true) (hd0 : 0 ≤ d) (hd1 : d ≤ 1099511627776) (hc : 2 * (1 + d) < n * (d - lowBase b d)) (hy : y = -1) (hs : s = 2) (w : World) :
 Calls Tryz.prog 139 #[.agg #[.int .i64 k, .int .i64 n, .int .i64 b, .int .i64 y, .int .i64 s, .int .i64 p], .int .i64 d] w fun e w' => e = .returned (.tuple #[.agg #[.int .i64 k, .int .i64 (clipW (n - 4)), .int .i64 (lowBase b d), .int .i64 (-1), .int .i64 4, .int .i64 p], .int .i64 0]) ∧ Below w.heap.size w w' := by
 have H := hide h
 simp only [copRight, decide_eq_true_eq] at h
 obtain ⟨q1, q2, q3, q4, q5, q6, q7, q8, q9, q10⟩ := h
 clear q1 q10
 subst hy; subst hs
 obtain ⟨e, he⟩ : ∃ e, d - lowBase b d = e := ⟨_, rfl⟩
 rw [he] at hc
 have e0 : 0 ≤ e := by unfold lowBase at he; omega
 have e1 : e ≤ 1099511627777 := by unfold lowBase at he; omega
 have m0 : 0 ≤ n * e := Int.mul_nonneg (by omega) e0
 have m1 : n * e ≤ 12 * e := Int.mul_le_mul_of_nonneg_right q3 e0
 have HE := hide he
 clear he
 go_enter Tryz.func139, Tryz.ntmps139
 go_wp2_with (first | (go_at_call 159; refine (lRight_t _ _ _ _ _ _ H.out _).mono ?_; rintro e w1 ⟨rfl, hb1⟩; have hz1 := hb1.size; simp at hz1; obtain ⟨fz1, fc1, c0, c1, c2, c3, c4, c5, z0, z1, z2, z3, z4, z5⟩ := boxes26 hb1) | (go_at_call 157; refine (seen_any _ _ _ _ _ _ _ q4 q5 hd0 hd1 _).mono ?_; rintro e w2 ⟨rfl, hb2⟩; obtain ⟨⟨s2, s2a, s2b, s2c, s2d, s2e⟩, fz2, y0, y1, y2, y3, y4, y5, g0, g1, g2, g3, g4, g5⟩ := keep26 hb2 fz1 c0 c1 c2 c3 c4 c5 z0 z1 z2 z3 z4 z5; rw [HE.out]) | (go_at_call 158; refine (clip_any _ _).mono ?_; rintro e w3 ⟨rfl, rfl⟩))
 all_goals (refine bodyPost_ret (v := .tuple #[.agg #[.int .i64 k, .int .i64 (clipW (n - 4)), .int .i64 (lowBase b d), .int .i64 (-1), .int .i64 4, .int .i64 p], .int .i64 0]) ?_ rfl ⟨rfl, ?_⟩)
 all_goals first | (exact BL; done) | skip
 all_goals (simp [results, Tryz.results139, go_sem, s2, s2a, s2b, s2c, s2d, s2e, g0, g1, g2, g3, g4, g5, y0, y1, y2, y3, y4, y5])
 all_goals (unfold clipW; omega)
set_option maxHeartbeats 2000000 in
theorem lNext_dn_s3 (k n b y s p d : Int) (h : copRight ⟨k, n, b, y, s, p⟩ = true) (hd0 : 0 ≤ d) (hd1 : d ≤ 1099511627776) (hc : 2 * (1 + d) < n * (d - lowBase b d)) (hy : y = -1) (hs : s = 3) (w : World) :
 Calls Tryz.prog 139 #[.agg #[.int .i64 k, .int .i64 n, .int .i64 b, .int .i64 y, .int .i64 s, .int .i64 p], .int .i64 d] w fun e w' => e = .returned (.tuple #[.agg #[.int .i64 k, .int .i64 (clipW (n - 4)), .int .i64 (lowBase b d), .int .i64 (-1), .int .i64 4, .int .i64 p], .int .i64 0]) ∧ Below w.heap.size w w' := by
 have H := hide h
 simp only [copRight, decide_eq_true_eq] at h
 obtain ⟨q1, q2, q3, q4, q5, q6, q7, q8, q9, q10⟩ := h
 clear q1 q10
 subst hy; subst hs
 obtain ⟨e, he⟩ : ∃ e, d - lowBase b d = e := ⟨_, rfl⟩
 rw [he] at hc
 have e0 : 0 ≤ e := by unfold lowBase at he; omega
 have e1 : e ≤ 1099511627777 := by unfold lowBase at he; omega
 have m0 : 0 ≤ n * e := Int.mul_nonneg (by omega) e0
 have m1 : n * e ≤ 12 * e := Int.mul_le_mul_of_nonneg_right q3 e0
 have HE := hide he
 clear he
 go_enter Tryz.func139, Tryz.ntmps139
 go_wp2_with (first | (go_at_call 159; refine (lRight_t _ _ _ _ _ _ H.out _).mono ?_; rintro e w1 ⟨rfl, hb1⟩; have hz1 := hb1.size; simp at hz1; obtain ⟨fz1, fc1, c0, c1, c2, c3, c4, c5, z0, z1, z2, z3, z4, z5⟩ := boxes26 hb1) | (go_at_call 157; refine (seen_any _ _ _ _ _ _ _ q4 q5 hd0 hd1 _).mono ?_; rintro e w2 ⟨rfl, hb2⟩; obtain ⟨⟨s2, s2a, s2b, s2c, s2d, s2e⟩, fz2, y0, y1, y2, y3, y4, y5, g0, g1, g2, g3, g4, g5⟩ := keep26 hb2 fz1 c0 c1 c2 c3 c4 c5 z0 z1 z2 z3 z4 z5; rw [HE.out]) | (go_at_call 158; refine (clip_any _ _).mono ?_; rintro e w3 ⟨rfl, rfl⟩))
 all_goals (refine bodyPost_ret (v := .tuple #[.agg #[.int .i64 k, .int .i64 (clipW (n - 4)), .int .i64 (lowBase b d), .int .i64 (-1), .int .i64 4, .int .i64 p], .int .i64 0]) ?_ rfl ⟨rfl, ?_⟩)
 all_goals first | (exact BL; done) | skip
 all_goals (simp [results, Tryz.results139, go_sem, s2, s2a, s2b, s2c, s2d, s2e, g0, g1, g2, g3, g4, g5, y0, y1, y2, y3, y4, y5])
 all_goals (unfold clipW; omega)
set_option maxHeartbeats 2000000 in
theorem lNext_dn_s4 (k n b y s p d : Int) (h : copRight ⟨k, n, b, y, s, p⟩ = true) (hd0 : 0 ≤ d) (hd1 : d ≤ 1099511627776) (hc : 2 * (1 + d) < n * (d - lowBase b d)) (hy : y = -1) (hs : s = 4) (w : World) :
 Calls Tryz.prog 139 #[.agg #[.int .i64 k, .int .i64 n, .int .i64 b, .int .i64 y, .int .i64 s, .int .i64 p], .int .i64 d] w fun e w' => e = .returned (.tuple #[.agg #[.int .i64 k, .int .i64 (clipW (n - 4)), .int .i64 (lowBase b d), .int .i64 (-1), .int .i64 4, .int .i64 p], .int .i64 0]) ∧ Below w.heap.size w w' := by
 have H := hide h
 simp only [copRight, decide_eq_true_eq] at h
 obtain ⟨q1, q2, q3, q4, q5, q6, q7, q8, q9, q10⟩ := h
 clear q1 q10
 subst hy; subst hs
 obtain ⟨e, he⟩ : ∃ e, d - lowBase b d = e := ⟨_, rfl⟩
 rw [he] at hc
 have e0 : 0 ≤ e := by unfold lowBase at he; omega
 have e1 : e ≤ 1099511627777 := by unfold lowBase at he; omega
 have m0 : 0 ≤ n * e := Int.mul_nonneg (by omega) e0
 have m1 : n * e ≤ 12 * e := Int.mul_le_mul_of_nonneg_right q3 e0
 have HE := hide he
 clear he
 go_enter Tryz.func139, Tryz.ntmps139
 go_wp2_with (first | (go_at_call 159; refine (lRight_t _ _ _ _ _ _ H.out _).mono ?_; rintro e w1 ⟨rfl, hb1⟩; have hz1 := hb1.size; simp at hz1; obtain ⟨fz1, fc1, c0, c1, c2, c3, c4, c5, z0, z1, z2, z3, z4, z5⟩ := boxes26 hb1) | (go_at_call 157; refine (seen_any _ _ _ _ _ _ _ q4 q5 hd0 hd1 _).mono ?_; rintro e w2 ⟨rfl, hb2⟩; obtain ⟨⟨s2, s2a, s2b, s2c, s2d, s2e⟩, fz2, y0, y1, y2, y3, y4, y5, g0, g1, g2, g3, g4, g5⟩ := keep26 hb2 fz1 c0 c1 c2 c3 c4 c5 z0 z1 z2 z3 z4 z5; rw [HE.out]) | (go_at_call 158; refine (clip_any _ _).mono ?_; rintro e w3 ⟨rfl, rfl⟩))
 all_goals (refine bodyPost_ret (v := .tuple #[.agg #[.int .i64 k, .int .i64 (clipW (n - 4)), .int .i64 (lowBase b d), .int .i64 (-1), .int .i64 4, .int .i64 p], .int .i64 0]) ?_ rfl ⟨rfl, ?_⟩)
 all_goals first | (exact BL; done) | skip
 all_goals (simp [results, Tryz.results139, go_sem, s2, s2a, s2b, s2c, s2d, s2e, g0, g1, g2, g3, g4, g5, y0, y1, y2, y3, y4, y5])
 all_goals (unfold clipW; omega)
end Go.Proofs.YtjjikhaaimfneaaGreatDoor
namespace Go.Proofs.YtjjikhaaimfneaaGreatDoor
open Go.RowKit
set_option linter.unusedSimpArgs false
set_option linter.unusedVariables false
set_option maxHeartbeats 1000000 in
theorem ledNew_any (n : Int) (w : World) :
 Calls Tryz.prog 16 #[.int .i64 n] w fun e w' => e = .returned (.agg #[.int .i64 3, .int .i64 (clipW n), .int .i64 (-1), .int .i64 0, .int .i64 0, .int .i64 0]) ∧ Below w.heap.size w w' := by
 go_enter Tryz.func16, Tryz.ntmps16
 go_wp2
 all_goals (refine bodyPost_ret (v := .agg #[.int .i64 3, .int .i64 (clipW n), .int .i64 (-1), .int .i64 0, .int .i64 0, .int .i64 0]) (by simp [results, Tryz.results16, go_sem]; unfold clipW; split <;> (try split) <;> omega) rfl ⟨rfl, ?_⟩)
 all_goals exact BL
set_option maxHeartbeats 2000000 in
theorem ledNext_ok (k n b y s p d : Int) (h : ledRight ⟨k, n, b, y, s, p⟩ = true) (hd0 : 0 ≤ d) (hd1 : d ≤ 1099511627776) (w : World) :
 Calls Tryz.prog 17 #[.agg #[.int .i64 k, .int .i64 n, .int .i64 b, .int .i64 y, .int .i64 s, .int .i64 p], .int .i64 d] w fun e w' => e = .returned (.tuple #[.agg #[.int .i64 k, .int .i64 (ledAll ⟨k, n, b, y, s, p⟩ (d - lowBase b d) / 4), .int .i64 (lowBase b d), .int .i64 y, .int .i64 s, .int .i64 (ledAll ⟨k, n, b, y, s, p⟩ (d - lowBase b d) % 4)], .int .i64 0]) ∧ Below w.heap.size w w' := by
 have H := hide h
 simp only [ledRight, decide_eq_true_eq] at h
 obtain ⟨q1, q2, q3, q4, q5, q6, q7, q8, q9, q10⟩ := h
 have Q := hide q1
 clear q1 q6 q7 q10
 rcases (show b < 0 ∨ (0 ≤ b ∧ d < b) ∨ (0 ≤ b ∧ b ≤ d) by omega) with hb0 | ⟨hb0, hb1⟩ | ⟨hb0, hb1⟩
 all_goals
  go_enter Tryz.func17, Tryz.ntmps17
  go_wp2_with (go_at_call 33; refine (ledRight_t _ _ _ _ _ _ H.out _).mono ?_; rintro e w1 ⟨rfl, hb⟩; have hz := hb.size; have hf := (bcell hb).2; obtain ⟨c0, c1, c2, c3, c4, c5⟩ : w1.cell? ⟨w.heap.size, 0, none⟩ = some (.int .i64 k) ∧ w1.cell? ⟨w.heap.size, 1, none⟩ = some (.int .i64 n) ∧ w1.cell? ⟨w.heap.size, 2, none⟩ = some (.int .i64 b) ∧ w1.cell? ⟨w.heap.size, 3, none⟩ = some (.int .i64 y) ∧ w1.cell? ⟨w.heap.size, 4, none⟩ = some (.int .i64 s) ∧ w1.cell? ⟨w.heap.size, 5, none⟩ = some (.int .i64 p) := (by refine ⟨?_, ?_, ?_, ?_, ?_, ?_⟩ <;> (rw [hb.cell (by first | omega | (simp; done) | (simp; omega))]; try (simp [go_sem, World.cell?_alloc_past]))); obtain ⟨z0, z1, z2, z3, z4, z5⟩ : w1.cell? ⟨w.heap.size + 1, 0, none⟩ = some (.int .i64 0) ∧ w1.cell? ⟨w.heap.size + 1, 1, none⟩ = some (.int .i64 0) ∧ w1.cell? ⟨w.heap.size + 1, 2, none⟩ = some (.int .i64 0) ∧ w1.cell? ⟨w.heap.size + 1, 3, none⟩ = some (.int .i64 0) ∧ w1.cell? ⟨w.heap.size + 1, 4, none⟩ = some (.int .i64 0) ∧ w1.cell? ⟨w.heap.size + 1, 5, none⟩ = some (.int .i64 0) := (by refine ⟨?_, ?_, ?_, ?_, ?_, ?_⟩ <;> (rw [hb.cell (by first | omega | (simp; done) | (simp; omega))]; try (simp [go_sem, World.cell?_alloc_past]))))
  all_goals (refine bodyPost_ret (v := .tuple #[.agg #[.int .i64 k, .int .i64 (ledAll ⟨k, n, b, y, s, p⟩ (d - lowBase b d) / 4), .int .i64 (lowBase b d), .int .i64 y, .int .i64 s, .int .i64 (ledAll ⟨k, n, b, y, s, p⟩ (d - lowBase b d) % 4)], .int .i64 0]) ?_ rfl ⟨rfl, ?_⟩)
  all_goals first | (exact BL; done) | skip
  all_goals (simp [results, Tryz.results17, go_sem, c0, c1, c2, c3, c4, c5, z0, z1, z2, z3, z4, z5])
 all_goals (simp only [ledAll, lowBase])
 all_goals omega
end Go.Proofs.YtjjikhaaimfneaaGreatDoor
namespace Go.Proofs.YtjjikhaaimfneaaGreatDoor
open Go.RowKit
set_option linter.unusedSimpArgs false
set_option linter.unusedVariables false
def upN (n p : Int) : Int := if n = 12 then 12 else if p = 3 then n + 1 else n
def upP (n p : Int) : Int := if n = 12 then p else if p = 3 then 0 else p + 1
def dnN (n p : Int) : Int := if p = 0 then (if n = 1 then 1 else n - 1) else n
def dnP (n p : Int) : Int := if p = 0 then (if n = 1 then 0 else 3) else p - 1
set_option maxHeartbeats 1000000 in
theorem lmore_up (k n b y s p : Int) (h1 : 1 ≤ n) (h2 : n ≤ 12) (h3 : 0 ≤ p) (h4 : p < 4) (w : World) :
 Calls Tryz.prog 161 #[.agg #[.int .i64 k, .int .i64 n, .int .i64 b, .int .i64 y, .int .i64 s, .int .i64 p], .int .i64 1] w fun e w' => e = .returned (.agg #[.int .i64 k, .int .i64 (upN n p), .int .i64 b, .int .i64 y, .int .i64 s, .int .i64 (upP n p)]) ∧ Below w.heap.size w w' := by
 rcases (show n = 12 ∨ (n < 12 ∧ p = 3) ∨ (n < 12 ∧ p < 3) by omega) with h | ⟨h, h'⟩ | ⟨h, h'⟩
 · subst h
   have hp : ((p : Int) == 4) = false := by simp; omega
   go_enter Tryz.func161, Tryz.ntmps161
   go_wp2
   all_goals (refine bodyPost_ret (v := .agg #[.int .i64 k, .int .i64 (upN 12 p), .int .i64 b, .int .i64 y, .int .i64 s, .int .i64 (upP 12 p)]) ?_ rfl ⟨rfl, ?_⟩)
   all_goals first | (exact BL; done) | skip
   all_goals (simp [results, Tryz.results161, go_sem, upN, upP])
 · subst h'
   have hne : ¬ n = 12 := by omega
   go_enter Tryz.func161, Tryz.ntmps161
   go_wp2
   all_goals (refine bodyPost_ret (v := .agg #[.int .i64 k, .int .i64 (upN n 3), .int .i64 b, .int .i64 y, .int .i64 s, .int .i64 (upP n 3)]) ?_ rfl ⟨rfl, ?_⟩)
   all_goals first | (exact BL; done) | skip
   all_goals (simp [results, Tryz.results161, go_sem, upN, upP, hne])
 · have hp : ((p + 1 : Int) == 4) = false := by simp; omega
   have hne : ¬ n = 12 := by omega
   have hne' : ¬ p = 3 := by omega
   go_enter Tryz.func161, Tryz.ntmps161
   go_wp2
   all_goals (refine bodyPost_ret (v := .agg #[.int .i64 k, .int .i64 (upN n p), .int .i64 b, .int .i64 y, .int .i64 s, .int .i64 (upP n p)]) ?_ rfl ⟨rfl, ?_⟩)
   all_goals first | (exact BL; done) | skip
   all_goals (simp [results, Tryz.results161, go_sem, upN, upP, hne, hne'])
set_option maxHeartbeats 1000000 in
theorem lmore_dn (k n b y s p : Int) (h1 : 1 ≤ n) (h2 : n ≤ 12) (h3 : 0 ≤ p) (h4 : p < 4) (w : World) :
 Calls Tryz.prog 161 #[.agg #[.int .i64 k, .int .i64 n, .int .i64 b, .int .i64 y, .int .i64 s, .int .i64 p], .int .i64 (-1)] w fun e w' => e = .returned (.agg #[.int .i64 k, .int .i64 (dnN n p), .int .i64 b, .int .i64 y, .int .i64 s, .int .i64 (dnP n p)]) ∧ Below w.heap.size w w' := by
 rcases (show (p = 0 ∧ n = 1) ∨ (p = 0 ∧ 1 < n) ∨ (0 < p) by omega) with ⟨h, h'⟩ | ⟨h, h'⟩ | h
 · subst h; subst h'
   go_enter Tryz.func161, Tryz.ntmps161
   go_wp2
   all_goals (refine bodyPost_ret (v := .agg #[.int .i64 k, .int .i64 (dnN 1 0), .int .i64 b, .int .i64 y, .int .i64 s, .int .i64 (dnP 1 0)]) ?_ rfl ⟨rfl, ?_⟩)
   all_goals first | (exact BL; done) | skip
   all_goals (simp [results, Tryz.results161, go_sem, dnN, dnP])
 · subst h
   have hne : ¬ n = 1 := by omega
   go_enter Tryz.func161, Tryz.ntmps161
   go_wp2
   all_goals (refine bodyPost_ret (v := .agg #[.int .i64 k, .int .i64 (dnN n 0), .int .i64 b, .int .i64 y, .int .i64 s, .int .i64 (dnP n 0)]) ?_ rfl ⟨rfl, ?_⟩)
   all_goals first | (exact BL; done) | skip
   all_goals (simp [results, Tryz.results161, go_sem, dnN, dnP, hne])
 · have hp : ((p - 1 : Int) == 4) = false := by simp; omega
   have hne : ¬ p = 0 := by omega
   go_enter Tryz.func161, Tryz.ntmps161
   go_wp2
   all_goals (refine bodyPost_ret (v := .agg #[.int .i64 k, .int .i64 (dnN n p), .int .i64 b, .int .i64 y, .int .i64 s, .int .i64 (dnP n p)]) ?_ rfl ⟨rfl, ?_⟩)
   all_goals first | (exact BL; done) | skip
   all_goals (simp [results, Tryz.results161, go_sem, dnN, dnP, hne])
end Go.Proofs.YtjjikhaaimfneaaGreatDoor
