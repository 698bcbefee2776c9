/-
  Lemmas and walks for the statement: LNU, LND.
-/
import Derived.Test.YtjjikhaaimfneaaGreatDoorE07
namespace Go.Proofs.YtjjikhaaimfneaaGreatDoor
open Go.RowKit
set_option linter.unusedSimpArgs false
set_option linter.unusedVariables false
set_option maxHeartbeats 1000000 in
theorem lNext_bad (k n b y s p d : Int) (h : copRight ⟨k, n, b, y, s, p⟩ = false) (w : World) :
 Calls Tryz.prog 139 #[.agg #[.int .i64 k, .int .i64 n, .int .i64 b, .int .i64 y, .int .i64 s, .int .i64 p], .int .i64 d] w fun e w' => e = .returned (.tuple #[.agg #[.int .i64 0, .int .i64 0, .int .i64 0, .int .i64 0, .int .i64 0, .int .i64 0], .int .i64 1]) ∧ Below w.heap.size w w' := by
 have H := hide h
 clear h
 go_enter Tryz.func139, Tryz.ntmps139
 go_wp2_with (go_at_call 159; refine (lRight_f _ _ _ _ _ _ H.out _).mono ?_; rintro e w1 ⟨rfl, hb1⟩; have hz1 := hb1.size; simp at hz1; obtain ⟨fz1, fc1, c0, c1, c2, c3, c4, c5, z0, z1, z2, z3, z4, z5⟩ := boxes26 hb1)
 all_goals (refine bodyPost_ret (v := .tuple #[.agg #[.int .i64 0, .int .i64 0, .int .i64 0, .int .i64 0, .int .i64 0, .int .i64 0], .int .i64 1]) ?_ rfl ⟨rfl, ?_⟩)
 all_goals first | (exact BL; done) | skip
 all_goals (simp [results, Tryz.results139, go_sem, z0, z1, z2, z3, z4, z5])
set_option maxHeartbeats 2000000 in
theorem lNext_up_ne (k n b y s p d : Int) (h : copRight ⟨k, n, b, y, s, p⟩ = true) (hd0 : 0 ≤ d) (hd1 : d ≤ 1099511627776) (hc : n * (d - lowBase b d) ≤ 2 * (1 + d)) (hy : ¬ y = 1) (w : World) :
 Calls Tryz.prog 139 #[.agg #[.int .i64 k, .int .i64 n, .int .i64 b, .int .i64 y, .int .i64 s, .int .i64 p], .int .i64 d] w fun e w' => e = .returned (.tuple #[.agg #[.int .i64 k, .int .i64 (clipW (n + 1)), .int .i64 (lowBase b d), .int .i64 (1), .int .i64 1, .int .i64 p], .int .i64 0]) ∧ Below w.heap.size w w' := by
 have H := hide h
 simp only [copRight, decide_eq_true_eq] at h
 obtain ⟨q1, q2, q3, q4, q5, q6, q7, q8, q9, q10⟩ := h
 clear q1 q10
 have hyb : ((1 : Int) == y) = false := by simp; omega
 clear hy
 obtain ⟨e, he⟩ : ∃ e, d - lowBase b d = e := ⟨_, rfl⟩
 rw [he] at hc
 have e0 : 0 ≤ e := by unfold lowBase at he; omega
 have e1 : e ≤ 1099511627777 := by unfold lowBase at he; omega
 have m0 : 0 ≤ n * e := Int.mul_nonneg (by omega) e0
 have m1 : n * e ≤ 12 * e := Int.mul_le_mul_of_nonneg_right q3 e0
 have HE := hide he
 clear he
 go_enter Tryz.func139, Tryz.ntmps139
 go_wp2_with (first | (go_at_call 159; refine (lRight_t _ _ _ _ _ _ H.out _).mono ?_; rintro e w1 ⟨rfl, hb1⟩; have hz1 := hb1.size; simp at hz1; obtain ⟨fz1, fc1, c0, c1, c2, c3, c4, c5, z0, z1, z2, z3, z4, z5⟩ := boxes26 hb1) | (go_at_call 157; refine (seen_any _ _ _ _ _ _ _ q4 q5 hd0 hd1 _).mono ?_; rintro e w2 ⟨rfl, hb2⟩; obtain ⟨⟨s2, s2a, s2b, s2c, s2d, s2e⟩, fz2, y0, y1, y2, y3, y4, y5, g0, g1, g2, g3, g4, g5⟩ := keep26 hb2 fz1 c0 c1 c2 c3 c4 c5 z0 z1 z2 z3 z4 z5; rw [HE.out]) | (go_at_call 158; refine (clip_any _ _).mono ?_; rintro e w3 ⟨rfl, rfl⟩))
 all_goals (refine bodyPost_ret (v := .tuple #[.agg #[.int .i64 k, .int .i64 (clipW (n + 1)), .int .i64 (lowBase b d), .int .i64 (1), .int .i64 1, .int .i64 p], .int .i64 0]) ?_ rfl ⟨rfl, ?_⟩)
 all_goals first | (exact BL; done) | skip
 all_goals (simp [results, Tryz.results139, go_sem, s2, s2a, s2b, s2c, s2d, s2e, g0, g1, g2, g3, g4, g5, y0, y1, y2, y3, y4, y5])
 all_goals (unfold clipW; omega)
set_option maxHeartbeats 2000000 in
theorem lNext_up_s0 (k n b y s p d : Int) (h : copRight ⟨k, n, b, y, s, p⟩ = true) (hd0 : 0 ≤ d) (hd1 : d ≤ 1099511627776) (hc : n * (d - lowBase b d) ≤ 2 * (1 + d)) (hy : y = 1) (hs : s = 0) (w : World) :
 Calls Tryz.prog 139 #[.agg #[.int .i64 k, .int .i64 n, .int .i64 b, .int .i64 y, .int .i64 s, .int .i64 p], .int .i64 d] w fun e w' => e = .returned (.tuple #[.agg #[.int .i64 k, .int .i64 (clipW (n + 1)), .int .i64 (lowBase b d), .int .i64 (1), .int .i64 1, .int .i64 p], .int .i64 0]) ∧ Below w.heap.size w w' := by
 have H := hide h
 simp only [copRight, decide_eq_true_eq] at h
 obtain ⟨q1, q2, q3, q4, q5, q6, q7, q8, q9, q10⟩ := h
 clear q1 q10
 subst hy; subst hs
 obtain ⟨e, he⟩ : ∃ e, d - lowBase b d = e := ⟨_, rfl⟩
 rw [he] at hc
 have e0 : 0 ≤ e := by unfold lowBase at he; omega
 have e1 : e ≤ 1099511627777 := by unfold lowBase at he; omega
 have m0 : 0 ≤ n * e := Int.mul_nonneg (by omega) e0
 have m1 : n * e ≤ 12 * e := Int.mul_le_mul_of_nonneg_right q3 e0
 have HE := hide he
 clear he
 go_enter Tryz.func139, Tryz.ntmps139
 go_wp2_with (first | (go_at_call 159; refine (lRight_t _ _ _ _ _ _ H.out _).mono ?_; rintro e w1 ⟨rfl, hb1⟩; have hz1 := hb1.size; simp at hz1; obtain ⟨fz1, fc1, c0, c1, c2, c3, c4, c5, z0, z1, z2, z3, z4, z5⟩ := boxes26 hb1) | (go_at_call 157; refine (seen_any _ _ _ _ _ _ _ q4 q5 hd0 hd1 _).mono ?_; rintro e w2 ⟨rfl, hb2⟩; obtain ⟨⟨s2, s2a, s2b, s2c, s2d, s2e⟩, fz2, y0, y1, y2, y3, y4, y5, g0, g1, g2, g3, g4, g5⟩ := keep26 hb2 fz1 c0 c1 c2 c3 c4 c5 z0 z1 z2 z3 z4 z5; rw [HE.out]) | (go_at_call 158; refine (clip_any _ _).mono ?_; rintro e w3 ⟨rfl, rfl⟩))
 all_goals (refine bodyPost_ret (v := .tuple #[.agg #[.int .i64 k, .int .i64 (clipW (n + 1)), .int .i64 (lowBase b d), .int .i64 (1), .int .i64 1, .int .i64 p], .int .i64 0]) ?_ rfl ⟨rfl, ?_⟩)
 all_goals first | (exact BL; done) | skip
 all_goals (simp [results, Tryz.results139, go_sem, s2, s2a, s2b, s2c, s2d, s2e, g0, g1, g2, g3, g4, g5, y0, y1, y2, y3, y4, y5])
 all_goals (unfold clipW; omega)
set_option maxHeartbeats 2000000 in
theorem lNext_up_s1 (k n b y s p d : Int) (h : copRight ⟨k, n, b, y, s, p⟩ = true) (hd0 : 0 ≤ d) (hd1 : d ≤ 1099511627776) (hc : n * (d - lowBase b d) ≤ 2 * (1 + d)) (hy : y = 1) (hs : s = 1) (w : World) :
 Calls Tryz.prog 139 #[.agg #[.int .i64 k, .int .i64 n, .int .i64 b, .int .i64 y, .int .i64 s, .int .i64 p], .int .i64 d] w fun e w' => e = .returned (.tuple #[.agg #[.int .i64 k, .int .i64 (clipW (n + 2)), .int .i64 (lowBase b d), .int .i64 (1), .int .i64 2, .int .i64 p], .int .i64 0]) ∧ Below w.heap.size w w' := by
 have H := hide h
 simp only [copRight, decide_eq_true_eq] at h
 obtain ⟨q1, q2, q3, q4, q5, q6, q7, q8, q9, q10⟩ := h
 clear q1 q10
 subst hy; subst hs
 obtain ⟨e, he⟩ : ∃ e, d - lowBase b d = e := ⟨_, rfl⟩
 rw [he] at hc
 have e0 : 0 ≤ e := by unfold lowBase at he; omega
 have e1 : e ≤ 1099511627777 := by unfold lowBase at he; omega
 have m0 : 0 ≤ n * e := Int.mul_nonneg (by omega) e0
 have m1 : n * e ≤ 12 * e := Int.mul_le_mul_of_nonneg_right q3 e0
 have HE := hide he
 clear he
 go_enter Tryz.func139, Tryz.ntmps139
 go_wp2_with (first | (go_at_call 159; refine (lRight_t _ _ _ _ _ _ H.out _).mono ?_; rintro e w1 ⟨rfl, hb1⟩; have hz1 := hb1.size; simp at hz1; obtain ⟨fz1, fc1, c0, c1, c2, c3, c4, c5, z0, z1, z2, z3, z4, z5⟩ := boxes26 hb1) | (go_at_call 157; refine (seen_any _ _ _ _ _ _ _ q4 q5 hd0 hd1 _).mono ?_; rintro e w2 ⟨rfl, hb2⟩; obtain ⟨⟨s2, s2a, s2b, s2c, s2d, s2e⟩, fz2, y0, y1, y2, y3, y4, y5, g0, g1, g2, g3, g4, g5⟩ := keep26 hb2 fz1 c0 c1 c2 c3 c4 c5 z0 z1 z2 z3 z4 z5; rw [HE.out]) | (go_at_call 158; refine (clip_any _ _).mono ?_; rintro e w3 ⟨rfl, rfl⟩))
 all_goals (refine bodyPost_ret (v := .tuple #[.agg #[.int .i64 k, .int .i64 (clipW (n + 2)), .int .i64 (lowBase b d), .int .i64 (1), .int .i64 2, .int .i64 p], .int .i64 0]) ?_ rfl ⟨rfl, ?_⟩)
 all_goals first | (exact BL; done) | skip
 all_goals (simp [results, Tryz.results139, go_sem, s2, s2a, s2b, s2c, s2d, s2e, g0, g1, g2, g3, g4, g5, y0, y1, y2, y3, y4, y5])
 all_goals (unfold clipW; omega)
set_option maxHeartbeats 2000000 in
theorem lNext_up_s2 (k n b y s p d : Int) (h : copRight ⟨k, n, b, y, s, p⟩ = true) (hd0 : 0 ≤ d) (hd1 : d ≤ 1099511627776) (hc : n * (d - lowBase b d) ≤ 2 * (1 + d)) (hy : y = 1) (hs : s = 2) (w : World) :
 Calls Tryz.prog 139 #[.agg #[.int .i64 k, .int .i64 n, .int .i64 b, .int .i64 y, .int .i64 s, .int .i64 p], .int .i64 d] w fun e w' => e = .returned (.tuple #[.agg #[.int .i64 k, .int .i64 (clipW (n + 4)), .int .i64 (lowBase b d), .int .i64 (1), .int .i64 4, .int .i64 p], .int .i64 0]) ∧ Below w.heap.size w w' := by
 have H := hide h
 simp only [copRight, decide_eq_true_eq] at h
 obtain ⟨q1, q2, q3, q4, q5, q6, q7, q8, q9, q10⟩ := h
 clear q1 q10
 subst hy; subst hs
 obtain ⟨e, he⟩ : ∃ e, d - lowBase b d = e := ⟨_, rfl⟩
 rw [he] at hc
 have e0 : 0 ≤ e := by unfold lowBase at he; omega
 have e1 : e ≤ 1099511627777 := by unfold lowBase at he; omega
 have m0 : 0 ≤ n * e := Int.mul_nonneg (by omega) e0
 have m1 : n * e ≤ 12 * e := Int.mul_le_mul_of_nonneg_right q3 e0
 have HE := hide he
 clear he
 go_enter Tryz.func139, Tryz.ntmps139
 go_wp2_with (first | (go_at_call 159; refine (lRight_t _ _ _ _ _ _ H.out _).mono ?_; rintro e w1 ⟨rfl, hb1⟩; have hz1 := hb1.size; simp at hz1; obtain ⟨fz1, fc1, c0, c1, c2, c3, c4, c5, z0, z1, z2, z3, z4, z5⟩ := boxes26 hb1) | (go_at_call 157; refine (seen_any _ _ _ _ _ _ _ q4 q5 hd0 hd1 _).mono ?_; rintro e w2 ⟨rfl, hb2⟩; obtain ⟨⟨s2, s2a, s2b, s2c, s2d, s2e⟩, fz2, y0, y1, y2, y3, y4, y5, g0, g1, g2, g3, g4, g5⟩ := keep26 hb2 fz1 c0 c1 c2 c3 c4 c5 z0 z1 z2 z3 z4 z5; rw [HE.out]) | (go_at_call 158; refine (clip_any _ _).mono ?_; rintro e w3 ⟨rfl, rfl⟩))
 all_goals (refine bodyPost_ret (v := .tuple #[.agg #[.int .i64 k, .int .i64 (clipW (n + 4)), .int .i64 (lowBase b d), .int .i64 (1), .int .i64 4, .int .i64 p], .int .i64 0]) ?_ rfl ⟨rfl, ?_⟩)
 all_goals first | (exact BL; done) | skip
 all_goals (simp [results, Tryz.results139, go_sem, s2, s2a, s2b, s2c, s2d, s2e, g0, g1, g2, g3, g4, g5, y0, y1, y2, y3, y4, y5])
 all_goals (unfold clipW; omega)
set_option maxHeartbeats 2000000 in
theorem lNext_up_s3 (k n b y s p d : Int) (h : copRight ⟨k, n, b, y, s, p⟩ = true) (hd0 : 0 ≤ d) (hd1 : d ≤ 1099511627776) (hc : n * (d - lowBase b d) ≤ 2 * (1 + d)) (hy : y = 1) (hs : s = 3) (w : World) :
 Calls Tryz.prog 139 #[.agg #[.int .i64 k, .int .i64 n, .int .i64 b, .int .i64 y, .int .i64 s, .int .i64 p], .int .i64 d] w fun e w' => e = .returned (.tuple #[.agg #[.int .i64 k, .int .i64 (clipW (n + 4)), .int .i64 (lowBase b d), .int .i64 (1), .int .i64 4, .int .i64 p], .int .i64 0]) ∧ Below w.heap.size w w' := by
 have H := hide h
 simp only [copRight, decide_eq_true_eq] at h
 obtain ⟨q1, q2, q3, q4, q5, q6, q7, q8, q9, q10⟩ := h
 clear q1 q10
 subst hy; subst hs
 obtain ⟨e, he⟩ : ∃ e, d - lowBase b d = e := ⟨_, rfl⟩
 rw [he] at hc
 have e0 : 0 ≤ e := by unfold lowBase at he; omega
 have e1 : e ≤ 1099511627777 := by unfold lowBase at he; omega
 have m0 : 0 ≤ n * e := Int.mul_nonneg (by omega) e0
 have m1 : n * e ≤ 12 * e := Int.mul_le_mul_of_nonneg_right q3 e0
 have HE := hide he
 clear he
 go_enter Tryz.func139, Tryz.ntmps139
 go_wp2_with (first | (go_at_call 159; refine (lRight_t _ _ _ _ _ _ H.out _).mono ?_; rintro e w1 ⟨rfl, hb1⟩; have hz1 := hb1.size; simp at hz1; obtain ⟨fz1, fc1, c0, c1, c2, c3, c4, c5, z0, z1, z2, z3, z4, z5⟩ := boxes26 hb1) | (go_at_call 157; refine (seen_any _ _ _ _ _ _ _ q4 q5 hd0 hd1 _).mono ?_; rintro e w2 ⟨rfl, hb2⟩; obtain ⟨⟨s2, s2a, s2b, s2c, s2d, s2e⟩, fz2, y0, y1, y2, y3, y4, y5, g0, g1, g2, g3, g4, g5⟩ := keep26 hb2 fz1 c0 c1 c2 c3 c4 c5 z0 z1 z2 z3 z4 z5; rw [HE.out]) | (go_at_call 158; refine (clip_any _ _).mono ?_; rintro e w3 ⟨rfl, rfl⟩))
 all_goals (refine bodyPost_ret (v := .tuple #[.agg #[.int .i64 k, .int .i64 (clipW (n + 4)), .int .i64 (lowBase b d), .int .i64 (1), .int .i64 4, .int .i64 p], .int .i64 0]) ?_ rfl ⟨rfl, ?_⟩)
 all_goals first | (exact BL; done) | skip
 all_goals (simp [results, Tryz.results139, go_sem, s2, s2a, s2b, s2c, s2d, s2e, g0, g1, g2, g3, g4, g5, y0, y1, y2, y3, y4, y5])
 all_goals (unfold clipW; omega)
set_option maxHeartbeats 2000000 in
theorem lNext_up_s4 (k n b y s p d : Int) (h : copRight ⟨k, n, b, y, s, p⟩ = true) (hd0 : 0 ≤ d) (hd1 : d ≤ 1099511627776) (hc : n * (d - lowBase b d) ≤ 2 * (1 + d)) (hy : y = 1) (hs : s = 4) (w : World) :
 Calls Tryz.prog 139 #[.agg #[.int .i64 k, .int .i64 n, .int .i64 b, .int .i64 y, .int .i64 s, .int .i64 p], .int .i64 d] w fun e w' => e = .returned (.tuple #[.agg #[.int .i64 k, .int .i64 (clipW (n + 4)), .int .i64 (lowBase b d), .int .i64 (1), .int .i64 4, .int .i64 p], .int .i64 0]) ∧ Below w.heap.size w w' := by
 have H := hide h
 simp only [copRight, decide_eq_true_eq] at h
 obtain ⟨q1, q2, q3, q4, q5, q6, q7, q8, q9, q10⟩ := h
 clear q1 q10
 subst hy; subst hs
 obtain ⟨e, he⟩ : ∃ e, d - lowBase b d = e := ⟨_, rfl⟩
 rw [he] at hc
 have e0 : 0 ≤ e := by unfold lowBase at he; omega
 have e1 : e ≤ 1099511627777 := by unfold lowBase at he; omega
 have m0 : 0 ≤ n * e := Int.mul_nonneg (by omega) e0
 have m1 : n * e ≤ 12 * e := Int.mul_le_mul_of_nonneg_right q3 e0
 have HE := hide he
 clear he
 go_enter Tryz.func139, Tryz.ntmps139
 go_wp2_with (first | (go_at_call 159; refine (lRight_t _ _ _ _ _ _ H.out _).mono ?_; rintro e w1 ⟨rfl, hb1⟩; have hz1 := hb1.size; simp at hz1; obtain ⟨fz1, fc1, c0, c1, c2, c3, c4, c5, z0, z1, z2, z3, z4, z5⟩ := boxes26 hb1) | (go_at_call 157; refine (seen_any _ _ _ _ _ _ _ q4 q5 hd0 hd1 _).mono ?_; rintro e w2 ⟨rfl, hb2⟩; obtain ⟨⟨s2, s2a, s2b, s2c, s2d, s2e⟩, fz2, y0, y1, y2, y3, y4, y5, g0, g1, g2, g3, g4, g5⟩ := keep26 hb2 fz1 c0 c1 c2 c3 c4 c5 z0 z1 z2 z3 z4 z5; rw [HE.out]) | (go_at_call 158; refine (clip_any _ _).mono ?_; rintro e w3 ⟨rfl, rfl⟩))
 all_goals (refine bodyPost_ret (v := .tuple #[.agg #[.int .i64 k, .int .i64 (clipW (n + 4)), .int .i64 (lowBase b d), .int .i64 (1), .int .i64 4, .int .i64 p], .int .i64 0]) ?_ rfl ⟨rfl, ?_⟩)
 all_goals first | (exact BL; done) | skip
 all_goals (simp [results, Tryz.results139, go_sem, s2, s2a, s2b, s2c, s2d, s2e, g0, g1, g2, g3, g4, g5, y0, y1, y2, y3, y4, y5])
 all_goals (unfold clipW; omega)
end Go.Proofs.YtjjikhaaimfneaaGreatDoor
namespace Go.Proofs.YtjjikhaaimfneaaGreatDoor
open Go.RowKit
set_option linter.unusedSimpArgs false
set_option linter.unusedVariables false
set_option maxHeartbeats 2000000 in
theorem lNext_dn_ne (k n b y s p d : Int) (h : copRight ⟨k, n, b, y, s, p⟩ = true) (hd0 : 0 ≤ d) (hd1 : d ≤ 1099511627776) (hc : 2 * (1 + d) < n * (d - lowBase b d)) (hy : ¬ y = -1) (w : World) :
 Calls Tryz.prog 139 #[.agg #[.int .i64 k, .int .i64 n, .int .i64 b, .int .i64 y, .int .i64 s, .int .i64 p], .int .i64 d] w fun e w' => e = .returned (.tuple #[.agg #[.int .i64 k, .int .i64 (clipW (n - 1)), .int .i64 (lowBase b d), .int .i64 (-1), .int .i64 1, .int .i64 p], .int .i64 0]) ∧ Below w.heap.size w w' := by
 have H := hide h
 simp only [copRight, decide_eq_true_eq] at h
 obtain ⟨q1, q2, q3, q4, q5, q6, q7, q8, q9, q10⟩ := h
 clear q1 q10
 have hyb : ((-1 : Int) == y) = false := by simp; omega
 clear hy
 obtain ⟨e, he⟩ : ∃ e, d - lowBase b d = e := ⟨_, rfl⟩
 rw [he] at hc
 have e0 : 0 ≤ e := by unfold lowBase at he; omega
 have e1 : e ≤ 1099511627777 := by unfold lowBase at he; omega
 have m0 : 0 ≤ n * e := Int.mul_nonneg (by omega) e0
 have m1 : n * e ≤ 12 * e := Int.mul_le_mul_of_nonneg_right q3 e0
 have HE := hide he
 clear he
 go_enter Tryz.func139, Tryz.ntmps139
 go_wp2_with (first | (go_at_call 159; refine (lRight_t _ _ _ _ _ _ H.out _).mono ?_; rintro e w1 ⟨rfl, hb1⟩; have hz1 := hb1.size; simp at hz1; obtain ⟨fz1, fc1, c0, c1, c2, c3, c4, c5, z0, z1, z2, z3, z4, z5⟩ := boxes26 hb1) | (go_at_call 157; refine (seen_any _ _ _ _ _ _ _ q4 q5 hd0 hd1 _).mono ?_; rintro e w2 ⟨rfl, hb2⟩; obtain ⟨⟨s2, s2a, s2b, s2c, s2d, s2e⟩, fz2, y0, y1, y2, y3, y4, y5, g0, g1, g2, g3, g4, g5⟩ := keep26 hb2 fz1 c0 c1 c2 c3 c4 c5 z0 z1 z2 z3 z4 z5; rw [HE.out]) | (go_at_call 158; refine (clip_any _ _).mono ?_; rintro e w3 ⟨rfl, rfl⟩))
 all_goals (refine bodyPost_ret (v := .tuple #[.agg #[.int .i64 k, .int .i64 (clipW (n - 1)), .int .i64 (lowBase b d), .int .i64 (-1), .int .i64 1, .int .i64 p], .int .i64 0]) ?_ rfl ⟨rfl, ?_⟩)
 all_goals first | (exact BL; done) | skip
 all_goals (simp [results, Tryz.results139, go_sem, s2, s2a, s2b, s2c, s2d, s2e, g0, g1, g2, g3, g4, g5, y0, y1, y2, y3, y4, y5])
 all_goals (unfold clipW; omega)
set_option maxHeartbeats 2000000 in
theorem lNext_dn_s0 (k n b y s p d : Int) (h : copRight ⟨k, n, b, y, s, p⟩ = true) (hd0 : 0 ≤ d) (hd1 : d ≤ 1099511627776) (hc : 2 * (1 + d) < n * (d - lowBase b d)) (hy : y = -1) (hs : s = 0) (w : World) :
 Calls Tryz.prog 139 #[.agg #[.int .i64 k, .int .i64 n, .int .i64 b, .int .i64 y, .int .i64 s, .int .i64 p], .int .i64 d] w fun e w' => e = .returned (.tuple #[.agg #[.int .i64 k, .int .i64 (clipW (n - 1)), .int .i64 (lowBase b d), .int .i64 (-1), .int .i64 1, .int .i64 p], .int .i64 0]) ∧ Below w.heap.size w w' := by
 have H := hide h
 simp only [copRight, decide_eq_true_eq] at h
 obtain ⟨q1, q2, q3, q4, q5, q6, q7, q8, q9, q10⟩ := h
 clear q1 q10
 subst hy; subst hs
 obtain ⟨e, he⟩ : ∃ e, d - lowBase b d = e := ⟨_, rfl⟩
 rw [he] at hc
 have e0 : 0 ≤ e := by unfold lowBase at he; omega
 have e1 : e ≤ 1099511627777 := by unfold lowBase at he; omega
 have m0 : 0 ≤ n * e := Int.mul_nonneg (by omega) e0
 have m1 : n * e ≤ 12 * e := Int.mul_le_mul_of_nonneg_right q3 e0
 have HE := hide he
 clear he
 go_enter Tryz.func139, Tryz.ntmps139
 go_wp2_with (first | (go_at_call 159; refine (lRight_t _ _ _ _ _ _ H.out _).mono ?_; rintro e w1 ⟨rfl, hb1⟩; have hz1 := hb1.size; simp at hz1; obtain ⟨fz1, fc1, c0, c1, c2, c3, c4, c5, z0, z1, z2, z3, z4, z5⟩ := boxes26 hb1) | (go_at_call 157; refine (seen_any _ _ _ _ _ _ _ q4 q5 hd0 hd1 _).mono ?_; rintro e w2 ⟨rfl, hb2⟩; obtain ⟨⟨s2, s2a, s2b, s2c, s2d, s2e⟩, fz2, y0, y1, y2, y3, y4, y5, g0, g1, g2, g3, g4, g5⟩ := keep26 hb2 fz1 c0 c1 c2 c3 c4 c5 z0 z1 z2 z3 z4 z5; rw [HE.out]) | (go_at_call 158; refine (clip_any _ _).mono ?_; rintro e w3 ⟨rfl, rfl⟩))
 all_goals (refine bodyPost_ret (v := .tuple #[.agg #[.int .i64 k, .int .i64 (clipW (n - 1)), .int .i64 (lowBase b d), .int .i64 (-1), .int .i64 1, .int .i64 p], .int .i64 0]) ?_ rfl ⟨rfl, ?_⟩)
 all_goals first | (exact BL; done) | skip
 all_goals (simp [results, Tryz.results139, go_sem, s2, s2a, s2b, s2c, s2d, s2e, g0, g1, g2, g3, g4, g5, y0, y1, y2, y3, y4, y5])
 all_goals (unfold clipW; omega)
set_option maxHeartbeats 2000000 in
theorem lNext_dn_s1 (k n b y s p d : Int) (h : copRight ⟨k, n, b, y, s, p⟩ = true) (hd0 : 0 ≤ d) (hd1 : d ≤ 1099511627776) (hc : 2 * (1 + d) < n * (d - lowBase b d)) (hy : y = -1) (hs : s = 1) (w : World) :
 Calls Tryz.prog 139 #[.agg #[.int .i64 k, .int .i64 n, .int .i64 b, .int .i64 y, .int .i64 s, .int .i64 p], .int .i64 d] w fun e w' => e = .returned (.tuple #[.agg #[.int .i64 k, .int .i64 (clipW (n - 2)), .int .i64 (lowBase b d), .int .i64 (-1), .int .i64 2, .int .i64 p], .int .i64 0]) ∧ Below w.heap.size w w' := by
 have H := hide h
 simp only [copRight, decide_eq_true_eq] at h
 obtain ⟨q1, q2, q3, q4, q5, q6, q7, q8, q9, q10⟩ := h
 clear q1 q10
 subst hy; subst hs
 obtain ⟨e, he⟩ : ∃ e, d - lowBase b d = e := ⟨_, rfl⟩
 rw [he] at hc
 have e0 : 0 ≤ e := by unfold lowBase at he; omega
 have e1 : e ≤ 1099511627777 := by unfold lowBase at he; omega
 have m0 : 0 ≤ n * e := Int.mul_nonneg (by omega) e0
 have m1 : n * e ≤ 12 * e := Int.mul_le_mul_of_nonneg_right q3 e0
 have HE := hide he
 clear he
 go_enter Tryz.func139, Tryz.ntmps139
 go_wp2_with (first | (go_at_call 159; refine (lRight_t _ _ _ _ _ _ H.out _).mono ?_; rintro e w1 ⟨rfl, hb1⟩; have hz1 := hb1.size; simp at hz1; obtain ⟨fz1, fc1, c0, c1, c2, c3, c4, c5, z0, z1, z2, z3, z4, z5⟩ := boxes26 hb1) | (go_at_call 157; refine (seen_any _ _ _ _ _ _ _ q4 q5 hd0 hd1 _).mono ?_; rintro e w2 ⟨rfl, hb2⟩; obtain ⟨⟨s2, s2a, s2b, s2c, s2d, s2e⟩, fz2, y0, y1, y2, y3, y4, y5, g0, g1, g2, g3, g4, g5⟩ := keep26 hb2 fz1 c0 c1 c2 c3 c4 c5 z0 z1 z2 z3 z4 z5; rw [HE.out]) | (go_at_call 158; refine (clip_any _ _).mono ?_; rintro e w3 ⟨rfl, rfl⟩))
 all_goals (refine bodyPost_ret (v := .tuple #[.agg #[.int .i64 k, .int .i64 (clipW (n - 2)), .int .i64 (lowBase b d), .int .i64 (-1), .int .i64 2, .int .i64 p], .int .i64 0]) ?_ rfl ⟨rfl, ?_⟩)
 all_goals first | (exact BL; done) | skip
 all_goals (simp [results, Tryz.results139, go_sem, s2, s2a, s2b, s2c, s2d, s2e, g0, g1, g2, g3, g4, g5, y0, y1, y2, y3, y4, y5])
 all_goals (unfold clipW; omega)
set_option maxHeartbeats 2000000 in
theorem lNext_dn_s2 (k n b y s p d : Int) (h : copRight ⟨k, n, b, y, s, p⟩ = true) (hd0 : 0 ≤ d) (hd1 : d ≤ 1099511627776) (hc : 2 * (1 + d) < n * (d - lowBase b d)) (hy : y = -1) (hs : s = 2) (w : World) :
 Calls Tryz.prog 139 #[.agg #[.int .i64 k, .int .i64 n, .int .i64 b, .int .i64 y, .int .i64 s, .int .i64 p], .int .i64 d] w fun e w' => e = .returned (.tuple #[.agg #[.int .i64 k, .int .i64 (clipW (n - 4)), .int .i64 (lowBase b d), .int .i64 (-1), .int .i64 4, .int .i64 p], .int .i64 0]) ∧ Below w.heap.size w w' := by
 have H := hide h
 simp only [copRight, decide_eq_true_eq] at h
 obtain ⟨q1, q2, q3, q4, q5, q6, q7, q8, q9, q10⟩ := h
 clear q1 q10
 subst hy; subst hs
 obtain ⟨e, he⟩ : ∃ e, d - lowBase b d = e := ⟨_, rfl⟩
 rw [he] at hc
 have e0 : 0 ≤ e := by unfold lowBase at he; omega
 have e1 : e ≤ 1099511627777 := by unfold lowBase at he; omega
 have m0 : 0 ≤ n * e := Int.mul_nonneg (by omega) e0
 have m1 : n * e ≤ 12 * e := Int.mul_le_mul_of_nonneg_right q3 e0
 have HE := hide he
 clear he
 go_enter Tryz.func139, Tryz.ntmps139
 go_wp2_with (first | (go_at_call 159; refine (lRight_t _ _ _ _ _ _ H.out _).mono ?_; rintro e w1 ⟨rfl, hb1⟩; have hz1 := hb1.size; simp at hz1; obtain ⟨fz1, fc1, c0, c1, c2, c3, c4, c5, z0, z1, z2, z3, z4, z5⟩ := boxes26 hb1) | (go_at_call 157; refine (seen_any _ _ _ _ _ _ _ q4 q5 hd0 hd1 _).mono ?_; rintro e w2 ⟨rfl, hb2⟩; obtain ⟨⟨s2, s2a, s2b, s2c, s2d, s2e⟩, fz2, y0, y1, y2, y3, y4, y5, g0, g1, g2, g3, g4, g5⟩ := keep26 hb2 fz1 c0 c1 c2 c3 c4 c5 z0 z1 z2 z3 z4 z5; rw [HE.out]) | (go_at_call 158; refine (clip_any _ _).mono ?_; rintro e w3 ⟨rfl, rfl⟩))
 all_goals (refine bodyPost_ret (v := .tuple #[.agg #[.int .i64 k, .int .i64 (clipW (n - 4)), .int .i64 (lowBase b d), .int .i64 (-1), .int .i64 4, .int .i64 p], .int .i64 0]) ?_ rfl ⟨rfl, ?_⟩)
 all_goals first | (exact BL; done) | skip
 all_goals (simp [results, Tryz.results139, go_sem, s2, s2a, s2b, s2c, s2d, s2e, g0, g1, g2, g3, g4, g5, y0, y1, y2, y3, y4, y5])
 all_goals (unfold clipW; omega)
set_option maxHeartbeats 2000000 in
theorem lNext_dn_s3 (k n b y s p d : Int) (h : copRight ⟨k, n, b, y, s, p⟩ = true) (hd0 : 0 ≤ d) (hd1 : d ≤ 1099511627776) (hc : 2 * (1 + d) < n * (d - lowBase b d)) (hy : y = -1) (hs : s = 3) (w : World) :
 Calls Tryz.prog 139 #[.agg #[.int .i64 k, .int .i64 n, .int .i64 b, .int .i64 y, .int .i64 s, .int .i64 p], .int .i64 d] w fun e w' => e = .returned (.tuple #[.agg #[.int .i64 k, .int .i64 (clipW (n - 4)), .int .i64 (lowBase b d), .int .i64 (-1), .int .i64 4, .int .i64 p], .int .i64 0]) ∧ Below w.heap.size w w' := by
 have H := hide h
 simp only [copRight, decide_eq_true_eq] at h
 obtain ⟨q1, q2, q3, q4, q5, q6, q7, q8, q9, q10⟩ := h
 clear q1 q10
 subst hy; subst hs
 obtain ⟨e, he⟩ : ∃ e, d - lowBase b d = e := ⟨_, rfl⟩
 rw [he] at hc
 have e0 : 0 ≤ e := by unfold lowBase at he; omega
 have e1 : e ≤ 1099511627777 := by unfold lowBase at he; omega
 have m0 : 0 ≤ n * e := Int.mul_nonneg (by omega) e0
 have m1 : n * e ≤ 12 * e := Int.mul_le_mul_of_nonneg_right q3 e0
 have HE := hide he
 clear he
 go_enter Tryz.func139, Tryz.ntmps139
 go_wp2_with (first | (go_at_call 159; refine (lRight_t _ _ _ _ _ _ H.out _).mono ?_; rintro e w1 ⟨rfl, hb1⟩; have hz1 := hb1.size; simp at hz1; obtain ⟨fz1, fc1, c0, c1, c2, c3, c4, c5, z0, z1, z2, z3, z4, z5⟩ := boxes26 hb1) | (go_at_call 157; refine (seen_any _ _ _ _ _ _ _ q4 q5 hd0 hd1 _).mono ?_; rintro e w2 ⟨rfl, hb2⟩; obtain ⟨⟨s2, s2a, s2b, s2c, s2d, s2e⟩, fz2, y0, y1, y2, y3, y4, y5, g0, g1, g2, g3, g4, g5⟩ := keep26 hb2 fz1 c0 c1 c2 c3 c4 c5 z0 z1 z2 z3 z4 z5; rw [HE.out]) | (go_at_call 158; refine (clip_any _ _).mono ?_; rintro e w3 ⟨rfl, rfl⟩))
 all_goals (refine bodyPost_ret (v := .tuple #[.agg #[.int .i64 k, .int .i64 (clipW (n - 4)), .int .i64 (lowBase b d), .int .i64 (-1), .int .i64 4, .int .i64 p], .int .i64 0]) ?_ rfl ⟨rfl, ?_⟩)
 all_goals first | (exact BL; done) | skip
 all_goals (simp [results, Tryz.results139, go_sem, s2, s2a, s2b, s2c, s2d, s2e, g0, g1, g2, g3, g4, g5, y0, y1, y2, y3, y4, y5])
 all_goals (unfold clipW; omega)
set_option maxHeartbeats 2000000 in
theorem lNext_dn_s4 (k n b y s p d : Int) (h : copRight ⟨k, n, b, y, s, p⟩ = true) (hd0 : 0 ≤ d) (hd1 : d ≤ 1099511627776) (hc : 2 * (1 + d) < n * (d - lowBase b d)) (hy : y = -1) (hs : s = 4) (w : World) :
 Calls Tryz.prog 139 #[.agg #[.int .i64 k, .int .i64 n, .int .i64 b, .int .i64 y, .int .i64 s, .int .i64 p], .int .i64 d] w fun e w' => e = .returned (.tuple #[.agg #[.int .i64 k, .int .i64 (clipW (n - 4)), .int .i64 (lowBase b d), .int .i64 (-1), .int .i64 4, .int .i64 p], .int .i64 0]) ∧ Below w.heap.size w w' := by
 have H := hide h
 simp only [copRight, decide_eq_true_eq] at h
 obtain ⟨q1, q2, q3, q4, q5, q6, q7, q8, q9, q10⟩ := h
 clear q1 q10
 subst hy; subst hs
 obtain ⟨e, he⟩ : ∃ e, d - lowBase b d = e := ⟨_, rfl⟩
 rw [he] at hc
 have e0 : 0 ≤ e := by unfold lowBase at he; omega
 have e1 : e ≤ 1099511627777 := by unfold lowBase at he; omega
 have m0 : 0 ≤ n * e := Int.mul_nonneg (by omega) e0
 have m1 : n * e ≤ 12 * e := Int.mul_le_mul_of_nonneg_right q3 e0
 have HE := hide he
 clear he
 go_enter Tryz.func139, Tryz.ntmps139
 go_wp2_with (first | (go_at_call 159; refine (lRight_t _ _ _ _ _ _ H.out _).mono ?_; rintro e w1 ⟨rfl, hb1⟩; have hz1 := hb1.size; simp at hz1; obtain ⟨fz1, fc1, c0, c1, c2, c3, c4, c5, z0, z1, z2, z3, z4, z5⟩ := boxes26 hb1) | (go_at_call 157; refine (seen_any _ _ _ _ _ _ _ q4 q5 hd0 hd1 _).mono ?_; rintro e w2 ⟨rfl, hb2⟩; obtain ⟨⟨s2, s2a, s2b, s2c, s2d, s2e⟩, fz2, y0, y1, y2, y3, y4, y5, g0, g1, g2, g3, g4, g5⟩ := keep26 hb2 fz1 c0 c1 c2 c3 c4 c5 z0 z1 z2 z3 z4 z5; rw [HE.out]) | (go_at_call 158; refine (clip_any _ _).mono ?_; rintro e w3 ⟨rfl, rfl⟩))
 all_goals (refine bodyPost_ret (v := .tuple #[.agg #[.int .i64 k, .int .i64 (clipW (n - 4)), .int .i64 (lowBase b d), .int .i64 (-1), .int .i64 4, .int .i64 p], .int .i64 0]) ?_ rfl ⟨rfl, ?_⟩)
 all_goals first | (exact BL; done) | skip
 all_goals (simp [results, Tryz.results139, go_sem, s2, s2a, s2b, s2c, s2d, s2e, g0, g1, g2, g3, g4, g5, y0, y1, y2, y3, y4, y5])
 all_goals (unfold clipW; omega)
end Go.Proofs.YtjjikhaaimfneaaGreatDoor
