/-
  Lemmas and walks for the statement: CopNU, CopND.
-/
import Derived.Test.YtjjikhaaimfneaaGreatDoorU06
namespace Go.Proofs.YtjjikhaaimfneaaGreatDoor
open Go.RowKit
set_option linter.unusedSimpArgs false
set_option linter.unusedVariables false
set_option maxHeartbeats 2000000 in
theorem copNext_up_ne (k n b y s p d : Int) (h : copRight ⟨k, n, b, y, s, p⟩ = true) (hd0 : 0 ≤ d) (hd1 : d ≤ 1099511627776) (hc : n * (d - lowBase b d) ≤ 2 * (1 + d)) (hy : ¬ y = 1) (w : World) :
 Calls Tryz.prog 117 #[.agg #[.int .i64 k, .int .i64 n, .int .i64 b, .int .i64 y, .int .i64 s, .int .i64 p], .int .i64 d] w fun e w' => e = .returned (.tuple #[.agg #[.int .i64 k, .int .i64 (clipW (n + 1)), .int .i64 (lowBase b d), .int .i64 (1), .int .i64 1, .int .i64 p], .int .i64 0]) ∧ Below w.heap.size w w' := by
 have H := hide h
 simp only [copRight, decide_eq_true_eq] at h
 obtain ⟨q1, q2, q3, q4, q5, q6, q7, q8, q9, q10⟩ := h
 clear q1 q10
 have hyb : ((1 : Int) == y) = false := by simp; omega
 clear hy
 rcases (show b < 0 ∨ (0 ≤ b ∧ d < b) ∨ (0 ≤ b ∧ b = d) ∨ (0 ≤ b ∧ b < d) by omega) with hb0 | ⟨hb0, hb9⟩ | ⟨hb0, hb9⟩ | ⟨hb0, hb9⟩
 case' inl => (have hl : lowBase b d = d := (by unfold lowBase; rw [if_pos hb0]); rw [hl, Int.sub_self, Int.mul_zero] at hc)
 case' inr.inl => (have hl : lowBase b d = d := (by unfold lowBase; rw [if_neg (by omega), if_pos hb9]); rw [hl, Int.sub_self, Int.mul_zero] at hc)
 case' inr.inr.inl => (subst hb9; have hl : lowBase b b = b := (by unfold lowBase; rw [if_neg (by omega), if_neg (by omega)]); rw [hl, Int.sub_self, Int.mul_zero] at hc)
 case' inr.inr.inr =>
  have hl : lowBase b d = b := by unfold lowBase; rw [if_neg (by omega), if_neg (by omega)]
  rw [hl] at hc
  have m0 : 0 ≤ 2 * (1 + d) / (d - b) := Int.ediv_nonneg (by omega) (by omega)
  have m9 : 2 * (1 + d) / (d - b) ≤ 2 * (1 + d) := Int.ediv_le_self _ (by omega)
  have m2 : n ≤ 2 * (1 + d) / (d - b) := Int.le_ediv_of_mul_le (by omega) hc
 all_goals
  have HL := hide hl
  clear hl hc
  go_enter Tryz.func117, Tryz.ntmps117
  go_wp2_with (go_at_call 116; refine (copRight_t _ _ _ _ _ _ H.out _).mono ?_; rintro e w1 ⟨rfl, hb1⟩; have hz1 := hb1.size; simp at hz1; obtain ⟨fz1, fc1, c0, c1, c2, c3, c4, c5, z0, z1, z2, z3, z4, z5⟩ := boxes26 hb1)
  go_quiet (fail)
  go_wp2
  all_goals first | (refine bodyPost_ret (v := .tuple #[.agg #[.int .i64 k, .int .i64 (clipW (n + 1)), .int .i64 (lowBase b d), .int .i64 (1), .int .i64 1, .int .i64 p], .int .i64 0]) ?_ rfl ⟨rfl, ?_⟩) | (refine bodyPost_ret (v := .tuple #[.agg #[.int .i64 k, .int .i64 (clipW (n + 1)), .int .i64 (lowBase b b), .int .i64 (1), .int .i64 1, .int .i64 p], .int .i64 0]) ?_ rfl ⟨rfl, ?_⟩)
  all_goals first | (exact BL; done) | skip
  all_goals (simp [results, Tryz.results117, go_sem, c0, c1, c2, c3, c4, c5, z0, z1, z2, z3, z4, z5])
  all_goals (rw [HL.out]; unfold clipW; omega)
set_option maxHeartbeats 2000000 in
theorem copNext_up_s0 (k n b y s p d : Int) (h : copRight ⟨k, n, b, y, s, p⟩ = true) (hd0 : 0 ≤ d) (hd1 : d ≤ 1099511627776) (hc : n * (d - lowBase b d) ≤ 2 * (1 + d)) (hy : y = 1) (hs : s = 0) (w : World) :
 Calls Tryz.prog 117 #[.agg #[.int .i64 k, .int .i64 n, .int .i64 b, .int .i64 y, .int .i64 s, .int .i64 p], .int .i64 d] w fun e w' => e = .returned (.tuple #[.agg #[.int .i64 k, .int .i64 (clipW (n + 1)), .int .i64 (lowBase b d), .int .i64 (1), .int .i64 1, .int .i64 p], .int .i64 0]) ∧ Below w.heap.size w w' := by
 have H := hide h
 simp only [copRight, decide_eq_true_eq] at h
 obtain ⟨q1, q2, q3, q4, q5, q6, q7, q8, q9, q10⟩ := h
 clear q1 q10
 subst hy; subst hs
 rcases (show b < 0 ∨ (0 ≤ b ∧ d < b) ∨ (0 ≤ b ∧ b = d) ∨ (0 ≤ b ∧ b < d) by omega) with hb0 | ⟨hb0, hb9⟩ | ⟨hb0, hb9⟩ | ⟨hb0, hb9⟩
 case' inl => (have hl : lowBase b d = d := (by unfold lowBase; rw [if_pos hb0]); rw [hl, Int.sub_self, Int.mul_zero] at hc)
 case' inr.inl => (have hl : lowBase b d = d := (by unfold lowBase; rw [if_neg (by omega), if_pos hb9]); rw [hl, Int.sub_self, Int.mul_zero] at hc)
 case' inr.inr.inl => (subst hb9; have hl : lowBase b b = b := (by unfold lowBase; rw [if_neg (by omega), if_neg (by omega)]); rw [hl, Int.sub_self, Int.mul_zero] at hc)
 case' inr.inr.inr =>
  have hl : lowBase b d = b := by unfold lowBase; rw [if_neg (by omega), if_neg (by omega)]
  rw [hl] at hc
  have m0 : 0 ≤ 2 * (1 + d) / (d - b) := Int.ediv_nonneg (by omega) (by omega)
  have m9 : 2 * (1 + d) / (d - b) ≤ 2 * (1 + d) := Int.ediv_le_self _ (by omega)
  have m2 : n ≤ 2 * (1 + d) / (d - b) := Int.le_ediv_of_mul_le (by omega) hc
 all_goals
  have HL := hide hl
  clear hl hc
  go_enter Tryz.func117, Tryz.ntmps117
  go_wp2_with (go_at_call 116; refine (copRight_t _ _ _ _ _ _ H.out _).mono ?_; rintro e w1 ⟨rfl, hb1⟩; have hz1 := hb1.size; simp at hz1; obtain ⟨fz1, fc1, c0, c1, c2, c3, c4, c5, z0, z1, z2, z3, z4, z5⟩ := boxes26 hb1)
  go_quiet (fail)
  go_wp2
  all_goals first | (refine bodyPost_ret (v := .tuple #[.agg #[.int .i64 k, .int .i64 (clipW (n + 1)), .int .i64 (lowBase b d), .int .i64 (1), .int .i64 1, .int .i64 p], .int .i64 0]) ?_ rfl ⟨rfl, ?_⟩) | (refine bodyPost_ret (v := .tuple #[.agg #[.int .i64 k, .int .i64 (clipW (n + 1)), .int .i64 (lowBase b b), .int .i64 (1), .int .i64 1, .int .i64 p], .int .i64 0]) ?_ rfl ⟨rfl, ?_⟩)
  all_goals first | (exact BL; done) | skip
  all_goals (simp [results, Tryz.results117, go_sem, c0, c1, c2, c3, c4, c5, z0, z1, z2, z3, z4, z5])
  all_goals (rw [HL.out]; unfold clipW; omega)
set_option maxHeartbeats 2000000 in
theorem copNext_up_s1 (k n b y s p d : Int) (h : copRight ⟨k, n, b, y, s, p⟩ = true) (hd0 : 0 ≤ d) (hd1 : d ≤ 1099511627776) (hc : n * (d - lowBase b d) ≤ 2 * (1 + d)) (hy : y = 1) (hs : s = 1) (w : World) :
 Calls Tryz.prog 117 #[.agg #[.int .i64 k, .int .i64 n, .int .i64 b, .int .i64 y, .int .i64 s, .int .i64 p], .int .i64 d] w fun e w' => e = .returned (.tuple #[.agg #[.int .i64 k, .int .i64 (clipW (n + 2)), .int .i64 (lowBase b d), .int .i64 (1), .int .i64 2, .int .i64 p], .int .i64 0]) ∧ Below w.heap.size w w' := by
 have H := hide h
 simp only [copRight, decide_eq_true_eq] at h
 obtain ⟨q1, q2, q3, q4, q5, q6, q7, q8, q9, q10⟩ := h
 clear q1 q10
 subst hy; subst hs
 rcases (show b < 0 ∨ (0 ≤ b ∧ d < b) ∨ (0 ≤ b ∧ b = d) ∨ (0 ≤ b ∧ b < d) by omega) with hb0 | ⟨hb0, hb9⟩ | ⟨hb0, hb9⟩ | ⟨hb0, hb9⟩
 case' inl => (have hl : lowBase b d = d := (by unfold lowBase; rw [if_pos hb0]); rw [hl, Int.sub_self, Int.mul_zero] at hc)
 case' inr.inl => (have hl : lowBase b d = d := (by unfold lowBase; rw [if_neg (by omega), if_pos hb9]); rw [hl, Int.sub_self, Int.mul_zero] at hc)
 case' inr.inr.inl => (subst hb9; have hl : lowBase b b = b := (by unfold lowBase; rw [if_neg (by omega), if_neg (by omega)]); rw [hl, Int.sub_self, Int.mul_zero] at hc)
 case' inr.inr.inr =>
  have hl : lowBase b d = b := by unfold lowBase; rw [if_neg (by omega), if_neg (by omega)]
  rw [hl] at hc
  have m0 : 0 ≤ 2 * (1 + d) / (d - b) := Int.ediv_nonneg (by omega) (by omega)
  have m9 : 2 * (1 + d) / (d - b) ≤ 2 * (1 + d) := Int.ediv_le_self _ (by omega)
  have m2 : n ≤ 2 * (1 + d) / (d - b) := Int.le_ediv_of_mul_le (by omega) hc
 all_goals
  have HL := hide hl
  clear hl hc
  go_enter Tryz.func117, Tryz.ntmps117
  go_wp2_with (go_at_call 116; refine (copRight_t _ _ _ _ _ _ H.out _).mono ?_; rintro e w1 ⟨rfl, hb1⟩; have hz1 := hb1.size; simp at hz1; obtain ⟨fz1, fc1, c0, c1, c2, c3, c4, c5, z0, z1, z2, z3, z4, z5⟩ := boxes26 hb1)
  go_quiet (fail)
  go_wp2
  all_goals first | (refine bodyPost_ret (v := .tuple #[.agg #[.int .i64 k, .int .i64 (clipW (n + 2)), .int .i64 (lowBase b d), .int .i64 (1), .int .i64 2, .int .i64 p], .int .i64 0]) ?_ rfl ⟨rfl, ?_⟩) | (refine bodyPost_ret (v := .tuple #[.agg #[.int .i64 k, .int .i64 (clipW (n + 2)), .int .i64 (lowBase b b), .int .i64 (1), .int .i64 2, .int .i64 p], .int .i64 0]) ?_ rfl ⟨rfl, ?_⟩)
  all_goals first | (exact BL; done) | skip
  all_goals (simp [results, Tryz.results117, go_sem, c0, c1, c2, c3, c4, c5, z0, z1, z2, z3, z4, z5])
  all_goals (rw [HL.out]; unfold clipW; omega)
set_option maxHeartbeats 2000000 in
theorem copNext_up_s2 (k n b y s p d : Int) (h : copRight ⟨k, n, b, y, s, p⟩ = true) (hd0 : 0 ≤ d) (hd1 : d ≤ 1099511627776) (hc : n * (d - lowBase b d) ≤ 2 * (1 + d)) (hy : y = 1) (hs : s = 2) (w : World) :
 Calls Tryz.prog 117 #[.agg #[.int .i64 k, .int .i64 n, .int .i64 b, .int .i64 y, .int .i64 s, .int .i64 p], .int .i64 d] w fun e w' => e = .returned (.tuple #[.agg #[.int .i64 k, .int .i64 (clipW (n + 4)), .int .i64 (lowBase b d), .int .i64 (1), .int .i64 4, .int .i64 p], .int .i64 0]) ∧ Below w.heap.size w w' := by
 have H := hide h
 simp only [copRight, decide_eq_true_eq] at h
 obtain ⟨q1, q2, q3, q4, q5, q6, q7, q8, q9, q10⟩ := h
 clear q1 q10
 subst hy; subst hs
 rcases (show b < 0 ∨ (0 ≤ b ∧ d < b) ∨ (0 ≤ b ∧ b = d) ∨ (0 ≤ b ∧ b < d) by omega) with hb0 | ⟨hb0, hb9⟩ | ⟨hb0, hb9⟩ | ⟨hb0, hb9⟩
 case' inl => (have hl : lowBase b d = d := (by unfold lowBase; rw [if_pos hb0]); rw [hl, Int.sub_self, Int.mul_zero] at hc)
 case' inr.inl => (have hl : lowBase b d = d := (by unfold lowBase; rw [if_neg (by omega), if_pos hb9]); rw [hl, Int.sub_self, Int.mul_zero] at hc)
 case' inr.inr.inl => (subst hb9; have hl : lowBase b b = b := (by unfold lowBase; rw [if_neg (by omega), if_neg (by omega)]); rw [hl, Int.sub_self, Int.mul_zero] at hc)
 case' inr.inr.inr =>
  have hl : lowBase b d = b := by unfold lowBase; rw [if_neg (by omega), if_neg (by omega)]
  rw [hl] at hc
  have m0 : 0 ≤ 2 * (1 + d) / (d - b) := Int.ediv_nonneg (by omega) (by omega)
  have m9 : 2 * (1 + d) / (d - b) ≤ 2 * (1 + d) := Int.ediv_le_self _ (by omega)
  have m2 : n ≤ 2 * (1 + d) / (d - b) := Int.le_ediv_of_mul_le (by omega) hc
 all_goals
  have HL := hide hl
  clear hl hc
  go_enter Tryz.func117, Tryz.ntmps117
  go_wp2_with (go_at_call 116; refine (copRight_t _ _ _ _ _ _ H.out _).mono ?_; rintro e w1 ⟨rfl, hb1⟩; have hz1 := hb1.size; simp at hz1; obtain ⟨fz1, fc1, c0, c1, c2, c3, c4, c5, z0, z1, z2, z3, z4, z5⟩ := boxes26 hb1)
  go_quiet (fail)
  go_wp2
  all_goals first | (refine bodyPost_ret (v := .tuple #[.agg #[.int .i64 k, .int .i64 (clipW (n + 4)), .int .i64 (lowBase b d), .int .i64 (1), .int .i64 4, .int .i64 p], .int .i64 0]) ?_ rfl ⟨rfl, ?_⟩) | (refine bodyPost_ret (v := .tuple #[.agg #[.int .i64 k, .int .i64 (clipW (n + 4)), .int .i64 (lowBase b b), .int .i64 (1), .int .i64 4, .int .i64 p], .int .i64 0]) ?_ rfl ⟨rfl, ?_⟩)
  all_goals first | (exact BL; done) | skip
  all_goals (simp [results, Tryz.results117, go_sem, c0, c1, c2, c3, c4, c5, z0, z1, z2, z3, z4, z5])
  all_goals (rw [HL.out]; unfold clipW; omega)
set_option maxHeartbeats 2000000 in
theorem copNext_up_s3 (k n b y s p d : Int) (h : copRight ⟨k, n, b, y, s, p⟩ = true) (hd0 : 0 ≤ d) (hd1 : d ≤ 1099511627776) (hc : n * (d - lowBase b d) ≤ 2 * (1 + d)) (hy : y = 1) (hs : s = 3) (w : World) :
 Calls Tryz.prog 117 #[.agg #[.int .i64 k, .int .i64 n, .int .i64 b, .int .i64 y, .int .i64 s, .int .i64 p], .int .i64 d] w fun e w' => e = .returned (.tuple #[.agg #[.int .i64 k, .int .i64 (clipW (n + 4)), .int .i64 (lowBase b d), .int .i64 (1), .int .i64 4, .int .i64 p], .int .i64 0]) ∧ Below w.heap.size w w' := by
 have H := hide h
 simp only [copRight, decide_eq_true_eq] at h
 obtain ⟨q1, q2, q3, q4, q5, q6, q7, q8, q9, q10⟩ := h
 clear q1 q10
 subst hy; subst hs
 rcases (show b < 0 ∨ (0 ≤ b ∧ d < b) ∨ (0 ≤ b ∧ b = d) ∨ (0 ≤ b ∧ b < d) by omega) with hb0 | ⟨hb0, hb9⟩ | ⟨hb0, hb9⟩ | ⟨hb0, hb9⟩
 case' inl => (have hl : lowBase b d = d := (by unfold lowBase; rw [if_pos hb0]); rw [hl, Int.sub_self, Int.mul_zero] at hc)
 case' inr.inl => (have hl : lowBase b d = d := (by unfold lowBase; rw [if_neg (by omega), if_pos hb9]); rw [hl, Int.sub_self, Int.mul_zero] at hc)
 case' inr.inr.inl => (subst hb9; have hl : lowBase b b = b := (by unfold lowBase; rw [if_neg (by omega), if_neg (by omega)]); rw [hl, Int.sub_self, Int.mul_zero] at hc)
 case' inr.inr.inr =>
  have hl : lowBase b d = b := by unfold lowBase; rw [if_neg (by omega), if_neg (by omega)]
  rw [hl] at hc
  have m0 : 0 ≤ 2 * (1 + d) / (d - b) := Int.ediv_nonneg (by omega) (by omega)
  have m9 : 2 * (1 + d) / (d - b) ≤ 2 * (1 + d) := Int.ediv_le_self _ (by omega)
  have m2 : n ≤ 2 * (1 + d) / (d - b) := Int.le_ediv_of_mul_le (by omega) hc
 all_goals
  have HL := hide hl
  clear hl hc
  go_enter Tryz.func117, Tryz.ntmps117
  go_wp2_with (go_at_call 116; refine (copRight_t _ _ _ _ _ _ H.out _).mono ?_; rintro e w1 ⟨rfl, hb1⟩; have hz1 := hb1.size; simp at hz1; obtain ⟨fz1, fc1, c0, c1, c2, c3, c4, c5, z0, z1, z2, z3, z4, z5⟩ := boxes26 hb1)
  go_quiet (fail)
  go_wp2
  all_goals first | (refine bodyPost_ret (v := .tuple #[.agg #[.int .i64 k, .int .i64 (clipW (n + 4)), .int .i64 (lowBase b d), .int .i64 (1), .int .i64 4, .int .i64 p], .int .i64 0]) ?_ rfl ⟨rfl, ?_⟩) | (refine bodyPost_ret (v := .tuple #[.agg #[.int .i64 k, .int .i64 (clipW (n + 4)), .int .i64 (lowBase b b), .int .i64 (1), .int .i64 4, .int .i64 p], .int .i64 0]) ?_ rfl ⟨rfl, ?_⟩)
  all_goals first | (exact BL; done) | skip
  all_goals (simp [results, Tryz.results117, go_sem, c0, c1, c2, c3, c4, c5, z0, z1, z2, z3, z4, z5])
  all_goals (rw [HL.out]; unfold clipW; omega)
set_option maxHeartbeats 2000000 in
theorem copNext_up_s4 (k n b y s p d : Int) (h : copRight ⟨k, n, b, y, s, p⟩ = true) (hd0 : 0 ≤ d) (hd1 : d ≤ 1099511627776) (hc : n * (d - lowBase b d) ≤ 2 * (1 + d)) (hy : y = 1) (hs : s = 4) (w : World) :
 Calls Tryz.prog 117 #[.agg #[.int .i64 k, .int .i64 n, .int .i64 b, .int .i64 y, .int .i64 s, .int .i64 p], .int .i64 d] w fun e w' => e = .returned (.tuple #[.agg #[.int .i64 k, .int .i64 (clipW (n + 4)), .int .i64 (lowBase b d), .int .i64 (1), .int .i64 4, .int .i64 p], .int .i64 0]) ∧ Below w.heap.size w w' := by
 have H := hide h
 simp only [copRight, decide_eq_true_eq] at h
 obtain ⟨q1, q2, q3, q4, q5, q6, q7, q8, q9, q10⟩ := h
 clear q1 q10
 subst hy; subst hs
 rcases (show b < 0 ∨ (0 ≤ b ∧ d < b) ∨ (0 ≤ b ∧ b = d) ∨ (0 ≤ b ∧ b < d) by omega) with hb0 | ⟨hb0, hb9⟩ | ⟨hb0, hb9⟩ | ⟨hb0, hb9⟩
 case' inl => (have hl : lowBase b d = d := (by unfold lowBase; rw [if_pos hb0]); rw [hl, Int.sub_self, Int.mul_zero] at hc)
 case' inr.inl => (have hl : lowBase b d = d := (by unfold lowBase; rw [if_neg (by omega), if_pos hb9]); rw [hl, Int.sub_self, Int.mul_zero] at hc)
 case' inr.inr.inl => (subst hb9; have hl : lowBase b b = b := (by unfold lowBase; rw [if_neg (by omega), if_neg (by omega)]); rw [hl, Int.sub_self, Int.mul_zero] at hc)
 case' inr.inr.inr =>
  have hl : lowBase b d = b := by unfold lowBase; rw [if_neg (by omega), if_neg (by omega)]
  rw [hl] at hc
  have m0 : 0 ≤ 2 * (1 + d) / (d - b) := Int.ediv_nonneg (by omega) (by omega)
  have m9 : 2 * (1 + d) / (d - b) ≤ 2 * (1 + d) := Int.ediv_le_self _ (by omega)
  have m2 : n ≤ 2 * (1 + d) / (d - b) := Int.le_ediv_of_mul_le (by omega) hc
 all_goals
  have HL := hide hl
  clear hl hc
  go_enter Tryz.func117, Tryz.ntmps117
  go_wp2_with (go_at_call 116; refine (copRight_t _ _ _ _ _ _ H.out _).mono ?_; rintro e w1 ⟨rfl, hb1⟩; have hz1 := hb1.size; simp at hz1; obtain ⟨fz1, fc1, c0, c1, c2, c3, c4, c5, z0, z1, z2, z3, z4, z5⟩ := boxes26 hb1)
  go_quiet (fail)
  go_wp2
  all_goals first | (refine bodyPost_ret (v := .tuple #[.agg #[.int .i64 k, .int .i64 (clipW (n + 4)), .int .i64 (lowBase b d), .int .i64 (1), .int .i64 4, .int .i64 p], .int .i64 0]) ?_ rfl ⟨rfl, ?_⟩) | (refine bodyPost_ret (v := .tuple #[.agg #[.int .i64 k, .int .i64 (clipW (n + 4)), .int .i64 (lowBase b b), .int .i64 (1), .int .i64 4, .int .i64 p], .int .i64 0]) ?_ rfl ⟨rfl, ?_⟩)
  all_goals first | (exact BL; done) | skip
  all_goals (simp [results, Tryz.results117, go_sem, c0, c1, c2, c3, c4, c5, z0, z1, z2, z3, z4, z5])
  all_goals (rw [HL.out]; unfold clipW; omega)
end Go.Proofs.YtjjikhaaimfneaaGreatDoor
namespace Go.Proofs.YtjjikhaaimfneaaGreatDoor
open Go.RowKit
set_option linter.unusedSimpArgs false
set_option linter.unusedVariables false
set_option maxHeartbeats 2000000 in
theorem copNext_dn_ne (k n b y s p d : Int) (h : copRight ⟨k, n, b, y, s, p⟩ = true) (hd0 : 0 ≤ d) (hd1 : d ≤ 1099511627776) (hc : 2 * (1 + d) < n * (d - lowBase b d)) (hy : ¬ y = -1) (w : World) :
 Calls Tryz.prog 117 #[.agg #[.int .i64 k, .int .i64 n, .int .i64 b, .int .i64 y, .int .i64 s, .int .i64 p], .int .i64 d] w fun e w' => e = .returned (.tuple #[.agg #[.int .i64 k, .int .i64 (clipW (n - 1)), .int .i64 (lowBase b d), .int .i64 (-1), .int .i64 1, .int .i64 p], .int .i64 0]) ∧ Below w.heap.size w w' := by
 have H := hide h
 simp only [copRight, decide_eq_true_eq] at h
 obtain ⟨q1, q2, q3, q4, q5, q6, q7, q8, q9, q10⟩ := h
 clear q1 q10
 have hyb : ((-1 : Int) == y) = false := by simp; omega
 clear hy
 rcases (show b < 0 ∨ (0 ≤ b ∧ d < b) ∨ (0 ≤ b ∧ b = d) ∨ (0 ≤ b ∧ b < d) by omega) with hb0 | ⟨hb0, hb9⟩ | ⟨hb0, hb9⟩ | ⟨hb0, hb9⟩
 · have hl : lowBase b d = d := (by unfold lowBase; rw [if_pos hb0])
   rw [hl, Int.sub_self, Int.mul_zero] at hc
   omega
 · have hl : lowBase b d = d := (by unfold lowBase; rw [if_neg (by omega), if_pos hb9])
   rw [hl, Int.sub_self, Int.mul_zero] at hc
   omega
 · subst hb9
   have hl : lowBase b b = b := (by unfold lowBase; rw [if_neg (by omega), if_neg (by omega)])
   rw [hl, Int.sub_self, Int.mul_zero] at hc
   omega
 · have hl : lowBase b d = b := by unfold lowBase; rw [if_neg (by omega), if_neg (by omega)]
   rw [hl] at hc
   have m0 : 0 ≤ 2 * (1 + d) / (d - b) := Int.ediv_nonneg (by omega) (by omega)
   have m9 : 2 * (1 + d) / (d - b) ≤ 2 * (1 + d) := Int.ediv_le_self _ (by omega)
   have m2 : 2 * (1 + d) / (d - b) < n := Int.ediv_lt_of_lt_mul (by omega) hc
   have HL := hide hl
   clear hl hc
   go_enter Tryz.func117, Tryz.ntmps117
   go_wp2_with (go_at_call 116; refine (copRight_t _ _ _ _ _ _ H.out _).mono ?_; rintro e w1 ⟨rfl, hb1⟩; have hz1 := hb1.size; simp at hz1; obtain ⟨fz1, fc1, c0, c1, c2, c3, c4, c5, z0, z1, z2, z3, z4, z5⟩ := boxes26 hb1)
   go_quiet (fail)
   go_wp2
   all_goals (refine bodyPost_ret (v := .tuple #[.agg #[.int .i64 k, .int .i64 (clipW (n - 1)), .int .i64 (lowBase b d), .int .i64 (-1), .int .i64 1, .int .i64 p], .int .i64 0]) ?_ rfl ⟨rfl, ?_⟩)
   all_goals first | (exact BL; done) | skip
   all_goals (simp [results, Tryz.results117, go_sem, c0, c1, c2, c3, c4, c5, z0, z1, z2, z3, z4, z5])
   all_goals (rw [HL.out]; unfold clipW; omega)
set_option maxHeartbeats 2000000 in
theorem copNext_dn_s0 (k n b y s p d : Int) (h : copRight ⟨k, n, b, y, s, p⟩ = true) (hd0 : 0 ≤ d) (hd1 : d ≤ 1099511627776) (hc : 2 * (1 + d) < n * (d - lowBase b d)) (hy : y = -1) (hs : s = 0) (w : World) :
 Calls Tryz.prog 117 #[.agg #[.int .i64 k, .int .i64 n, .int .i64 b, .int .i64 y, .int .i64 s, .int .i64 p], .int .i64 d] w fun e w' => e = .returned (.tuple #[.agg #[.int .i64 k, .int .i64 (clipW (n - 1)), .int .i64 (lowBase b d), .int .i64 (-1), .int .i64 1, .int .i64 p], .int .i64 0]) ∧ Below w.heap.size w w' := by
 have H := hide h
 simp only [copRight, decide_eq_true_eq] at h
 obtain ⟨q1, q2, q3, q4, q5, q6, q7, q8, q9, q10⟩ := h
 clear q1 q10
 subst hy; subst hs
 rcases (show b < 0 ∨ (0 ≤ b ∧ d < b) ∨ (0 ≤ b ∧ b = d) ∨ (0 ≤ b ∧ b < d) by omega) with hb0 | ⟨hb0, hb9⟩ | ⟨hb0, hb9⟩ | ⟨hb0, hb9⟩
 · have hl : lowBase b d = d := (by unfold lowBase; rw [if_pos hb0])
   rw [hl, Int.sub_self, Int.mul_zero] at hc
   omega
 · have hl : lowBase b d = d := (by unfold lowBase; rw [if_neg (by omega), if_pos hb9])
   rw [hl, Int.sub_self, Int.mul_zero] at hc
   omega
 · subst hb9
   have hl : lowBase b b = b := (by unfold lowBase; rw [if_neg (by omega), if_neg (by omega)])
   rw [hl, Int.sub_self, Int.mul_zero] at hc
   omega
 · have hl : lowBase b d = b := by unfold lowBase; rw [if_neg (by omega), if_neg (by omega)]
   rw [hl] at hc
   have m0 : 0 ≤ 2 * (1 + d) / (d - b) := Int.ediv_nonneg (by omega) (by omega)
   have m9 : 2 * (1 + d) / (d - b) ≤ 2 * (1 + d) := Int.ediv_le_self _ (by omega)
   have m2 : 2 * (1 + d) / (d - b) < n := Int.ediv_lt_of_lt_mul (by omega) hc
   have HL := hide hl
   clear hl hc
   go_enter Tryz.func117, Tryz.ntmps117
   go_wp2_with (go_at_call 116; refine (copRight_t _ _ _ _ _ _ H.out _).mono ?_; rintro e w1 ⟨rfl, hb1⟩; have hz1 := hb1.size; simp at hz1; obtain ⟨fz1, fc1, c0, c1, c2, c3, c4, c5, z0, z1, z2, z3, z4, z5⟩ := boxes26 hb1)
   go_quiet (fail)
   go_wp2
   all_goals (refine bodyPost_ret (v := .tuple #[.agg #[.int .i64 k, .int .i64 (clipW (n - 1)), .int .i64 (lowBase b d), .int .i64 (-1), .int .i64 1, .int .i64 p], .int .i64 0]) ?_ rfl ⟨rfl, ?_⟩)
   all_goals first | (exact BL; done) | skip
   all_goals (simp [results, Tryz.results117, go_sem, c0, c1, c2, c3, c4, c5, z0, z1, z2, z3, z4, z5])
   all_goals (rw [HL.out]; unfold clipW; omega)
set_option maxHeartbeats 2000000 in
theorem copNext_dn_s1 (k n b y s p d : Int) (h : copRight ⟨k, n, b, y, s, p⟩ = true) (hd0 : 0 ≤ d) (hd1 : d ≤ 1099511627776) (hc : 2 * (1 + d) < n * (d - lowBase b d)) (hy : y = -1) (hs : s = 1) (w : World) :
 Calls Tryz.prog 117 #[.agg #[.int .i64 k, .int .i64 n, .int .i64 b, .int .i64 y, .int .i64 s, .int .i64 p], .int .i64 d] w fun e w' => e = .returned (.tuple #[.agg #[.int .i64 k, .int .i64 (clipW (n - 2)), .int .i64 (lowBase b d), .int .i64 (-1), .int .i64 2, .int .i64 p], .int .i64 0]) ∧ Below w.heap.size w w' := by
 have H := hide h
 simp only [copRight, decide_eq_true_eq] at h
 obtain ⟨q1, q2, q3, q4, q5, q6, q7, q8, q9, q10⟩ := h
 clear q1 q10
 subst hy; subst hs
 rcases (show b < 0 ∨ (0 ≤ b ∧ d < b) ∨ (0 ≤ b ∧ b = d) ∨ (0 ≤ b ∧ b < d) by omega) with hb0 | ⟨hb0, hb9⟩ | ⟨hb0, hb9⟩ | ⟨hb0, hb9⟩
 · have hl : lowBase b d = d := (by unfold lowBase; rw [if_pos hb0])
   rw [hl, Int.sub_self, Int.mul_zero] at hc
   omega
 · have hl : lowBase b d = d := (by unfold lowBase; rw [if_neg (by omega), if_pos hb9])
   rw [hl, Int.sub_self, Int.mul_zero] at hc
   omega
 · subst hb9
   have hl : lowBase b b = b := (by unfold lowBase; rw [if_neg (by omega), if_neg (by omega)])
   rw [hl, Int.sub_self, Int.mul_zero] at hc
   omega
 · have hl : lowBase b d = b := by unfold lowBase; rw [if_neg (by omega), if_neg (by omega)]
   rw [hl] at hc
   have m0 : 0 ≤ 2 * (1 + d) / (d - b) := Int.ediv_nonneg (by omega) (by omega)
   have m9 : 2 * (1 + d) / (d - b) ≤ 2 * (1 + d) := Int.ediv_le_self _ (by omega)
   have m2 : 2 * (1 + d) / (d - b) < n := Int.ediv_lt_of_lt_mul (by omega) hc
   have HL := hide hl
   clear hl hc
   go_enter Tryz.func117, Tryz.ntmps117
   go_wp2_with (go_at_call 116; refine (copRight_t _ _ _ _ _ _ H.out _).mono ?_; rintro e w1 ⟨rfl, hb1⟩; have hz1 := hb1.size; simp at hz1; obtain ⟨fz1, fc1, c0, c1, c2, c3, c4, c5, z0, z1, z2, z3, z4, z5⟩ := boxes26 hb1)
   go_quiet (fail)
   go_wp2
   all_goals (refine bodyPost_ret (v := .tuple #[.agg #[.int .i64 k, .int .i64 (clipW (n - 2)), .int .i64 (lowBase b d), .int .i64 (-1), .int .i64 2, .int .i64 p], .int .i64 0]) ?_ rfl ⟨rfl, ?_⟩)
   all_goals first | (exact BL; done) | skip
   all_goals (simp [results, Tryz.results117, go_sem, c0, c1, c2, c3, c4, c5, z0, z1, z2, z3, z4, z5])
   all_goals (rw [HL.out]; unfold clipW; omega)
set_option maxHeartbeats 2000000 in
theorem copNext_dn_s2 (k n b y s p d : Int) (h : copRight ⟨k, n, b, y, s, p⟩ = true) (hd0 : 0 ≤ d) (hd1 : d ≤ 1099511627776) (hc : 2 * (1 + d) < n * (d - lowBase b d)) (hy : y = -1) (hs : s = 2) (w : World) :
 Calls Tryz.prog 117 #[.agg #[.int .i64 k, .int .i64 n, .int .i64 b, .int .i64 y, .int .i64 s, .int .i64 p], .int .i64 d] w fun e w' => e = .returned (.tuple #[.agg #[.int .i64 k, .int .i64 (clipW (n - 4)), .int .i64 (lowBase b d), .int .i64 (-1), .int .i64 4, .int .i64 p], .int .i64 0]) ∧ Below w.heap.size w w' := by
 have H := hide h
 simp only [copRight, decide_eq_true_eq] at h
 obtain ⟨q1, q2, q3, q4, q5, q6, q7, q8, q9, q10⟩ := h
 clear q1 q10
 subst hy; subst hs
 rcases (show b < 0 ∨ (0 ≤ b ∧ d < b) ∨ (0 ≤ b ∧ b = d) ∨ (0 ≤ b ∧ b < d) by omega) with hb0 | ⟨hb0, hb9⟩ | ⟨hb0, hb9⟩ | ⟨hb0, hb9⟩
 · have hl : lowBase b d = d := (by unfold lowBase; rw [if_pos hb0])
   rw [hl, Int.sub_self, Int.mul_zero] at hc
   omega
 · have hl : lowBase b d = d := (by unfold lowBase; rw [if_neg (by omega), if_pos hb9])
   rw [hl, Int.sub_self, Int.mul_zero] at hc
   omega
 · subst hb9
   have hl : lowBase b b = b := (by unfold lowBase; rw [if_neg (by omega), if_neg (by omega)])
   rw [hl, Int.sub_self, Int.mul_zero] at hc
   omega
 · have hl : lowBase b d = b := by unfold lowBase; rw [if_neg (by omega), if_neg (by omega)]
   rw [hl] at hc
   have m0 : 0 ≤ 2 * (1 + d) / (d - b) := Int.ediv_nonneg (by omega) (by omega)
   have m9 : 2 * (1 + d) / (d - b) ≤ 2 * (1 + d) := Int.ediv_le_self _ (by omega)
   have m2 : 2 * (1 + d) / (d - b) < n := Int.ediv_lt_of_lt_mul (by omega) hc
   have HL := hide hl
   clear hl hc
   go_enter Tryz.func117, Tryz.ntmps117
   go_wp2_with (go_at_call 116; refine (copRight_t _ _ _ _ _ _ H.out _).mono ?_; rintro e w1 ⟨rfl, hb1⟩; have hz1 := hb1.size; simp at hz1; obtain ⟨fz1, fc1, c0, c1, c2, c3, c4, c5, z0, z1, z2, z3, z4, z5⟩ := boxes26 hb1)
   go_quiet (fail)
   go_wp2
   all_goals (refine bodyPost_ret (v := .tuple #[.agg #[.int .i64 k, .int .i64 (clipW (n - 4)), .int .i64 (lowBase b d), .int .i64 (-1), .int .i64 4, .int .i64 p], .int .i64 0]) ?_ rfl ⟨rfl, ?_⟩)
   all_goals first | (exact BL; done) | skip
   all_goals (simp [results, Tryz.results117, go_sem, c0, c1, c2, c3, c4, c5, z0, z1, z2, z3, z4, z5])
   all_goals (rw [HL.out]; unfold clipW; omega)
set_option maxHeartbeats 2000000 in
theorem copNext_dn_s3 (k n b y s p d : Int) (h : copRight ⟨k, n, b, y, s, p⟩ = true) (hd0 : 0 ≤ d) (hd1 : d ≤ 1099511627776) (hc : 2 * (1 + d) < n * (d - lowBase b d)) (hy : y = -1) (hs : s = 3) (w : World) :
 Calls Tryz.prog 117 #[.agg #[.int .i64 k, .int .i64 n, .int .i64 b, .int .i64 y, .int .i64 s, .int .i64 p], .int .i64 d] w fun e w' => e = .returned (.tuple #[.agg #[.int .i64 k, .int .i64 (clipW (n - 4)), .int .i64 (lowBase b d), .int .i64 (-1), .int .i64 4, .int .i64 p], .int .i64 0]) ∧ Below w.heap.size w w' := by
 have H := hide h
 simp only [copRight, decide_eq_true_eq] at h
 obtain ⟨q1, q2, q3, q4, q5, q6, q7, q8, q9, q10⟩ := h
 clear q1 q10
 subst hy; subst hs
 rcases (show b < 0 ∨ (0 ≤ b ∧ d < b) ∨ (0 ≤ b ∧ b = d) ∨ (0 ≤ b ∧ b < d) by omega) with hb0 | ⟨hb0, hb9⟩ | ⟨hb0, hb9⟩ | ⟨hb0, hb9⟩
 · have hl : lowBase b d = d := (by unfold lowBase; rw [if_pos hb0])
   rw [hl, Int.sub_self, Int.mul_zero] at hc
   omega
 · have hl : lowBase b d = d := (by unfold lowBase; rw [if_neg (by omega), if_pos hb9])
   rw [hl, Int.sub_self, Int.mul_zero] at hc
   omega
 · subst hb9
   have hl : lowBase b b = b := (by unfold lowBase; rw [if_neg (by omega), if_neg (by omega)])
   rw [hl, Int.sub_self, Int.mul_zero] at hc
   omega
 · have hl : lowBase b d = b := by unfold lowBase; rw [if_neg (by omega), if_neg (by omega)]
   rw [hl] at hc
   have m0 : 0 ≤ 2 * (1 + d) / (d - b) := Int.ediv_nonneg (by omega) (by omega)
   have m9 : 2 * (1 + d) / (d - b) ≤ 2 * (1 + d) := Int.ediv_le_self _ (by omega)
   have m2 : 2 * (1 + d) / (d - b) < n := Int.ediv_lt_of_lt_mul (by omega) hc
   have HL := hide hl
   clear hl hc
   go_enter Tryz.func117, Tryz.ntmps117
   go_wp2_with (go_at_call 116; refine (copRight_t _ _ _ _ _ _ H.out _).mono ?_; rintro e w1 ⟨rfl, hb1⟩; have hz1 := hb1.size; simp at hz1; obtain ⟨fz1, fc1, c0, c1, c2, c3, c4, c5, z0, z1, z2, z3, z4, z5⟩ := boxes26 hb1)
   go_quiet (fail)
   go_wp2
   all_goals (refine bodyPost_ret (v := .tuple #[.agg #[.int .i64 k, .int .i64 (clipW (n - 4)), .int .i64 (lowBase b d), .int .i64 (-1), .int .i64 4, .int .i64 p], .int .i64 0]) ?_ rfl ⟨rfl, ?_⟩)
   all_goals first | (exact BL; done) | skip
   all_goals (simp [results, Tryz.results117, go_sem, c0, c1, c2, c3, c4, c5, z0, z1, z2, z3, z4, z5])
   all_goals (rw [HL.out]; unfold clipW; omega)
set_option maxHeartbeats 2000000 in
theorem copNext_dn_s4 (k n b y s p d : Int) (h : copRight ⟨k, n, b, y, s, p⟩ = true) (hd0 : 0 ≤ d) (hd1 : d ≤ 1099511627776) (hc : 2 * (1 + d) < n * (d - lowBase b d)) (hy : y = -1) (hs : s = 4) (w : World) :
 Calls Tryz.prog 117 #[.agg #[.int .i64 k, .int .i64 n, .int .i64 b, .int .i64 y, .int .i64 s, .int .i64 p], .int .i64 d] w fun e w' => e = .returned (.tuple #[.agg #[.int .i64 k, .int .i64 (clipW (n - 4)), .int .i64 (lowBase b d), .int .i64 (-1), .int .i64 4, .int .i64 p], .int .i64 0]) ∧ Below w.heap.size w w' := by
 have H := hide h
 simp only [copRight, decide_eq_true_eq] at h
 obtain ⟨q1, q2, q3, q4, q5, q6, q7, q8, q9, q10⟩ := h
 clear q1 q10
 subst hy; subst hs
 rcases (show b < 0 ∨ (0 ≤ b ∧ d < b) ∨ (0 ≤ b ∧ b = d) ∨ (0 ≤ b ∧ b < d) by omega) with hb0 | ⟨hb0, hb9⟩ | ⟨hb0, hb9⟩ | ⟨hb0, hb9⟩
 · have hl : lowBase b d = d := (by unfold lowBase; rw [if_pos hb0])
   rw [hl, Int.sub_self, Int.mul_zero] at hc
   omega
 · have hl : lowBase b d = d := (by unfold lowBase; rw [if_neg (by omega), if_pos hb9])
   rw [hl, Int.sub_self, Int.mul_zero] at hc
   omega
 · subst hb9
   have hl : lowBase b b = b := (by unfold lowBase; rw [if_neg (by omega), if_neg (by omega)])
   rw [hl, Int.sub_self, Int.mul_zero] at hc
   omega
 · have hl : lowBase b d = b := by unfold lowBase; rw [if_neg (by omega), if_neg (by omega)]
   rw [hl] at hc
   have m0 : 0 ≤ 2 * (1 + d) / (d - b) := Int.ediv_nonneg (by omega) (by omega)
   have m9 : 2 * (1 + d) / (d - b) ≤ 2 * (1 + d) := Int.ediv_le_self _ (by omega)
   have m2 : 2 * (1 + d) / (d - b) < n := Int.ediv_lt_of_lt_mul (by omega) hc
   have HL := hide hl
   clear hl hc
   go_enter Tryz.func117, Tryz.ntmps117
   go_wp2_with (go_at_call 116; refine (copRight_t _ _ _ _ _ _ H.out _).mono ?_; rintro e w1 ⟨rfl, hb1⟩; have hz1 := hb1.size; simp at hz1; obtain ⟨fz1, fc1, c0, c1, c2, c3, c4, c5, z0, z1, z2, z3, z4, z5⟩ := boxes26 hb1)
   go_quiet (fail)
   go_wp2
   all_goals (refine bodyPost_ret (v := .tuple #[.agg #[.int .i64 k, .int .i64 (clipW (n - 4)), .int .i64 (lowBase b d), .int .i64 (-1), .int .i64 4, .int .i64 p], .int .i64 0]) ?_ rfl ⟨rfl, ?_⟩)
   all_goals first | (exact BL; done) | skip
   all_goals (simp [results, Tryz.results117, go_sem, c0, c1, c2, c3, c4, c5, z0, z1, z2, z3, z4, z5])
   all_goals (rw [HL.out]; unfold clipW; omega)
end Go.Proofs.YtjjikhaaimfneaaGreatDoor
