/-
  Lemmas and walks for the statement: LNU.
-/
import Derived.Test.YtmmjopmffpfccaaQ06
import Derived.Test.YtmmjopmffpfccaaQ05
namespace Go.Proofs.Ytmmjopmffpfccaa
open Go.RowKit
set_option linter.unusedSimpArgs false
set_option linter.unusedVariables false
set_option maxHeartbeats 1000000 in
theorem lNext_bad (k n b y s p d : Int) (h : copRight ⟨k, n, b, y, s, p⟩ = false) (w : World) :
 Calls Try.prog 48 #[.agg #[.int .i64 k, .int .i64 n, .int .i64 b, .int .i64 y, .int .i64 s, .int .i64 p], .int .i64 d] w fun e w' => e = .returned (.tuple #[.agg #[.int .i64 0, .int .i64 0, .int .i64 0, .int .i64 0, .int .i64 0, .int .i64 0], .int .i64 1]) ∧ Below w.heap.size w w' := by
 have H := hide h
 clear h
 go_enter Try.func48, Try.ntmps48
 go_wp2_with (go_at_call 59; refine (lRight_f _ _ _ _ _ _ H.out _).mono ?_; rintro e w1 ⟨rfl, hb1⟩; have hz1 := hb1.size; simp at hz1; obtain ⟨fz1, fc1, c0, c1, c2, c3, c4, c5, z0, z1, z2, z3, z4, z5⟩ := boxes26 hb1)
 all_goals (refine bodyPost_ret (v := .tuple #[.agg #[.int .i64 0, .int .i64 0, .int .i64 0, .int .i64 0, .int .i64 0, .int .i64 0], .int .i64 1]) ?_ rfl ⟨rfl, ?_⟩)
 all_goals first | ((repeat' (first | (with_reducible exact Below.refl _ _) | (with_reducible refine Below.alloc ?_ ?_ _) | (with_reducible refine Below.setCell ?_ ?_ _) | (with_reducible refine Below.drewN ?_ _) | (with_reducible refine Below.drew ?_) | (with_reducible refine Below.trans ?_ (hb1.mono ?_)) | omega | (simp; done) | (simp; omega))); done) | skip
 all_goals (simp [results, Try.results48, go_sem, z0, z1, z2, z3, z4, z5])
set_option maxHeartbeats 1000000 in
theorem lNext_far (k n b y s p d : Int) (h : copRight ⟨k, n, b, y, s, p⟩ = true) (hd : d < 0 ∨ 1099511627776 < d) (w : World) :
 Calls Try.prog 48 #[.agg #[.int .i64 k, .int .i64 n, .int .i64 b, .int .i64 y, .int .i64 s, .int .i64 p], .int .i64 d] w fun e w' => e = .returned (.tuple #[.agg #[.int .i64 0, .int .i64 0, .int .i64 0, .int .i64 0, .int .i64 0, .int .i64 0], .int .i64 2]) ∧ Below w.heap.size w w' := by
 have H := hide h
 clear h
 rcases hd with hd | hd
 all_goals
  go_enter Try.func48, Try.ntmps48
  go_wp2_with (go_at_call 59; refine (lRight_t _ _ _ _ _ _ H.out _).mono ?_; rintro e w1 ⟨rfl, hb1⟩; have hz1 := hb1.size; simp at hz1; obtain ⟨fz1, fc1, c0, c1, c2, c3, c4, c5, z0, z1, z2, z3, z4, z5⟩ := boxes26 hb1)
  all_goals (refine bodyPost_ret (v := .tuple #[.agg #[.int .i64 0, .int .i64 0, .int .i64 0, .int .i64 0, .int .i64 0, .int .i64 0], .int .i64 2]) ?_ rfl ⟨rfl, ?_⟩)
  all_goals first | ((repeat' (first | (with_reducible exact Below.refl _ _) | (with_reducible refine Below.alloc ?_ ?_ _) | (with_reducible refine Below.setCell ?_ ?_ _) | (with_reducible refine Below.drewN ?_ _) | (with_reducible refine Below.drew ?_) | (with_reducible refine Below.trans ?_ (hb1.mono ?_)) | omega | (simp; done) | (simp; omega))); done) | skip
  all_goals (simp [results, Try.results48, go_sem, z0, z1, z2, z3, z4, z5])
set_option maxHeartbeats 2000000 in
theorem lNext_up_ne (k n b y s p d : Int) (h : copRight ⟨k, n, b, y, s, p⟩ = true) (hd0 : 0 ≤ d) (hd1 : d ≤ 1099511627776) (hc : n * (d - lowBase b d) ≤ 2 * (1 + d)) (hy : ¬ y = 1) (w : World) :
 Calls Try.prog 48 #[.agg #[.int .i64 k, .int .i64 n, .int .i64 b, .int .i64 y, .int .i64 s, .int .i64 p], .int .i64 d] w fun e w' => e = .returned (.tuple #[.agg #[.int .i64 k, .int .i64 (clipW (n + 1)), .int .i64 (lowBase b d), .int .i64 (1), .int .i64 1, .int .i64 p], .int .i64 0]) ∧ Below w.heap.size w w' := by
 have H := hide h
 simp only [copRight, decide_eq_true_eq] at h
 obtain ⟨q1, q2, q3, q4, q5, q6, q7, q8, q9, q10⟩ := h
 clear q1 q10
 have hyb : ((1 : Int) == y) = false := by simp; omega
 clear hy
 obtain ⟨e, he⟩ : ∃ e, d - lowBase b d = e := ⟨_, rfl⟩
 rw [he] at hc
 have e0 : 0 ≤ e := by unfold lowBase at he; omega
 have e1 : e ≤ 1099511627777 := by unfold lowBase at he; omega
 have m0 : 0 ≤ n * e := Int.mul_nonneg (by omega) e0
 have m1 : n * e ≤ 12 * e := Int.mul_le_mul_of_nonneg_right q3 e0
 have HE := hide he
 clear he
 go_enter Try.func48, Try.ntmps48
 go_wp2_with (first | (go_at_call 59; refine (lRight_t _ _ _ _ _ _ H.out _).mono ?_; rintro e w1 ⟨rfl, hb1⟩; have hz1 := hb1.size; simp at hz1; obtain ⟨fz1, fc1, c0, c1, c2, c3, c4, c5, z0, z1, z2, z3, z4, z5⟩ := boxes26 hb1) | (go_at_call 57; refine (seen_any _ _ _ _ _ _ _ q4 q5 hd0 hd1 _).mono ?_; rintro e w2 ⟨rfl, hb2⟩; have hz2 := hb2.size; have s2 : w.heap.size + 1 < w2.heap.size := (by omega); have s2a : ¬ w.heap.size + 1 = w2.heap.size := (by omega); have s2b : ¬ w2.heap.size = w.heap.size + 1 := (by omega); have s2c : w.heap.size < w2.heap.size := (by omega); have s2d : ¬ w.heap.size = w2.heap.size := (by omega); have s2e : ¬ w2.heap.size = w.heap.size := (by omega); have fz2 : ∀ j, w2.frozen? ⟨w.heap.size + 1, j, none⟩ = false := (fun j => by rw [hb2.frozen (by first | omega | (simp; done) | (simp; omega))]; try (simp [go_sem, fz1])); rw [HE.out]; obtain ⟨y0, y1, y2, y3, y4, y5⟩ : w2.cell? ⟨w.heap.size + 1, 0, none⟩ = some (.int .i64 0) ∧ w2.cell? ⟨w.heap.size + 1, 1, none⟩ = some (.int .i64 0) ∧ w2.cell? ⟨w.heap.size + 1, 2, none⟩ = some (.int .i64 0) ∧ w2.cell? ⟨w.heap.size + 1, 3, none⟩ = some (.int .i64 0) ∧ w2.cell? ⟨w.heap.size + 1, 4, none⟩ = some (.int .i64 0) ∧ w2.cell? ⟨w.heap.size + 1, 5, none⟩ = some (.int .i64 0) := (by refine ⟨?_, ?_, ?_, ?_, ?_, ?_⟩ <;> (rw [hb2.cell (by first | omega | (simp; done) | (simp; omega))]; try (simp [go_sem, World.cell?_alloc_past, z0, z1, z2, z3, z4, z5]))); obtain ⟨g0, g1, g2, g3, g4, g5⟩ : w2.cell? ⟨w.heap.size, 0, none⟩ = some (.int .i64 k) ∧ w2.cell? ⟨w.heap.size, 1, none⟩ = some (.int .i64 n) ∧ w2.cell? ⟨w.heap.size, 2, none⟩ = some (.int .i64 b) ∧ w2.cell? ⟨w.heap.size, 3, none⟩ = some (.int .i64 y) ∧ w2.cell? ⟨w.heap.size, 4, none⟩ = some (.int .i64 s) ∧ w2.cell? ⟨w.heap.size, 5, none⟩ = some (.int .i64 p) := (by refine ⟨?_, ?_, ?_, ?_, ?_, ?_⟩ <;> (rw [hb2.cell (by first | omega | (simp; done) | (simp; omega))]; try (simp [go_sem, World.cell?_alloc_past, c0, c1, c2, c3, c4, c5])))) | (go_at_call 58; refine (clip_any _ _).mono ?_; rintro e w3 ⟨rfl, rfl⟩))
 all_goals (refine bodyPost_ret (v := .tuple #[.agg #[.int .i64 k, .int .i64 (clipW (n + 1)), .int .i64 (lowBase b d), .int .i64 (1), .int .i64 1, .int .i64 p], .int .i64 0]) ?_ rfl ⟨rfl, ?_⟩)
 all_goals first | ((repeat' (first | (with_reducible exact Below.refl _ _) | (with_reducible refine Below.alloc ?_ ?_ _) | (with_reducible refine Below.setCell ?_ ?_ _) | (with_reducible refine Below.drewN ?_ _) | (with_reducible refine Below.drew ?_) | (with_reducible refine Below.trans ?_ (hb2.mono ?_)) | (with_reducible refine Below.trans ?_ (hb1.mono ?_)) | omega | (simp; done) | (simp; omega))); done) | skip
 all_goals (simp [results, Try.results48, go_sem, s2, s2a, s2b, s2c, s2d, s2e, g0, g1, g2, g3, g4, g5, y0, y1, y2, y3, y4, y5])
 all_goals (unfold clipW; omega)
set_option maxHeartbeats 2000000 in
theorem lNext_up_s0 (k n b y s p d : Int) (h : copRight ⟨k, n, b, y, s, p⟩ = true) (hd0 : 0 ≤ d) (hd1 : d ≤ 1099511627776) (hc : n * (d - lowBase b d) ≤ 2 * (1 + d)) (hy : y = 1) (hs : s = 0) (w : World) :
 Calls Try.prog 48 #[.agg #[.int .i64 k, .int .i64 n, .int .i64 b, .int .i64 y, .int .i64 s, .int .i64 p], .int .i64 d] w fun e w' => e = .returned (.tuple #[.agg #[.int .i64 k, .int .i64 (clipW (n + 1)), .int .i64 (lowBase b d), .int .i64 (1), .int .i64 1, .int .i64 p], .int .i64 0]) ∧ Below w.heap.size w w' := by
 have H := hide h
 simp only [copRight, decide_eq_true_eq] at h
 obtain ⟨q1, q2, q3, q4, q5, q6, q7, q8, q9, q10⟩ := h
 clear q1 q10
 subst hy; subst hs
 obtain ⟨e, he⟩ : ∃ e, d - lowBase b d = e := ⟨_, rfl⟩
 rw [he] at hc
 have e0 : 0 ≤ e := by unfold lowBase at he; omega
 have e1 : e ≤ 1099511627777 := by unfold lowBase at he; omega
 have m0 : 0 ≤ n * e := Int.mul_nonneg (by omega) e0
 have m1 : n * e ≤ 12 * e := Int.mul_le_mul_of_nonneg_right q3 e0
 have HE := hide he
 clear he
 go_enter Try.func48, Try.ntmps48
 go_wp2_with (first | (go_at_call 59; refine (lRight_t _ _ _ _ _ _ H.out _).mono ?_; rintro e w1 ⟨rfl, hb1⟩; have hz1 := hb1.size; simp at hz1; obtain ⟨fz1, fc1, c0, c1, c2, c3, c4, c5, z0, z1, z2, z3, z4, z5⟩ := boxes26 hb1) | (go_at_call 57; refine (seen_any _ _ _ _ _ _ _ q4 q5 hd0 hd1 _).mono ?_; rintro e w2 ⟨rfl, hb2⟩; have hz2 := hb2.size; have s2 : w.heap.size + 1 < w2.heap.size := (by omega); have s2a : ¬ w.heap.size + 1 = w2.heap.size := (by omega); have s2b : ¬ w2.heap.size = w.heap.size + 1 := (by omega); have s2c : w.heap.size < w2.heap.size := (by omega); have s2d : ¬ w.heap.size = w2.heap.size := (by omega); have s2e : ¬ w2.heap.size = w.heap.size := (by omega); have fz2 : ∀ j, w2.frozen? ⟨w.heap.size + 1, j, none⟩ = false := (fun j => by rw [hb2.frozen (by first | omega | (simp; done) | (simp; omega))]; try (simp [go_sem, fz1])); rw [HE.out]; obtain ⟨y0, y1, y2, y3, y4, y5⟩ : w2.cell? ⟨w.heap.size + 1, 0, none⟩ = some (.int .i64 0) ∧ w2.cell? ⟨w.heap.size + 1, 1, none⟩ = some (.int .i64 0) ∧ w2.cell? ⟨w.heap.size + 1, 2, none⟩ = some (.int .i64 0) ∧ w2.cell? ⟨w.heap.size + 1, 3, none⟩ = some (.int .i64 0) ∧ w2.cell? ⟨w.heap.size + 1, 4, none⟩ = some (.int .i64 0) ∧ w2.cell? ⟨w.heap.size + 1, 5, none⟩ = some (.int .i64 0) := (by refine ⟨?_, ?_, ?_, ?_, ?_, ?_⟩ <;> (rw [hb2.cell (by first | omega | (simp; done) | (simp; omega))]; try (simp [go_sem, World.cell?_alloc_past, z0, z1, z2, z3, z4, z5]))); obtain ⟨g0, g1, g2, g3, g4, g5⟩ : w2.cell? ⟨w.heap.size, 0, none⟩ = some (.int .i64 k) ∧ w2.cell? ⟨w.heap.size, 1, none⟩ = some (.int .i64 n) ∧ w2.cell? ⟨w.heap.size, 2, none⟩ = some (.int .i64 b) ∧ w2.cell? ⟨w.heap.size, 3, none⟩ = some (.int .i64 (1)) ∧ w2.cell? ⟨w.heap.size, 4, none⟩ = some (.int .i64 0) ∧ w2.cell? ⟨w.heap.size, 5, none⟩ = some (.int .i64 p) := (by refine ⟨?_, ?_, ?_, ?_, ?_, ?_⟩ <;> (rw [hb2.cell (by first | omega | (simp; done) | (simp; omega))]; try (simp [go_sem, World.cell?_alloc_past, c0, c1, c2, c3, c4, c5])))) | (go_at_call 58; refine (clip_any _ _).mono ?_; rintro e w3 ⟨rfl, rfl⟩))
 all_goals (refine bodyPost_ret (v := .tuple #[.agg #[.int .i64 k, .int .i64 (clipW (n + 1)), .int .i64 (lowBase b d), .int .i64 (1), .int .i64 1, .int .i64 p], .int .i64 0]) ?_ rfl ⟨rfl, ?_⟩)
 all_goals first | ((repeat' (first | (with_reducible exact Below.refl _ _) | (with_reducible refine Below.alloc ?_ ?_ _) | (with_reducible refine Below.setCell ?_ ?_ _) | (with_reducible refine Below.drewN ?_ _) | (with_reducible refine Below.drew ?_) | (with_reducible refine Below.trans ?_ (hb2.mono ?_)) | (with_reducible refine Below.trans ?_ (hb1.mono ?_)) | omega | (simp; done) | (simp; omega))); done) | skip
 all_goals (simp [results, Try.results48, go_sem, s2, s2a, s2b, s2c, s2d, s2e, g0, g1, g2, g3, g4, g5, y0, y1, y2, y3, y4, y5])
 all_goals (unfold clipW; omega)
set_option maxHeartbeats 2000000 in
theorem lNext_up_s1 (k n b y s p d : Int) (h : copRight ⟨k, n, b, y, s, p⟩ = true) (hd0 : 0 ≤ d) (hd1 : d ≤ 1099511627776) (hc : n * (d - lowBase b d) ≤ 2 * (1 + d)) (hy : y = 1) (hs : s = 1) (w : World) :
 Calls Try.prog 48 #[.agg #[.int .i64 k, .int .i64 n, .int .i64 b, .int .i64 y, .int .i64 s, .int .i64 p], .int .i64 d] w fun e w' => e = .returned (.tuple #[.agg #[.int .i64 k, .int .i64 (clipW (n + 2)), .int .i64 (lowBase b d), .int .i64 (1), .int .i64 2, .int .i64 p], .int .i64 0]) ∧ Below w.heap.size w w' := by
 have H := hide h
 simp only [copRight, decide_eq_true_eq] at h
 obtain ⟨q1, q2, q3, q4, q5, q6, q7, q8, q9, q10⟩ := h
 clear q1 q10
 subst hy; subst hs
 obtain ⟨e, he⟩ : ∃ e, d - lowBase b d = e := ⟨_, rfl⟩
 rw [he] at hc
 have e0 : 0 ≤ e := by unfold lowBase at he; omega
 have e1 : e ≤ 1099511627777 := by unfold lowBase at he; omega
 have m0 : 0 ≤ n * e := Int.mul_nonneg (by omega) e0
 have m1 : n * e ≤ 12 * e := Int.mul_le_mul_of_nonneg_right q3 e0
 have HE := hide he
 clear he
 go_enter Try.func48, Try.ntmps48
 go_wp2_with (first | (go_at_call 59; refine (lRight_t _ _ _ _ _ _ H.out _).mono ?_; rintro e w1 ⟨rfl, hb1⟩; have hz1 := hb1.size; simp at hz1; obtain ⟨fz1, fc1, c0, c1, c2, c3, c4, c5, z0, z1, z2, z3, z4, z5⟩ := boxes26 hb1) | (go_at_call 57; refine (seen_any _ _ _ _ _ _ _ q4 q5 hd0 hd1 _).mono ?_; rintro e w2 ⟨rfl, hb2⟩; have hz2 := hb2.size; have s2 : w.heap.size + 1 < w2.heap.size := (by omega); have s2a : ¬ w.heap.size + 1 = w2.heap.size := (by omega); have s2b : ¬ w2.heap.size = w.heap.size + 1 := (by omega); have s2c : w.heap.size < w2.heap.size := (by omega); have s2d : ¬ w.heap.size = w2.heap.size := (by omega); have s2e : ¬ w2.heap.size = w.heap.size := (by omega); have fz2 : ∀ j, w2.frozen? ⟨w.heap.size + 1, j, none⟩ = false := (fun j => by rw [hb2.frozen (by first | omega | (simp; done) | (simp; omega))]; try (simp [go_sem, fz1])); rw [HE.out]; obtain ⟨y0, y1, y2, y3, y4, y5⟩ : w2.cell? ⟨w.heap.size + 1, 0, none⟩ = some (.int .i64 0) ∧ w2.cell? ⟨w.heap.size + 1, 1, none⟩ = some (.int .i64 0) ∧ w2.cell? ⟨w.heap.size + 1, 2, none⟩ = some (.int .i64 0) ∧ w2.cell? ⟨w.heap.size + 1, 3, none⟩ = some (.int .i64 0) ∧ w2.cell? ⟨w.heap.size + 1, 4, none⟩ = some (.int .i64 0) ∧ w2.cell? ⟨w.heap.size + 1, 5, none⟩ = some (.int .i64 0) := (by refine ⟨?_, ?_, ?_, ?_, ?_, ?_⟩ <;> (rw [hb2.cell (by first | omega | (simp; done) | (simp; omega))]; try (simp [go_sem, World.cell?_alloc_past, z0, z1, z2, z3, z4, z5]))); obtain ⟨g0, g1, g2, g3, g4, g5⟩ : w2.cell? ⟨w.heap.size, 0, none⟩ = some (.int .i64 k) ∧ w2.cell? ⟨w.heap.size, 1, none⟩ = some (.int .i64 n) ∧ w2.cell? ⟨w.heap.size, 2, none⟩ = some (.int .i64 b) ∧ w2.cell? ⟨w.heap.size, 3, none⟩ = some (.int .i64 (1)) ∧ w2.cell? ⟨w.heap.size, 4, none⟩ = some (.int .i64 1) ∧ w2.cell? ⟨w.heap.size, 5, none⟩ = some (.int .i64 p) := (by refine ⟨?_, ?_, ?_, ?_, ?_, ?_⟩ <;> (rw [hb2.cell (by first | omega | (simp; done) | (simp; omega))]; try (simp [go_sem, World.cell?_alloc_past, c0, c1, c2, c3, c4, c5])))) | (go_at_call 58; refine (clip_any _ _).mono ?_; rintro e w3 ⟨rfl, rfl⟩))
 all_goals (refine bodyPost_ret (v := .tuple #[.agg #[.int .i64 k, .int .i64 (clipW (n + 2)), .int .i64 (lowBase b d), .int .i64 (1), .int .i64 2, .int .i64 p], .int .i64 0]) ?_ rfl ⟨rfl, ?_⟩)
 all_goals first | ((repeat' (first | (with_reducible exact Below.refl _ _) | (with_reducible refine Below.alloc ?_ ?_ _) | (with_reducible refine Below.setCell ?_ ?_ _) | (with_reducible refine Below.drewN ?_ _) | (with_reducible refine Below.drew ?_) | (with_reducible refine Below.trans ?_ (hb2.mono ?_)) | (with_reducible refine Below.trans ?_ (hb1.mono ?_)) | omega | (simp; done) | (simp; omega))); done) | skip
 all_goals (simp [results, Try.results48, go_sem, s2, s2a, s2b, s2c, s2d, s2e, g0, g1, g2, g3, g4, g5, y0, y1, y2, y3, y4, y5])
 all_goals (unfold clipW; omega)
set_option maxHeartbeats 2000000 in
theorem lNext_up_s2 (k n b y s p d : Int) (h : copRight ⟨k, n, b, y, s, p⟩ = true) (hd0 : 0 ≤ d) (hd1 : d ≤ 1099511627776) (hc : n * (d - lowBase b d) ≤ 2 * (1 + d)) (hy : y = 1) (hs : s = 2) (w : World) :
 Calls Try.prog 48 #[.agg #[.int .i64 k, .int .i64 n, .int .i64 b, .int .i64 y, .int .i64 s, .int .i64 p], .int .i64 d] w fun e w' => e = .returned (.tuple #[.agg #[.int .i64 k, .int .i64 (clipW (n + 4)), .int .i64 (lowBase b d), .int .i64 (1), .int .i64 4, .int .i64 p], .int .i64 0]) ∧ Below w.heap.size w w' := by
 have H := hide h
 simp only [copRight, decide_eq_true_eq] at h
 obtain ⟨q1, q2, q3, q4, q5, q6, q7, q8, q9, q10⟩ := h
 clear q1 q10
 subst hy; subst hs
 obtain ⟨e, he⟩ : ∃ e, d - lowBase b d = e := ⟨_, rfl⟩
 rw [he] at hc
 have e0 : 0 ≤ e := by unfold lowBase at he; omega
 have e1 : e ≤ 1099511627777 := by unfold lowBase at he; omega
 have m0 : 0 ≤ n * e := Int.mul_nonneg (by omega) e0
 have m1 : n * e ≤ 12 * e := Int.mul_le_mul_of_nonneg_right q3 e0
 have HE := hide he
 clear he
 go_enter Try.func48, Try.ntmps48
 go_wp2_with (first | (go_at_call 59; refine (lRight_t _ _ _ _ _ _ H.out _).mono ?_; rintro e w1 ⟨rfl, hb1⟩; have hz1 := hb1.size; simp at hz1; obtain ⟨fz1, fc1, c0, c1, c2, c3, c4, c5, z0, z1, z2, z3, z4, z5⟩ := boxes26 hb1) | (go_at_call 57; refine (seen_any _ _ _ _ _ _ _ q4 q5 hd0 hd1 _).mono ?_; rintro e w2 ⟨rfl, hb2⟩; have hz2 := hb2.size; have s2 : w.heap.size + 1 < w2.heap.size := (by omega); have s2a : ¬ w.heap.size + 1 = w2.heap.size := (by omega); have s2b : ¬ w2.heap.size = w.heap.size + 1 := (by omega); have s2c : w.heap.size < w2.heap.size := (by omega); have s2d : ¬ w.heap.size = w2.heap.size := (by omega); have s2e : ¬ w2.heap.size = w.heap.size := (by omega); have fz2 : ∀ j, w2.frozen? ⟨w.heap.size + 1, j, none⟩ = false := (fun j => by rw [hb2.frozen (by first | omega | (simp; done) | (simp; omega))]; try (simp [go_sem, fz1])); rw [HE.out]; obtain ⟨y0, y1, y2, y3, y4, y5⟩ : w2.cell? ⟨w.heap.size + 1, 0, none⟩ = some (.int .i64 0) ∧ w2.cell? ⟨w.heap.size + 1, 1, none⟩ = some (.int .i64 0) ∧ w2.cell? ⟨w.heap.size + 1, 2, none⟩ = some (.int .i64 0) ∧ w2.cell? ⟨w.heap.size + 1, 3, none⟩ = some (.int .i64 0) ∧ w2.cell? ⟨w.heap.size + 1, 4, none⟩ = some (.int .i64 0) ∧ w2.cell? ⟨w.heap.size + 1, 5, none⟩ = some (.int .i64 0) := (by refine ⟨?_, ?_, ?_, ?_, ?_, ?_⟩ <;> (rw [hb2.cell (by first | omega | (simp; done) | (simp; omega))]; try (simp [go_sem, World.cell?_alloc_past, z0, z1, z2, z3, z4, z5]))); obtain ⟨g0, g1, g2, g3, g4, g5⟩ : w2.cell? ⟨w.heap.size, 0, none⟩ = some (.int .i64 k) ∧ w2.cell? ⟨w.heap.size, 1, none⟩ = some (.int .i64 n) ∧ w2.cell? ⟨w.heap.size, 2, none⟩ = some (.int .i64 b) ∧ w2.cell? ⟨w.heap.size, 3, none⟩ = some (.int .i64 (1)) ∧ w2.cell? ⟨w.heap.size, 4, none⟩ = some (.int .i64 2) ∧ w2.cell? ⟨w.heap.size, 5, none⟩ = some (.int .i64 p) := (by refine ⟨?_, ?_, ?_, ?_, ?_, ?_⟩ <;> (rw [hb2.cell (by first | omega | (simp; done) | (simp; omega))]; try (simp [go_sem, World.cell?_alloc_past, c0, c1, c2, c3, c4, c5])))) | (go_at_call 58; refine (clip_any _ _).mono ?_; rintro e w3 ⟨rfl, rfl⟩))
 all_goals (refine bodyPost_ret (v := .tuple #[.agg #[.int .i64 k, .int .i64 (clipW (n + 4)), .int .i64 (lowBase b d), .int .i64 (1), .int .i64 4, .int .i64 p], .int .i64 0]) ?_ rfl ⟨rfl, ?_⟩)
 all_goals first | ((repeat' (first | (with_reducible exact Below.refl _ _) | (with_reducible refine Below.alloc ?_ ?_ _) | (with_reducible refine Below.setCell ?_ ?_ _) | (with_reducible refine Below.drewN ?_ _) | (with_reducible refine Below.drew ?_) | (with_reducible refine Below.trans ?_ (hb2.mono ?_)) | (with_reducible refine Below.trans ?_ (hb1.mono ?_)) | omega | (simp; done) | (simp; omega))); done) | skip
 all_goals (simp [results, Try.results48, go_sem, s2, s2a, s2b, s2c, s2d, s2e, g0, g1, g2, g3, g4, g5, y0, y1, y2, y3, y4, y5])
 all_goals (unfold clipW; omega)
set_option maxHeartbeats 2000000 in
theorem lNext_up_s3 (k n b y s p d : Int) (h : copRight ⟨k, n, b, y, s, p⟩ = true) (hd0 : 0 ≤ d) (hd1 : d ≤ 1099511627776) (hc : n * (d - lowBase b d) ≤ 2 * (1 + d)) (hy : y = 1) (hs : s = 3) (w : World) :
 Calls Try.prog 48 #[.agg #[.int .i64 k, .int .i64 n, .int .i64 b, .int .i64 y, .int .i64 s, .int .i64 p], .int .i64 d] w fun e w' => e = .returned (.tuple #[.agg #[.int .i64 k, .int .i64 (clipW (n + 4)), .int .i64 (lowBase b d), .int .i64 (1), .int .i64 4, .int .i64 p], .int .i64 0]) ∧ Below w.heap.size w w' := by
 have H := hide h
 simp only [copRight, decide_eq_true_eq] at h
 obtain ⟨q1, q2, q3, q4, q5, q6, q7, q8, q9, q10⟩ := h
 clear q1 q10
 subst hy; subst hs
 obtain ⟨e, he⟩ : ∃ e, d - lowBase b d = e := ⟨_, rfl⟩
 rw [he] at hc
 have e0 : 0 ≤ e := by unfold lowBase at he; omega
 have e1 : e ≤ 1099511627777 := by unfold lowBase at he; omega
 have m0 : 0 ≤ n * e := Int.mul_nonneg (by omega) e0
 have m1 : n * e ≤ 12 * e := Int.mul_le_mul_of_nonneg_right q3 e0
 have HE := hide he
 clear he
 go_enter Try.func48, Try.ntmps48
 go_wp2_with (first | (go_at_call 59; refine (lRight_t _ _ _ _ _ _ H.out _).mono ?_; rintro e w1 ⟨rfl, hb1⟩; have hz1 := hb1.size; simp at hz1; obtain ⟨fz1, fc1, c0, c1, c2, c3, c4, c5, z0, z1, z2, z3, z4, z5⟩ := boxes26 hb1) | (go_at_call 57; refine (seen_any _ _ _ _ _ _ _ q4 q5 hd0 hd1 _).mono ?_; rintro e w2 ⟨rfl, hb2⟩; have hz2 := hb2.size; have s2 : w.heap.size + 1 < w2.heap.size := (by omega); have s2a : ¬ w.heap.size + 1 = w2.heap.size := (by omega); have s2b : ¬ w2.heap.size = w.heap.size + 1 := (by omega); have s2c : w.heap.size < w2.heap.size := (by omega); have s2d : ¬ w.heap.size = w2.heap.size := (by omega); have s2e : ¬ w2.heap.size = w.heap.size := (by omega); have fz2 : ∀ j, w2.frozen? ⟨w.heap.size + 1, j, none⟩ = false := (fun j => by rw [hb2.frozen (by first | omega | (simp; done) | (simp; omega))]; try (simp [go_sem, fz1])); rw [HE.out]; obtain ⟨y0, y1, y2, y3, y4, y5⟩ : w2.cell? ⟨w.heap.size + 1, 0, none⟩ = some (.int .i64 0) ∧ w2.cell? ⟨w.heap.size + 1, 1, none⟩ = some (.int .i64 0) ∧ w2.cell? ⟨w.heap.size + 1, 2, none⟩ = some (.int .i64 0) ∧ w2.cell? ⟨w.heap.size + 1, 3, none⟩ = some (.int .i64 0) ∧ w2.cell? ⟨w.heap.size + 1, 4, none⟩ = some (.int .i64 0) ∧ w2.cell? ⟨w.heap.size + 1, 5, none⟩ = some (.int .i64 0) := (by refine ⟨?_, ?_, ?_, ?_, ?_, ?_⟩ <;> (rw [hb2.cell (by first | omega | (simp; done) | (simp; omega))]; try (simp [go_sem, World.cell?_alloc_past, z0, z1, z2, z3, z4, z5]))); obtain ⟨g0, g1, g2, g3, g4, g5⟩ : w2.cell? ⟨w.heap.size, 0, none⟩ = some (.int .i64 k) ∧ w2.cell? ⟨w.heap.size, 1, none⟩ = some (.int .i64 n) ∧ w2.cell? ⟨w.heap.size, 2, none⟩ = some (.int .i64 b) ∧ w2.cell? ⟨w.heap.size, 3, none⟩ = some (.int .i64 (1)) ∧ w2.cell? ⟨w.heap.size, 4, none⟩ = some (.int .i64 3) ∧ w2.cell? ⟨w.heap.size, 5, none⟩ = some (.int .i64 p) := (by refine ⟨?_, ?_, ?_, ?_, ?_, ?_⟩ <;> (rw [hb2.cell (by first | omega | (simp; done) | (simp; omega))]; try (simp [go_sem, World.cell?_alloc_past, c0, c1, c2, c3, c4, c5])))) | (go_at_call 58; refine (clip_any _ _).mono ?_; rintro e w3 ⟨rfl, rfl⟩))
 all_goals (refine bodyPost_ret (v := .tuple #[.agg #[.int .i64 k, .int .i64 (clipW (n + 4)), .int .i64 (lowBase b d), .int .i64 (1), .int .i64 4, .int .i64 p], .int .i64 0]) ?_ rfl ⟨rfl, ?_⟩)
 all_goals first | ((repeat' (first | (with_reducible exact Below.refl _ _) | (with_reducible refine Below.alloc ?_ ?_ _) | (with_reducible refine Below.setCell ?_ ?_ _) | (with_reducible refine Below.drewN ?_ _) | (with_reducible refine Below.drew ?_) | (with_reducible refine Below.trans ?_ (hb2.mono ?_)) | (with_reducible refine Below.trans ?_ (hb1.mono ?_)) | omega | (simp; done) | (simp; omega))); done) | skip
 all_goals (simp [results, Try.results48, go_sem, s2, s2a, s2b, s2c, s2d, s2e, g0, g1, g2, g3, g4, g5, y0, y1, y2, y3, y4, y5])
 all_goals (unfold clipW; omega)
set_option maxHeartbeats 2000000 in
theorem lNext_up_s4 (k n b y s p d : Int) (h : copRight ⟨k, n, b, y, s, p⟩ = true) (hd0 : 0 ≤ d) (hd1 : d ≤ 1099511627776) (hc : n * (d - lowBase b d) ≤ 2 * (1 + d)) (hy : y = 1) (hs : s = 4) (w : World) :
 Calls Try.prog 48 #[.agg #[.int .i64 k, .int .i64 n, .int .i64 b, .int .i64 y, .int .i64 s, .int .i64 p], .int .i64 d] w fun e w' => e = .returned (.tuple #[.agg #[.int .i64 k, .int .i64 (clipW (n + 4)), .int .i64 (lowBase b d), .int .i64 (1), .int .i64 4, .int .i64 p], .int .i64 0]) ∧ Below w.heap.size w w' := by
 have H := hide h
 simp only [copRight, decide_eq_true_eq] at h
 obtain ⟨q1, q2, q3, q4, q5, q6, q7, q8, q9, q10⟩ := h
 clear q1 q10
 subst hy; subst hs
 obtain ⟨e, he⟩ : ∃ e, d - lowBase b d = e := ⟨_, rfl⟩
 rw [he] at hc
 have e0 : 0 ≤ e := by unfold lowBase at he; omega
 have e1 : e ≤ 1099511627777 := by unfold lowBase at he; omega
 have m0 : 0 ≤ n * e := Int.mul_nonneg (by omega) e0
 have m1 : n * e ≤ 12 * e := Int.mul_le_mul_of_nonneg_right q3 e0
 have HE := hide he
 clear he
 go_enter Try.func48, Try.ntmps48
 go_wp2_with (first | (go_at_call 59; refine (lRight_t _ _ _ _ _ _ H.out _).mono ?_; rintro e w1 ⟨rfl, hb1⟩; have hz1 := hb1.size; simp at hz1; obtain ⟨fz1, fc1, c0, c1, c2, c3, c4, c5, z0, z1, z2, z3, z4, z5⟩ := boxes26 hb1) | (go_at_call 57; refine (seen_any _ _ _ _ _ _ _ q4 q5 hd0 hd1 _).mono ?_; rintro e w2 ⟨rfl, hb2⟩; have hz2 := hb2.size; have s2 : w.heap.size + 1 < w2.heap.size := (by omega); have s2a : ¬ w.heap.size + 1 = w2.heap.size := (by omega); have s2b : ¬ w2.heap.size = w.heap.size + 1 := (by omega); have s2c : w.heap.size < w2.heap.size := (by omega); have s2d : ¬ w.heap.size = w2.heap.size := (by omega); have s2e : ¬ w2.heap.size = w.heap.size := (by omega); have fz2 : ∀ j, w2.frozen? ⟨w.heap.size + 1, j, none⟩ = false := (fun j => by rw [hb2.frozen (by first | omega | (simp; done) | (simp; omega))]; try (simp [go_sem, fz1])); rw [HE.out]; obtain ⟨y0, y1, y2, y3, y4, y5⟩ : w2.cell? ⟨w.heap.size + 1, 0, none⟩ = some (.int .i64 0) ∧ w2.cell? ⟨w.heap.size + 1, 1, none⟩ = some (.int .i64 0) ∧ w2.cell? ⟨w.heap.size + 1, 2, none⟩ = some (.int .i64 0) ∧ w2.cell? ⟨w.heap.size + 1, 3, none⟩ = some (.int .i64 0) ∧ w2.cell? ⟨w.heap.size + 1, 4, none⟩ = some (.int .i64 0) ∧ w2.cell? ⟨w.heap.size + 1, 5, none⟩ = some (.int .i64 0) := (by refine ⟨?_, ?_, ?_, ?_, ?_, ?_⟩ <;> (rw [hb2.cell (by first | omega | (simp; done) | (simp; omega))]; try (simp [go_sem, World.cell?_alloc_past, z0, z1, z2, z3, z4, z5]))); obtain ⟨g0, g1, g2, g3, g4, g5⟩ : w2.cell? ⟨w.heap.size, 0, none⟩ = some (.int .i64 k) ∧ w2.cell? ⟨w.heap.size, 1, none⟩ = some (.int .i64 n) ∧ w2.cell? ⟨w.heap.size, 2, none⟩ = some (.int .i64 b) ∧ w2.cell? ⟨w.heap.size, 3, none⟩ = some (.int .i64 (1)) ∧ w2.cell? ⟨w.heap.size, 4, none⟩ = some (.int .i64 4) ∧ w2.cell? ⟨w.heap.size, 5, none⟩ = some (.int .i64 p) := (by refine ⟨?_, ?_, ?_, ?_, ?_, ?_⟩ <;> (rw [hb2.cell (by first | omega | (simp; done) | (simp; omega))]; try (simp [go_sem, World.cell?_alloc_past, c0, c1, c2, c3, c4, c5])))) | (go_at_call 58; refine (clip_any _ _).mono ?_; rintro e w3 ⟨rfl, rfl⟩))
 all_goals (refine bodyPost_ret (v := .tuple #[.agg #[.int .i64 k, .int .i64 (clipW (n + 4)), .int .i64 (lowBase b d), .int .i64 (1), .int .i64 4, .int .i64 p], .int .i64 0]) ?_ rfl ⟨rfl, ?_⟩)
 all_goals first | ((repeat' (first | (with_reducible exact Below.refl _ _) | (with_reducible refine Below.alloc ?_ ?_ _) | (with_reducible refine Below.setCell ?_ ?_ _) | (with_reducible refine Below.drewN ?_ _) | (with_reducible refine Below.drew ?_) | (with_reducible refine Below.trans ?_ (hb2.mono ?_)) | (with_reducible refine Below.trans ?_ (hb1.mono ?_)) | omega | (simp; done) | (simp; omega))); done) | skip
 all_goals (simp [results, Try.results48, go_sem, s2, s2a, s2b, s2c, s2d, s2e, g0, g1, g2, g3, g4, g5, y0, y1, y2, y3, y4, y5])
 all_goals (unfold clipW; omega)
end Go.Proofs.Ytmmjopmffpfccaa
