/-
  Lemmas and walks for the statement: VegN, Seen, KNext, Cop.
-/
import Derived.Test.YtjjikhaaimfneaaGreatDoorU05
namespace Go.Proofs.YtjjikhaaimfneaaGreatDoor
open Go.RowKit
set_option linter.unusedSimpArgs false
set_option linter.unusedVariables false
set_option maxHeartbeats 2000000 in
theorem vegNext_up (k n b y s p d : Int) (h : vegRight ⟨k, n, b, y, s, p⟩ = true) (hd0 : 0 ≤ d) (hd1 : d ≤ 1099511627776) (hc : n * (d - lowBase b d) < 1 + d) (w : World) :
 Calls Tryz.prog 114 #[.agg #[.int .i64 k, .int .i64 n, .int .i64 b, .int .i64 y, .int .i64 s, .int .i64 p], .int .i64 d] w fun e w' => e = .returned (.tuple #[.agg #[.int .i64 k, .int .i64 (clipW (n + 1)), .int .i64 (lowBase b d), .int .i64 y, .int .i64 s, .int .i64 p], .int .i64 0]) ∧ Below w.heap.size w w' := by
 have H := hide h
 simp only [vegRight, decide_eq_true_eq] at h
 obtain ⟨q1, q2, q3, q4, q5, q6, q7, q8⟩ := h
 clear q1 q6 q7 q8
 rcases (show b < 0 ∨ (0 ≤ b ∧ d < b) ∨ (0 ≤ b ∧ b ≤ d) by omega) with hb0 | ⟨hb0, hb9⟩ | ⟨hb0, hb9⟩
 · have hl : lowBase b d = d := by unfold lowBase; rw [if_pos hb0]
   rw [hl, Int.sub_self, Int.mul_zero] at hc
   have z1 : (0 : Int) / (1 + d) = 0 := Int.zero_ediv _
   have HL := hide hl
   clear hl hc
   go_enter Tryz.func114, Tryz.ntmps114
   go_wp2_with (go_at_call 113; refine (vegRight_t _ _ _ _ _ _ H.out _).mono ?_; rintro e w1 ⟨rfl, hb1⟩; have hz1 := hb1.size; simp at hz1; obtain ⟨fz1, fc1, c0, c1, c2, c3, c4, c5, z0, z1, z2, z3, z4, z5⟩ := boxes26 hb1; have e1 : ∀ v, (w1.setCell ⟨w.heap.size, 1, none⟩ v).cell? ⟨w.heap.size, 1, none⟩ = some v := (fun v => by simp [go_sem, c1]); have e2 : ∀ u v, ((w1.setCell ⟨w.heap.size, 2, none⟩ u).setCell ⟨w.heap.size, 1, none⟩ v).cell? ⟨w.heap.size, 1, none⟩ = some v := (fun u v => by simp [go_sem, c1, c2]))
   all_goals (refine bodyPost_ret (v := .tuple #[.agg #[.int .i64 k, .int .i64 (clipW (n + 1)), .int .i64 (lowBase b d), .int .i64 y, .int .i64 s, .int .i64 p], .int .i64 0]) ?_ rfl ⟨rfl, ?_⟩)
   all_goals first | (exact BL; done) | skip
   all_goals (simp [results, Tryz.results114, go_sem, e1, e2, c0, c1, c2, c3, c4, c5, z0, z1, z2, z3, z4, z5])
   all_goals (rw [HL.out]; try (unfold clipW; omega))
 · have hl : lowBase b d = d := by unfold lowBase; rw [if_neg (by omega), if_pos hb9]
   rw [hl, Int.sub_self, Int.mul_zero] at hc
   have z1 : (0 : Int) / (1 + d) = 0 := Int.zero_ediv _
   have HL := hide hl
   clear hl hc
   go_enter Tryz.func114, Tryz.ntmps114
   go_wp2_with (go_at_call 113; refine (vegRight_t _ _ _ _ _ _ H.out _).mono ?_; rintro e w1 ⟨rfl, hb1⟩; have hz1 := hb1.size; simp at hz1; obtain ⟨fz1, fc1, c0, c1, c2, c3, c4, c5, z0, z1, z2, z3, z4, z5⟩ := boxes26 hb1; have e1 : ∀ v, (w1.setCell ⟨w.heap.size, 1, none⟩ v).cell? ⟨w.heap.size, 1, none⟩ = some v := (fun v => by simp [go_sem, c1]); have e2 : ∀ u v, ((w1.setCell ⟨w.heap.size, 2, none⟩ u).setCell ⟨w.heap.size, 1, none⟩ v).cell? ⟨w.heap.size, 1, none⟩ = some v := (fun u v => by simp [go_sem, c1, c2]))
   all_goals (refine bodyPost_ret (v := .tuple #[.agg #[.int .i64 k, .int .i64 (clipW (n + 1)), .int .i64 (lowBase b d), .int .i64 y, .int .i64 s, .int .i64 p], .int .i64 0]) ?_ rfl ⟨rfl, ?_⟩)
   all_goals first | (exact BL; done) | skip
   all_goals (simp [results, Tryz.results114, go_sem, e1, e2, c0, c1, c2, c3, c4, c5, z0, z1, z2, z3, z4, z5])
   all_goals (rw [HL.out]; try (unfold clipW; omega))
 · have hl : lowBase b d = b := by unfold lowBase; rw [if_neg (by omega), if_neg (by omega)]
   rw [hl] at hc
   have m0 : 0 ≤ n * (d - b) := Int.mul_nonneg (by omega) (by omega)
   have m1 : n * (d - b) ≤ 12 * (d - b) := Int.mul_le_mul_of_nonneg_right q3 (by omega)
   have m2 : n * (d - b) / (1 + d) < 1 := Int.ediv_lt_of_lt_mul (by omega) (by omega)
   have HL := hide hl
   clear hl hc
   go_enter Tryz.func114, Tryz.ntmps114
   go_wp2_with (go_at_call 113; refine (vegRight_t _ _ _ _ _ _ H.out _).mono ?_; rintro e w1 ⟨rfl, hb1⟩; have hz1 := hb1.size; simp at hz1; obtain ⟨fz1, fc1, c0, c1, c2, c3, c4, c5, z0, z1, z2, z3, z4, z5⟩ := boxes26 hb1; have e1 : ∀ v, (w1.setCell ⟨w.heap.size, 1, none⟩ v).cell? ⟨w.heap.size, 1, none⟩ = some v := (fun v => by simp [go_sem, c1]); have e2 : ∀ u v, ((w1.setCell ⟨w.heap.size, 2, none⟩ u).setCell ⟨w.heap.size, 1, none⟩ v).cell? ⟨w.heap.size, 1, none⟩ = some v := (fun u v => by simp [go_sem, c1, c2]))
   all_goals (refine bodyPost_ret (v := .tuple #[.agg #[.int .i64 k, .int .i64 (clipW (n + 1)), .int .i64 (lowBase b d), .int .i64 y, .int .i64 s, .int .i64 p], .int .i64 0]) ?_ rfl ⟨rfl, ?_⟩)
   all_goals first | (exact BL; done) | skip
   all_goals (simp [results, Tryz.results114, go_sem, e1, e2, c0, c1, c2, c3, c4, c5, z0, z1, z2, z3, z4, z5])
   all_goals (rw [HL.out]; try (unfold clipW; omega))
set_option maxHeartbeats 2000000 in
theorem vegNext_mid (k n b y s p d : Int) (h : vegRight ⟨k, n, b, y, s, p⟩ = true) (hd0 : 0 ≤ d) (hd1 : d ≤ 1099511627776) (hc : 1 + d ≤ n * (d - lowBase b d) ∧ n * (d - lowBase b d) < 3 * (1 + d)) (w : World) :
 Calls Tryz.prog 114 #[.agg #[.int .i64 k, .int .i64 n, .int .i64 b, .int .i64 y, .int .i64 s, .int .i64 p], .int .i64 d] w fun e w' => e = .returned (.tuple #[.agg #[.int .i64 k, .int .i64 n, .int .i64 (lowBase b d), .int .i64 y, .int .i64 s, .int .i64 p], .int .i64 0]) ∧ Below w.heap.size w w' := by
 have H := hide h
 simp only [vegRight, decide_eq_true_eq] at h
 obtain ⟨q1, q2, q3, q4, q5, q6, q7, q8⟩ := h
 clear q1 q6 q7 q8
 rcases (show b < 0 ∨ (0 ≤ b ∧ d < b) ∨ (0 ≤ b ∧ b ≤ d) by omega) with hb0 | ⟨hb0, hb9⟩ | ⟨hb0, hb9⟩
 · have hl : lowBase b d = d := by unfold lowBase; rw [if_pos hb0]
   rw [hl, Int.sub_self, Int.mul_zero] at hc
   have z1 : (0 : Int) / (1 + d) = 0 := Int.zero_ediv _
   exact absurd hc (by omega)
 · have hl : lowBase b d = d := by unfold lowBase; rw [if_neg (by omega), if_pos hb9]
   rw [hl, Int.sub_self, Int.mul_zero] at hc
   have z1 : (0 : Int) / (1 + d) = 0 := Int.zero_ediv _
   exact absurd hc (by omega)
 · have hl : lowBase b d = b := by unfold lowBase; rw [if_neg (by omega), if_neg (by omega)]
   rw [hl] at hc
   have m0 : 0 ≤ n * (d - b) := Int.mul_nonneg (by omega) (by omega)
   have m1 : n * (d - b) ≤ 12 * (d - b) := Int.mul_le_mul_of_nonneg_right q3 (by omega)
   have m2 : n * (d - b) / (1 + d) < 3 := Int.ediv_lt_of_lt_mul (by omega) (by omega)
   have m3 : 1 ≤ n * (d - b) / (1 + d) := Int.le_ediv_of_mul_le (by omega) (by omega)
   have HL := hide hl
   clear hl hc
   go_enter Tryz.func114, Tryz.ntmps114
   go_wp2_with (go_at_call 113; refine (vegRight_t _ _ _ _ _ _ H.out _).mono ?_; rintro e w1 ⟨rfl, hb1⟩; have hz1 := hb1.size; simp at hz1; obtain ⟨fz1, fc1, c0, c1, c2, c3, c4, c5, z0, z1, z2, z3, z4, z5⟩ := boxes26 hb1; have e1 : ∀ v, (w1.setCell ⟨w.heap.size, 1, none⟩ v).cell? ⟨w.heap.size, 1, none⟩ = some v := (fun v => by simp [go_sem, c1]); have e2 : ∀ u v, ((w1.setCell ⟨w.heap.size, 2, none⟩ u).setCell ⟨w.heap.size, 1, none⟩ v).cell? ⟨w.heap.size, 1, none⟩ = some v := (fun u v => by simp [go_sem, c1, c2]))
   all_goals (refine bodyPost_ret (v := .tuple #[.agg #[.int .i64 k, .int .i64 n, .int .i64 (lowBase b d), .int .i64 y, .int .i64 s, .int .i64 p], .int .i64 0]) ?_ rfl ⟨rfl, ?_⟩)
   all_goals first | (exact BL; done) | skip
   all_goals (simp [results, Tryz.results114, go_sem, e1, e2, c0, c1, c2, c3, c4, c5, z0, z1, z2, z3, z4, z5])
   all_goals (rw [HL.out]; try (unfold clipW; omega))
set_option maxHeartbeats 2000000 in
theorem vegNext_dn (k n b y s p d : Int) (h : vegRight ⟨k, n, b, y, s, p⟩ = true) (hd0 : 0 ≤ d) (hd1 : d ≤ 1099511627776) (hc : 3 * (1 + d) ≤ n * (d - lowBase b d)) (w : World) :
 Calls Tryz.prog 114 #[.agg #[.int .i64 k, .int .i64 n, .int .i64 b, .int .i64 y, .int .i64 s, .int .i64 p], .int .i64 d] w fun e w' => e = .returned (.tuple #[.agg #[.int .i64 k, .int .i64 (clipW (n - 1)), .int .i64 (lowBase b d), .int .i64 y, .int .i64 s, .int .i64 p], .int .i64 0]) ∧ Below w.heap.size w w' := by
 have H := hide h
 simp only [vegRight, decide_eq_true_eq] at h
 obtain ⟨q1, q2, q3, q4, q5, q6, q7, q8⟩ := h
 clear q1 q6 q7 q8
 rcases (show b < 0 ∨ (0 ≤ b ∧ d < b) ∨ (0 ≤ b ∧ b ≤ d) by omega) with hb0 | ⟨hb0, hb9⟩ | ⟨hb0, hb9⟩
 · have hl : lowBase b d = d := by unfold lowBase; rw [if_pos hb0]
   rw [hl, Int.sub_self, Int.mul_zero] at hc
   have z1 : (0 : Int) / (1 + d) = 0 := Int.zero_ediv _
   exact absurd hc (by omega)
 · have hl : lowBase b d = d := by unfold lowBase; rw [if_neg (by omega), if_pos hb9]
   rw [hl, Int.sub_self, Int.mul_zero] at hc
   have z1 : (0 : Int) / (1 + d) = 0 := Int.zero_ediv _
   exact absurd hc (by omega)
 · have hl : lowBase b d = b := by unfold lowBase; rw [if_neg (by omega), if_neg (by omega)]
   rw [hl] at hc
   have m0 : 0 ≤ n * (d - b) := Int.mul_nonneg (by omega) (by omega)
   have m1 : n * (d - b) ≤ 12 * (d - b) := Int.mul_le_mul_of_nonneg_right q3 (by omega)
   have m3 : 3 ≤ n * (d - b) / (1 + d) := Int.le_ediv_of_mul_le (by omega) (by omega)
   have HL := hide hl
   clear hl hc
   go_enter Tryz.func114, Tryz.ntmps114
   go_wp2_with (go_at_call 113; refine (vegRight_t _ _ _ _ _ _ H.out _).mono ?_; rintro e w1 ⟨rfl, hb1⟩; have hz1 := hb1.size; simp at hz1; obtain ⟨fz1, fc1, c0, c1, c2, c3, c4, c5, z0, z1, z2, z3, z4, z5⟩ := boxes26 hb1; have e1 : ∀ v, (w1.setCell ⟨w.heap.size, 1, none⟩ v).cell? ⟨w.heap.size, 1, none⟩ = some v := (fun v => by simp [go_sem, c1]); have e2 : ∀ u v, ((w1.setCell ⟨w.heap.size, 2, none⟩ u).setCell ⟨w.heap.size, 1, none⟩ v).cell? ⟨w.heap.size, 1, none⟩ = some v := (fun u v => by simp [go_sem, c1, c2]))
   all_goals (refine bodyPost_ret (v := .tuple #[.agg #[.int .i64 k, .int .i64 (clipW (n - 1)), .int .i64 (lowBase b d), .int .i64 y, .int .i64 s, .int .i64 p], .int .i64 0]) ?_ rfl ⟨rfl, ?_⟩)
   all_goals first | (exact BL; done) | skip
   all_goals (simp [results, Tryz.results114, go_sem, e1, e2, c0, c1, c2, c3, c4, c5, z0, z1, z2, z3, z4, z5])
   all_goals (rw [HL.out]; try (unfold clipW; omega))
end Go.Proofs.YtjjikhaaimfneaaGreatDoor
namespace Go.Proofs.YtjjikhaaimfneaaGreatDoor
open Go.RowKit
set_option linter.unusedSimpArgs false
set_option linter.unusedVariables false
set_option maxHeartbeats 1000000 in
theorem seen_any (k n b y s p d : Int) (hb0 : -1 ≤ b) (hb1 : b ≤ 1099511627776) (hd0 : 0 ≤ d) (hd1 : d ≤ 1099511627776) (w : World) :
 Calls Tryz.prog 157 #[.agg #[.int .i64 k, .int .i64 n, .int .i64 b, .int .i64 y, .int .i64 s, .int .i64 p], .int .i64 d] w fun e w' => e = .returned (.tuple #[.agg #[.int .i64 k, .int .i64 n, .int .i64 (lowBase b d), .int .i64 y, .int .i64 s, .int .i64 p], .int .i64 (d - lowBase b d)]) ∧ Below w.heap.size w w' := by
 rcases (show b = -1 ∨ (0 ≤ b ∧ d < b) ∨ (0 ≤ b ∧ b ≤ d) by omega) with h | ⟨h, h'⟩ | ⟨h, h'⟩
 · subst h
   go_enter Tryz.func157, Tryz.ntmps157
   go_wp2
   go_region
   all_goals (try go_wp2)
   all_goals (refine bodyPost_ret (v := .tuple #[.agg #[.int .i64 k, .int .i64 n, .int .i64 (lowBase (-1) d), .int .i64 y, .int .i64 s, .int .i64 p], .int .i64 (d - lowBase (-1) d)]) ?_ rfl ⟨rfl, ?_⟩)
   all_goals first | (exact BL; done) | skip
   all_goals (simp [results, Tryz.results157, go_sem, lowBase])
 all_goals
  have hne : ((b : Int) == -1) = false := by simp; omega
  go_enter Tryz.func157, Tryz.ntmps157
  go_wp2
  go_region
  all_goals (try go_wp2)
  all_goals (refine bodyPost_ret (v := .tuple #[.agg #[.int .i64 k, .int .i64 n, .int .i64 (lowBase b d), .int .i64 y, .int .i64 s, .int .i64 p], .int .i64 (d - lowBase b d)]) ?_ rfl ⟨rfl, ?_⟩)
  all_goals first | (exact BL; done) | skip
  all_goals (simp [results, Tryz.results157, go_sem, lowBase])
  all_goals (repeat split)
  all_goals omega
end Go.Proofs.YtjjikhaaimfneaaGreatDoor
namespace Go.Proofs.YtjjikhaaimfneaaGreatDoor
open Go.RowKit
set_option linter.unusedSimpArgs false
set_option linter.unusedVariables false
set_option maxHeartbeats 1000000 in
theorem kNext_bad (k n b y s p d : Int) (h : vegRight ⟨k, n, b, y, s, p⟩ = false) (w : World) :
 Calls Tryz.prog 138 #[.agg #[.int .i64 k, .int .i64 n, .int .i64 b, .int .i64 y, .int .i64 s, .int .i64 p], .int .i64 d] w fun e w' => e = .returned (.tuple #[.agg #[.int .i64 0, .int .i64 0, .int .i64 0, .int .i64 0, .int .i64 0, .int .i64 0], .int .i64 1]) ∧ Below w.heap.size w w' := by
 have H := hide h
 clear h
 go_enter Tryz.func138, Tryz.ntmps138
 go_wp2_with (go_at_call 156; refine (kRight_f _ _ _ _ _ _ H.out _).mono ?_; rintro e w1 ⟨rfl, hb1⟩; have hz1 := hb1.size; simp at hz1; obtain ⟨fz1, fc1, c0, c1, c2, c3, c4, c5, z0, z1, z2, z3, z4, z5⟩ := boxes26 hb1)
 all_goals (refine bodyPost_ret (v := .tuple #[.agg #[.int .i64 0, .int .i64 0, .int .i64 0, .int .i64 0, .int .i64 0, .int .i64 0], .int .i64 1]) ?_ rfl ⟨rfl, ?_⟩)
 all_goals first | (exact BL; done) | skip
 all_goals (simp [results, Tryz.results138, go_sem, z0, z1, z2, z3, z4, z5])
set_option maxHeartbeats 2000000 in
theorem kNext_up (k n b y s p d : Int) (h : vegRight ⟨k, n, b, y, s, p⟩ = true) (hd0 : 0 ≤ d) (hd1 : d ≤ 1099511627776) (hc : n * (d - lowBase b d) < 1 + d) (w : World) :
 Calls Tryz.prog 138 #[.agg #[.int .i64 k, .int .i64 n, .int .i64 b, .int .i64 y, .int .i64 s, .int .i64 p], .int .i64 d] w fun e w' => e = .returned (.tuple #[.agg #[.int .i64 k, .int .i64 (clipW (n + 1)), .int .i64 (lowBase b d), .int .i64 y, .int .i64 s, .int .i64 p], .int .i64 0]) ∧ Below w.heap.size w w' := by
 have H := hide h
 simp only [vegRight, decide_eq_true_eq] at h
 obtain ⟨q1, q2, q3, q4, q5, q6, q7, q8⟩ := h
 clear q1 q6 q7 q8
 obtain ⟨e, he⟩ : ∃ e, d - lowBase b d = e := ⟨_, rfl⟩
 rw [he] at hc
 have e0 : 0 ≤ e := by unfold lowBase at he; omega
 have e1 : e ≤ 1099511627777 := by unfold lowBase at he; omega
 have m0 : 0 ≤ n * e := Int.mul_nonneg (by omega) e0
 have m1 : n * e ≤ 12 * e := Int.mul_le_mul_of_nonneg_right q3 e0
 have HE := hide he
 clear he
 go_enter Tryz.func138, Tryz.ntmps138
 go_wp2_with (first | (go_at_call 156; refine (kRight_t _ _ _ _ _ _ H.out _).mono ?_; rintro e w1 ⟨rfl, hb1⟩; have hz1 := hb1.size; simp at hz1; obtain ⟨fz1, fc1, c0, c1, c2, c3, c4, c5, z0, z1, z2, z3, z4, z5⟩ := boxes26 hb1) | (go_at_call 157; refine (seen_any _ _ _ _ _ _ _ q4 q5 hd0 hd1 _).mono ?_; rintro e w2 ⟨rfl, hb2⟩; obtain ⟨⟨s2, s2a, s2b, s2c, s2d, s2e⟩, fz2, y0, y1, y2, y3, y4, y5, g0, g1, g2, g3, g4, g5⟩ := keep26 hb2 fz1 c0 c1 c2 c3 c4 c5 z0 z1 z2 z3 z4 z5; rw [HE.out]) | (go_at_call 158; refine (clip_any _ _).mono ?_; rintro e w3 ⟨rfl, rfl⟩))
 all_goals (refine bodyPost_ret (v := .tuple #[.agg #[.int .i64 k, .int .i64 (clipW (n + 1)), .int .i64 (lowBase b d), .int .i64 y, .int .i64 s, .int .i64 p], .int .i64 0]) ?_ rfl ⟨rfl, ?_⟩)
 all_goals first | (exact BL; done) | skip
 all_goals (simp [results, Tryz.results138, go_sem, s2, s2a, s2b, s2c, s2d, s2e, g0, g1, g2, g3, g4, g5, y0, y1, y2, y3, y4, y5])
set_option maxHeartbeats 2000000 in
theorem kNext_mid (k n b y s p d : Int) (h : vegRight ⟨k, n, b, y, s, p⟩ = true) (hd0 : 0 ≤ d) (hd1 : d ≤ 1099511627776) (hc : 1 + d ≤ n * (d - lowBase b d) ∧ n * (d - lowBase b d) < 3 * (1 + d)) (w : World) :
 Calls Tryz.prog 138 #[.agg #[.int .i64 k, .int .i64 n, .int .i64 b, .int .i64 y, .int .i64 s, .int .i64 p], .int .i64 d] w fun e w' => e = .returned (.tuple #[.agg #[.int .i64 k, .int .i64 n, .int .i64 (lowBase b d), .int .i64 y, .int .i64 s, .int .i64 p], .int .i64 0]) ∧ Below w.heap.size w w' := by
 have H := hide h
 simp only [vegRight, decide_eq_true_eq] at h
 obtain ⟨q1, q2, q3, q4, q5, q6, q7, q8⟩ := h
 clear q1 q6 q7 q8
 obtain ⟨e, he⟩ : ∃ e, d - lowBase b d = e := ⟨_, rfl⟩
 rw [he] at hc
 have e0 : 0 ≤ e := by unfold lowBase at he; omega
 have e1 : e ≤ 1099511627777 := by unfold lowBase at he; omega
 have m0 : 0 ≤ n * e := Int.mul_nonneg (by omega) e0
 have m1 : n * e ≤ 12 * e := Int.mul_le_mul_of_nonneg_right q3 e0
 have HE := hide he
 clear he
 go_enter Tryz.func138, Tryz.ntmps138
 go_wp2_with (first | (go_at_call 156; refine (kRight_t _ _ _ _ _ _ H.out _).mono ?_; rintro e w1 ⟨rfl, hb1⟩; have hz1 := hb1.size; simp at hz1; obtain ⟨fz1, fc1, c0, c1, c2, c3, c4, c5, z0, z1, z2, z3, z4, z5⟩ := boxes26 hb1) | (go_at_call 157; refine (seen_any _ _ _ _ _ _ _ q4 q5 hd0 hd1 _).mono ?_; rintro e w2 ⟨rfl, hb2⟩; obtain ⟨⟨s2, s2a, s2b, s2c, s2d, s2e⟩, fz2, y0, y1, y2, y3, y4, y5, g0, g1, g2, g3, g4, g5⟩ := keep26 hb2 fz1 c0 c1 c2 c3 c4 c5 z0 z1 z2 z3 z4 z5; rw [HE.out]) | (go_at_call 158; refine (clip_any _ _).mono ?_; rintro e w3 ⟨rfl, rfl⟩))
 all_goals (refine bodyPost_ret (v := .tuple #[.agg #[.int .i64 k, .int .i64 n, .int .i64 (lowBase b d), .int .i64 y, .int .i64 s, .int .i64 p], .int .i64 0]) ?_ rfl ⟨rfl, ?_⟩)
 all_goals first | (exact BL; done) | skip
 all_goals (simp [results, Tryz.results138, go_sem, s2, s2a, s2b, s2c, s2d, s2e, g0, g1, g2, g3, g4, g5, y0, y1, y2, y3, y4, y5])
 all_goals (unfold clipW; omega)
set_option maxHeartbeats 2000000 in
theorem kNext_dn (k n b y s p d : Int) (h : vegRight ⟨k, n, b, y, s, p⟩ = true) (hd0 : 0 ≤ d) (hd1 : d ≤ 1099511627776) (hc : 3 * (1 + d) ≤ n * (d - lowBase b d)) (w : World) :
 Calls Tryz.prog 138 #[.agg #[.int .i64 k, .int .i64 n, .int .i64 b, .int .i64 y, .int .i64 s, .int .i64 p], .int .i64 d] w fun e w' => e = .returned (.tuple #[.agg #[.int .i64 k, .int .i64 (clipW (n - 1)), .int .i64 (lowBase b d), .int .i64 y, .int .i64 s, .int .i64 p], .int .i64 0]) ∧ Below w.heap.size w w' := by
 have H := hide h
 simp only [vegRight, decide_eq_true_eq] at h
 obtain ⟨q1, q2, q3, q4, q5, q6, q7, q8⟩ := h
 clear q1 q6 q7 q8
 obtain ⟨e, he⟩ : ∃ e, d - lowBase b d = e := ⟨_, rfl⟩
 rw [he] at hc
 have e0 : 0 ≤ e := by unfold lowBase at he; omega
 have e1 : e ≤ 1099511627777 := by unfold lowBase at he; omega
 have m0 : 0 ≤ n * e := Int.mul_nonneg (by omega) e0
 have m1 : n * e ≤ 12 * e := Int.mul_le_mul_of_nonneg_right q3 e0
 have HE := hide he
 clear he
 go_enter Tryz.func138, Tryz.ntmps138
 go_wp2_with (first | (go_at_call 156; refine (kRight_t _ _ _ _ _ _ H.out _).mono ?_; rintro e w1 ⟨rfl, hb1⟩; have hz1 := hb1.size; simp at hz1; obtain ⟨fz1, fc1, c0, c1, c2, c3, c4, c5, z0, z1, z2, z3, z4, z5⟩ := boxes26 hb1) | (go_at_call 157; refine (seen_any _ _ _ _ _ _ _ q4 q5 hd0 hd1 _).mono ?_; rintro e w2 ⟨rfl, hb2⟩; obtain ⟨⟨s2, s2a, s2b, s2c, s2d, s2e⟩, fz2, y0, y1, y2, y3, y4, y5, g0, g1, g2, g3, g4, g5⟩ := keep26 hb2 fz1 c0 c1 c2 c3 c4 c5 z0 z1 z2 z3 z4 z5; rw [HE.out]) | (go_at_call 158; refine (clip_any _ _).mono ?_; rintro e w3 ⟨rfl, rfl⟩))
 all_goals (refine bodyPost_ret (v := .tuple #[.agg #[.int .i64 k, .int .i64 (clipW (n - 1)), .int .i64 (lowBase b d), .int .i64 y, .int .i64 s, .int .i64 p], .int .i64 0]) ?_ rfl ⟨rfl, ?_⟩)
 all_goals first | (exact BL; done) | skip
 all_goals (simp [results, Tryz.results138, go_sem, s2, s2a, s2b, s2c, s2d, s2e, g0, g1, g2, g3, g4, g5, y0, y1, y2, y3, y4, y5])
end Go.Proofs.YtjjikhaaimfneaaGreatDoor
namespace Go.Proofs.YtjjikhaaimfneaaGreatDoor
open Go.RowKit
set_option linter.unusedSimpArgs false
set_option linter.unusedVariables false
def copRight (c : Ctl) : Bool := decide (c.kind = 2 ∧ 1 ≤ c.win ∧ c.win ≤ 12 ∧ -1 ≤ c.base ∧ c.base ≤ 1099511627776 ∧ -1 ≤ c.way ∧ c.way ≤ 1 ∧ 0 ≤ c.spd ∧ c.spd ≤ 4 ∧ c.part = 0)
set_option maxHeartbeats 1000000 in
theorem copRight_any (k n b y s p : Int) (w : World) :
 Calls Tryz.prog 116 #[.agg #[.int .i64 k, .int .i64 n, .int .i64 b, .int .i64 y, .int .i64 s, .int .i64 p]] w fun e w' => e = .returned (.bool (copRight ⟨k, n, b, y, s, p⟩)) ∧ Below w.heap.size w w' := by
 go_enter Tryz.func116, Tryz.ntmps116
 go_wp2
 all_goals (go_ret; refine ⟨?_, (Below.refl _ _).alloc (Nat.le_refl _) _⟩)
 all_goals (refine congrArg (fun x : Bool => Ending.returned (Value.bool x)) ?_)
 all_goals (rw [Bool.eq_iff_iff]; simp only [copRight]; simp)
 all_goals omega
set_option maxHeartbeats 2000000 in
theorem lRight_any (k n b y s p : Int) (w : World) :
 Calls Tryz.prog 159 #[.agg #[.int .i64 k, .int .i64 n, .int .i64 b, .int .i64 y, .int .i64 s, .int .i64 p]] w fun e w' => e = .returned (.bool (copRight ⟨k, n, b, y, s, p⟩)) ∧ Below w.heap.size w w' := by
 by_cases hk : k = 2
 · subst hk
   by_cases hkn : n < 1 ∨ 12 < n ∨ b < -1 ∨ 1099511627776 < b
   · have E := hide (show copRight ⟨2, n, b, y, s, p⟩ = false by simp [copRight]; omega)
     have K := hide hkn
     clear hkn
     go_enter Tryz.func159, Tryz.ntmps159
     go_wp2_with (go_at_call 164; refine (known_no _ _ _ _ _ _ _ K.out).mono ?_; rintro e w1 ⟨rfl, hb⟩)
     go_ret
     exact ⟨(by rw [E.out]; rfl), ((Below.refl _ _).alloc (Nat.le_refl _) _).trans (hb.mono (by simp))⟩
   · have h1 : 1 ≤ n := by omega
     have h2 : n ≤ 12 := by omega
     have h3 : -1 ≤ b := by omega
     have h4 : b ≤ 1099511627776 := by omega
     clear hkn
     go_enter Tryz.func159, Tryz.ntmps159
     go_wp2_with (go_at_call 164; refine (known_yes _ _ _ _ _ _ _ h1 h2 h3 h4).mono ?_; rintro e w1 ⟨rfl, hb⟩; obtain ⟨hc, hf⟩ := bcell hb)
     all_goals (go_ret; refine ⟨?_, ((Below.refl _ _).alloc (Nat.le_refl _) _).trans (hb.mono (by simp))⟩)
     all_goals (refine congrArg (fun x : Bool => Ending.returned (Value.bool x)) ?_)
     all_goals (rw [Bool.eq_iff_iff]; simp only [copRight]; simp)
     all_goals omega
 · have E := hide (show copRight ⟨k, n, b, y, s, p⟩ = false by simp [copRight]; omega)
   have hk' : ((k : Int) == 2) = false := by simpa using hk
   clear hk
   go_enter Tryz.func159, Tryz.ntmps159
   go_wp2
   go_ret
   exact ⟨(by rw [E.out]; rfl), (Below.refl _ _).alloc (Nat.le_refl _) _⟩
theorem copRight_t (k n b y s p : Int) (h : copRight ⟨k, n, b, y, s, p⟩ = true) (w : World) : Calls Tryz.prog 116 #[.agg #[.int .i64 k, .int .i64 n, .int .i64 b, .int .i64 y, .int .i64 s, .int .i64 p]] w fun e w' => e = .returned (.bool true) ∧ Below w.heap.size w w' :=
 (copRight_any k n b y s p w).mono fun _ _ ⟨a, h'⟩ => ⟨by rw [a, h], h'⟩
theorem lRight_t (k n b y s p : Int) (h : copRight ⟨k, n, b, y, s, p⟩ = true) (w : World) : Calls Tryz.prog 159 #[.agg #[.int .i64 k, .int .i64 n, .int .i64 b, .int .i64 y, .int .i64 s, .int .i64 p]] w fun e w' => e = .returned (.bool true) ∧ Below w.heap.size w w' :=
 (lRight_any k n b y s p w).mono fun _ _ ⟨a, h'⟩ => ⟨by rw [a, h], h'⟩
theorem lRight_f (k n b y s p : Int) (h : copRight ⟨k, n, b, y, s, p⟩ = false) (w : World) : Calls Tryz.prog 159 #[.agg #[.int .i64 k, .int .i64 n, .int .i64 b, .int .i64 y, .int .i64 s, .int .i64 p]] w fun e w' => e = .returned (.bool false) ∧ Below w.heap.size w w' :=
 (lRight_any k n b y s p w).mono fun _ _ ⟨a, h'⟩ => ⟨by rw [a, h], h'⟩
set_option maxHeartbeats 1000000 in
theorem copNew_any (n : Int) (w : World) :
 Calls Tryz.prog 115 #[.int .i64 n] w fun e w' => e = .returned (.agg #[.int .i64 2, .int .i64 (clipW n), .int .i64 (-1), .int .i64 0, .int .i64 0, .int .i64 0]) ∧ Below w.heap.size w w' := by
 go_enter Tryz.func115, Tryz.ntmps115
 go_wp2
 all_goals (refine bodyPost_ret (v := .agg #[.int .i64 2, .int .i64 (clipW n), .int .i64 (-1), .int .i64 0, .int .i64 0, .int .i64 0]) (by simp [results, Tryz.results115, go_sem]; unfold clipW; split <;> (try split) <;> omega) rfl ⟨rfl, ?_⟩)
 all_goals exact BL
end Go.Proofs.YtjjikhaaimfneaaGreatDoor
