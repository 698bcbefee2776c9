/-
  Lemmas and walks for the statement: VegN.
-/
import Derived.Test.YtmmjopmffpfccaaQ03
namespace Go.Proofs.Ytmmjopmffpfccaa
open Go.RowKit
set_option linter.unusedSimpArgs false
set_option linter.unusedVariables false
set_option maxHeartbeats 1000000 in
theorem vegNext_bad (k n b y s p d : Int) (h : vegRight ⟨k, n, b, y, s, p⟩ = false) (w : World) :
 Calls Try.prog 38 #[.agg #[.int .i64 k, .int .i64 n, .int .i64 b, .int .i64 y, .int .i64 s, .int .i64 p], .int .i64 d] w fun e w' => e = .returned (.tuple #[.agg #[.int .i64 0, .int .i64 0, .int .i64 0, .int .i64 0, .int .i64 0, .int .i64 0], .int .i64 1]) ∧ Below w.heap.size w w' := by
 have H := hide h
 clear h
 go_enter Try.func38, Try.ntmps38
 go_wp2_with (go_at_call 37; refine (vegRight_f _ _ _ _ _ _ H.out _).mono ?_; rintro e w1 ⟨rfl, hb1⟩; have hz1 := hb1.size; simp at hz1; obtain ⟨fz1, fc1, c0, c1, c2, c3, c4, c5, z0, z1, z2, z3, z4, z5⟩ := boxes26 hb1)
 all_goals (refine bodyPost_ret (v := .tuple #[.agg #[.int .i64 0, .int .i64 0, .int .i64 0, .int .i64 0, .int .i64 0, .int .i64 0], .int .i64 1]) ?_ rfl ⟨rfl, ?_⟩)
 all_goals first | ((repeat' (first | (with_reducible exact Below.refl _ _) | (with_reducible refine Below.alloc ?_ ?_ _) | (with_reducible refine Below.setCell ?_ ?_ _) | (with_reducible refine Below.drewN ?_ _) | (with_reducible refine Below.drew ?_) | (with_reducible refine Below.trans ?_ (hb1.mono ?_)) | omega | (simp; done) | (simp; omega))); done) | skip
 all_goals (simp [results, Try.results38, go_sem, z0, z1, z2, z3, z4, z5])
set_option maxHeartbeats 1000000 in
theorem vegNext_far (k n b y s p d : Int) (h : vegRight ⟨k, n, b, y, s, p⟩ = true) (hd : d < 0 ∨ 1099511627776 < d) (w : World) :
 Calls Try.prog 38 #[.agg #[.int .i64 k, .int .i64 n, .int .i64 b, .int .i64 y, .int .i64 s, .int .i64 p], .int .i64 d] w fun e w' => e = .returned (.tuple #[.agg #[.int .i64 0, .int .i64 0, .int .i64 0, .int .i64 0, .int .i64 0, .int .i64 0], .int .i64 2]) ∧ Below w.heap.size w w' := by
 have H := hide h
 clear h
 rcases hd with hd | hd
 all_goals
  go_enter Try.func38, Try.ntmps38
  go_wp2_with (go_at_call 37; refine (vegRight_t _ _ _ _ _ _ H.out _).mono ?_; rintro e w1 ⟨rfl, hb1⟩; have hz1 := hb1.size; simp at hz1; obtain ⟨fz1, fc1, c0, c1, c2, c3, c4, c5, z0, z1, z2, z3, z4, z5⟩ := boxes26 hb1)
  all_goals (refine bodyPost_ret (v := .tuple #[.agg #[.int .i64 0, .int .i64 0, .int .i64 0, .int .i64 0, .int .i64 0, .int .i64 0], .int .i64 2]) ?_ rfl ⟨rfl, ?_⟩)
  all_goals first | ((repeat' (first | (with_reducible exact Below.refl _ _) | (with_reducible refine Below.alloc ?_ ?_ _) | (with_reducible refine Below.setCell ?_ ?_ _) | (with_reducible refine Below.drewN ?_ _) | (with_reducible refine Below.drew ?_) | (with_reducible refine Below.trans ?_ (hb1.mono ?_)) | omega | (simp; done) | (simp; omega))); done) | skip
  all_goals (simp [results, Try.results38, go_sem, z0, z1, z2, z3, z4, z5])
set_option maxHeartbeats 2000000 in
theorem vegNext_up (k n b y s p d : Int) (h : vegRight ⟨k, n, b, y, s, p⟩ = true) (hd0 : 0 ≤ d) (hd1 : d ≤ 1099511627776) (hc : n * (d - lowBase b d) < 1 + d) (w : World) :
 Calls Try.prog 38 #[.agg #[.int .i64 k, .int .i64 n, .int .i64 b, .int .i64 y, .int .i64 s, .int .i64 p], .int .i64 d] w fun e w' => e = .returned (.tuple #[.agg #[.int .i64 k, .int .i64 (clipW (n + 1)), .int .i64 (lowBase b d), .int .i64 y, .int .i64 s, .int .i64 p], .int .i64 0]) ∧ Below w.heap.size w w' := by
 have H := hide h
 simp only [vegRight, decide_eq_true_eq] at h
 obtain ⟨q1, q2, q3, q4, q5, q6, q7, q8⟩ := h
 clear q1 q6 q7 q8
 rcases (show b < 0 ∨ (0 ≤ b ∧ d < b) ∨ (0 ≤ b ∧ b ≤ d) by omega) with hb0 | ⟨hb0, hb9⟩ | ⟨hb0, hb9⟩
 · have hl : lowBase b d = d := by unfold lowBase; rw [if_pos hb0]
   rw [hl, Int.sub_self, Int.mul_zero] at hc
   have z1 : (0 : Int) / (1 + d) = 0 := Int.zero_ediv _
   have HL := hide hl
   clear hl hc
   go_enter Try.func38, Try.ntmps38
   go_wp2_with (go_at_call 37; refine (vegRight_t _ _ _ _ _ _ H.out _).mono ?_; rintro e w1 ⟨rfl, hb1⟩; have hz1 := hb1.size; simp at hz1; obtain ⟨fz1, fc1, c0, c1, c2, c3, c4, c5, z0, z1, z2, z3, z4, z5⟩ := boxes26 hb1; have e1 : ∀ v, (w1.setCell ⟨w.heap.size, 1, none⟩ v).cell? ⟨w.heap.size, 1, none⟩ = some v := (fun v => by simp [go_sem, c1]); have e2 : ∀ u v, ((w1.setCell ⟨w.heap.size, 2, none⟩ u).setCell ⟨w.heap.size, 1, none⟩ v).cell? ⟨w.heap.size, 1, none⟩ = some v := (fun u v => by simp [go_sem, c1, c2]))
   all_goals (refine bodyPost_ret (v := .tuple #[.agg #[.int .i64 k, .int .i64 (clipW (n + 1)), .int .i64 (lowBase b d), .int .i64 y, .int .i64 s, .int .i64 p], .int .i64 0]) ?_ rfl ⟨rfl, ?_⟩)
   all_goals first | ((repeat' (first | (with_reducible exact Below.refl _ _) | (with_reducible refine Below.alloc ?_ ?_ _) | (with_reducible refine Below.setCell ?_ ?_ _) | (with_reducible refine Below.drewN ?_ _) | (with_reducible refine Below.drew ?_) | (with_reducible refine Below.trans ?_ (hb1.mono ?_)) | omega | (simp; done) | (simp; omega))); done) | skip
   all_goals (simp [results, Try.results38, go_sem, e1, e2, c0, c1, c2, c3, c4, c5, z0, z1, z2, z3, z4, z5])
   all_goals (rw [HL.out]; try (unfold clipW; omega))
 · have hl : lowBase b d = d := by unfold lowBase; rw [if_neg (by omega), if_pos hb9]
   rw [hl, Int.sub_self, Int.mul_zero] at hc
   have z1 : (0 : Int) / (1 + d) = 0 := Int.zero_ediv _
   have HL := hide hl
   clear hl hc
   go_enter Try.func38, Try.ntmps38
   go_wp2_with (go_at_call 37; refine (vegRight_t _ _ _ _ _ _ H.out _).mono ?_; rintro e w1 ⟨rfl, hb1⟩; have hz1 := hb1.size; simp at hz1; obtain ⟨fz1, fc1, c0, c1, c2, c3, c4, c5, z0, z1, z2, z3, z4, z5⟩ := boxes26 hb1; have e1 : ∀ v, (w1.setCell ⟨w.heap.size, 1, none⟩ v).cell? ⟨w.heap.size, 1, none⟩ = some v := (fun v => by simp [go_sem, c1]); have e2 : ∀ u v, ((w1.setCell ⟨w.heap.size, 2, none⟩ u).setCell ⟨w.heap.size, 1, none⟩ v).cell? ⟨w.heap.size, 1, none⟩ = some v := (fun u v => by simp [go_sem, c1, c2]))
   all_goals (refine bodyPost_ret (v := .tuple #[.agg #[.int .i64 k, .int .i64 (clipW (n + 1)), .int .i64 (lowBase b d), .int .i64 y, .int .i64 s, .int .i64 p], .int .i64 0]) ?_ rfl ⟨rfl, ?_⟩)
   all_goals first | ((repeat' (first | (with_reducible exact Below.refl _ _) | (with_reducible refine Below.alloc ?_ ?_ _) | (with_reducible refine Below.setCell ?_ ?_ _) | (with_reducible refine Below.drewN ?_ _) | (with_reducible refine Below.drew ?_) | (with_reducible refine Below.trans ?_ (hb1.mono ?_)) | omega | (simp; done) | (simp; omega))); done) | skip
   all_goals (simp [results, Try.results38, go_sem, e1, e2, c0, c1, c2, c3, c4, c5, z0, z1, z2, z3, z4, z5])
   all_goals (rw [HL.out]; try (unfold clipW; omega))
 · have hl : lowBase b d = b := by unfold lowBase; rw [if_neg (by omega), if_neg (by omega)]
   rw [hl] at hc
   have m0 : 0 ≤ n * (d - b) := Int.mul_nonneg (by omega) (by omega)
   have m1 : n * (d - b) ≤ 12 * (d - b) := Int.mul_le_mul_of_nonneg_right q3 (by omega)
   have m2 : n * (d - b) / (1 + d) < 1 := Int.ediv_lt_of_lt_mul (by omega) (by omega)
   have HL := hide hl
   clear hl hc
   go_enter Try.func38, Try.ntmps38
   go_wp2_with (go_at_call 37; refine (vegRight_t _ _ _ _ _ _ H.out _).mono ?_; rintro e w1 ⟨rfl, hb1⟩; have hz1 := hb1.size; simp at hz1; obtain ⟨fz1, fc1, c0, c1, c2, c3, c4, c5, z0, z1, z2, z3, z4, z5⟩ := boxes26 hb1; have e1 : ∀ v, (w1.setCell ⟨w.heap.size, 1, none⟩ v).cell? ⟨w.heap.size, 1, none⟩ = some v := (fun v => by simp [go_sem, c1]); have e2 : ∀ u v, ((w1.setCell ⟨w.heap.size, 2, none⟩ u).setCell ⟨w.heap.size, 1, none⟩ v).cell? ⟨w.heap.size, 1, none⟩ = some v := (fun u v => by simp [go_sem, c1, c2]))
   all_goals (refine bodyPost_ret (v := .tuple #[.agg #[.int .i64 k, .int .i64 (clipW (n + 1)), .int .i64 (lowBase b d), .int .i64 y, .int .i64 s, .int .i64 p], .int .i64 0]) ?_ rfl ⟨rfl, ?_⟩)
   all_goals first | ((repeat' (first | (with_reducible exact Below.refl _ _) | (with_reducible refine Below.alloc ?_ ?_ _) | (with_reducible refine Below.setCell ?_ ?_ _) | (with_reducible refine Below.drewN ?_ _) | (with_reducible refine Below.drew ?_) | (with_reducible refine Below.trans ?_ (hb1.mono ?_)) | omega | (simp; done) | (simp; omega))); done) | skip
   all_goals (simp [results, Try.results38, go_sem, e1, e2, c0, c1, c2, c3, c4, c5, z0, z1, z2, z3, z4, z5])
   all_goals (rw [HL.out]; try (unfold clipW; omega))
set_option maxHeartbeats 2000000 in
theorem vegNext_mid (k n b y s p d : Int) (h : vegRight ⟨k, n, b, y, s, p⟩ = true) (hd0 : 0 ≤ d) (hd1 : d ≤ 1099511627776) (hc : 1 + d ≤ n * (d - lowBase b d) ∧ n * (d - lowBase b d) < 3 * (1 + d)) (w : World) :
 Calls Try.prog 38 #[.agg #[.int .i64 k, .int .i64 n, .int .i64 b, .int .i64 y, .int .i64 s, .int .i64 p], .int .i64 d] w fun e w' => e = .returned (.tuple #[.agg #[.int .i64 k, .int .i64 n, .int .i64 (lowBase b d), .int .i64 y, .int .i64 s, .int .i64 p], .int .i64 0]) ∧ Below w.heap.size w w' := by
 have H := hide h
 simp only [vegRight, decide_eq_true_eq] at h
 obtain ⟨q1, q2, q3, q4, q5, q6, q7, q8⟩ := h
 clear q1 q6 q7 q8
 rcases (show b < 0 ∨ (0 ≤ b ∧ d < b) ∨ (0 ≤ b ∧ b ≤ d) by omega) with hb0 | ⟨hb0, hb9⟩ | ⟨hb0, hb9⟩
 · have hl : lowBase b d = d := by unfold lowBase; rw [if_pos hb0]
   rw [hl, Int.sub_self, Int.mul_zero] at hc
   have z1 : (0 : Int) / (1 + d) = 0 := Int.zero_ediv _
   exact absurd hc (by omega)
 · have hl : lowBase b d = d := by unfold lowBase; rw [if_neg (by omega), if_pos hb9]
   rw [hl, Int.sub_self, Int.mul_zero] at hc
   have z1 : (0 : Int) / (1 + d) = 0 := Int.zero_ediv _
   exact absurd hc (by omega)
 · have hl : lowBase b d = b := by unfold lowBase; rw [if_neg (by omega), if_neg (by omega)]
   rw [hl] at hc
   have m0 : 0 ≤ n * (d - b) := Int.mul_nonneg (by omega) (by omega)
   have m1 : n * (d - b) ≤ 12 * (d - b) := Int.mul_le_mul_of_nonneg_right q3 (by omega)
   have m2 : n * (d - b) / (1 + d) < 3 := Int.ediv_lt_of_lt_mul (by omega) (by omega)
   have m3 : 1 ≤ n * (d - b) / (1 + d) := Int.le_ediv_of_mul_le (by omega) (by omega)
   have HL := hide hl
   clear hl hc
   go_enter Try.func38, Try.ntmps38
   go_wp2_with (go_at_call 37; refine (vegRight_t _ _ _ _ _ _ H.out _).mono ?_; rintro e w1 ⟨rfl, hb1⟩; have hz1 := hb1.size; simp at hz1; obtain ⟨fz1, fc1, c0, c1, c2, c3, c4, c5, z0, z1, z2, z3, z4, z5⟩ := boxes26 hb1; have e1 : ∀ v, (w1.setCell ⟨w.heap.size, 1, none⟩ v).cell? ⟨w.heap.size, 1, none⟩ = some v := (fun v => by simp [go_sem, c1]); have e2 : ∀ u v, ((w1.setCell ⟨w.heap.size, 2, none⟩ u).setCell ⟨w.heap.size, 1, none⟩ v).cell? ⟨w.heap.size, 1, none⟩ = some v := (fun u v => by simp [go_sem, c1, c2]))
   all_goals (refine bodyPost_ret (v := .tuple #[.agg #[.int .i64 k, .int .i64 n, .int .i64 (lowBase b d), .int .i64 y, .int .i64 s, .int .i64 p], .int .i64 0]) ?_ rfl ⟨rfl, ?_⟩)
   all_goals first | ((repeat' (first | (with_reducible exact Below.refl _ _) | (with_reducible refine Below.alloc ?_ ?_ _) | (with_reducible refine Below.setCell ?_ ?_ _) | (with_reducible refine Below.drewN ?_ _) | (with_reducible refine Below.drew ?_) | (with_reducible refine Below.trans ?_ (hb1.mono ?_)) | omega | (simp; done) | (simp; omega))); done) | skip
   all_goals (simp [results, Try.results38, go_sem, e1, e2, c0, c1, c2, c3, c4, c5, z0, z1, z2, z3, z4, z5])
   all_goals (rw [HL.out]; try (unfold clipW; omega))
set_option maxHeartbeats 2000000 in
theorem vegNext_dn (k n b y s p d : Int) (h : vegRight ⟨k, n, b, y, s, p⟩ = true) (hd0 : 0 ≤ d) (hd1 : d ≤ 1099511627776) (hc : 3 * (1 + d) ≤ n * (d - lowBase b d)) (w : World) :
 Calls Try.prog 38 #[.agg #[.int .i64 k, .int .i64 n, .int .i64 b, .int .i64 y, .int .i64 s, .int .i64 p], .int .i64 d] w fun e w' => e = .returned (.tuple #[.agg #[.int .i64 k, .int .i64 (clipW (n - 1)), .int .i64 (lowBase b d), .int .i64 y, .int .i64 s, .int .i64 p], .int .i64 0]) ∧ Below w.heap.size w w' := by
 have H := hide h
 simp only [vegRight, decide_eq_true_eq] at h
 obtain ⟨q1, q2, q3, q4, q5, q6, q7, q8⟩ := h
 clear q1 q6 q7 q8
 rcases (show b < 0 ∨ (0 ≤ b ∧ d < b) ∨ (0 ≤ b ∧ b ≤ d) by omega) with hb0 | ⟨hb0, hb9⟩ | ⟨hb0, hb9⟩
 · have hl : lowBase b d = d := by unfold lowBase; rw [if_pos hb0]
   rw [hl, Int.sub_self, Int.mul_zero] at hc
   have z1 : (0 : Int) / (1 + d) = 0 := Int.zero_ediv _
   exact absurd hc (by omega)
 · have hl : lowBase b d = d := by unfold lowBase; rw [if_neg (by omega), if_pos hb9]
   rw [hl, Int.sub_self, Int.mul_zero] at hc
   have z1 : (0 : Int) / (1 + d) = 0 := Int.zero_ediv _
   exact absurd hc (by omega)
 · have hl : lowBase b d = b := by unfold lowBase; rw [if_neg (by omega), if_neg (by omega)]
   rw [hl] at hc
   have m0 : 0 ≤ n * (d - b) := Int.mul_nonneg (by omega) (by omega)
   have m1 : n * (d - b) ≤ 12 * (d - b) := Int.mul_le_mul_of_nonneg_right q3 (by omega)
   have m3 : 3 ≤ n * (d - b) / (1 + d) := Int.le_ediv_of_mul_le (by omega) (by omega)
   have HL := hide hl
   clear hl hc
   go_enter Try.func38, Try.ntmps38
   go_wp2_with (go_at_call 37; refine (vegRight_t _ _ _ _ _ _ H.out _).mono ?_; rintro e w1 ⟨rfl, hb1⟩; have hz1 := hb1.size; simp at hz1; obtain ⟨fz1, fc1, c0, c1, c2, c3, c4, c5, z0, z1, z2, z3, z4, z5⟩ := boxes26 hb1; have e1 : ∀ v, (w1.setCell ⟨w.heap.size, 1, none⟩ v).cell? ⟨w.heap.size, 1, none⟩ = some v := (fun v => by simp [go_sem, c1]); have e2 : ∀ u v, ((w1.setCell ⟨w.heap.size, 2, none⟩ u).setCell ⟨w.heap.size, 1, none⟩ v).cell? ⟨w.heap.size, 1, none⟩ = some v := (fun u v => by simp [go_sem, c1, c2]))
   all_goals (refine bodyPost_ret (v := .tuple #[.agg #[.int .i64 k, .int .i64 (clipW (n - 1)), .int .i64 (lowBase b d), .int .i64 y, .int .i64 s, .int .i64 p], .int .i64 0]) ?_ rfl ⟨rfl, ?_⟩)
   all_goals first | ((repeat' (first | (with_reducible exact Below.refl _ _) | (with_reducible refine Below.alloc ?_ ?_ _) | (with_reducible refine Below.setCell ?_ ?_ _) | (with_reducible refine Below.drewN ?_ _) | (with_reducible refine Below.drew ?_) | (with_reducible refine Below.trans ?_ (hb1.mono ?_)) | omega | (simp; done) | (simp; omega))); done) | skip
   all_goals (simp [results, Try.results38, go_sem, e1, e2, c0, c1, c2, c3, c4, c5, z0, z1, z2, z3, z4, z5])
   all_goals (rw [HL.out]; try (unfold clipW; omega))
end Go.Proofs.Ytmmjopmffpfccaa
