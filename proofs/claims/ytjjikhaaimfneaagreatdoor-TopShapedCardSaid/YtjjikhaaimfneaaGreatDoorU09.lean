/-
  Lemmas and walks for the statement: MemS, MNext, DKinds.
-/
import Derived.Test.YtjjikhaaimfneaaGreatDoorU01
import Derived.Test.YtjjikhaaimfneaaGreatDoorU06
import Derived.Test.YtjjikhaaimfneaaGreatDoorU08
import Derived.Test.YtjjikhaaimfneaaGreatDoorU07
namespace Go.Proofs.YtjjikhaaimfneaaGreatDoor
open Go.RowKit
set_option linter.unusedSimpArgs false
set_option linter.unusedVariables false
theorem set6 {X : World} {A B : Nat} {x0 x1 x2 x3 x4 x5 v0 v1 v2 v3 v4 v5 y0 y1 y2 y3 y4 y5 : Value} (hAB : ¬ A = B) (c0 : X.cell? ⟨B, 0, none⟩ = some x0) (c1 : X.cell? ⟨B, 1, none⟩ = some x1) (c2 : X.cell? ⟨B, 2, none⟩ = some x2) (c3 : X.cell? ⟨B, 3, none⟩ = some x3) (c4 : X.cell? ⟨B, 4, none⟩ = some x4) (c5 : X.cell? ⟨B, 5, none⟩ = some x5) (z0 : X.cell? ⟨A, 0, none⟩ = some y0) (z1 : X.cell? ⟨A, 1, none⟩ = some y1) (z2 : X.cell? ⟨A, 2, none⟩ = some y2) (z3 : X.cell? ⟨A, 3, none⟩ = some y3) (z4 : X.cell? ⟨A, 4, none⟩ = some y4) (z5 : X.cell? ⟨A, 5, none⟩ = some y5) :
 ((((((X.setCell ⟨B, 0, none⟩ v0).setCell ⟨B, 1, none⟩ v1).setCell ⟨B, 2, none⟩ v2).setCell ⟨B, 3, none⟩ v3).setCell ⟨B, 4, none⟩ v4).setCell ⟨B, 5, none⟩ v5).cell? ⟨B, 0, none⟩ = some v0 ∧ ((((((X.setCell ⟨B, 0, none⟩ v0).setCell ⟨B, 1, none⟩ v1).setCell ⟨B, 2, none⟩ v2).setCell ⟨B, 3, none⟩ v3).setCell ⟨B, 4, none⟩ v4).setCell ⟨B, 5, none⟩ v5).cell? ⟨B, 1, none⟩ = some v1 ∧ ((((((X.setCell ⟨B, 0, none⟩ v0).setCell ⟨B, 1, none⟩ v1).setCell ⟨B, 2, none⟩ v2).setCell ⟨B, 3, none⟩ v3).setCell ⟨B, 4, none⟩ v4).setCell ⟨B, 5, none⟩ v5).cell? ⟨B, 2, none⟩ = some v2 ∧ ((((((X.setCell ⟨B, 0, none⟩ v0).setCell ⟨B, 1, none⟩ v1).setCell ⟨B, 2, none⟩ v2).setCell ⟨B, 3, none⟩ v3).setCell ⟨B, 4, none⟩ v4).setCell ⟨B, 5, none⟩ v5).cell? ⟨B, 3, none⟩ = some v3 ∧ ((((((X.setCell ⟨B, 0, none⟩ v0).setCell ⟨B, 1, none⟩ v1).setCell ⟨B, 2, none⟩ v2).setCell ⟨B, 3, none⟩ v3).setCell ⟨B, 4, none⟩ v4).setCell ⟨B, 5, none⟩ v5).cell? ⟨B, 4, none⟩ = some v4 ∧ ((((((X.setCell ⟨B, 0, none⟩ v0).setCell ⟨B, 1, none⟩ v1).setCell ⟨B, 2, none⟩ v2).setCell ⟨B, 3, none⟩ v3).setCell ⟨B, 4, none⟩ v4).setCell ⟨B, 5, none⟩ v5).cell? ⟨B, 5, none⟩ = some v5 ∧ ((((((X.setCell ⟨B, 0, none⟩ v0).setCell ⟨B, 1, none⟩ v1).setCell ⟨B, 2, none⟩ v2).setCell ⟨B, 3, none⟩ v3).setCell ⟨B, 4, none⟩ v4).setCell ⟨B, 5, none⟩ v5).cell? ⟨A, 0, none⟩ = some y0 ∧ ((((((X.setCell ⟨B, 0, none⟩ v0).setCell ⟨B, 1, none⟩ v1).setCell ⟨B, 2, none⟩ v2).setCell ⟨B, 3, none⟩ v3).setCell ⟨B, 4, none⟩ v4).setCell ⟨B, 5, none⟩ v5).cell? ⟨A, 1, none⟩ = some y1 ∧ ((((((X.setCell ⟨B, 0, none⟩ v0).setCell ⟨B, 1, none⟩ v1).setCell ⟨B, 2, none⟩ v2).setCell ⟨B, 3, none⟩ v3).setCell ⟨B, 4, none⟩ v4).setCell ⟨B, 5, none⟩ v5).cell? ⟨A, 2, none⟩ = some y2 ∧ ((((((X.setCell ⟨B, 0, none⟩ v0).setCell ⟨B, 1, none⟩ v1).setCell ⟨B, 2, none⟩ v2).setCell ⟨B, 3, none⟩ v3).setCell ⟨B, 4, none⟩ v4).setCell ⟨B, 5, none⟩ v5).cell? ⟨A, 3, none⟩ = some y3 ∧ ((((((X.setCell ⟨B, 0, none⟩ v0).setCell ⟨B, 1, none⟩ v1).setCell ⟨B, 2, none⟩ v2).setCell ⟨B, 3, none⟩ v3).setCell ⟨B, 4, none⟩ v4).setCell ⟨B, 5, none⟩ v5).cell? ⟨A, 4, none⟩ = some y4 ∧ ((((((X.setCell ⟨B, 0, none⟩ v0).setCell ⟨B, 1, none⟩ v1).setCell ⟨B, 2, none⟩ v2).setCell ⟨B, 3, none⟩ v3).setCell ⟨B, 4, none⟩ v4).setCell ⟨B, 5, none⟩ v5).cell? ⟨A, 5, none⟩ = some y5 := by
 refine ⟨?_, ?_, ?_, ?_, ?_, ?_, ?_, ?_, ?_, ?_, ?_, ?_⟩ <;> simp [World.cell?_setCell_same, World.cell?_setCell_other, hAB, *]
theorem keepSet {X w4 : World} {A B : Nat} {x0 x1 x2 x3 x4 x5 v0 v1 v2 v3 v4 v5 y0 y1 y2 y3 y4 y5 : Value} (hAB : ¬ A = B) (hb : Below ((((((X.setCell ⟨B, 0, none⟩ v0).setCell ⟨B, 1, none⟩ v1).setCell ⟨B, 2, none⟩ v2).setCell ⟨B, 3, none⟩ v3).setCell ⟨B, 4, none⟩ v4).setCell ⟨B, 5, none⟩ v5).heap.size ((((((X.setCell ⟨B, 0, none⟩ v0).setCell ⟨B, 1, none⟩ v1).setCell ⟨B, 2, none⟩ v2).setCell ⟨B, 3, none⟩ v3).setCell ⟨B, 4, none⟩ v4).setCell ⟨B, 5, none⟩ v5) w4) (fo : ∀ j, X.frozen? ⟨B, j, none⟩ = false) (fz : ∀ j, X.frozen? ⟨A, j, none⟩ = false) (c0 : X.cell? ⟨B, 0, none⟩ = some x0) (c1 : X.cell? ⟨B, 1, none⟩ = some x1) (c2 : X.cell? ⟨B, 2, none⟩ = some x2) (c3 : X.cell? ⟨B, 3, none⟩ = some x3) (c4 : X.cell? ⟨B, 4, none⟩ = some x4) (c5 : X.cell? ⟨B, 5, none⟩ = some x5) (z0 : X.cell? ⟨A, 0, none⟩ = some y0) (z1 : X.cell? ⟨A, 1, none⟩ = some y1) (z2 : X.cell? ⟨A, 2, none⟩ = some y2) (z3 : X.cell? ⟨A, 3, none⟩ = some y3) (z4 : X.cell? ⟨A, 4, none⟩ = some y4) (z5 : X.cell? ⟨A, 5, none⟩ = some y5) :
 (∀ j, w4.frozen? ⟨B, j, none⟩ = false) ∧ (∀ j, w4.frozen? ⟨A, j, none⟩ = false) ∧ w4.cell? ⟨B, 0, none⟩ = some v0 ∧ w4.cell? ⟨B, 1, none⟩ = some v1 ∧ w4.cell? ⟨B, 2, none⟩ = some v2 ∧ w4.cell? ⟨B, 3, none⟩ = some v3 ∧ w4.cell? ⟨B, 4, none⟩ = some v4 ∧ w4.cell? ⟨B, 5, none⟩ = some v5 ∧ w4.cell? ⟨A, 0, none⟩ = some y0 ∧ w4.cell? ⟨A, 1, none⟩ = some y1 ∧ w4.cell? ⟨A, 2, none⟩ = some y2 ∧ w4.cell? ⟨A, 3, none⟩ = some y3 ∧ w4.cell? ⟨A, 4, none⟩ = some y4 ∧ w4.cell? ⟨A, 5, none⟩ = some y5 := by
 obtain ⟨d0, d1, d2, d3, d4, d5, e0, e1, e2, e3, e4, e5⟩ := set6 (v0 := v0) (v1 := v1) (v2 := v2) (v3 := v3) (v4 := v4) (v5 := v5) hAB c0 c1 c2 c3 c4 c5 z0 z1 z2 z3 z4 z5
 refine keep2 hb (fun j => ?_) (fun j => ?_) d0 d1 d2 d3 d4 d5 e0 e1 e2 e3 e4 e5
 · simp only [World.frozen?_setCell]; exact fo j
 · simp only [World.frozen?_setCell]; exact fz j
end Go.Proofs.YtjjikhaaimfneaaGreatDoor
namespace Go.Proofs.YtjjikhaaimfneaaGreatDoor
open Go.RowKit
set_option linter.unusedSimpArgs false
set_option linter.unusedVariables false
theorem mRight_t (k n b y s p : Int) (h : ledRight ⟨k, n, b, y, s, p⟩ = true) (w : World) : Calls Tryz.prog 160 #[.agg #[.int .i64 k, .int .i64 n, .int .i64 b, .int .i64 y, .int .i64 s, .int .i64 p]] w fun e w' => e = .returned (.bool true) ∧ Below w.heap.size w w' :=
 (mRight_any k n b y s p w).mono fun _ _ ⟨a, h'⟩ => ⟨by rw [a, h], h'⟩
theorem mRight_f (k n b y s p : Int) (h : ledRight ⟨k, n, b, y, s, p⟩ = false) (w : World) : Calls Tryz.prog 160 #[.agg #[.int .i64 k, .int .i64 n, .int .i64 b, .int .i64 y, .int .i64 s, .int .i64 p]] w fun e w' => e = .returned (.bool false) ∧ Below w.heap.size w w' :=
 (mRight_any k n b y s p w).mono fun _ _ ⟨a, h'⟩ => ⟨by rw [a, h], h'⟩
set_option maxHeartbeats 1000000 in
theorem mNext_bad (k n b y s p d : Int) (h : ledRight ⟨k, n, b, y, s, p⟩ = false) (w : World) :
 Calls Tryz.prog 140 #[.agg #[.int .i64 k, .int .i64 n, .int .i64 b, .int .i64 y, .int .i64 s, .int .i64 p], .int .i64 d] w fun e w' => e = .returned (.tuple #[.agg #[.int .i64 0, .int .i64 0, .int .i64 0, .int .i64 0, .int .i64 0, .int .i64 0], .int .i64 1]) ∧ Below w.heap.size w w' := by
 have H := hide h
 clear h
 go_enter Tryz.func140, Tryz.ntmps140
 go_wp2_with (go_at_call 160; refine (mRight_f _ _ _ _ _ _ H.out _).mono ?_; rintro e w1 ⟨rfl, hb1⟩; have hz1 := hb1.size; simp at hz1; obtain ⟨fz1, fc1, c0, c1, c2, c3, c4, c5, z0, z1, z2, z3, z4, z5⟩ := boxes26 hb1)
 all_goals (refine bodyPost_ret (v := .tuple #[.agg #[.int .i64 0, .int .i64 0, .int .i64 0, .int .i64 0, .int .i64 0, .int .i64 0], .int .i64 1]) ?_ rfl ⟨rfl, ?_⟩)
 all_goals first | (exact BL; done) | skip
 all_goals (simp [results, Tryz.results140, go_sem, z0, z1, z2, z3, z4, z5])
set_option maxHeartbeats 4000000 in
theorem mNext_up2 (k n b y s p d e : Int) (h : ledRight ⟨k, n, b, y, s, p⟩ = true) (hd0 : 0 ≤ d) (hd1 : d ≤ 1099511627776) (he : d - lowBase b d = e) (h2 : e = 0) (w : World) :
 Calls Tryz.prog 140 #[.agg #[.int .i64 k, .int .i64 n, .int .i64 b, .int .i64 y, .int .i64 s, .int .i64 p], .int .i64 d] w fun e w' => e = .returned (.tuple #[.agg #[.int .i64 k, .int .i64 (ledAll ⟨k, n, b, y, s, p⟩ (d - lowBase b d) / 4), .int .i64 (lowBase b d), .int .i64 y, .int .i64 s, .int .i64 (ledAll ⟨k, n, b, y, s, p⟩ (d - lowBase b d) % 4)], .int .i64 0]) ∧ Below w.heap.size w w' := by
 have H := hide h
 simp only [ledRight, decide_eq_true_eq] at h
 obtain ⟨q1, q2, q3, q4, q5, q6, q7, q8, q9, q10⟩ := h
 have Q := hide q1
 have Q10 := hide q10
 clear q1 q6 q7 q10
 subst h2
 have HE := hide he
 clear he
 have r1 : 1 ≤ (upN n p) ∧ (upN n p) ≤ 12 ∧ 0 ≤ (upP n p) ∧ (upP n p) < 4 := by have := Q10.out; simp only [upN, upP]; omega
 obtain ⟨r1a0, r1b0, r1c0, r1d0⟩ := r1
 have r1 : 1 ≤ (upN (upN n p) (upP n p)) ∧ (upN (upN n p) (upP n p)) ≤ 12 ∧ 0 ≤ (upP (upN n p) (upP n p)) ∧ (upP (upN n p) (upP n p)) < 4 := by have := Q10.out; simp only [upN, upP]; omega
 obtain ⟨r1a1, r1b1, r1c1, r1d1⟩ := r1
 go_enter Tryz.func140, Tryz.ntmps140
 go_wp2_with (first | (go_at_call 160; refine (mRight_t _ _ _ _ _ _ H.out _).mono ?_; rintro e w1 ⟨rfl, hb1⟩; have hz1 := hb1.size; simp at hz1; obtain ⟨fz1, fc1, c0, c1, c2, c3, c4, c5, z0, z1, z2, z3, z4, z5⟩ := boxes26 hb1) | (go_at_call 157; refine (seen_any _ _ _ _ _ _ _ q4 q5 hd0 hd1 _).mono ?_; rintro e w2 ⟨rfl, hb2⟩; obtain ⟨⟨s2, s2a, s2b, s2c, s2d, s2e⟩, fz2, y0, y1, y2, y3, y4, y5, g0, g1, g2, g3, g4, g5⟩ := keep26 hb2 fz1 c0 c1 c2 c3 c4 c5 z0 z1 z2 z3 z4 z5; rw [HE.out]))
 refine wp_loop_rounds 3 ?_
 rw [rounds_succ]
 go_wp2_with (go_at_call 161; refine (lmore_up _ _ _ _ _ _ (by omega) (by omega) (by omega) (by omega) _).mono ?_; rintro e w3 ⟨rfl, hb3⟩; have hz3 := hb3.size; simp at hz3; obtain ⟨fo3, fz3, o3_0, o3_1, o3_2, o3_3, o3_4, o3_5, y3_0, y3_1, y3_2, y3_3, y3_4, y3_5⟩ := keepNew hb3 fz2 y0 y1 y2 y3 y4 y5)
 rw [rounds_succ]
 go_wp2_with (go_at_call 161; refine (lmore_up _ _ _ _ _ _ (by omega) (by omega) (by omega) (by omega) _).mono ?_; rintro e w4 ⟨rfl, hb4⟩; have hz4 := hb4.size; simp at hz4; obtain ⟨fo4, fz4, o4_0, o4_1, o4_2, o4_3, o4_4, o4_5, y4_0, y4_1, y4_2, y4_3, y4_4, y4_5⟩ := keepSet s2a hb4 fo3 fz3 o3_0 o3_1 o3_2 o3_3 o3_4 o3_5 y3_0 y3_1 y3_2 y3_3 y3_4 y3_5)
 rw [rounds_succ]
 go_wp2
 refine wp_loop_rounds 1 ?_
 rw [rounds_succ]
 go_wp2
 all_goals (refine bodyPost_ret (v := .tuple #[.agg #[.int .i64 k, .int .i64 (ledAll ⟨k, n, b, y, s, p⟩ (d - lowBase b d) / 4), .int .i64 (lowBase b d), .int .i64 y, .int .i64 s, .int .i64 (ledAll ⟨k, n, b, y, s, p⟩ (d - lowBase b d) % 4)], .int .i64 0]) ?_ rfl ⟨rfl, ?_⟩)
 all_goals first | (exact BL; done) | skip
 all_goals (simp [results, Tryz.results140, go_sem, s2, s2a, s2b, o4_0, o4_1, o4_2, o4_3, o4_4, o4_5, y4_0, y4_1, y4_2, y4_3, y4_4, y4_5])
 all_goals (rw [HE.out]; have hq := Q10.out; simp only [ledAll, upN, upP])
 all_goals omega
set_option maxHeartbeats 4000000 in
theorem mNext_up1 (k n b y s p d e : Int) (h : ledRight ⟨k, n, b, y, s, p⟩ = true) (hd0 : 0 ≤ d) (hd1 : d ≤ 1099511627776) (he : d - lowBase b d = e) (h2 : e = 1) (w : World) :
 Calls Tryz.prog 140 #[.agg #[.int .i64 k, .int .i64 n, .int .i64 b, .int .i64 y, .int .i64 s, .int .i64 p], .int .i64 d] w fun e w' => e = .returned (.tuple #[.agg #[.int .i64 k, .int .i64 (ledAll ⟨k, n, b, y, s, p⟩ (d - lowBase b d) / 4), .int .i64 (lowBase b d), .int .i64 y, .int .i64 s, .int .i64 (ledAll ⟨k, n, b, y, s, p⟩ (d - lowBase b d) % 4)], .int .i64 0]) ∧ Below w.heap.size w w' := by
 have H := hide h
 simp only [ledRight, decide_eq_true_eq] at h
 obtain ⟨q1, q2, q3, q4, q5, q6, q7, q8, q9, q10⟩ := h
 have Q := hide q1
 have Q10 := hide q10
 clear q1 q6 q7 q10
 subst h2
 have HE := hide he
 clear he
 have r1 : 1 ≤ (upN n p) ∧ (upN n p) ≤ 12 ∧ 0 ≤ (upP n p) ∧ (upP n p) < 4 := by have := Q10.out; simp only [upN, upP]; omega
 obtain ⟨r1a0, r1b0, r1c0, r1d0⟩ := r1
 go_enter Tryz.func140, Tryz.ntmps140
 go_wp2_with (first | (go_at_call 160; refine (mRight_t _ _ _ _ _ _ H.out _).mono ?_; rintro e w1 ⟨rfl, hb1⟩; have hz1 := hb1.size; simp at hz1; obtain ⟨fz1, fc1, c0, c1, c2, c3, c4, c5, z0, z1, z2, z3, z4, z5⟩ := boxes26 hb1) | (go_at_call 157; refine (seen_any _ _ _ _ _ _ _ q4 q5 hd0 hd1 _).mono ?_; rintro e w2 ⟨rfl, hb2⟩; obtain ⟨⟨s2, s2a, s2b, s2c, s2d, s2e⟩, fz2, y0, y1, y2, y3, y4, y5, g0, g1, g2, g3, g4, g5⟩ := keep26 hb2 fz1 c0 c1 c2 c3 c4 c5 z0 z1 z2 z3 z4 z5; rw [HE.out]))
 refine wp_loop_rounds 2 ?_
 rw [rounds_succ]
 go_wp2_with (go_at_call 161; refine (lmore_up _ _ _ _ _ _ (by omega) (by omega) (by omega) (by omega) _).mono ?_; rintro e w3 ⟨rfl, hb3⟩; have hz3 := hb3.size; simp at hz3; obtain ⟨fo3, fz3, o3_0, o3_1, o3_2, o3_3, o3_4, o3_5, y3_0, y3_1, y3_2, y3_3, y3_4, y3_5⟩ := keepNew hb3 fz2 y0 y1 y2 y3 y4 y5)
 rw [rounds_succ]
 go_wp2
 refine wp_loop_rounds 1 ?_
 rw [rounds_succ]
 go_wp2
 all_goals (refine bodyPost_ret (v := .tuple #[.agg #[.int .i64 k, .int .i64 (ledAll ⟨k, n, b, y, s, p⟩ (d - lowBase b d) / 4), .int .i64 (lowBase b d), .int .i64 y, .int .i64 s, .int .i64 (ledAll ⟨k, n, b, y, s, p⟩ (d - lowBase b d) % 4)], .int .i64 0]) ?_ rfl ⟨rfl, ?_⟩)
 all_goals first | (exact BL; done) | skip
 all_goals (simp [results, Tryz.results140, go_sem, s2, s2a, s2b, o3_0, o3_1, o3_2, o3_3, o3_4, o3_5, y3_0, y3_1, y3_2, y3_3, y3_4, y3_5])
 all_goals (rw [HE.out]; have hq := Q10.out; simp only [ledAll, upN, upP])
 all_goals omega
set_option maxHeartbeats 4000000 in
theorem mNext_stay (k n b y s p d e : Int) (h : ledRight ⟨k, n, b, y, s, p⟩ = true) (hd0 : 0 ≤ d) (hd1 : d ≤ 1099511627776) (he : d - lowBase b d = e) (h2 : e = 2) (w : World) :
 Calls Tryz.prog 140 #[.agg #[.int .i64 k, .int .i64 n, .int .i64 b, .int .i64 y, .int .i64 s, .int .i64 p], .int .i64 d] w fun e w' => e = .returned (.tuple #[.agg #[.int .i64 k, .int .i64 (ledAll ⟨k, n, b, y, s, p⟩ (d - lowBase b d) / 4), .int .i64 (lowBase b d), .int .i64 y, .int .i64 s, .int .i64 (ledAll ⟨k, n, b, y, s, p⟩ (d - lowBase b d) % 4)], .int .i64 0]) ∧ Below w.heap.size w w' := by
 have H := hide h
 simp only [ledRight, decide_eq_true_eq] at h
 obtain ⟨q1, q2, q3, q4, q5, q6, q7, q8, q9, q10⟩ := h
 have Q := hide q1
 have Q10 := hide q10
 clear q1 q6 q7 q10
 subst h2
 have HE := hide he
 clear he
 go_enter Tryz.func140, Tryz.ntmps140
 go_wp2_with (first | (go_at_call 160; refine (mRight_t _ _ _ _ _ _ H.out _).mono ?_; rintro e w1 ⟨rfl, hb1⟩; have hz1 := hb1.size; simp at hz1; obtain ⟨fz1, fc1, c0, c1, c2, c3, c4, c5, z0, z1, z2, z3, z4, z5⟩ := boxes26 hb1) | (go_at_call 157; refine (seen_any _ _ _ _ _ _ _ q4 q5 hd0 hd1 _).mono ?_; rintro e w2 ⟨rfl, hb2⟩; obtain ⟨⟨s2, s2a, s2b, s2c, s2d, s2e⟩, fz2, y0, y1, y2, y3, y4, y5, g0, g1, g2, g3, g4, g5⟩ := keep26 hb2 fz1 c0 c1 c2 c3 c4 c5 z0 z1 z2 z3 z4 z5; rw [HE.out]))
 refine wp_loop_rounds 1 ?_
 rw [rounds_succ]
 go_wp2
 refine wp_loop_rounds 1 ?_
 rw [rounds_succ]
 go_wp2
 all_goals (refine bodyPost_ret (v := .tuple #[.agg #[.int .i64 k, .int .i64 (ledAll ⟨k, n, b, y, s, p⟩ (d - lowBase b d) / 4), .int .i64 (lowBase b d), .int .i64 y, .int .i64 s, .int .i64 (ledAll ⟨k, n, b, y, s, p⟩ (d - lowBase b d) % 4)], .int .i64 0]) ?_ rfl ⟨rfl, ?_⟩)
 all_goals first | (exact BL; done) | skip
 all_goals (simp [results, Tryz.results140, go_sem, s2, s2a, s2b, y0, y1, y2, y3, y4, y5])
 all_goals (rw [HE.out]; have hq := Q10.out; simp only [ledAll])
 all_goals omega
set_option maxHeartbeats 4000000 in
theorem mNext_dn1 (k n b y s p d e : Int) (h : ledRight ⟨k, n, b, y, s, p⟩ = true) (hd0 : 0 ≤ d) (hd1 : d ≤ 1099511627776) (he : d - lowBase b d = e) (h2 : e = 3) (w : World) :
 Calls Tryz.prog 140 #[.agg #[.int .i64 k, .int .i64 n, .int .i64 b, .int .i64 y, .int .i64 s, .int .i64 p], .int .i64 d] w fun e w' => e = .returned (.tuple #[.agg #[.int .i64 k, .int .i64 (ledAll ⟨k, n, b, y, s, p⟩ (d - lowBase b d) / 4), .int .i64 (lowBase b d), .int .i64 y, .int .i64 s, .int .i64 (ledAll ⟨k, n, b, y, s, p⟩ (d - lowBase b d) % 4)], .int .i64 0]) ∧ Below w.heap.size w w' := by
 have H := hide h
 simp only [ledRight, decide_eq_true_eq] at h
 obtain ⟨q1, q2, q3, q4, q5, q6, q7, q8, q9, q10⟩ := h
 have Q := hide q1
 have Q10 := hide q10
 clear q1 q6 q7 q10
 subst h2
 have HE := hide he
 clear he
 have r1 : 1 ≤ (dnN n p) ∧ (dnN n p) ≤ 12 ∧ 0 ≤ (dnP n p) ∧ (dnP n p) < 4 := by have := Q10.out; simp only [dnN, dnP]; omega
 obtain ⟨r1a0, r1b0, r1c0, r1d0⟩ := r1
 go_enter Tryz.func140, Tryz.ntmps140
 go_wp2_with (first | (go_at_call 160; refine (mRight_t _ _ _ _ _ _ H.out _).mono ?_; rintro e w1 ⟨rfl, hb1⟩; have hz1 := hb1.size; simp at hz1; obtain ⟨fz1, fc1, c0, c1, c2, c3, c4, c5, z0, z1, z2, z3, z4, z5⟩ := boxes26 hb1) | (go_at_call 157; refine (seen_any _ _ _ _ _ _ _ q4 q5 hd0 hd1 _).mono ?_; rintro e w2 ⟨rfl, hb2⟩; obtain ⟨⟨s2, s2a, s2b, s2c, s2d, s2e⟩, fz2, y0, y1, y2, y3, y4, y5, g0, g1, g2, g3, g4, g5⟩ := keep26 hb2 fz1 c0 c1 c2 c3 c4 c5 z0 z1 z2 z3 z4 z5; rw [HE.out]))
 refine wp_loop_rounds 1 ?_
 rw [rounds_succ]
 go_wp2
 refine wp_loop_rounds 2 ?_
 rw [rounds_succ]
 go_wp2_with (go_at_call 161; refine (lmore_dn _ _ _ _ _ _ (by omega) (by omega) (by omega) (by omega) _).mono ?_; rintro e w3 ⟨rfl, hb3⟩; have hz3 := hb3.size; simp at hz3; obtain ⟨fo3, fz3, o3_0, o3_1, o3_2, o3_3, o3_4, o3_5, y3_0, y3_1, y3_2, y3_3, y3_4, y3_5⟩ := keepNew hb3 fz2 y0 y1 y2 y3 y4 y5)
 rw [rounds_succ]
 go_wp2
 all_goals (refine bodyPost_ret (v := .tuple #[.agg #[.int .i64 k, .int .i64 (ledAll ⟨k, n, b, y, s, p⟩ (d - lowBase b d) / 4), .int .i64 (lowBase b d), .int .i64 y, .int .i64 s, .int .i64 (ledAll ⟨k, n, b, y, s, p⟩ (d - lowBase b d) % 4)], .int .i64 0]) ?_ rfl ⟨rfl, ?_⟩)
 all_goals first | (exact BL; done) | skip
 all_goals (simp [results, Tryz.results140, go_sem, s2, s2a, s2b, o3_0, o3_1, o3_2, o3_3, o3_4, o3_5, y3_0, y3_1, y3_2, y3_3, y3_4, y3_5])
 all_goals (rw [HE.out]; have hq := Q10.out; simp only [ledAll, dnN, dnP])
 all_goals omega
set_option maxHeartbeats 4000000 in
theorem mNext_dn2a (k n b y s p d e : Int) (h : ledRight ⟨k, n, b, y, s, p⟩ = true) (hd0 : 0 ≤ d) (hd1 : d ≤ 1099511627776) (he : d - lowBase b d = e) (h2 : e = 4) (w : World) :
 Calls Tryz.prog 140 #[.agg #[.int .i64 k, .int .i64 n, .int .i64 b, .int .i64 y, .int .i64 s, .int .i64 p], .int .i64 d] w fun e w' => e = .returned (.tuple #[.agg #[.int .i64 k, .int .i64 (ledAll ⟨k, n, b, y, s, p⟩ (d - lowBase b d) / 4), .int .i64 (lowBase b d), .int .i64 y, .int .i64 s, .int .i64 (ledAll ⟨k, n, b, y, s, p⟩ (d - lowBase b d) % 4)], .int .i64 0]) ∧ Below w.heap.size w w' := by
 have H := hide h
 simp only [ledRight, decide_eq_true_eq] at h
 obtain ⟨q1, q2, q3, q4, q5, q6, q7, q8, q9, q10⟩ := h
 have Q := hide q1
 have Q10 := hide q10
 clear q1 q6 q7 q10
 subst h2
 have HE := hide he
 clear he
 have r1 : 1 ≤ (dnN n p) ∧ (dnN n p) ≤ 12 ∧ 0 ≤ (dnP n p) ∧ (dnP n p) < 4 := by have := Q10.out; simp only [dnN, dnP]; omega
 obtain ⟨r1a0, r1b0, r1c0, r1d0⟩ := r1
 have r1 : 1 ≤ (dnN (dnN n p) (dnP n p)) ∧ (dnN (dnN n p) (dnP n p)) ≤ 12 ∧ 0 ≤ (dnP (dnN n p) (dnP n p)) ∧ (dnP (dnN n p) (dnP n p)) < 4 := by have := Q10.out; simp only [dnN, dnP]; omega
 obtain ⟨r1a1, r1b1, r1c1, r1d1⟩ := r1
 go_enter Tryz.func140, Tryz.ntmps140
 go_wp2_with (first | (go_at_call 160; refine (mRight_t _ _ _ _ _ _ H.out _).mono ?_; rintro e w1 ⟨rfl, hb1⟩; have hz1 := hb1.size; simp at hz1; obtain ⟨fz1, fc1, c0, c1, c2, c3, c4, c5, z0, z1, z2, z3, z4, z5⟩ := boxes26 hb1) | (go_at_call 157; refine (seen_any _ _ _ _ _ _ _ q4 q5 hd0 hd1 _).mono ?_; rintro e w2 ⟨rfl, hb2⟩; obtain ⟨⟨s2, s2a, s2b, s2c, s2d, s2e⟩, fz2, y0, y1, y2, y3, y4, y5, g0, g1, g2, g3, g4, g5⟩ := keep26 hb2 fz1 c0 c1 c2 c3 c4 c5 z0 z1 z2 z3 z4 z5; rw [HE.out]))
 refine wp_loop_rounds 1 ?_
 rw [rounds_succ]
 go_wp2
 refine wp_loop_rounds 3 ?_
 rw [rounds_succ]
 go_wp2_with (go_at_call 161; refine (lmore_dn _ _ _ _ _ _ (by omega) (by omega) (by omega) (by omega) _).mono ?_; rintro e w3 ⟨rfl, hb3⟩; have hz3 := hb3.size; simp at hz3; obtain ⟨fo3, fz3, o3_0, o3_1, o3_2, o3_3, o3_4, o3_5, y3_0, y3_1, y3_2, y3_3, y3_4, y3_5⟩ := keepNew hb3 fz2 y0 y1 y2 y3 y4 y5)
 rw [rounds_succ]
 go_wp2_with (go_at_call 161; refine (lmore_dn _ _ _ _ _ _ (by omega) (by omega) (by omega) (by omega) _).mono ?_; rintro e w4 ⟨rfl, hb4⟩; have hz4 := hb4.size; simp at hz4; obtain ⟨fo4, fz4, o4_0, o4_1, o4_2, o4_3, o4_4, o4_5, y4_0, y4_1, y4_2, y4_3, y4_4, y4_5⟩ := keepSet s2a hb4 fo3 fz3 o3_0 o3_1 o3_2 o3_3 o3_4 o3_5 y3_0 y3_1 y3_2 y3_3 y3_4 y3_5)
 rw [rounds_succ]
 go_wp2
 all_goals (refine bodyPost_ret (v := .tuple #[.agg #[.int .i64 k, .int .i64 (ledAll ⟨k, n, b, y, s, p⟩ (d - lowBase b d) / 4), .int .i64 (lowBase b d), .int .i64 y, .int .i64 s, .int .i64 (ledAll ⟨k, n, b, y, s, p⟩ (d - lowBase b d) % 4)], .int .i64 0]) ?_ rfl ⟨rfl, ?_⟩)
 all_goals first | (exact BL; done) | skip
 all_goals (simp [results, Tryz.results140, go_sem, s2, s2a, s2b, o4_0, o4_1, o4_2, o4_3, o4_4, o4_5, y4_0, y4_1, y4_2, y4_3, y4_4, y4_5])
 all_goals (rw [HE.out]; have hq := Q10.out; simp only [ledAll, dnN, dnP])
 all_goals omega
set_option maxHeartbeats 4000000 in
theorem mNext_dn2 (k n b y s p d e : Int) (h : ledRight ⟨k, n, b, y, s, p⟩ = true) (hd0 : 0 ≤ d) (hd1 : d ≤ 1099511627776) (he : d - lowBase b d = e) (h2 : 5 ≤ e) (w : World) :
 Calls Tryz.prog 140 #[.agg #[.int .i64 k, .int .i64 n, .int .i64 b, .int .i64 y, .int .i64 s, .int .i64 p], .int .i64 d] w fun e w' => e = .returned (.tuple #[.agg #[.int .i64 k, .int .i64 (ledAll ⟨k, n, b, y, s, p⟩ (d - lowBase b d) / 4), .int .i64 (lowBase b d), .int .i64 y, .int .i64 s, .int .i64 (ledAll ⟨k, n, b, y, s, p⟩ (d - lowBase b d) % 4)], .int .i64 0]) ∧ Below w.heap.size w w' := by
 have H := hide h
 simp only [ledRight, decide_eq_true_eq] at h
 obtain ⟨q1, q2, q3, q4, q5, q6, q7, q8, q9, q10⟩ := h
 have Q := hide q1
 have Q10 := hide q10
 clear q1 q6 q7 q10
 have h2' : e ≤ 1099511627777 := by unfold lowBase at he; split at he <;> (try split at he) <;> omega
 have HE := hide he
 clear he
 have r1 : 1 ≤ (dnN n p) ∧ (dnN n p) ≤ 12 ∧ 0 ≤ (dnP n p) ∧ (dnP n p) < 4 := by have := Q10.out; simp only [dnN, dnP]; omega
 obtain ⟨r1a0, r1b0, r1c0, r1d0⟩ := r1
 have r1 : 1 ≤ (dnN (dnN n p) (dnP n p)) ∧ (dnN (dnN n p) (dnP n p)) ≤ 12 ∧ 0 ≤ (dnP (dnN n p) (dnP n p)) ∧ (dnP (dnN n p) (dnP n p)) < 4 := by have := Q10.out; simp only [dnN, dnP]; omega
 obtain ⟨r1a1, r1b1, r1c1, r1d1⟩ := r1
 go_enter Tryz.func140, Tryz.ntmps140
 go_wp2_with (first | (go_at_call 160; refine (mRight_t _ _ _ _ _ _ H.out _).mono ?_; rintro e w1 ⟨rfl, hb1⟩; have hz1 := hb1.size; simp at hz1; obtain ⟨fz1, fc1, c0, c1, c2, c3, c4, c5, z0, z1, z2, z3, z4, z5⟩ := boxes26 hb1) | (go_at_call 157; refine (seen_any _ _ _ _ _ _ _ q4 q5 hd0 hd1 _).mono ?_; rintro e w2 ⟨rfl, hb2⟩; obtain ⟨⟨s2, s2a, s2b, s2c, s2d, s2e⟩, fz2, y0, y1, y2, y3, y4, y5, g0, g1, g2, g3, g4, g5⟩ := keep26 hb2 fz1 c0 c1 c2 c3 c4 c5 z0 z1 z2 z3 z4 z5; rw [HE.out]))
 refine wp_loop_rounds 1 ?_
 rw [rounds_succ]
 go_wp2
 refine wp_loop_rounds 3 ?_
 rw [rounds_succ]
 go_wp2_with (go_at_call 161; refine (lmore_dn _ _ _ _ _ _ (by omega) (by omega) (by omega) (by omega) _).mono ?_; rintro e w3 ⟨rfl, hb3⟩; have hz3 := hb3.size; simp at hz3; obtain ⟨fo3, fz3, o3_0, o3_1, o3_2, o3_3, o3_4, o3_5, y3_0, y3_1, y3_2, y3_3, y3_4, y3_5⟩ := keepNew hb3 fz2 y0 y1 y2 y3 y4 y5)
 rw [rounds_succ]
 go_wp2_with (go_at_call 161; refine (lmore_dn _ _ _ _ _ _ (by omega) (by omega) (by omega) (by omega) _).mono ?_; rintro e w4 ⟨rfl, hb4⟩; have hz4 := hb4.size; simp at hz4; obtain ⟨fo4, fz4, o4_0, o4_1, o4_2, o4_3, o4_4, o4_5, y4_0, y4_1, y4_2, y4_3, y4_4, y4_5⟩ := keepSet s2a hb4 fo3 fz3 o3_0 o3_1 o3_2 o3_3 o3_4 o3_5 y3_0 y3_1 y3_2 y3_3 y3_4 y3_5)
 rw [rounds_succ]
 go_wp2
 all_goals (refine bodyPost_ret (v := .tuple #[.agg #[.int .i64 k, .int .i64 (ledAll ⟨k, n, b, y, s, p⟩ (d - lowBase b d) / 4), .int .i64 (lowBase b d), .int .i64 y, .int .i64 s, .int .i64 (ledAll ⟨k, n, b, y, s, p⟩ (d - lowBase b d) % 4)], .int .i64 0]) ?_ rfl ⟨rfl, ?_⟩)
 all_goals first | (exact BL; done) | skip
 all_goals (simp [results, Tryz.results140, go_sem, s2, s2a, s2b, o4_0, o4_1, o4_2, o4_3, o4_4, o4_5, y4_0, y4_1, y4_2, y4_3, y4_4, y4_5])
 all_goals (rw [HE.out]; have hq := Q10.out; simp only [ledAll, dnN, dnP])
 all_goals omega
end Go.Proofs.YtjjikhaaimfneaaGreatDoor
namespace Go.Proofs.YtjjikhaaimfneaaGreatDoor
open Go.RowKit
set_option linter.unusedSimpArgs false
set_option linter.unusedVariables false
def Sm (x : Int) : Prop := -4398046511104 ≤ x ∧ x ≤ 4398046511104
theorem clip_b (m : Int) : 1 ≤ clipW m ∧ clipW m ≤ 12 := by unfold clipW; split <;> (try split) <;> omega
theorem low_b {b d : Int} (h1 : -1 ≤ b) (h2 : b ≤ 1099511627776) (h3 : 0 ≤ d) (h4 : d ≤ 1099511627776) : 0 ≤ lowBase b d ∧ lowBase b d ≤ 1099511627776 ∧ lowBase b d ≤ d := by unfold lowBase; split <;> (try split) <;> omega
def Both (f g : FuncId) (right : Ctl → Bool) (k n b y s p d : Int) : Prop := ∃ k' n' b' y' s' p' : Int, right ⟨k', n', b', y', s', p'⟩ = true ∧
 (∀ w : World, Calls Tryz.prog f #[.agg #[.int .i64 k, .int .i64 n, .int .i64 b, .int .i64 y, .int .i64 s, .int .i64 p], .int .i64 d] w fun e w' => e = .returned (.tuple #[.agg #[.int .i64 k', .int .i64 n', .int .i64 b', .int .i64 y', .int .i64 s', .int .i64 p'], .int .i64 0]) ∧ Below w.heap.size w w') ∧
 (∀ w : World, Calls Tryz.prog g #[.agg #[.int .i64 k, .int .i64 n, .int .i64 b, .int .i64 y, .int .i64 s, .int .i64 p], .int .i64 d] w fun e w' => e = .returned (.tuple #[.agg #[.int .i64 k', .int .i64 n', .int .i64 b', .int .i64 y', .int .i64 s', .int .i64 p'], .int .i64 0]) ∧ Below w.heap.size w w')
theorem veg_both {k n b y s p d : Int} (hr : vegRight ⟨k, n, b, y, s, p⟩ = true) (g0 : 0 ≤ d) (g1 : d ≤ 1099511627776) : Both 114 138 vegRight k n b y s p d := by
 have g2 := hr
 simp only [vegRight, decide_eq_true_eq] at g2
 have hl := low_b (b := b) (d := d) (by omega) (by omega) g0 g1
 have c1 := clip_b (n + 1)
 have c2 := clip_b (n - 1)
 rcases (show n * (d - lowBase b d) < 1 + d ∨ (1 + d ≤ n * (d - lowBase b d) ∧ n * (d - lowBase b d) < 3 * (1 + d)) ∨ 3 * (1 + d) ≤ n * (d - lowBase b d) by omega) with hc | hc | hc
 · exact ⟨_, _, _, _, _, _, by simp only [vegRight, decide_eq_true_eq]; omega, vegNext_up k n b y s p d hr g0 g1 hc, kNext_up k n b y s p d hr g0 g1 hc⟩
 · exact ⟨_, _, _, _, _, _, by simp only [vegRight, decide_eq_true_eq]; omega, vegNext_mid k n b y s p d hr g0 g1 hc, kNext_mid k n b y s p d hr g0 g1 hc⟩
 · exact ⟨_, _, _, _, _, _, by simp only [vegRight, decide_eq_true_eq]; omega, vegNext_dn k n b y s p d hr g0 g1 hc, kNext_dn k n b y s p d hr g0 g1 hc⟩
theorem cop_both {k n b y s p d : Int} (hr : copRight ⟨k, n, b, y, s, p⟩ = true) (g0 : 0 ≤ d) (g1 : d ≤ 1099511627776) : Both 117 139 copRight k n b y s p d := by
 have g2 := hr
 simp only [copRight, decide_eq_true_eq] at g2
 have hl := low_b (b := b) (d := d) (by omega) (by omega) g0 g1
 have c1 := clip_b (n + 1); have c2 := clip_b (n - 1); have c3 := clip_b (n + 2); have c4 := clip_b (n - 2); have c5 := clip_b (n + 4); have c6 := clip_b (n - 4)
 rcases (show 2 * (1 + d) < n * (d - lowBase b d) ∨ n * (d - lowBase b d) ≤ 2 * (1 + d) by omega) with hc | hc
 · rcases (show ¬ y = -1 ∨ (y = -1 ∧ s = 0) ∨ (y = -1 ∧ s = 1) ∨ (y = -1 ∧ s = 2) ∨ (y = -1 ∧ s = 3) ∨ (y = -1 ∧ s = 4) by omega) with hy | ⟨hy, hs⟩ | ⟨hy, hs⟩ | ⟨hy, hs⟩ | ⟨hy, hs⟩ | ⟨hy, hs⟩
   · exact ⟨_, _, _, _, _, _, by simp only [copRight, decide_eq_true_eq]; omega, copNext_dn_ne k n b y s p d hr g0 g1 hc hy, lNext_dn_ne k n b y s p d hr g0 g1 hc hy⟩
   · exact ⟨_, _, _, _, _, _, by simp only [copRight, decide_eq_true_eq]; omega, copNext_dn_s0 k n b y s p d hr g0 g1 hc hy hs, lNext_dn_s0 k n b y s p d hr g0 g1 hc hy hs⟩
   · exact ⟨_, _, _, _, _, _, by simp only [copRight, decide_eq_true_eq]; omega, copNext_dn_s1 k n b y s p d hr g0 g1 hc hy hs, lNext_dn_s1 k n b y s p d hr g0 g1 hc hy hs⟩
   · exact ⟨_, _, _, _, _, _, by simp only [copRight, decide_eq_true_eq]; omega, copNext_dn_s2 k n b y s p d hr g0 g1 hc hy hs, lNext_dn_s2 k n b y s p d hr g0 g1 hc hy hs⟩
   · exact ⟨_, _, _, _, _, _, by simp only [copRight, decide_eq_true_eq]; omega, copNext_dn_s3 k n b y s p d hr g0 g1 hc hy hs, lNext_dn_s3 k n b y s p d hr g0 g1 hc hy hs⟩
   · exact ⟨_, _, _, _, _, _, by simp only [copRight, decide_eq_true_eq]; omega, copNext_dn_s4 k n b y s p d hr g0 g1 hc hy hs, lNext_dn_s4 k n b y s p d hr g0 g1 hc hy hs⟩
 · rcases (show ¬ y = 1 ∨ (y = 1 ∧ s = 0) ∨ (y = 1 ∧ s = 1) ∨ (y = 1 ∧ s = 2) ∨ (y = 1 ∧ s = 3) ∨ (y = 1 ∧ s = 4) by omega) with hy | ⟨hy, hs⟩ | ⟨hy, hs⟩ | ⟨hy, hs⟩ | ⟨hy, hs⟩ | ⟨hy, hs⟩
   · exact ⟨_, _, _, _, _, _, by simp only [copRight, decide_eq_true_eq]; omega, copNext_up_ne k n b y s p d hr g0 g1 hc hy, lNext_up_ne k n b y s p d hr g0 g1 hc hy⟩
   · exact ⟨_, _, _, _, _, _, by simp only [copRight, decide_eq_true_eq]; omega, copNext_up_s0 k n b y s p d hr g0 g1 hc hy hs, lNext_up_s0 k n b y s p d hr g0 g1 hc hy hs⟩
   · exact ⟨_, _, _, _, _, _, by simp only [copRight, decide_eq_true_eq]; omega, copNext_up_s1 k n b y s p d hr g0 g1 hc hy hs, lNext_up_s1 k n b y s p d hr g0 g1 hc hy hs⟩
   · exact ⟨_, _, _, _, _, _, by simp only [copRight, decide_eq_true_eq]; omega, copNext_up_s2 k n b y s p d hr g0 g1 hc hy hs, lNext_up_s2 k n b y s p d hr g0 g1 hc hy hs⟩
   · exact ⟨_, _, _, _, _, _, by simp only [copRight, decide_eq_true_eq]; omega, copNext_up_s3 k n b y s p d hr g0 g1 hc hy hs, lNext_up_s3 k n b y s p d hr g0 g1 hc hy hs⟩
   · exact ⟨_, _, _, _, _, _, by simp only [copRight, decide_eq_true_eq]; omega, copNext_up_s4 k n b y s p d hr g0 g1 hc hy hs, lNext_up_s4 k n b y s p d hr g0 g1 hc hy hs⟩
theorem led_b {k n b y s p e : Int} (h1 : 1 ≤ n) (h2 : n ≤ 12) (h3 : 0 ≤ p) (h4 : p < 4) : 4 ≤ ledAll ⟨k, n, b, y, s, p⟩ e ∧ ledAll ⟨k, n, b, y, s, p⟩ e ≤ 48 := by
 simp only [ledAll]
 split <;> (try split) <;> (try split) <;> omega
theorem led_both {k n b y s p d : Int} (hr : ledRight ⟨k, n, b, y, s, p⟩ = true) (g0 : 0 ≤ d) (g1 : d ≤ 1099511627776) : Both 17 140 ledRight k n b y s p d := by
 have g2 := hr
 simp only [ledRight, decide_eq_true_eq] at g2
 have hl := low_b (b := b) (d := d) (by omega) (by omega) g0 g1
 have hb := led_b (k := k) (b := b) (y := y) (s := s) (e := d - lowBase b d) g2.2.1 g2.2.2.1 g2.2.2.2.2.2.2.2.1 g2.2.2.2.2.2.2.2.2.1
 have key := ledNext_ok k n b y s p d hr g0 g1
 refine ⟨_, _, _, _, _, _, ?_, key, ?_⟩
 · simp only [ledRight, decide_eq_true_eq]; omega
 · rcases (show d - lowBase b d = 0 ∨ d - lowBase b d = 1 ∨ d - lowBase b d = 2 ∨ d - lowBase b d = 3 ∨ d - lowBase b d = 4 ∨ 5 ≤ d - lowBase b d by omega) with he | he | he | he | he | he
   · exact mNext_up2 k n b y s p d _ hr g0 g1 rfl he
   · exact mNext_up1 k n b y s p d _ hr g0 g1 rfl he
   · exact mNext_stay k n b y s p d _ hr g0 g1 rfl he
   · exact mNext_dn1 k n b y s p d _ hr g0 g1 rfl he
   · exact mNext_dn2a k n b y s p d _ hr g0 g1 rfl he
   · exact mNext_dn2 k n b y s p d _ hr g0 g1 rfl he
end Go.Proofs.YtjjikhaaimfneaaGreatDoor
