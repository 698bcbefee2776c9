/-
  Lemmas and walks for the statement: LedN, Lmore, MemS.
-/
import Derived.Test.YtjjikhaaimfneaaGreatDoorE06
import Derived.Test.YtjjikhaaimfneaaGreatDoorE01
namespace Go.Proofs.YtjjikhaaimfneaaGreatDoor
open Go.RowKit
set_option linter.unusedSimpArgs false
set_option linter.unusedVariables false
set_option maxHeartbeats 1000000 in
theorem ledNew_any (n : Int) (w : World) :
 Calls Tryz.prog 16 #[.int .i64 n] w fun e w' => e = .returned (.agg #[.int .i64 3, .int .i64 (clipW n), .int .i64 (-1), .int .i64 0, .int .i64 0, .int .i64 0]) ∧ Below w.heap.size w w' := by
 go_enter Tryz.func16, Tryz.ntmps16
 go_wp2
 all_goals (refine bodyPost_ret (v := .agg #[.int .i64 3, .int .i64 (clipW n), .int .i64 (-1), .int .i64 0, .int .i64 0, .int .i64 0]) (by simp [results, Tryz.results16, go_sem]; unfold clipW; split <;> (try split) <;> omega) rfl ⟨rfl, ?_⟩)
 all_goals exact BL
set_option maxHeartbeats 2000000 in
theorem ledNext_ok (k n b y s p d : Int) (h : ledRight ⟨k, n, b, y, s, p⟩ = true) (hd0 : 0 ≤ d) (hd1 : d ≤ 1099511627776) (w : World) :
 Calls Tryz.prog 17 #[.agg #[.int .i64 k, .int .i64 n, .int .i64 b, .int .i64 y, .int .i64 s, .int .i64 p], .int .i64 d] w fun e w' => e = .returned (.tuple #[.agg #[.int .i64 k, .int .i64 (ledAll ⟨k, n, b, y, s, p⟩ (d - lowBase b d) / 4), .int .i64 (lowBase b d), .int .i64 y, .int .i64 s, .int .i64 (ledAll ⟨k, n, b, y, s, p⟩ (d - lowBase b d) % 4)], .int .i64 0]) ∧ Below w.heap.size w w' := by
 have H := hide h
 simp only [ledRight, decide_eq_true_eq] at h
 obtain ⟨q1, q2, q3, q4, q5, q6, q7, q8, q9, q10⟩ := h
 have Q := hide q1
 clear q1 q6 q7 q10
 rcases (show b < 0 ∨ (0 ≤ b ∧ d < b) ∨ (0 ≤ b ∧ b ≤ d) by omega) with hb0 | ⟨hb0, hb1⟩ | ⟨hb0, hb1⟩
 all_goals
  go_enter Tryz.func17, Tryz.ntmps17
  go_wp2_with (go_at_call 33; refine (ledRight_t _ _ _ _ _ _ H.out _).mono ?_; rintro e w1 ⟨rfl, hb⟩; have hz := hb.size; have hf := (bcell hb).2; obtain ⟨c0, c1, c2, c3, c4, c5⟩ : w1.cell? ⟨w.heap.size, 0, none⟩ = some (.int .i64 k) ∧ w1.cell? ⟨w.heap.size, 1, none⟩ = some (.int .i64 n) ∧ w1.cell? ⟨w.heap.size, 2, none⟩ = some (.int .i64 b) ∧ w1.cell? ⟨w.heap.size, 3, none⟩ = some (.int .i64 y) ∧ w1.cell? ⟨w.heap.size, 4, none⟩ = some (.int .i64 s) ∧ w1.cell? ⟨w.heap.size, 5, none⟩ = some (.int .i64 p) := (by refine ⟨?_, ?_, ?_, ?_, ?_, ?_⟩ <;> (rw [hb.cell (by first | omega | (simp; done) | (simp; omega))]; try (simp [go_sem, World.cell?_alloc_past]))); obtain ⟨z0, z1, z2, z3, z4, z5⟩ : w1.cell? ⟨w.heap.size + 1, 0, none⟩ = some (.int .i64 0) ∧ w1.cell? ⟨w.heap.size + 1, 1, none⟩ = some (.int .i64 0) ∧ w1.cell? ⟨w.heap.size + 1, 2, none⟩ = some (.int .i64 0) ∧ w1.cell? ⟨w.heap.size + 1, 3, none⟩ = some (.int .i64 0) ∧ w1.cell? ⟨w.heap.size + 1, 4, none⟩ = some (.int .i64 0) ∧ w1.cell? ⟨w.heap.size + 1, 5, none⟩ = some (.int .i64 0) := (by refine ⟨?_, ?_, ?_, ?_, ?_, ?_⟩ <;> (rw [hb.cell (by first | omega | (simp; done) | (simp; omega))]; try (simp [go_sem, World.cell?_alloc_past]))))
  all_goals (refine bodyPost_ret (v := .tuple #[.agg #[.int .i64 k, .int .i64 (ledAll ⟨k, n, b, y, s, p⟩ (d - lowBase b d) / 4), .int .i64 (lowBase b d), .int .i64 y, .int .i64 s, .int .i64 (ledAll ⟨k, n, b, y, s, p⟩ (d - lowBase b d) % 4)], .int .i64 0]) ?_ rfl ⟨rfl, ?_⟩)
  all_goals first | (exact BL; done) | skip
  all_goals (simp [results, Tryz.results17, go_sem, c0, c1, c2, c3, c4, c5, z0, z1, z2, z3, z4, z5])
 all_goals (simp only [ledAll, lowBase])
 all_goals omega
end Go.Proofs.YtjjikhaaimfneaaGreatDoor
namespace Go.Proofs.YtjjikhaaimfneaaGreatDoor
open Go.RowKit
set_option linter.unusedSimpArgs false
set_option linter.unusedVariables false
def upN (n p : Int) : Int := if n = 12 then 12 else if p = 3 then n + 1 else n
def upP (n p : Int) : Int := if n = 12 then p else if p = 3 then 0 else p + 1
def dnN (n p : Int) : Int := if p = 0 then (if n = 1 then 1 else n - 1) else n
def dnP (n p : Int) : Int := if p = 0 then (if n = 1 then 0 else 3) else p - 1
set_option maxHeartbeats 1000000 in
theorem lmore_up (k n b y s p : Int) (h1 : 1 ≤ n) (h2 : n ≤ 12) (h3 : 0 ≤ p) (h4 : p < 4) (w : World) :
 Calls Tryz.prog 161 #[.agg #[.int .i64 k, .int .i64 n, .int .i64 b, .int .i64 y, .int .i64 s, .int .i64 p], .int .i64 1] w fun e w' => e = .returned (.agg #[.int .i64 k, .int .i64 (upN n p), .int .i64 b, .int .i64 y, .int .i64 s, .int .i64 (upP n p)]) ∧ Below w.heap.size w w' := by
 rcases (show n = 12 ∨ (n < 12 ∧ p = 3) ∨ (n < 12 ∧ p < 3) by omega) with h | ⟨h, h'⟩ | ⟨h, h'⟩
 · subst h
   have hp : ((p : Int) == 4) = false := by simp; omega
   go_enter Tryz.func161, Tryz.ntmps161
   go_wp2
   all_goals (refine bodyPost_ret (v := .agg #[.int .i64 k, .int .i64 (upN 12 p), .int .i64 b, .int .i64 y, .int .i64 s, .int .i64 (upP 12 p)]) ?_ rfl ⟨rfl, ?_⟩)
   all_goals first | (exact BL; done) | skip
   all_goals (simp [results, Tryz.results161, go_sem, upN, upP])
 · subst h'
   have hne : ¬ n = 12 := by omega
   go_enter Tryz.func161, Tryz.ntmps161
   go_wp2
   all_goals (refine bodyPost_ret (v := .agg #[.int .i64 k, .int .i64 (upN n 3), .int .i64 b, .int .i64 y, .int .i64 s, .int .i64 (upP n 3)]) ?_ rfl ⟨rfl, ?_⟩)
   all_goals first | (exact BL; done) | skip
   all_goals (simp [results, Tryz.results161, go_sem, upN, upP, hne])
 · have hp : ((p + 1 : Int) == 4) = false := by simp; omega
   have hne : ¬ n = 12 := by omega
   have hne' : ¬ p = 3 := by omega
   go_enter Tryz.func161, Tryz.ntmps161
   go_wp2
   all_goals (refine bodyPost_ret (v := .agg #[.int .i64 k, .int .i64 (upN n p), .int .i64 b, .int .i64 y, .int .i64 s, .int .i64 (upP n p)]) ?_ rfl ⟨rfl, ?_⟩)
   all_goals first | (exact BL; done) | skip
   all_goals (simp [results, Tryz.results161, go_sem, upN, upP, hne, hne'])
set_option maxHeartbeats 1000000 in
theorem lmore_dn (k n b y s p : Int) (h1 : 1 ≤ n) (h2 : n ≤ 12) (h3 : 0 ≤ p) (h4 : p < 4) (w : World) :
 Calls Tryz.prog 161 #[.agg #[.int .i64 k, .int .i64 n, .int .i64 b, .int .i64 y, .int .i64 s, .int .i64 p], .int .i64 (-1)] w fun e w' => e = .returned (.agg #[.int .i64 k, .int .i64 (dnN n p), .int .i64 b, .int .i64 y, .int .i64 s, .int .i64 (dnP n p)]) ∧ Below w.heap.size w w' := by
 rcases (show (p = 0 ∧ n = 1) ∨ (p = 0 ∧ 1 < n) ∨ (0 < p) by omega) with ⟨h, h'⟩ | ⟨h, h'⟩ | h
 · subst h; subst h'
   go_enter Tryz.func161, Tryz.ntmps161
   go_wp2
   all_goals (refine bodyPost_ret (v := .agg #[.int .i64 k, .int .i64 (dnN 1 0), .int .i64 b, .int .i64 y, .int .i64 s, .int .i64 (dnP 1 0)]) ?_ rfl ⟨rfl, ?_⟩)
   all_goals first | (exact BL; done) | skip
   all_goals (simp [results, Tryz.results161, go_sem, dnN, dnP])
 · subst h
   have hne : ¬ n = 1 := by omega
   go_enter Tryz.func161, Tryz.ntmps161
   go_wp2
   all_goals (refine bodyPost_ret (v := .agg #[.int .i64 k, .int .i64 (dnN n 0), .int .i64 b, .int .i64 y, .int .i64 s, .int .i64 (dnP n 0)]) ?_ rfl ⟨rfl, ?_⟩)
   all_goals first | (exact BL; done) | skip
   all_goals (simp [results, Tryz.results161, go_sem, dnN, dnP, hne])
 · have hp : ((p - 1 : Int) == 4) = false := by simp; omega
   have hne : ¬ p = 0 := by omega
   go_enter Tryz.func161, Tryz.ntmps161
   go_wp2
   all_goals (refine bodyPost_ret (v := .agg #[.int .i64 k, .int .i64 (dnN n p), .int .i64 b, .int .i64 y, .int .i64 s, .int .i64 (dnP n p)]) ?_ rfl ⟨rfl, ?_⟩)
   all_goals first | (exact BL; done) | skip
   all_goals (simp [results, Tryz.results161, go_sem, dnN, dnP, hne])
end Go.Proofs.YtjjikhaaimfneaaGreatDoor
namespace Go.Proofs.YtjjikhaaimfneaaGreatDoor
open Go.RowKit
set_option linter.unusedSimpArgs false
set_option linter.unusedVariables false
theorem set6 {X : World} {A B : Nat} {x0 x1 x2 x3 x4 x5 v0 v1 v2 v3 v4 v5 y0 y1 y2 y3 y4 y5 : Value} (hAB : ¬ A = B) (c0 : X.cell? ⟨B, 0, none⟩ = some x0) (c1 : X.cell? ⟨B, 1, none⟩ = some x1) (c2 : X.cell? ⟨B, 2, none⟩ = some x2) (c3 : X.cell? ⟨B, 3, none⟩ = some x3) (c4 : X.cell? ⟨B, 4, none⟩ = some x4) (c5 : X.cell? ⟨B, 5, none⟩ = some x5) (z0 : X.cell? ⟨A, 0, none⟩ = some y0) (z1 : X.cell? ⟨A, 1, none⟩ = some y1) (z2 : X.cell? ⟨A, 2, none⟩ = some y2) (z3 : X.cell? ⟨A, 3, none⟩ = some y3) (z4 : X.cell? ⟨A, 4, none⟩ = some y4) (z5 : X.cell? ⟨A, 5, none⟩ = some y5) :
 ((((((X.setCell ⟨B, 0, none⟩ v0).setCell ⟨B, 1, none⟩ v1).setCell ⟨B, 2, none⟩ v2).setCell ⟨B, 3, none⟩ v3).setCell ⟨B, 4, none⟩ v4).setCell ⟨B, 5, none⟩ v5).cell? ⟨B, 0, none⟩ = some v0 ∧ ((((((X.setCell ⟨B, 0, none⟩ v0).setCell ⟨B, 1, none⟩ v1).setCell ⟨B, 2, none⟩ v2).setCell ⟨B, 3, none⟩ v3).setCell ⟨B, 4, none⟩ v4).setCell ⟨B, 5, none⟩ v5).cell? ⟨B, 1, none⟩ = some v1 ∧ ((((((X.setCell ⟨B, 0, none⟩ v0).setCell ⟨B, 1, none⟩ v1).setCell ⟨B, 2, none⟩ v2).setCell ⟨B, 3, none⟩ v3).setCell ⟨B, 4, none⟩ v4).setCell ⟨B, 5, none⟩ v5).cell? ⟨B, 2, none⟩ = some v2 ∧ ((((((X.setCell ⟨B, 0, none⟩ v0).setCell ⟨B, 1, none⟩ v1).setCell ⟨B, 2, none⟩ v2).setCell ⟨B, 3, none⟩ v3).setCell ⟨B, 4, none⟩ v4).setCell ⟨B, 5, none⟩ v5).cell? ⟨B, 3, none⟩ = some v3 ∧ ((((((X.setCell ⟨B, 0, none⟩ v0).setCell ⟨B, 1, none⟩ v1).setCell ⟨B, 2, none⟩ v2).setCell ⟨B, 3, none⟩ v3).setCell ⟨B, 4, none⟩ v4).setCell ⟨B, 5, none⟩ v5).cell? ⟨B, 4, none⟩ = some v4 ∧ ((((((X.setCell ⟨B, 0, none⟩ v0).setCell ⟨B, 1, none⟩ v1).setCell ⟨B, 2, none⟩ v2).setCell ⟨B, 3, none⟩ v3).setCell ⟨B, 4, none⟩ v4).setCell ⟨B, 5, none⟩ v5).cell? ⟨B, 5, none⟩ = some v5 ∧ ((((((X.setCell ⟨B, 0, none⟩ v0).setCell ⟨B, 1, none⟩ v1).setCell ⟨B, 2, none⟩ v2).setCell ⟨B, 3, none⟩ v3).setCell ⟨B, 4, none⟩ v4).setCell ⟨B, 5, none⟩ v5).cell? ⟨A, 0, none⟩ = some y0 ∧ ((((((X.setCell ⟨B, 0, none⟩ v0).setCell ⟨B, 1, none⟩ v1).setCell ⟨B, 2, none⟩ v2).setCell ⟨B, 3, none⟩ v3).setCell ⟨B, 4, none⟩ v4).setCell ⟨B, 5, none⟩ v5).cell? ⟨A, 1, none⟩ = some y1 ∧ ((((((X.setCell ⟨B, 0, none⟩ v0).setCell ⟨B, 1, none⟩ v1).setCell ⟨B, 2, none⟩ v2).setCell ⟨B, 3, none⟩ v3).setCell ⟨B, 4, none⟩ v4).setCell ⟨B, 5, none⟩ v5).cell? ⟨A, 2, none⟩ = some y2 ∧ ((((((X.setCell ⟨B, 0, none⟩ v0).setCell ⟨B, 1, none⟩ v1).setCell ⟨B, 2, none⟩ v2).setCell ⟨B, 3, none⟩ v3).setCell ⟨B, 4, none⟩ v4).setCell ⟨B, 5, none⟩ v5).cell? ⟨A, 3, none⟩ = some y3 ∧ ((((((X.setCell ⟨B, 0, none⟩ v0).setCell ⟨B, 1, none⟩ v1).setCell ⟨B, 2, none⟩ v2).setCell ⟨B, 3, none⟩ v3).setCell ⟨B, 4, none⟩ v4).setCell ⟨B, 5, none⟩ v5).cell? ⟨A, 4, none⟩ = some y4 ∧ ((((((X.setCell ⟨B, 0, none⟩ v0).setCell ⟨B, 1, none⟩ v1).setCell ⟨B, 2, none⟩ v2).setCell ⟨B, 3, none⟩ v3).setCell ⟨B, 4, none⟩ v4).setCell ⟨B, 5, none⟩ v5).cell? ⟨A, 5, none⟩ = some y5 := by
 refine ⟨?_, ?_, ?_, ?_, ?_, ?_, ?_, ?_, ?_, ?_, ?_, ?_⟩ <;> simp [World.cell?_setCell_same, World.cell?_setCell_other, hAB, *]
theorem keepSet {X w4 : World} {A B : Nat} {x0 x1 x2 x3 x4 x5 v0 v1 v2 v3 v4 v5 y0 y1 y2 y3 y4 y5 : Value} (hAB : ¬ A = B) (hb : Below ((((((X.setCell ⟨B, 0, none⟩ v0).setCell ⟨B, 1, none⟩ v1).setCell ⟨B, 2, none⟩ v2).setCell ⟨B, 3, none⟩ v3).setCell ⟨B, 4, none⟩ v4).setCell ⟨B, 5, none⟩ v5).heap.size ((((((X.setCell ⟨B, 0, none⟩ v0).setCell ⟨B, 1, none⟩ v1).setCell ⟨B, 2, none⟩ v2).setCell ⟨B, 3, none⟩ v3).setCell ⟨B, 4, none⟩ v4).setCell ⟨B, 5, none⟩ v5) w4) (fo : ∀ j, X.frozen? ⟨B, j, none⟩ = false) (fz : ∀ j, X.frozen? ⟨A, j, none⟩ = false) (c0 : X.cell? ⟨B, 0, none⟩ = some x0) (c1 : X.cell? ⟨B, 1, none⟩ = some x1) (c2 : X.cell? ⟨B, 2, none⟩ = some x2) (c3 : X.cell? ⟨B, 3, none⟩ = some x3) (c4 : X.cell? ⟨B, 4, none⟩ = some x4) (c5 : X.cell? ⟨B, 5, none⟩ = some x5) (z0 : X.cell? ⟨A, 0, none⟩ = some y0) (z1 : X.cell? ⟨A, 1, none⟩ = some y1) (z2 : X.cell? ⟨A, 2, none⟩ = some y2) (z3 : X.cell? ⟨A, 3, none⟩ = some y3) (z4 : X.cell? ⟨A, 4, none⟩ = some y4) (z5 : X.cell? ⟨A, 5, none⟩ = some y5) :
 (∀ j, w4.frozen? ⟨B, j, none⟩ = false) ∧ (∀ j, w4.frozen? ⟨A, j, none⟩ = false) ∧ w4.cell? ⟨B, 0, none⟩ = some v0 ∧ w4.cell? ⟨B, 1, none⟩ = some v1 ∧ w4.cell? ⟨B, 2, none⟩ = some v2 ∧ w4.cell? ⟨B, 3, none⟩ = some v3 ∧ w4.cell? ⟨B, 4, none⟩ = some v4 ∧ w4.cell? ⟨B, 5, none⟩ = some v5 ∧ w4.cell? ⟨A, 0, none⟩ = some y0 ∧ w4.cell? ⟨A, 1, none⟩ = some y1 ∧ w4.cell? ⟨A, 2, none⟩ = some y2 ∧ w4.cell? ⟨A, 3, none⟩ = some y3 ∧ w4.cell? ⟨A, 4, none⟩ = some y4 ∧ w4.cell? ⟨A, 5, none⟩ = some y5 := by
 obtain ⟨d0, d1, d2, d3, d4, d5, e0, e1, e2, e3, e4, e5⟩ := set6 (v0 := v0) (v1 := v1) (v2 := v2) (v3 := v3) (v4 := v4) (v5 := v5) hAB c0 c1 c2 c3 c4 c5 z0 z1 z2 z3 z4 z5
 refine keep2 hb (fun j => ?_) (fun j => ?_) d0 d1 d2 d3 d4 d5 e0 e1 e2 e3 e4 e5
 · simp only [World.frozen?_setCell]; exact fo j
 · simp only [World.frozen?_setCell]; exact fz j
end Go.Proofs.YtjjikhaaimfneaaGreatDoor
