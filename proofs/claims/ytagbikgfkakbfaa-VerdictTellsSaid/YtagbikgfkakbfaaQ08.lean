/-
  Lemmas and walks for the statement: LedN.
-/
import Derived.Test.YtagbikgfkakbfaaQ01
namespace Go.Proofs.Ytagbikgfkakbfaa
open Go.RowKit
set_option linter.unusedSimpArgs false
set_option linter.unusedVariables false
set_option maxHeartbeats 1000000 in
theorem ledNew_any (n : Int) (w : World) :
 Calls Try.prog 65 #[.int .i64 n] w fun e w' => e = .returned (.agg #[.int .i64 3, .int .i64 (clipW n), .int .i64 (-1), .int .i64 0, .int .i64 0, .int .i64 0]) ∧ Below w.heap.size w w' := by
 go_enter Try.func65, Try.ntmps65
 go_wp2
 all_goals (refine bodyPost_ret (v := .agg #[.int .i64 3, .int .i64 (clipW n), .int .i64 (-1), .int .i64 0, .int .i64 0, .int .i64 0]) (by simp [results, Try.results65, go_sem]; unfold clipW; split <;> (try split) <;> omega) rfl ⟨rfl, ?_⟩)
 all_goals exact BL
set_option maxHeartbeats 1000000 in
theorem ledNext_bad (k n b y s p d : Int) (h : ledRight ⟨k, n, b, y, s, p⟩ = false) (w : World) :
 Calls Try.prog 67 #[.agg #[.int .i64 k, .int .i64 n, .int .i64 b, .int .i64 y, .int .i64 s, .int .i64 p], .int .i64 d] w fun e w' => e = .returned (.tuple #[.agg #[.int .i64 0, .int .i64 0, .int .i64 0, .int .i64 0, .int .i64 0, .int .i64 0], .int .i64 1]) ∧ Below w.heap.size w w' := by
 have H := hide h
 clear h
 go_enter Try.func67, Try.ntmps67
 go_wp2_with (go_at_call 66; refine (ledRight_f _ _ _ _ _ _ H.out _).mono ?_; rintro e w1 ⟨rfl, hb⟩; have hz := hb.size; have hf := (bcell hb).2; obtain ⟨c0, c1, c2, c3, c4, c5⟩ : w1.cell? ⟨w.heap.size, 0, none⟩ = some (.int .i64 k) ∧ w1.cell? ⟨w.heap.size, 1, none⟩ = some (.int .i64 n) ∧ w1.cell? ⟨w.heap.size, 2, none⟩ = some (.int .i64 b) ∧ w1.cell? ⟨w.heap.size, 3, none⟩ = some (.int .i64 y) ∧ w1.cell? ⟨w.heap.size, 4, none⟩ = some (.int .i64 s) ∧ w1.cell? ⟨w.heap.size, 5, none⟩ = some (.int .i64 p) := (by refine ⟨?_, ?_, ?_, ?_, ?_, ?_⟩ <;> (rw [hb.cell (by first | omega | (simp; done) | (simp; omega))]; try (simp [go_sem, World.cell?_alloc_past]))); obtain ⟨z0, z1, z2, z3, z4, z5⟩ : w1.cell? ⟨w.heap.size + 1, 0, none⟩ = some (.int .i64 0) ∧ w1.cell? ⟨w.heap.size + 1, 1, none⟩ = some (.int .i64 0) ∧ w1.cell? ⟨w.heap.size + 1, 2, none⟩ = some (.int .i64 0) ∧ w1.cell? ⟨w.heap.size + 1, 3, none⟩ = some (.int .i64 0) ∧ w1.cell? ⟨w.heap.size + 1, 4, none⟩ = some (.int .i64 0) ∧ w1.cell? ⟨w.heap.size + 1, 5, none⟩ = some (.int .i64 0) := (by refine ⟨?_, ?_, ?_, ?_, ?_, ?_⟩ <;> (rw [hb.cell (by first | omega | (simp; done) | (simp; omega))]; try (simp [go_sem, World.cell?_alloc_past]))))
 refine bodyPost_ret (v := .tuple #[.agg #[.int .i64 0, .int .i64 0, .int .i64 0, .int .i64 0, .int .i64 0, .int .i64 0], .int .i64 1]) (by simp [results, Try.results67, go_sem, z0, z1, z2, z3, z4, z5]) rfl ⟨rfl, ?_⟩
 exact BL
set_option maxHeartbeats 1000000 in
theorem ledNext_far (k n b y s p d : Int) (h : ledRight ⟨k, n, b, y, s, p⟩ = true) (hd : d < 0 ∨ 1099511627776 < d) (w : World) :
 Calls Try.prog 67 #[.agg #[.int .i64 k, .int .i64 n, .int .i64 b, .int .i64 y, .int .i64 s, .int .i64 p], .int .i64 d] w fun e w' => e = .returned (.tuple #[.agg #[.int .i64 0, .int .i64 0, .int .i64 0, .int .i64 0, .int .i64 0, .int .i64 0], .int .i64 2]) ∧ Below w.heap.size w w' := by
 have H := hide h
 clear h
 rcases hd with hd | hd
 all_goals
  go_enter Try.func67, Try.ntmps67
  go_wp2_with (go_at_call 66; refine (ledRight_t _ _ _ _ _ _ H.out _).mono ?_; rintro e w1 ⟨rfl, hb⟩; have hz := hb.size; have hf := (bcell hb).2; obtain ⟨c0, c1, c2, c3, c4, c5⟩ : w1.cell? ⟨w.heap.size, 0, none⟩ = some (.int .i64 k) ∧ w1.cell? ⟨w.heap.size, 1, none⟩ = some (.int .i64 n) ∧ w1.cell? ⟨w.heap.size, 2, none⟩ = some (.int .i64 b) ∧ w1.cell? ⟨w.heap.size, 3, none⟩ = some (.int .i64 y) ∧ w1.cell? ⟨w.heap.size, 4, none⟩ = some (.int .i64 s) ∧ w1.cell? ⟨w.heap.size, 5, none⟩ = some (.int .i64 p) := (by refine ⟨?_, ?_, ?_, ?_, ?_, ?_⟩ <;> (rw [hb.cell (by first | omega | (simp; done) | (simp; omega))]; try (simp [go_sem, World.cell?_alloc_past]))); obtain ⟨z0, z1, z2, z3, z4, z5⟩ : w1.cell? ⟨w.heap.size + 1, 0, none⟩ = some (.int .i64 0) ∧ w1.cell? ⟨w.heap.size + 1, 1, none⟩ = some (.int .i64 0) ∧ w1.cell? ⟨w.heap.size + 1, 2, none⟩ = some (.int .i64 0) ∧ w1.cell? ⟨w.heap.size + 1, 3, none⟩ = some (.int .i64 0) ∧ w1.cell? ⟨w.heap.size + 1, 4, none⟩ = some (.int .i64 0) ∧ w1.cell? ⟨w.heap.size + 1, 5, none⟩ = some (.int .i64 0) := (by refine ⟨?_, ?_, ?_, ?_, ?_, ?_⟩ <;> (rw [hb.cell (by first | omega | (simp; done) | (simp; omega))]; try (simp [go_sem, World.cell?_alloc_past]))))
  refine bodyPost_ret (v := .tuple #[.agg #[.int .i64 0, .int .i64 0, .int .i64 0, .int .i64 0, .int .i64 0, .int .i64 0], .int .i64 2]) (by simp [results, Try.results67, go_sem, z0, z1, z2, z3, z4, z5]) rfl ⟨rfl, ?_⟩
  exact BL
set_option maxHeartbeats 2000000 in
theorem ledNext_ok (k n b y s p d : Int) (h : ledRight ⟨k, n, b, y, s, p⟩ = true) (hd0 : 0 ≤ d) (hd1 : d ≤ 1099511627776) (w : World) :
 Calls Try.prog 67 #[.agg #[.int .i64 k, .int .i64 n, .int .i64 b, .int .i64 y, .int .i64 s, .int .i64 p], .int .i64 d] w fun e w' => e = .returned (.tuple #[.agg #[.int .i64 k, .int .i64 (ledAll ⟨k, n, b, y, s, p⟩ (d - lowBase b d) / 4), .int .i64 (lowBase b d), .int .i64 y, .int .i64 s, .int .i64 (ledAll ⟨k, n, b, y, s, p⟩ (d - lowBase b d) % 4)], .int .i64 0]) ∧ Below w.heap.size w w' := by
 have H := hide h
 simp only [ledRight, decide_eq_true_eq] at h
 obtain ⟨q1, q2, q3, q4, q5, q6, q7, q8, q9, q10⟩ := h
 have Q := hide q1
 clear q1 q6 q7 q10
 rcases (show b < 0 ∨ (0 ≤ b ∧ d < b) ∨ (0 ≤ b ∧ b ≤ d) by omega) with hb0 | ⟨hb0, hb1⟩ | ⟨hb0, hb1⟩
 all_goals
  go_enter Try.func67, Try.ntmps67
  go_wp2_with (go_at_call 66; refine (ledRight_t _ _ _ _ _ _ H.out _).mono ?_; rintro e w1 ⟨rfl, hb⟩; have hz := hb.size; have hf := (bcell hb).2; obtain ⟨c0, c1, c2, c3, c4, c5⟩ : w1.cell? ⟨w.heap.size, 0, none⟩ = some (.int .i64 k) ∧ w1.cell? ⟨w.heap.size, 1, none⟩ = some (.int .i64 n) ∧ w1.cell? ⟨w.heap.size, 2, none⟩ = some (.int .i64 b) ∧ w1.cell? ⟨w.heap.size, 3, none⟩ = some (.int .i64 y) ∧ w1.cell? ⟨w.heap.size, 4, none⟩ = some (.int .i64 s) ∧ w1.cell? ⟨w.heap.size, 5, none⟩ = some (.int .i64 p) := (by refine ⟨?_, ?_, ?_, ?_, ?_, ?_⟩ <;> (rw [hb.cell (by first | omega | (simp; done) | (simp; omega))]; try (simp [go_sem, World.cell?_alloc_past]))); obtain ⟨z0, z1, z2, z3, z4, z5⟩ : w1.cell? ⟨w.heap.size + 1, 0, none⟩ = some (.int .i64 0) ∧ w1.cell? ⟨w.heap.size + 1, 1, none⟩ = some (.int .i64 0) ∧ w1.cell? ⟨w.heap.size + 1, 2, none⟩ = some (.int .i64 0) ∧ w1.cell? ⟨w.heap.size + 1, 3, none⟩ = some (.int .i64 0) ∧ w1.cell? ⟨w.heap.size + 1, 4, none⟩ = some (.int .i64 0) ∧ w1.cell? ⟨w.heap.size + 1, 5, none⟩ = some (.int .i64 0) := (by refine ⟨?_, ?_, ?_, ?_, ?_, ?_⟩ <;> (rw [hb.cell (by first | omega | (simp; done) | (simp; omega))]; try (simp [go_sem, World.cell?_alloc_past]))))
  all_goals (refine bodyPost_ret (v := .tuple #[.agg #[.int .i64 k, .int .i64 (ledAll ⟨k, n, b, y, s, p⟩ (d - lowBase b d) / 4), .int .i64 (lowBase b d), .int .i64 y, .int .i64 s, .int .i64 (ledAll ⟨k, n, b, y, s, p⟩ (d - lowBase b d) % 4)], .int .i64 0]) ?_ rfl ⟨rfl, ?_⟩)
  all_goals first | (exact BL; done) | skip
  all_goals (simp [results, Try.results67, go_sem, c0, c1, c2, c3, c4, c5, z0, z1, z2, z3, z4, z5])
 all_goals (simp only [ledAll, lowBase])
 all_goals omega
end Go.Proofs.Ytagbikgfkakbfaa
