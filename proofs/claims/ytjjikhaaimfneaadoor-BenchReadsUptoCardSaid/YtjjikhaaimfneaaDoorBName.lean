/-
  WALKS: bench.name, the reference's uname.
-/
import Derived.Test.YtjjikhaaimfneaaDoorBGl
namespace Go.Proofs.YtjjikhaaimfneaaDoor
open Go.RowKit
set_option linter.unusedSimpArgs false
set_option linter.unusedVariables false

set_option maxRecDepth 100000 in
set_option maxHeartbeats 4000000 in
theorem name_any (k : Int) (hk : 1 ≤ k ∧ k ≤ 3) (w : World) (h : GL w) : Calls Tryd.prog 9 #[.int .i64 k] w fun e w' => e = .returned (.string ⟨(nameL k).toArray⟩) ∧ Below w.heap.size w w' := by
  have HG := hide h
  clear h
  obtain ⟨S, hS⟩ : ∃ S, w.heap.size = S := ⟨_, rfl⟩
  rcases (show k = 1 ∨ k = 2 ∨ k = 3 by omega) with rfl | rfl | rfl
  all_goals
    go_enter Tryd.func9, Tryd.ntmps9
    go_wp2_with (go_at_call 15; refine (fields_any w HG.out).mono ?_; rintro e w1 ⟨rfl, hw1⟩; have c0 : w1.cell? ⟨S, 0, none⟩ = some (.string ⟨veL.toArray⟩) := (by rw [← hS, hw1]; simp); have c1 : w1.cell? ⟨S, 1, none⟩ = some (.string ⟨coL.toArray⟩) := (by rw [← hS, hw1]; simp); have c2 : w1.cell? ⟨S, 2, none⟩ = some (.string ⟨leL.toArray⟩) := (by rw [← hS, hw1]; simp); have hb := (by rw [hw1]; exact (Below.refl _ _).alloc (Nat.le_refl _) _ : Below w.heap.size w w1); clear hw1)
    go_ret
    exact ⟨rfl, hb⟩
set_option maxRecDepth 100000 in
set_option maxHeartbeats 4000000 in
theorem uname_any (k : Int) (hk : 1 ≤ k ∧ k ≤ 3) (w : World) : Calls Tryd.prog 13 #[.int .i64 k] w fun e w' => e = .returned (.string ⟨(nameL k).toArray⟩) ∧ Below w.heap.size w w' := by
  rcases (show k = 1 ∨ k = 2 ∨ k = 3 by omega) with rfl | rfl | rfl
  all_goals
    go_enter Tryd.func13, Tryd.ntmps13
    go_wp2_with fail
    go_ret
    exact ⟨rfl, (Below.refl _ _).alloc (Nat.le_refl _) _⟩
end Go.Proofs.YtjjikhaaimfneaaDoor
