/-
  WALKS: duel.of.
-/
import Derived.Test.YtjjikhaaimfneaaDoorLkPass
import Derived.Test.YtjjikhaaimfneaaDoorBlkC
import Derived.Test.YtjjikhaaimfneaaDoorMin
import Derived.Laws.EntriesVeiled
namespace Go.Proofs.YtjjikhaaimfneaaDoor
open Go.RowKit
set_option linter.unusedSimpArgs false
set_option linter.unusedVariables false

attribute [local go_sem] iteMin iteMax iteMinN iteMaxN

set_option maxRecDepth 100000 in
theorem of_1 (w : World) : Calls Tryd.prog 17 #[.int .i64 1] w fun e w' => e = .returned (.tuple #[.agg #[.func (.func 27) #[] #[], .func (.func 28) #[] #[], .func (.func 29) #[] #[]], .bool true]) ∧ Below w.heap.size w w' := by
  obtain ⟨S, hS⟩ : ∃ S, w.heap.size = S := ⟨_, rfl⟩
  go_enter Tryd.func17, Tryd.ntmps17
  go_wp2
  have z := Blk.new w [.func (.func 27) #[] #[], .func (.func 28) #[] #[], .func (.func 29) #[] #[]] 48
  have z0 := (z 0 _ rfl).1; have z1 := (z 1 _ rfl).1; have z2 := (z 2 _ rfl).1
  rw [hS] at z0 z1 z2
  refine bodyPost_ret (v := .tuple #[.agg #[.func (.func 27) #[] #[], .func (.func 28) #[] #[], .func (.func 29) #[] #[]], .bool true]) ?_ rfl ⟨rfl, ?_⟩
  · simp [results, Tryd.f17, go_sem, z0, z1, z2]
  · exact (Below.refl _ _).alloc (Nat.le_refl _) _

set_option maxRecDepth 100000 in
theorem of_2 (w : World) : Calls Tryd.prog 17 #[.int .i64 2] w fun e w' => e = .returned (.tuple #[.agg #[.func (.func 30) #[] #[], .func (.func 31) #[] #[], .func (.func 32) #[] #[]], .bool true]) ∧ Below w.heap.size w w' := by
  obtain ⟨S, hS⟩ : ∃ S, w.heap.size = S := ⟨_, rfl⟩
  go_enter Tryd.func17, Tryd.ntmps17
  go_wp2
  have z := Blk.new w [.func (.func 30) #[] #[], .func (.func 31) #[] #[], .func (.func 32) #[] #[]] 48
  have z0 := (z 0 _ rfl).1; have z1 := (z 1 _ rfl).1; have z2 := (z 2 _ rfl).1
  rw [hS] at z0 z1 z2
  refine bodyPost_ret (v := .tuple #[.agg #[.func (.func 30) #[] #[], .func (.func 31) #[] #[], .func (.func 32) #[] #[]], .bool true]) ?_ rfl ⟨rfl, ?_⟩
  · simp [results, Tryd.f17, go_sem, z0, z1, z2]
  · exact (Below.refl _ _).alloc (Nat.le_refl _) _

set_option maxRecDepth 100000 in
theorem of_3 (w : World) : Calls Tryd.prog 17 #[.int .i64 3] w fun e w' => e = .returned (.tuple #[.agg #[.func (.func 33) #[] #[], .func (.func 34) #[] #[], .func (.func 35) #[] #[]], .bool true]) ∧ Below w.heap.size w w' := by
  obtain ⟨S, hS⟩ : ∃ S, w.heap.size = S := ⟨_, rfl⟩
  go_enter Tryd.func17, Tryd.ntmps17
  go_wp2
  have z := Blk.new w [.func (.func 33) #[] #[], .func (.func 34) #[] #[], .func (.func 35) #[] #[]] 48
  have z0 := (z 0 _ rfl).1; have z1 := (z 1 _ rfl).1; have z2 := (z 2 _ rfl).1
  rw [hS] at z0 z1 z2
  refine bodyPost_ret (v := .tuple #[.agg #[.func (.func 33) #[] #[], .func (.func 34) #[] #[], .func (.func 35) #[] #[]], .bool true]) ?_ rfl ⟨rfl, ?_⟩
  · simp [results, Tryd.f17, go_sem, z0, z1, z2]
  · exact (Below.refl _ _).alloc (Nat.le_refl _) _

set_option maxRecDepth 100000 in
theorem of_no (k : Int) (h : k < 1 ∨ 3 < k) (w : World) : Calls Tryd.prog 17 #[.int .i64 k] w fun e w' => e = .returned (.tuple #[.agg #[.nilFunc, .nilFunc, .nilFunc], .bool false]) ∧ Below w.heap.size w w' := by
  obtain ⟨S, hS⟩ : ∃ S, w.heap.size = S := ⟨_, rfl⟩
  have h1 : (k == 1) = false := by simp; omega
  have h2 : (k == 2) = false := by simp; omega
  have h3 : (k == 3) = false := by simp; omega
  clear h
  go_enter Tryd.func17, Tryd.ntmps17
  go_wp2
  have z := Blk.new w [.nilFunc, .nilFunc, .nilFunc] 48
  have z0 := (z 0 _ rfl).1; have z1 := (z 1 _ rfl).1; have z2 := (z 2 _ rfl).1
  rw [hS] at z0 z1 z2
  refine bodyPost_ret (v := .tuple #[.agg #[.nilFunc, .nilFunc, .nilFunc], .bool false]) ?_ rfl ⟨rfl, ?_⟩
  · simp [results, Tryd.f17, go_sem, z0, z1, z2]
  · exact (Below.refl _ _).alloc (Nat.le_refl _) _
theorem of_yes (k : Int) (h1 : 1 ≤ k) (h2 : k ≤ 3) (w : World) : Calls Tryd.prog 17 #[.int .i64 k] w fun e w' => (∃ f g h : Nat, e = .returned (.tuple #[.agg #[.func (.func f) #[] #[], .func (.func g) #[] #[], .func (.func h) #[] #[]], .bool true])) ∧ Below w.heap.size w w' := by
  rcases (show k = 1 ∨ k = 2 ∨ k = 3 by omega) with rfl | rfl | rfl
  · exact (of_1 w).mono fun e w' ⟨h, hB⟩ => ⟨⟨_, _, _, h⟩, hB⟩
  · exact (of_2 w).mono fun e w' ⟨h, hB⟩ => ⟨⟨_, _, _, h⟩, hB⟩
  · exact (of_3 w).mono fun e w' ⟨h, hB⟩ => ⟨⟨_, _, _, h⟩, hB⟩

end Go.Proofs.YtjjikhaaimfneaaDoor
