/-
  Lemmas and walks for the statement: BlkC, Duel1, Duel2, RegG.
-/
import Derived.Test.YtjjikhaaimfneaaGreatDoorU03
import Derived.Test.YtjjikhaaimfneaaGreatDoorU01
import Derived.Test.YtjjikhaaimfneaaGreatDoorU02
import Derived.Laws.EntriesVeiled
import Derived.Deep.RegionHeld3
import Derived.BigRegion
import Derived.WalkKit
namespace Go.Proofs.YtjjikhaaimfneaaGreatDoor
open Go.RowKit
set_option linter.unusedSimpArgs false
set_option linter.unusedVariables false
theorem Blk.c2 {Z : World} {b : Nat} {v0 v1 : Value} (h : Blk Z b [v0, v1]) : Z.cell? ⟨b, 0, none⟩ = some v0 ∧ Z.cell? ⟨b, 1, none⟩ = some v1 :=
 ⟨(h 0 _ rfl).1, (h 1 _ rfl).1⟩
theorem Blk.c5 {Z : World} {b : Nat} {v0 v1 v2 v3 v4 : Value} (h : Blk Z b [v0, v1, v2, v3, v4]) : Z.cell? ⟨b, 0, none⟩ = some v0 ∧ Z.cell? ⟨b, 1, none⟩ = some v1 ∧ Z.cell? ⟨b, 2, none⟩ = some v2 ∧ Z.cell? ⟨b, 3, none⟩ = some v3 ∧ Z.cell? ⟨b, 4, none⟩ = some v4 :=
 ⟨(h 0 _ rfl).1, (h 1 _ rfl).1, (h 2 _ rfl).1, (h 3 _ rfl).1, (h 4 _ rfl).1⟩
theorem Blk.cf5 {Z : World} {b : Nat} {v0 v1 v2 v3 v4 : Value} (h : Blk Z b [v0, v1, v2, v3, v4]) : Z.cell? ⟨b, 0, none⟩ = some v0 ∧ Z.frozen? ⟨b, 0, none⟩ = false ∧ Z.cell? ⟨b, 1, none⟩ = some v1 ∧ Z.frozen? ⟨b, 1, none⟩ = false ∧ Z.cell? ⟨b, 2, none⟩ = some v2 ∧ Z.frozen? ⟨b, 2, none⟩ = false ∧ Z.cell? ⟨b, 3, none⟩ = some v3 ∧ Z.frozen? ⟨b, 3, none⟩ = false ∧ Z.cell? ⟨b, 4, none⟩ = some v4 ∧ Z.frozen? ⟨b, 4, none⟩ = false :=
 ⟨(h 0 _ rfl).1, (h 0 _ rfl).2, (h 1 _ rfl).1, (h 1 _ rfl).2, (h 2 _ rfl).1, (h 2 _ rfl).2, (h 3 _ rfl).1, (h 3 _ rfl).2, (h 4 _ rfl).1, (h 4 _ rfl).2⟩
theorem Blk.c6 {Z : World} {b : Nat} {v0 v1 v2 v3 v4 v5 : Value} (h : Blk Z b [v0, v1, v2, v3, v4, v5]) : Z.cell? ⟨b, 0, none⟩ = some v0 ∧ Z.cell? ⟨b, 1, none⟩ = some v1 ∧ Z.cell? ⟨b, 2, none⟩ = some v2 ∧ Z.cell? ⟨b, 3, none⟩ = some v3 ∧ Z.cell? ⟨b, 4, none⟩ = some v4 ∧ Z.cell? ⟨b, 5, none⟩ = some v5 :=
 ⟨(h 0 _ rfl).1, (h 1 _ rfl).1, (h 2 _ rfl).1, (h 3 _ rfl).1, (h 4 _ rfl).1, (h 5 _ rfl).1⟩
theorem Blk.cf6 {Z : World} {b : Nat} {v0 v1 v2 v3 v4 v5 : Value} (h : Blk Z b [v0, v1, v2, v3, v4, v5]) : Z.cell? ⟨b, 0, none⟩ = some v0 ∧ Z.frozen? ⟨b, 0, none⟩ = false ∧ Z.cell? ⟨b, 1, none⟩ = some v1 ∧ Z.frozen? ⟨b, 1, none⟩ = false ∧ Z.cell? ⟨b, 2, none⟩ = some v2 ∧ Z.frozen? ⟨b, 2, none⟩ = false ∧ Z.cell? ⟨b, 3, none⟩ = some v3 ∧ Z.frozen? ⟨b, 3, none⟩ = false ∧ Z.cell? ⟨b, 4, none⟩ = some v4 ∧ Z.frozen? ⟨b, 4, none⟩ = false ∧ Z.cell? ⟨b, 5, none⟩ = some v5 ∧ Z.frozen? ⟨b, 5, none⟩ = false :=
 ⟨(h 0 _ rfl).1, (h 0 _ rfl).2, (h 1 _ rfl).1, (h 1 _ rfl).2, (h 2 _ rfl).1, (h 2 _ rfl).2, (h 3 _ rfl).1, (h 3 _ rfl).2, (h 4 _ rfl).1, (h 4 _ rfl).2, (h 5 _ rfl).1, (h 5 _ rfl).2⟩
theorem Blk.c14 {Z : World} {b : Nat} {v0 v1 v2 v3 v4 v5 v6 v7 v8 v9 v10 v11 v12 v13 : Value} (h : Blk Z b [v0, v1, v2, v3, v4, v5, v6, v7, v8, v9, v10, v11, v12, v13]) : Z.cell? ⟨b, 0, none⟩ = some v0 ∧ Z.cell? ⟨b, 1, none⟩ = some v1 ∧ Z.cell? ⟨b, 2, none⟩ = some v2 ∧ Z.cell? ⟨b, 3, none⟩ = some v3 ∧ Z.cell? ⟨b, 4, none⟩ = some v4 ∧ Z.cell? ⟨b, 5, none⟩ = some v5 ∧ Z.cell? ⟨b, 6, none⟩ = some v6 ∧ Z.cell? ⟨b, 7, none⟩ = some v7 ∧ Z.cell? ⟨b, 8, none⟩ = some v8 ∧ Z.cell? ⟨b, 9, none⟩ = some v9 ∧ Z.cell? ⟨b, 10, none⟩ = some v10 ∧ Z.cell? ⟨b, 11, none⟩ = some v11 ∧ Z.cell? ⟨b, 12, none⟩ = some v12 ∧ Z.cell? ⟨b, 13, none⟩ = some v13 :=
 ⟨(h 0 _ rfl).1, (h 1 _ rfl).1, (h 2 _ rfl).1, (h 3 _ rfl).1, (h 4 _ rfl).1, (h 5 _ rfl).1, (h 6 _ rfl).1, (h 7 _ rfl).1, (h 8 _ rfl).1, (h 9 _ rfl).1, (h 10 _ rfl).1, (h 11 _ rfl).1, (h 12 _ rfl).1, (h 13 _ rfl).1⟩
theorem Blk.cf14 {Z : World} {b : Nat} {v0 v1 v2 v3 v4 v5 v6 v7 v8 v9 v10 v11 v12 v13 : Value} (h : Blk Z b [v0, v1, v2, v3, v4, v5, v6, v7, v8, v9, v10, v11, v12, v13]) : Z.cell? ⟨b, 0, none⟩ = some v0 ∧ Z.frozen? ⟨b, 0, none⟩ = false ∧ Z.cell? ⟨b, 1, none⟩ = some v1 ∧ Z.frozen? ⟨b, 1, none⟩ = false ∧ Z.cell? ⟨b, 2, none⟩ = some v2 ∧ Z.frozen? ⟨b, 2, none⟩ = false ∧ Z.cell? ⟨b, 3, none⟩ = some v3 ∧ Z.frozen? ⟨b, 3, none⟩ = false ∧ Z.cell? ⟨b, 4, none⟩ = some v4 ∧ Z.frozen? ⟨b, 4, none⟩ = false ∧ Z.cell? ⟨b, 5, none⟩ = some v5 ∧ Z.frozen? ⟨b, 5, none⟩ = false ∧ Z.cell? ⟨b, 6, none⟩ = some v6 ∧ Z.frozen? ⟨b, 6, none⟩ = false ∧ Z.cell? ⟨b, 7, none⟩ = some v7 ∧ Z.frozen? ⟨b, 7, none⟩ = false ∧ Z.cell? ⟨b, 8, none⟩ = some v8 ∧ Z.frozen? ⟨b, 8, none⟩ = false ∧ Z.cell? ⟨b, 9, none⟩ = some v9 ∧ Z.frozen? ⟨b, 9, none⟩ = false ∧ Z.cell? ⟨b, 10, none⟩ = some v10 ∧ Z.frozen? ⟨b, 10, none⟩ = false ∧ Z.cell? ⟨b, 11, none⟩ = some v11 ∧ Z.frozen? ⟨b, 11, none⟩ = false ∧ Z.cell? ⟨b, 12, none⟩ = some v12 ∧ Z.frozen? ⟨b, 12, none⟩ = false ∧ Z.cell? ⟨b, 13, none⟩ = some v13 ∧ Z.frozen? ⟨b, 13, none⟩ = false :=
 ⟨(h 0 _ rfl).1, (h 0 _ rfl).2, (h 1 _ rfl).1, (h 1 _ rfl).2, (h 2 _ rfl).1, (h 2 _ rfl).2, (h 3 _ rfl).1, (h 3 _ rfl).2, (h 4 _ rfl).1, (h 4 _ rfl).2, (h 5 _ rfl).1, (h 5 _ rfl).2, (h 6 _ rfl).1, (h 6 _ rfl).2, (h 7 _ rfl).1, (h 7 _ rfl).2, (h 8 _ rfl).1, (h 8 _ rfl).2, (h 9 _ rfl).1, (h 9 _ rfl).2, (h 10 _ rfl).1, (h 10 _ rfl).2, (h 11 _ rfl).1, (h 11 _ rfl).2, (h 12 _ rfl).1, (h 12 _ rfl).2, (h 13 _ rfl).1, (h 13 _ rfl).2⟩
theorem Blk.by14 {V : World} {b : Nat} {v0 v1 v2 v3 v4 v5 v6 v7 v8 v9 v10 v11 v12 v13 : Value} (h : Blk V b [v0, v1, v2, v3, v4, v5, v6, v7, v8, v9, v10, v11, v12, v13]) : (∀ q : Beyond V, q.w.cell? ⟨b, 0, none⟩ = some v0) ∧ (∀ q : Beyond V, q.w.cell? ⟨b, 1, none⟩ = some v1) ∧ (∀ q : Beyond V, q.w.cell? ⟨b, 2, none⟩ = some v2) ∧ (∀ q : Beyond V, q.w.cell? ⟨b, 3, none⟩ = some v3) ∧ (∀ q : Beyond V, q.w.cell? ⟨b, 4, none⟩ = some v4) ∧ (∀ q : Beyond V, q.w.cell? ⟨b, 5, none⟩ = some v5) ∧ (∀ q : Beyond V, q.w.cell? ⟨b, 6, none⟩ = some v6) ∧ (∀ q : Beyond V, q.w.cell? ⟨b, 7, none⟩ = some v7) ∧ (∀ q : Beyond V, q.w.cell? ⟨b, 8, none⟩ = some v8) ∧ (∀ q : Beyond V, q.w.cell? ⟨b, 9, none⟩ = some v9) ∧ (∀ q : Beyond V, q.w.cell? ⟨b, 10, none⟩ = some v10) ∧ (∀ q : Beyond V, q.w.cell? ⟨b, 11, none⟩ = some v11) ∧ (∀ q : Beyond V, q.w.cell? ⟨b, 12, none⟩ = some v12) ∧ (∀ q : Beyond V, q.w.cell? ⟨b, 13, none⟩ = some v13) :=
 ⟨fun q => q.cell h.lt (h 0 _ rfl).1, fun q => q.cell h.lt (h 1 _ rfl).1, fun q => q.cell h.lt (h 2 _ rfl).1, fun q => q.cell h.lt (h 3 _ rfl).1, fun q => q.cell h.lt (h 4 _ rfl).1, fun q => q.cell h.lt (h 5 _ rfl).1, fun q => q.cell h.lt (h 6 _ rfl).1, fun q => q.cell h.lt (h 7 _ rfl).1, fun q => q.cell h.lt (h 8 _ rfl).1, fun q => q.cell h.lt (h 9 _ rfl).1, fun q => q.cell h.lt (h 10 _ rfl).1, fun q => q.cell h.lt (h 11 _ rfl).1, fun q => q.cell h.lt (h 12 _ rfl).1, fun q => q.cell h.lt (h 13 _ rfl).1⟩
end Go.Proofs.YtjjikhaaimfneaaGreatDoor
namespace Go.Proofs.YtjjikhaaimfneaaGreatDoor
open Go.RowKit
set_option linter.unusedSimpArgs false
set_option linter.unusedVariables false
attribute [local go_sem] iteMin iteMax iteMinN iteMaxN
set_option maxRecDepth 100000 in
theorem of_1 (w : World) : Calls Tryz.prog 87 #[.int .i64 1] w fun e w' => e = .returned (.tuple #[.agg #[.func (.func 112) #[] #[], .func (.func 113) #[] #[], .func (.func 114) #[] #[]], .bool true]) ∧ Below w.heap.size w w' := by
 obtain ⟨S, hS⟩ : ∃ S, w.heap.size = S := ⟨_, rfl⟩
 go_enter Tryz.func87, Tryz.ntmps87
 go_wp2
 have z := Blk.new w [.func (.func 112) #[] #[], .func (.func 113) #[] #[], .func (.func 114) #[] #[]] 154
 have z0 := (z 0 _ rfl).1; have z1 := (z 1 _ rfl).1; have z2 := (z 2 _ rfl).1
 rw [hS] at z0 z1 z2
 refine bodyPost_ret (v := .tuple #[.agg #[.func (.func 112) #[] #[], .func (.func 113) #[] #[], .func (.func 114) #[] #[]], .bool true]) ?_ rfl ⟨rfl, ?_⟩
 · simp [results, Tryz.f87, go_sem, z0, z1, z2]
 · exact (Below.refl _ _).alloc (Nat.le_refl _) _
set_option maxRecDepth 100000 in
theorem of_2 (w : World) : Calls Tryz.prog 87 #[.int .i64 2] w fun e w' => e = .returned (.tuple #[.agg #[.func (.func 115) #[] #[], .func (.func 116) #[] #[], .func (.func 117) #[] #[]], .bool true]) ∧ Below w.heap.size w w' := by
 obtain ⟨S, hS⟩ : ∃ S, w.heap.size = S := ⟨_, rfl⟩
 go_enter Tryz.func87, Tryz.ntmps87
 go_wp2
 have z := Blk.new w [.func (.func 115) #[] #[], .func (.func 116) #[] #[], .func (.func 117) #[] #[]] 154
 have z0 := (z 0 _ rfl).1; have z1 := (z 1 _ rfl).1; have z2 := (z 2 _ rfl).1
 rw [hS] at z0 z1 z2
 refine bodyPost_ret (v := .tuple #[.agg #[.func (.func 115) #[] #[], .func (.func 116) #[] #[], .func (.func 117) #[] #[]], .bool true]) ?_ rfl ⟨rfl, ?_⟩
 · simp [results, Tryz.f87, go_sem, z0, z1, z2]
 · exact (Below.refl _ _).alloc (Nat.le_refl _) _
set_option maxRecDepth 100000 in
theorem of_3 (w : World) : Calls Tryz.prog 87 #[.int .i64 3] w fun e w' => e = .returned (.tuple #[.agg #[.func (.func 16) #[] #[], .func (.func 33) #[] #[], .func (.func 17) #[] #[]], .bool true]) ∧ Below w.heap.size w w' := by
 obtain ⟨S, hS⟩ : ∃ S, w.heap.size = S := ⟨_, rfl⟩
 go_enter Tryz.func87, Tryz.ntmps87
 go_wp2
 have z := Blk.new w [.func (.func 16) #[] #[], .func (.func 33) #[] #[], .func (.func 17) #[] #[]] 154
 have z0 := (z 0 _ rfl).1; have z1 := (z 1 _ rfl).1; have z2 := (z 2 _ rfl).1
 rw [hS] at z0 z1 z2
 refine bodyPost_ret (v := .tuple #[.agg #[.func (.func 16) #[] #[], .func (.func 33) #[] #[], .func (.func 17) #[] #[]], .bool true]) ?_ rfl ⟨rfl, ?_⟩
 · simp [results, Tryz.f87, go_sem, z0, z1, z2]
 · exact (Below.refl _ _).alloc (Nat.le_refl _) _
set_option maxRecDepth 100000 in
theorem of_no (k : Int) (h : k < 1 ∨ 3 < k) (w : World) : Calls Tryz.prog 87 #[.int .i64 k] w fun e w' => e = .returned (.tuple #[.agg #[.nilFunc, .nilFunc, .nilFunc], .bool false]) ∧ Below w.heap.size w w' := by
 obtain ⟨S, hS⟩ : ∃ S, w.heap.size = S := ⟨_, rfl⟩
 have h1 : (k == 1) = false := by simp; omega
 have h2 : (k == 2) = false := by simp; omega
 have h3 : (k == 3) = false := by simp; omega
 clear h
 go_enter Tryz.func87, Tryz.ntmps87
 go_wp2
 have z := Blk.new w [.nilFunc, .nilFunc, .nilFunc] 154
 have z0 := (z 0 _ rfl).1; have z1 := (z 1 _ rfl).1; have z2 := (z 2 _ rfl).1
 rw [hS] at z0 z1 z2
 refine bodyPost_ret (v := .tuple #[.agg #[.nilFunc, .nilFunc, .nilFunc], .bool false]) ?_ rfl ⟨rfl, ?_⟩
 · simp [results, Tryz.f87, go_sem, z0, z1, z2]
 · exact (Below.refl _ _).alloc (Nat.le_refl _) _
theorem of_yes (k : Int) (h1 : 1 ≤ k) (h2 : k ≤ 3) (w : World) : Calls Tryz.prog 87 #[.int .i64 k] w fun e w' => (∃ f g h : Nat, e = .returned (.tuple #[.agg #[.func (.func f) #[] #[], .func (.func g) #[] #[], .func (.func h) #[] #[]], .bool true])) ∧ Below w.heap.size w w' := by
 rcases (show k = 1 ∨ k = 2 ∨ k = 3 by omega) with rfl | rfl | rfl
 · exact (of_1 w).mono fun e w' ⟨h, hB⟩ => ⟨⟨_, _, _, h⟩, hB⟩
 · exact (of_2 w).mono fun e w' ⟨h, hB⟩ => ⟨⟨_, _, _, h⟩, hB⟩
 · exact (of_3 w).mono fun e w' ⟨h, hB⟩ => ⟨⟨_, _, _, h⟩, hB⟩
end Go.Proofs.YtjjikhaaimfneaaGreatDoor
namespace Go.Proofs.YtjjikhaaimfneaaGreatDoor
open Go.RowKit
set_option linter.unusedSimpArgs false
set_option linter.unusedVariables false
attribute [local go_sem] iteMin iteMax iteMinN iteMaxN
def kindsOk (k0 k1 : Int) : Prop := 1 ≤ k0 ∧ k0 ≤ 3 ∧ 1 ≤ k1 ∧ k1 ≤ 3
def rangeOk (R Q J : Int) : Prop := 1 ≤ R ∧ R ≤ 12 ∧ 0 ≤ Q ∧ Q ≤ 16 ∧ 0 ≤ J ∧ J ≤ 3
def WrongSays (k0 k1 R Q J r : Int) : Prop := (¬ kindsOk k0 k1 ∧ r = 5) ∨ (kindsOk k0 k1 ∧ ¬ rangeOk R Q J ∧ r = 2) ∨ (kindsOk k0 k1 ∧ rangeOk R Q J ∧ r = 0)
theorem wrongSays_one {k0 k1 R Q J r r' : Int} (h : WrongSays k0 k1 R Q J r) (h' : WrongSays k0 k1 R Q J r') : r = r' := by
 rcases h with ⟨h1, rfl⟩ | ⟨h1, h2, rfl⟩ | ⟨h1, h2, rfl⟩ <;> rcases h' with ⟨g1, rfl⟩ | ⟨g1, g2, rfl⟩ | ⟨g1, g2, rfl⟩ <;> first | rfl | (exact absurd g1 h1) | (exact absurd h1 g1) | (exact absurd g2 h2) | (exact absurd h2 g2)
def WrongEnds (k0 k1 R Q J : Int) (e : Ending) : Prop := ∃ r, e = .returned (.int .i64 r) ∧ WrongSays k0 k1 R Q J r
theorem WrongEnds.ok {k0 k1 R Q J : Int} {e : Ending} (h : WrongEnds k0 k1 R Q J e) (h1 : kindsOk k0 k1) (h2 : rangeOk R Q J) : e = .returned (.int .i64 0) := by
 obtain ⟨r, rfl, hr⟩ := h
 rw [wrongSays_one hr (.inr (.inr ⟨h1, h2, rfl⟩))]
set_option maxRecDepth 100000 in
set_option maxHeartbeats 4000000 in
theorem dwrong_any (k0 k1 R Q J : Int) (w : World) : Calls Tryz.prog 77 #[.agg #[.int .i64 k0, .int .i64 k1, .int .i64 R, .int .i64 Q, .int .i64 J]] w fun e w' => WrongEnds k0 k1 R Q J e ∧ Below w.heap.size w w' := by
 obtain ⟨S, hS⟩ : ∃ S, w.heap.size = S := ⟨_, rfl⟩
 have bW := Blk.new w [.int .i64 k0, .int .i64 k1, .int .i64 R, .int .i64 Q, .int .i64 J] 49
 have hWB : Below S w (w.alloc (.cells #[.int .i64 k0, .int .i64 k1, .int .i64 R, .int .i64 Q, .int .i64 J] 49)) := by rw [← hS]; exact (Below.refl _ _).alloc (Nat.le_refl _) _
 have hWs : (w.alloc (.cells #[.int .i64 k0, .int .i64 k1, .int .i64 R, .int .i64 Q, .int .i64 J] 49)).heap.size = S + 1 := by simp [hS]
 obtain ⟨W, hW⟩ : ∃ W, W = w.alloc (.cells #[.int .i64 k0, .int .i64 k1, .int .i64 R, .int .i64 Q, .int .i64 J] 49) := ⟨_, rfl⟩
 rw [hS, ← hW] at bW
 rw [← hW] at hWB hWs
 have i0 : ∀ w : World, (Instr.index 47 (.agg #[.int .i64 k0, .int .i64 k1]) (.int .i64 0)).run Tryz.prog w = .ok (.int .i64 k0) w := fun _ => by kernel_rfl
 have i1 : ∀ w : World, (Instr.index 47 (.agg #[.int .i64 k0, .int .i64 k1]) (.int .i64 1)).run Tryz.prog w = .ok (.int .i64 k1) w := fun _ => by kernel_rfl
 have HW := hide hW
 go_enter Tryz.func77, Tryz.ntmps77
 clear hW
 go_wp2
 refine wp_loop_rounds 3 ?_
 rw [rounds_succ]
 go_wp2_with fail
 rw [← HW.out]
 by_cases h0 : 1 ≤ k0 ∧ k0 ≤ 3
 case neg =>
  refine (of_no k0 (by omega) W).mono ?_
  rintro e w1 ⟨rfl, hB1⟩
  go_wp2
  go_ret
  exact ⟨⟨_, rfl, .inl ⟨by unfold kindsOk; omega, rfl⟩⟩, by rw [hS]; exact (hWB.trans (hB1.mono (by omega))).alloc (by have := hB1.size; omega) _⟩
 refine (of_yes k0 h0.1 h0.2 W).mono ?_
 rintro e w1 ⟨⟨f, g, h, rfl⟩, hB1⟩
 have hs1 := hB1.size
 have bX := ((bW.below hB1 (by omega)).alloc (.cells #[.func (.func f) #[] #[], .func (.func g) #[] #[], .func (.func h) #[] #[]] 154))
 have hX1 : Below S w (w1.alloc (.cells #[.func (.func f) #[] #[], .func (.func g) #[] #[], .func (.func h) #[] #[]] 154)) := (hWB.trans (hB1.mono (by omega))).alloc (by omega) _
 have hXs : (w1.alloc (.cells #[.func (.func f) #[] #[], .func (.func g) #[] #[], .func (.func h) #[] #[]] 154)).heap.size = w1.heap.size + 1 := by simp
 clear bW hB1 hWB
 go_wp2_with fail
 rw [rounds_succ]
 go_wp2_with fail
 obtain ⟨X, hX⟩ : ∃ X, X = (w1.alloc (.cells #[.func (.func f) #[] #[], .func (.func g) #[] #[], .func (.func h) #[] #[]] 154)) := ⟨_, rfl⟩
 rw [← hX] at bX hX1 hXs ⊢
 clear hX
 by_cases h1 : 1 ≤ k1 ∧ k1 ≤ 3
 case neg =>
  refine (of_no k1 (by omega) X).mono ?_
  rintro e w2 ⟨rfl, hB2⟩
  go_wp2
  go_ret
  exact ⟨⟨_, rfl, .inl ⟨by unfold kindsOk; omega, rfl⟩⟩, by rw [hS]; exact (hX1.trans (hB2.mono (by omega))).alloc (by have := hB2.size; omega) _⟩
 refine (of_yes k1 h1.1 h1.2 X).mono ?_
 rintro e w2 ⟨⟨f', g', h', rfl⟩, hB2⟩
 have hs2 := hB2.size
 obtain ⟨Y, hY⟩ : ∃ Y, Y = (w2.alloc (.cells #[.func (.func f') #[] #[], .func (.func g') #[] #[], .func (.func h') #[] #[]] 154)) := ⟨_, rfl⟩
 have bY : Blk Y S [.int .i64 k0, .int .i64 k1, .int .i64 R, .int .i64 Q, .int .i64 J] := by rw [hY]; exact ((bX.below hB2 (by omega)).alloc _)
 have hY1 : Below S w Y := by rw [hY]; exact (hX1.trans (hB2.mono (by omega))).alloc (by omega) _
 clear bX hB2 hX1
 go_wp2_with fail
 rw [← hY]
 have HYB := hide hY1
 have d2 := (bY 2 _ rfl).1
 have d3 := (bY 3 _ rfl).1
 have d4 := (bY 4 _ rfl).1
 clear hY bY hY1
 rw [rounds_succ]
 by_cases g0 : 1 ≤ R
 case neg => (go_wp2; go_ret; exact ⟨⟨_, rfl, .inr (.inl ⟨by unfold kindsOk; omega, by unfold rangeOk; omega, rfl⟩)⟩, by first | exact HYB.out | (rw [hS]; exact HYB.out) | (rw [hS, ← HW.out]; exact HYB.out) | (rw [← HW.out]; exact HYB.out)⟩)
 by_cases g1 : R ≤ 12
 case neg => (go_wp2; go_ret; exact ⟨⟨_, rfl, .inr (.inl ⟨by unfold kindsOk; omega, by unfold rangeOk; omega, rfl⟩)⟩, by first | exact HYB.out | (rw [hS]; exact HYB.out) | (rw [hS, ← HW.out]; exact HYB.out) | (rw [← HW.out]; exact HYB.out)⟩)
 by_cases g2 : 0 ≤ Q
 case neg => (go_wp2; go_ret; exact ⟨⟨_, rfl, .inr (.inl ⟨by unfold kindsOk; omega, by unfold rangeOk; omega, rfl⟩)⟩, by first | exact HYB.out | (rw [hS]; exact HYB.out) | (rw [hS, ← HW.out]; exact HYB.out) | (rw [← HW.out]; exact HYB.out)⟩)
 by_cases g3 : Q ≤ 16
 case neg => (go_wp2; go_ret; exact ⟨⟨_, rfl, .inr (.inl ⟨by unfold kindsOk; omega, by unfold rangeOk; omega, rfl⟩)⟩, by first | exact HYB.out | (rw [hS]; exact HYB.out) | (rw [hS, ← HW.out]; exact HYB.out) | (rw [← HW.out]; exact HYB.out)⟩)
 by_cases g4 : 0 ≤ J
 case neg => (go_wp2; go_ret; exact ⟨⟨_, rfl, .inr (.inl ⟨by unfold kindsOk; omega, by unfold rangeOk; omega, rfl⟩)⟩, by first | exact HYB.out | (rw [hS]; exact HYB.out) | (rw [hS, ← HW.out]; exact HYB.out) | (rw [← HW.out]; exact HYB.out)⟩)
 by_cases g5 : J ≤ 3
 case neg => (go_wp2; go_ret; exact ⟨⟨_, rfl, .inr (.inl ⟨by unfold kindsOk; omega, by unfold rangeOk; omega, rfl⟩)⟩, by first | exact HYB.out | (rw [hS]; exact HYB.out) | (rw [hS, ← HW.out]; exact HYB.out) | (rw [← HW.out]; exact HYB.out)⟩)
 go_wp2
 go_ret
 exact ⟨⟨_, rfl, .inr (.inr ⟨by unfold kindsOk; omega, by unfold rangeOk; omega, rfl⟩)⟩, by first | exact HYB.out | (rw [hS]; exact HYB.out) | (rw [hS, ← HW.out]; exact HYB.out) | (rw [← HW.out]; exact HYB.out)⟩
set_option maxRecDepth 100000 in
set_option maxHeartbeats 4000000 in
theorem pwrong_any (k0 k1 R Q J : Int) (w : World) : Calls Tryz.prog 81 #[.agg #[.int .i64 k0, .int .i64 k1, .int .i64 R, .int .i64 Q, .int .i64 J]] w fun e w' => WrongEnds k0 k1 R Q J e ∧ Below w.heap.size w w' := by
 obtain ⟨S, hS⟩ : ∃ S, w.heap.size = S := ⟨_, rfl⟩
 have bW := Blk.new w [.int .i64 k0, .int .i64 k1, .int .i64 R, .int .i64 Q, .int .i64 J] 49
 have hWB : Below S w (w.alloc (.cells #[.int .i64 k0, .int .i64 k1, .int .i64 R, .int .i64 Q, .int .i64 J] 49)) := by rw [← hS]; exact (Below.refl _ _).alloc (Nat.le_refl _) _
 have hWs : (w.alloc (.cells #[.int .i64 k0, .int .i64 k1, .int .i64 R, .int .i64 Q, .int .i64 J] 49)).heap.size = S + 1 := by simp [hS]
 obtain ⟨W, hW⟩ : ∃ W, W = w.alloc (.cells #[.int .i64 k0, .int .i64 k1, .int .i64 R, .int .i64 Q, .int .i64 J] 49) := ⟨_, rfl⟩
 rw [hS, ← hW] at bW
 rw [← hW] at hWB hWs
 have HW := hide hW
 go_enter Tryz.func81, Tryz.ntmps81
 have HYB := hide hWB
 clear hW bW hWB
 by_cases h0 : 1 ≤ min k0 k1
 case neg => (go_wp2; go_ret; exact ⟨⟨_, rfl, .inl ⟨by unfold kindsOk; omega, rfl⟩⟩, by first | exact HYB.out | (rw [hS]; exact HYB.out) | (rw [hS, ← HW.out]; exact HYB.out) | (rw [← HW.out]; exact HYB.out)⟩)
 by_cases h1 : max k0 k1 ≤ 3
 case neg => (go_wp2; go_ret; exact ⟨⟨_, rfl, .inl ⟨by unfold kindsOk; omega, rfl⟩⟩, by first | exact HYB.out | (rw [hS]; exact HYB.out) | (rw [hS, ← HW.out]; exact HYB.out) | (rw [← HW.out]; exact HYB.out)⟩)
 by_cases g0 : 1 ≤ R
 case neg => (go_wp2; go_ret; exact ⟨⟨_, rfl, .inr (.inl ⟨by unfold kindsOk; omega, by unfold rangeOk; omega, rfl⟩)⟩, by first | exact HYB.out | (rw [hS]; exact HYB.out) | (rw [hS, ← HW.out]; exact HYB.out) | (rw [← HW.out]; exact HYB.out)⟩)
 by_cases g1 : R ≤ 12
 case neg => (go_wp2; go_ret; exact ⟨⟨_, rfl, .inr (.inl ⟨by unfold kindsOk; omega, by unfold rangeOk; omega, rfl⟩)⟩, by first | exact HYB.out | (rw [hS]; exact HYB.out) | (rw [hS, ← HW.out]; exact HYB.out) | (rw [← HW.out]; exact HYB.out)⟩)
 by_cases g2 : 0 ≤ Q
 case neg => (go_wp2; go_ret; exact ⟨⟨_, rfl, .inr (.inl ⟨by unfold kindsOk; omega, by unfold rangeOk; omega, rfl⟩)⟩, by first | exact HYB.out | (rw [hS]; exact HYB.out) | (rw [hS, ← HW.out]; exact HYB.out) | (rw [← HW.out]; exact HYB.out)⟩)
 by_cases g3 : Q ≤ 16
 case neg => (go_wp2; go_ret; exact ⟨⟨_, rfl, .inr (.inl ⟨by unfold kindsOk; omega, by unfold rangeOk; omega, rfl⟩)⟩, by first | exact HYB.out | (rw [hS]; exact HYB.out) | (rw [hS, ← HW.out]; exact HYB.out) | (rw [← HW.out]; exact HYB.out)⟩)
 by_cases g4 : 0 ≤ J
 case neg => (go_wp2; go_ret; exact ⟨⟨_, rfl, .inr (.inl ⟨by unfold kindsOk; omega, by unfold rangeOk; omega, rfl⟩)⟩, by first | exact HYB.out | (rw [hS]; exact HYB.out) | (rw [hS, ← HW.out]; exact HYB.out) | (rw [← HW.out]; exact HYB.out)⟩)
 by_cases g5 : J ≤ 3
 case neg => (go_wp2; go_ret; exact ⟨⟨_, rfl, .inr (.inl ⟨by unfold kindsOk; omega, by unfold rangeOk; omega, rfl⟩)⟩, by first | exact HYB.out | (rw [hS]; exact HYB.out) | (rw [hS, ← HW.out]; exact HYB.out) | (rw [← HW.out]; exact HYB.out)⟩)
 go_wp2
 go_ret
 exact ⟨⟨_, rfl, .inr (.inr ⟨by unfold kindsOk; omega, by unfold rangeOk; omega, rfl⟩)⟩, by first | exact HYB.out | (rw [hS]; exact HYB.out) | (rw [hS, ← HW.out]; exact HYB.out) | (rw [← HW.out]; exact HYB.out)⟩
end Go.Proofs.YtjjikhaaimfneaaGreatDoor
namespace Go.Proofs.YtjjikhaaimfneaaGreatDoor
open Go
set_option linter.unusedSimpArgs false
set_option linter.unusedVariables false
section
variable {P : Program} {ops : Array Oper} {Q : Exit → Act → World → Prop} {md : Region.Mode} {c : Nat} {F : World → Prop}
def wpAnyG (P : Program) (md : Region.Mode) (ops : Array Oper) (Q : Exit → Act → World → Prop) (c : Nat) (F : World → Prop) : Nat → Array Bool → Act → World → Prop
 | 0, listed, a, w => Region.ready md ops listed = [] ∧ Q .normal a w
 | fuel + 1, listed, a, w =>
   (Region.ready md ops listed = [] → Q .normal a w) ∧
   ∀ i ∈ Region.ready md ops listed, wpOp P ops Q i (fun a' w' => ((listed.setIfInBounds i true).getD c true = false → F w') ∧ wpAnyG P md ops Q c F fuel (listed.setIfInBounds i true) a' w') a w
theorem wpAny_of_G : ∀ (fuel : Nat) (listed : Array Bool) (a : Act) (w : World), wpAnyG P md ops Q c F fuel listed a w → wpAny P md ops Q fuel listed a w
 | 0, _, _, _, h => h
 | fuel + 1, _, _, _, h => ⟨h.1, fun i hi => wpOp_mono (fun a' w' h' => wpAny_of_G fuel _ a' w' h'.2) (h.2 i hi)⟩
structure ClosedG (md : Region.Mode) (ops : Array Oper) (L : Array Bool) : Prop where
 size : L.size = ops.size
 closed : ∀ j oj, ops[j]? = some oj → L.getD j false = true → ∀ e ∈ oj.after, Region.binds md e = true → L.getD e.on false = true
def closedB (md : Region.Mode) (ops : Array Oper) (L : Array Bool) : Bool :=
 decide (L.size = ops.size) && (List.range ops.size).all fun j => match ops[j]? with
  | some oj => !(L.getD j false) || oj.after.all fun e => !(Region.binds md e) || L.getD e.on false
  | none => true
theorem closedB_spec {L : Array Bool} (h : closedB md ops L = true) : ClosedG md ops L := by
 simp only [closedB, Bool.and_eq_true, decide_eq_true_eq, List.all_eq_true, List.mem_range] at h
 refine ⟨h.1, fun j oj hj hl e he hb => ?_⟩
 have hlt : j < ops.size := by
  rcases Nat.lt_or_ge j ops.size with h' | h'
  · exact h'
  · rw [Array.getElem?_eq_none h'] at hj; cases hj
 have h1 := h.2 j hlt
 rw [hj] at h1
 simp only [hl, Bool.not_true, Bool.false_or] at h1
 obtain ⟨k, hk, rfl⟩ := Array.getElem_of_mem he
 have h2 := Array.all_eq_true.1 h1 k hk
 simpa [hb] using h2
theorem ClosedG.set {i : Nat} {L : Array Bool} (inv : ClosedG md ops L) (hi : i ∈ Region.ready md ops L) : ClosedG md ops (L.setIfInBounds i true) := by
 obtain ⟨_, oi, hoi, hall⟩ := mem_ready.1 hi
 refine ⟨by simp [inv.size], fun j oj hj hl e he hb => ?_⟩
 by_cases hij : i = j
 · subst hij
   have : oj = oi := Option.some.inj (hj.symm.trans hoi)
   subst this
   exact getD_set_true (hall e he hb)
 · rw [getD_set_ne false hij] at hl
   exact getD_set_true (inv.closed j oj hj hl e he hb)
def pathB (md : Region.Mode) (ops : Array Oper) : Nat → Nat → Nat → Bool
 | 0, _, _ => false
 | f + 1, j, i => match ops[j]? with
   | some oj => oj.after.any fun e => Region.binds md e && (e.on == i || pathB md ops f e.on i)
   | none => false
theorem path_listed {L : Array Bool} (inv : ClosedG md ops L) : ∀ (f j i : Nat), pathB md ops f j i = true → L.getD j false = true → L.getD i false = true
 | 0, _, _, h, _ => by cases h
 | f + 1, j, i, h, hj => by
   unfold pathB at h
   split at h
   · rename_i oj ho
     obtain ⟨e, he, hb⟩ := Array.any_eq_true'.1 h
     simp only [Bool.and_eq_true, Bool.or_eq_true, beq_iff_eq] at hb
     have h1 := inv.closed j oj ho hj e he hb.1
     rcases hb.2 with h2 | h2
     · rwa [h2] at h1
     · exact path_listed inv f e.on i h2 h1
   · cases h
theorem before_c {L : Array Bool} (inv : ClosedG md ops L) {f i : Nat} (hp : pathB md ops f c i = true) (hc : c < ops.size) (hi : L.getD i true = false) : L.getD c true = false := by
 cases h : L.getD c true with
 | false => rfl
 | true =>
   have h1 : L.getD c false = true := by
    have : c < L.size := by rw [inv.size]; exact hc
    simp [this] at h ⊢; exact h
   have h2 := path_listed inv f c i hp h1
   have h3 : L.getD i false = false := by
    rcases Nat.lt_or_ge i L.size with h' | h'
    · simp [h'] at hi ⊢; exact hi
    · simp [Array.getElem?_eq_none h'] at hi
   rw [h3] at h2; cases h2
theorem wpAnyG_first {i : Nat} {oi : Oper} {v : Value} {F' : World → Prop} (hi : ops[i]? = some oi) (hsel : ∀ (j : Nat) (o : Oper) cs b, ops[j]? = some o → o.op ≠ .select cs b) (hic : i ≠ c)
 (hQ : ∀ c a w, Q (.panic c) (a.put oi.dst v) w → Q (.panic c) a w)
 (hcl : ∀ (L : Array Bool) (w : World), ClosedG md ops L → L.getD i true = false → (L.getD c true = false → F w) → F' w) :
 ∀ (fuel : Nat) (listed : Array Bool) (a : Act) (w : World), ClosedG md ops listed →
  (∀ j oj, ops[j]? = some oj → j ≠ i → listed.getD j true = false → (∀ e ∈ oj.after, Region.binds md e = true → e.on ≠ i) → oi.apart ops oj = true) →
  i ∈ Region.ready md ops listed → YieldsIf P ops F' oi v a → (listed.getD c true = false → F w) →
  wpAnyG P md ops Q c F fuel (listed.setIfInBounds i true) (a.put oi.dst v) w → wpAnyG P md ops Q c F (fuel + 1) listed a w := by
 intro fuel
 induction fuel with
 | zero =>
   intro listed a w inv _ hr hy hS H
   have hF' := hcl listed w inv (mem_ready.1 hr).1 hS
   refine ⟨fun h => (by rw [h] at hr; cases hr), fun j hj => ?_⟩
   by_cases hji : j = i
   · subst hji
     exact hy.wpOp hi hF' ⟨fun h => hS (by rw [getD_set_ne true hic] at h; exact h), H⟩
   · have := ready_mono hj hji
     rw [H.1] at this
     cases this
 | succ fuel ih =>
   intro listed a w inv hfree hr hy hS H
   have hF' := hcl listed w inv (mem_ready.1 hr).1 hS
   refine ⟨fun h => (by rw [h] at hr; cases hr), fun j hj => ?_⟩
   by_cases hji : j = i
   · subst hji
     exact hy.wpOp hi hF' ⟨fun h => hS (by rw [getD_set_ne true hic] at h; exact h), H⟩
   · have h1 := H.2 j (ready_mono hj hji)
     obtain ⟨hjun, oj, hoj, hall⟩ := mem_ready.1 hj
     have hnot : ∀ e ∈ oj.after, Region.binds md e = true → e.on ≠ i := fun e he hb heq => by
      have h1 := hall e he hb
      have h0 := (mem_ready.1 hr).1
      rw [heq] at h1
      rcases Nat.lt_or_ge i listed.size with h' | h'
      · simp [h'] at h0 h1; rw [h0] at h1; cases h1
      · simp [Array.getElem?_eq_none h'] at h1
     have h2 := wpOp_putIf hoj (hfree j oj hoj hji hjun hnot) (fun cs b => hsel i oi cs b hi) (fun cs b => hsel j oj cs b hoj) hQ hy h1
     have hfree' : ∀ k ok, ops[k]? = some ok → k ≠ i → (listed.setIfInBounds j true).getD k true = false →
      (∀ e ∈ ok.after, Region.binds md e = true → e.on ≠ i) → oi.apart ops ok = true := fun k ok hk hki hun hno => by
      refine hfree k ok hk hki ?_ hno
      by_cases hjk : j = k
      · subst hjk; exact hjun
      · rw [getD_set_ne true hjk] at hun; exact hun
     have hS' : ∀ w' : World, (((listed.setIfInBounds i true).setIfInBounds j true).getD c true = false → F w') → ((listed.setIfInBounds j true).getD c true = false → F w') := fun w' h3 h4 => h3 (by
      rw [Array.setIfInBounds_comm _ _ (Ne.symm hji), getD_set_ne true hic]; exact h4)
     refine wpOp_mono (fun a' w' h3 => ⟨hS' w' h3.2.1, ih (listed.setIfInBounds j true) a' w' (inv.set hj) hfree' (ready_mono hr (Ne.symm hji)) h3.1 (hS' w' h3.2.1) ?_⟩) h2
     rw [Array.setIfInBounds_comm _ _ hji]
     exact h3.2.2
theorem wpAnyG_before {i f : Nat} {oi : Oper} {v : Value} {fuel : Nat} {listed : Array Bool} {a : Act} {w : World} (hi : ops[i]? = some oi)
 (hs : Region.noSelect ops = true) (hf : Region.free md ops listed i = true) (hr : (Region.ready md ops listed).contains i = true) (hB : closedB md ops listed = true) (hp : pathB md ops f c i = true) (hc : decide (c < ops.size ∧ i ≠ c) = true)
 (hQ : ∀ c a w, Q (.panic c) (a.put oi.dst v) w → Q (.panic c) a w) (hF : F w) (hy : YieldsIf P ops F oi v a)
 (h : wpAnyG P md ops Q c F fuel (listed.setIfInBounds i true) (a.put oi.dst v) w) : wpAnyG P md ops Q c F (fuel + 1) listed a w :=
 wpAnyG_first hi (Region.noSelect_spec hs) (of_decide_eq_true hc).2 hQ (fun L w inv hL hS => hS (before_c inv hp (of_decide_eq_true hc).1 hL)) fuel listed a w (closedB_spec hB) (Region.free_spec hi hf) (by simpa using hr) hy (fun _ => hF) h
theorem wpAnyG_behind {i : Nat} {oi : Oper} {v : Value} {fuel : Nat} {listed : Array Bool} {a : Act} {w : World} (hi : ops[i]? = some oi)
 (hs : Region.noSelect ops = true) (hf : Region.free md ops listed i = true) (hr : (Region.ready md ops listed).contains i = true) (hB : closedB md ops listed = true) (hc : decide (i ≠ c) = true) (hl : listed.getD c true = true)
 (hQ : ∀ c a w, Q (.panic c) (a.put oi.dst v) w → Q (.panic c) a w) (hy : YieldsIf P ops (fun _ => True) oi v a)
 (h : wpAnyG P md ops Q c F fuel (listed.setIfInBounds i true) (a.put oi.dst v) w) : wpAnyG P md ops Q c F (fuel + 1) listed a w :=
 wpAnyG_first hi (Region.noSelect_spec hs) (of_decide_eq_true hc) hQ (fun L w inv hL hS => trivial) fuel listed a w (closedB_spec hB) (Region.free_spec hi hf) (by simpa using hr) hy (fun h => by rw [hl] at h; cases h) h
theorem wpAnyG_one {i : Nat} {o : Oper} {fuel : Nat} {listed : Array Bool} {a : Act} {w : World} (ho : ops[i]? = some o) (hr : Region.ready md ops listed = [i]) (hl : (listed.setIfInBounds i true).getD c true = true)
 (h : ∀ K' : Act → World → Prop, Shut (∀ a w, wpAnyG P md ops Q c F fuel (listed.setIfInBounds i true) a w → K' a w) → if Region.wanted o (yielded ops a.tmps) = true then Oper.wp P o a w K' Q else K' (a.put o.dst undef) w) : wpAnyG P md ops Q c F (fuel + 1) listed a w := by
 refine ⟨fun h0 => (by rw [hr] at h0; cases h0), fun j hj => ?_⟩
 rw [hr] at hj
 obtain rfl : j = i := by simpa using hj
 exact wpOp_step ho (fun K' hK => h K' (fun a w hW => hK a w ⟨fun h => (by rw [hl] at h; cases h), hW⟩))
theorem wpAnyG_done {listed : Array Bool} {a : Act} {w : World} (hr : Region.ready md ops listed = []) (h : Q .normal a w) : ∀ fuel, wpAnyG P md ops Q c F fuel listed a w
 | 0 => ⟨hr, h⟩
 | _ + 1 => ⟨fun _ => h, by rw [hr]; simp⟩
theorem wp_region_G {id : Nat} {a : Act} {w : World} (c : Nat) (F : World → Prop) (hm : P.follows .mixedOrders = true)
 (h : wpAnyG P .any ops Q c F ops.size (Array.replicate ops.size false) a w.drew) : (Code.region id ops true).wp P Q a w :=
 wp_region_any hm (wpAny_of_G _ _ _ _ h)
end
end Go.Proofs.YtjjikhaaimfneaaGreatDoor
