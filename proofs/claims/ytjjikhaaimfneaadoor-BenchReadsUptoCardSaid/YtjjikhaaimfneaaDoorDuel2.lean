/-
  WALKS: duel.Wrong; the reference's PWrong.
-/
import Derived.Test.YtjjikhaaimfneaaDoorDuel1
namespace Go.Proofs.YtjjikhaaimfneaaDoor
open Go.RowKit
set_option linter.unusedSimpArgs false
set_option linter.unusedVariables false

attribute [local go_sem] iteMin iteMax iteMinN iteMaxN

def kindsOk (k0 k1 : Int) : Prop := 1 ≤ k0 ∧ k0 ≤ 3 ∧ 1 ≤ k1 ∧ k1 ≤ 3
def rangeOk (R Q J : Int) : Prop := 1 ≤ R ∧ R ≤ 12 ∧ 0 ≤ Q ∧ Q ≤ 16 ∧ 0 ≤ J ∧ J ≤ 3
/-- what Wrong answers -/
def WrongSays (k0 k1 R Q J r : Int) : Prop := (¬ kindsOk k0 k1 ∧ r = 5) ∨ (kindsOk k0 k1 ∧ ¬ rangeOk R Q J ∧ r = 2) ∨ (kindsOk k0 k1 ∧ rangeOk R Q J ∧ r = 0)
theorem wrongSays_one {k0 k1 R Q J r r' : Int} (h : WrongSays k0 k1 R Q J r) (h' : WrongSays k0 k1 R Q J r') : r = r' := by
  rcases h with ⟨h1, rfl⟩ | ⟨h1, h2, rfl⟩ | ⟨h1, h2, rfl⟩ <;> rcases h' with ⟨g1, rfl⟩ | ⟨g1, g2, rfl⟩ | ⟨g1, g2, rfl⟩ <;> first | rfl | (exact absurd g1 h1) | (exact absurd h1 g1) | (exact absurd g2 h2) | (exact absurd h2 g2)
def WrongEnds (k0 k1 R Q J : Int) (e : Ending) : Prop := ∃ r, e = .returned (.int .i64 r) ∧ WrongSays k0 k1 R Q J r
theorem WrongEnds.ok {k0 k1 R Q J : Int} {e : Ending} (h : WrongEnds k0 k1 R Q J e) (h1 : kindsOk k0 k1) (h2 : rangeOk R Q J) : e = .returned (.int .i64 0) := by
  obtain ⟨r, rfl, hr⟩ := h
  rw [wrongSays_one hr (.inr (.inr ⟨h1, h2, rfl⟩))]

set_option maxRecDepth 100000 in
set_option maxHeartbeats 4000000 in
theorem dwrong_any (k0 k1 R Q J : Int) (w : World) : Calls Tryd.prog 8 #[.agg #[.int .i64 k0, .int .i64 k1, .int .i64 R, .int .i64 Q, .int .i64 J]] w fun e w' => WrongEnds k0 k1 R Q J e ∧ Below w.heap.size w w' := by
  obtain ⟨S, hS⟩ : ∃ S, w.heap.size = S := ⟨_, rfl⟩
  have bW := Blk.new w [.int .i64 k0, .int .i64 k1, .int .i64 R, .int .i64 Q, .int .i64 J] 24
  have hWB : Below S w (w.alloc (.cells #[.int .i64 k0, .int .i64 k1, .int .i64 R, .int .i64 Q, .int .i64 J] 24)) := by rw [← hS]; exact (Below.refl _ _).alloc (Nat.le_refl _) _
  have hWs : (w.alloc (.cells #[.int .i64 k0, .int .i64 k1, .int .i64 R, .int .i64 Q, .int .i64 J] 24)).heap.size = S + 1 := by simp [hS]
  obtain ⟨W, hW⟩ : ∃ W, W = w.alloc (.cells #[.int .i64 k0, .int .i64 k1, .int .i64 R, .int .i64 Q, .int .i64 J] 24) := ⟨_, rfl⟩
  rw [hS, ← hW] at bW
  rw [← hW] at hWB hWs
  have i0 : ∀ w : World, (Instr.index 22 (.agg #[.int .i64 k0, .int .i64 k1]) (.int .i64 0)).run Tryd.prog w = .ok (.int .i64 k0) w := fun _ => by kernel_rfl
  have i1 : ∀ w : World, (Instr.index 22 (.agg #[.int .i64 k0, .int .i64 k1]) (.int .i64 1)).run Tryd.prog w = .ok (.int .i64 k1) w := fun _ => by kernel_rfl
  have HW := hide hW
  go_enter Tryd.func8, Tryd.ntmps8
  clear hW
  go_wp2
  refine wp_loop_rounds 3 ?_
  rw [rounds_succ]
  go_wp2_with fail
  rw [← HW.out]
  by_cases h0 : 1 ≤ k0 ∧ k0 ≤ 3
  case neg =>
    refine (of_no k0 (by omega) W).mono ?_
    rintro e w1 ⟨rfl, hB1⟩
    go_wp2
    go_ret
    exact ⟨⟨_, rfl, .inl ⟨by unfold kindsOk; omega, rfl⟩⟩, by rw [hS]; exact (hWB.trans (hB1.mono (by omega))).alloc (by have := hB1.size; omega) _⟩
  refine (of_yes k0 h0.1 h0.2 W).mono ?_
  rintro e w1 ⟨⟨f, g, h, rfl⟩, hB1⟩
  have hs1 := hB1.size
  have bX := ((bW.below hB1 (by omega)).alloc (.cells #[.func (.func f) #[] #[], .func (.func g) #[] #[], .func (.func h) #[] #[]] 48))
  have hX1 : Below S w (w1.alloc (.cells #[.func (.func f) #[] #[], .func (.func g) #[] #[], .func (.func h) #[] #[]] 48)) := (hWB.trans (hB1.mono (by omega))).alloc (by omega) _
  have hXs : (w1.alloc (.cells #[.func (.func f) #[] #[], .func (.func g) #[] #[], .func (.func h) #[] #[]] 48)).heap.size = w1.heap.size + 1 := by simp
  clear bW hB1 hWB
  go_wp2_with fail
  rw [rounds_succ]
  go_wp2_with fail
  obtain ⟨X, hX⟩ : ∃ X, X = (w1.alloc (.cells #[.func (.func f) #[] #[], .func (.func g) #[] #[], .func (.func h) #[] #[]] 48)) := ⟨_, rfl⟩
  rw [← hX] at bX hX1 hXs ⊢
  clear hX
  by_cases h1 : 1 ≤ k1 ∧ k1 ≤ 3
  case neg =>
    refine (of_no k1 (by omega) X).mono ?_
    rintro e w2 ⟨rfl, hB2⟩
    go_wp2
    go_ret
    exact ⟨⟨_, rfl, .inl ⟨by unfold kindsOk; omega, rfl⟩⟩, by rw [hS]; exact (hX1.trans (hB2.mono (by omega))).alloc (by have := hB2.size; omega) _⟩
  refine (of_yes k1 h1.1 h1.2 X).mono ?_
  rintro e w2 ⟨⟨f', g', h', rfl⟩, hB2⟩
  have hs2 := hB2.size
  obtain ⟨Y, hY⟩ : ∃ Y, Y = (w2.alloc (.cells #[.func (.func f') #[] #[], .func (.func g') #[] #[], .func (.func h') #[] #[]] 48)) := ⟨_, rfl⟩
  have bY : Blk Y S [.int .i64 k0, .int .i64 k1, .int .i64 R, .int .i64 Q, .int .i64 J] := by rw [hY]; exact ((bX.below hB2 (by omega)).alloc _)
  have hY1 : Below S w Y := by rw [hY]; exact (hX1.trans (hB2.mono (by omega))).alloc (by omega) _
  clear bX hB2 hX1
  go_wp2_with fail
  rw [← hY]
  have HYB := hide hY1
  have d2 := (bY 2 _ rfl).1
  have d3 := (bY 3 _ rfl).1
  have d4 := (bY 4 _ rfl).1
  clear hY bY hY1
  rw [rounds_succ]
  by_cases g0 : 1 ≤ R
  case neg => (go_wp2; go_ret; exact ⟨⟨_, rfl, .inr (.inl ⟨by unfold kindsOk; omega, by unfold rangeOk; omega, rfl⟩)⟩, by first | exact HYB.out | (rw [hS]; exact HYB.out) | (rw [hS, ← HW.out]; exact HYB.out) | (rw [← HW.out]; exact HYB.out)⟩)
  by_cases g1 : R ≤ 12
  case neg => (go_wp2; go_ret; exact ⟨⟨_, rfl, .inr (.inl ⟨by unfold kindsOk; omega, by unfold rangeOk; omega, rfl⟩)⟩, by first | exact HYB.out | (rw [hS]; exact HYB.out) | (rw [hS, ← HW.out]; exact HYB.out) | (rw [← HW.out]; exact HYB.out)⟩)
  by_cases g2 : 0 ≤ Q
  case neg => (go_wp2; go_ret; exact ⟨⟨_, rfl, .inr (.inl ⟨by unfold kindsOk; omega, by unfold rangeOk; omega, rfl⟩)⟩, by first | exact HYB.out | (rw [hS]; exact HYB.out) | (rw [hS, ← HW.out]; exact HYB.out) | (rw [← HW.out]; exact HYB.out)⟩)
  by_cases g3 : Q ≤ 16
  case neg => (go_wp2; go_ret; exact ⟨⟨_, rfl, .inr (.inl ⟨by unfold kindsOk; omega, by unfold rangeOk; omega, rfl⟩)⟩, by first | exact HYB.out | (rw [hS]; exact HYB.out) | (rw [hS, ← HW.out]; exact HYB.out) | (rw [← HW.out]; exact HYB.out)⟩)
  by_cases g4 : 0 ≤ J
  case neg => (go_wp2; go_ret; exact ⟨⟨_, rfl, .inr (.inl ⟨by unfold kindsOk; omega, by unfold rangeOk; omega, rfl⟩)⟩, by first | exact HYB.out | (rw [hS]; exact HYB.out) | (rw [hS, ← HW.out]; exact HYB.out) | (rw [← HW.out]; exact HYB.out)⟩)
  by_cases g5 : J ≤ 3
  case neg => (go_wp2; go_ret; exact ⟨⟨_, rfl, .inr (.inl ⟨by unfold kindsOk; omega, by unfold rangeOk; omega, rfl⟩)⟩, by first | exact HYB.out | (rw [hS]; exact HYB.out) | (rw [hS, ← HW.out]; exact HYB.out) | (rw [← HW.out]; exact HYB.out)⟩)
  go_wp2
  go_ret
  exact ⟨⟨_, rfl, .inr (.inr ⟨by unfold kindsOk; omega, by unfold rangeOk; omega, rfl⟩)⟩, by first | exact HYB.out | (rw [hS]; exact HYB.out) | (rw [hS, ← HW.out]; exact HYB.out) | (rw [← HW.out]; exact HYB.out)⟩

set_option maxRecDepth 100000 in
set_option maxHeartbeats 4000000 in
theorem pwrong_any (k0 k1 R Q J : Int) (w : World) : Calls Tryd.prog 12 #[.agg #[.int .i64 k0, .int .i64 k1, .int .i64 R, .int .i64 Q, .int .i64 J]] w fun e w' => WrongEnds k0 k1 R Q J e ∧ Below w.heap.size w w' := by
  obtain ⟨S, hS⟩ : ∃ S, w.heap.size = S := ⟨_, rfl⟩
  have bW := Blk.new w [.int .i64 k0, .int .i64 k1, .int .i64 R, .int .i64 Q, .int .i64 J] 24
  have hWB : Below S w (w.alloc (.cells #[.int .i64 k0, .int .i64 k1, .int .i64 R, .int .i64 Q, .int .i64 J] 24)) := by rw [← hS]; exact (Below.refl _ _).alloc (Nat.le_refl _) _
  have hWs : (w.alloc (.cells #[.int .i64 k0, .int .i64 k1, .int .i64 R, .int .i64 Q, .int .i64 J] 24)).heap.size = S + 1 := by simp [hS]
  obtain ⟨W, hW⟩ : ∃ W, W = w.alloc (.cells #[.int .i64 k0, .int .i64 k1, .int .i64 R, .int .i64 Q, .int .i64 J] 24) := ⟨_, rfl⟩
  rw [hS, ← hW] at bW
  rw [← hW] at hWB hWs
  have HW := hide hW
  go_enter Tryd.func12, Tryd.ntmps12
  have HYB := hide hWB
  clear hW bW hWB
  by_cases h0 : 1 ≤ min k0 k1
  case neg => (go_wp2; go_ret; exact ⟨⟨_, rfl, .inl ⟨by unfold kindsOk; omega, rfl⟩⟩, by first | exact HYB.out | (rw [hS]; exact HYB.out) | (rw [hS, ← HW.out]; exact HYB.out) | (rw [← HW.out]; exact HYB.out)⟩)
  by_cases h1 : max k0 k1 ≤ 3
  case neg => (go_wp2; go_ret; exact ⟨⟨_, rfl, .inl ⟨by unfold kindsOk; omega, rfl⟩⟩, by first | exact HYB.out | (rw [hS]; exact HYB.out) | (rw [hS, ← HW.out]; exact HYB.out) | (rw [← HW.out]; exact HYB.out)⟩)
  by_cases g0 : 1 ≤ R
  case neg => (go_wp2; go_ret; exact ⟨⟨_, rfl, .inr (.inl ⟨by unfold kindsOk; omega, by unfold rangeOk; omega, rfl⟩)⟩, by first | exact HYB.out | (rw [hS]; exact HYB.out) | (rw [hS, ← HW.out]; exact HYB.out) | (rw [← HW.out]; exact HYB.out)⟩)
  by_cases g1 : R ≤ 12
  case neg => (go_wp2; go_ret; exact ⟨⟨_, rfl, .inr (.inl ⟨by unfold kindsOk; omega, by unfold rangeOk; omega, rfl⟩)⟩, by first | exact HYB.out | (rw [hS]; exact HYB.out) | (rw [hS, ← HW.out]; exact HYB.out) | (rw [← HW.out]; exact HYB.out)⟩)
  by_cases g2 : 0 ≤ Q
  case neg => (go_wp2; go_ret; exact ⟨⟨_, rfl, .inr (.inl ⟨by unfold kindsOk; omega, by unfold rangeOk; omega, rfl⟩)⟩, by first | exact HYB.out | (rw [hS]; exact HYB.out) | (rw [hS, ← HW.out]; exact HYB.out) | (rw [← HW.out]; exact HYB.out)⟩)
  by_cases g3 : Q ≤ 16
  case neg => (go_wp2; go_ret; exact ⟨⟨_, rfl, .inr (.inl ⟨by unfold kindsOk; omega, by unfold rangeOk; omega, rfl⟩)⟩, by first | exact HYB.out | (rw [hS]; exact HYB.out) | (rw [hS, ← HW.out]; exact HYB.out) | (rw [← HW.out]; exact HYB.out)⟩)
  by_cases g4 : 0 ≤ J
  case neg => (go_wp2; go_ret; exact ⟨⟨_, rfl, .inr (.inl ⟨by unfold kindsOk; omega, by unfold rangeOk; omega, rfl⟩)⟩, by first | exact HYB.out | (rw [hS]; exact HYB.out) | (rw [hS, ← HW.out]; exact HYB.out) | (rw [← HW.out]; exact HYB.out)⟩)
  by_cases g5 : J ≤ 3
  case neg => (go_wp2; go_ret; exact ⟨⟨_, rfl, .inr (.inl ⟨by unfold kindsOk; omega, by unfold rangeOk; omega, rfl⟩)⟩, by first | exact HYB.out | (rw [hS]; exact HYB.out) | (rw [hS, ← HW.out]; exact HYB.out) | (rw [← HW.out]; exact HYB.out)⟩)
  go_wp2
  go_ret
  exact ⟨⟨_, rfl, .inr (.inr ⟨by unfold kindsOk; omega, by unfold rangeOk; omega, rfl⟩)⟩, by first | exact HYB.out | (rw [hS]; exact HYB.out) | (rw [hS, ← HW.out]; exact HYB.out) | (rw [← HW.out]; exact HYB.out)⟩

end Go.Proofs.YtjjikhaaimfneaaDoor
