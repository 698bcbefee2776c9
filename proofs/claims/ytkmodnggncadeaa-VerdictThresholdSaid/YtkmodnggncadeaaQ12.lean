/-
  Lemmas and walks for the statement: Duel2, Duel7, Duel8.
-/
import Derived.Test.YtkmodnggncadeaaQ11
import Derived.Deep.DeepCutAuto
import Derived.Shelf.Abstract
namespace Go.Proofs.Ytkmodnggncadeaa
open Go.RowKit
set_option linter.unusedSimpArgs false
set_option linter.unusedVariables false
attribute [local go_sem] iteMin iteMax iteMinN iteMaxN
def kindsOk (k0 k1 : Int) : Prop := 1 ≤ k0 ∧ k0 ≤ 3 ∧ 1 ≤ k1 ∧ k1 ≤ 3
def rangeOk (R Q J : Int) : Prop := 1 ≤ R ∧ R ≤ 12 ∧ 0 ≤ Q ∧ Q ≤ 16 ∧ 0 ≤ J ∧ J ≤ 3
def WrongSays (k0 k1 R Q J r : Int) : Prop := (¬ kindsOk k0 k1 ∧ r = 5) ∨ (kindsOk k0 k1 ∧ ¬ rangeOk R Q J ∧ r = 2) ∨ (kindsOk k0 k1 ∧ rangeOk R Q J ∧ r = 0)
theorem wrongSays_one {k0 k1 R Q J r r' : Int} (h : WrongSays k0 k1 R Q J r) (h' : WrongSays k0 k1 R Q J r') : r = r' := by
 rcases h with ⟨h1, rfl⟩ | ⟨h1, h2, rfl⟩ | ⟨h1, h2, rfl⟩ <;> rcases h' with ⟨g1, rfl⟩ | ⟨g1, g2, rfl⟩ | ⟨g1, g2, rfl⟩ <;> first | rfl | (exact absurd g1 h1) | (exact absurd h1 g1) | (exact absurd g2 h2) | (exact absurd h2 g2)
def WrongEnds (k0 k1 R Q J : Int) (e : Ending) : Prop := ∃ r, e = .returned (.int .i64 r) ∧ WrongSays k0 k1 R Q J r
theorem WrongEnds.ok {k0 k1 R Q J : Int} {e : Ending} (h : WrongEnds k0 k1 R Q J e) (h1 : kindsOk k0 k1) (h2 : rangeOk R Q J) : e = .returned (.int .i64 0) := by
 obtain ⟨r, rfl, hr⟩ := h
 rw [wrongSays_one hr (.inr (.inr ⟨h1, h2, rfl⟩))]
set_option maxRecDepth 100000 in
set_option maxHeartbeats 4000000 in
theorem dwrong_any (k0 k1 R Q J : Int) (w : World) : Calls Try.prog 47 #[.agg #[.int .i64 k0, .int .i64 k1, .int .i64 R, .int .i64 Q, .int .i64 J]] w fun e w' => WrongEnds k0 k1 R Q J e ∧ Below w.heap.size w w' := by
 obtain ⟨S, hS⟩ : ∃ S, w.heap.size = S := ⟨_, rfl⟩
 have bW := Blk.new w [.int .i64 k0, .int .i64 k1, .int .i64 R, .int .i64 Q, .int .i64 J] 24
 have hWB : Below S w (w.alloc (.cells #[.int .i64 k0, .int .i64 k1, .int .i64 R, .int .i64 Q, .int .i64 J] 24)) := by rw [← hS]; exact (Below.refl _ _).alloc (Nat.le_refl _) _
 have hWs : (w.alloc (.cells #[.int .i64 k0, .int .i64 k1, .int .i64 R, .int .i64 Q, .int .i64 J] 24)).heap.size = S + 1 := by simp [hS]
 obtain ⟨W, hW⟩ : ∃ W, W = w.alloc (.cells #[.int .i64 k0, .int .i64 k1, .int .i64 R, .int .i64 Q, .int .i64 J] 24) := ⟨_, rfl⟩
 rw [hS, ← hW] at bW
 rw [← hW] at hWB hWs
 have i0 : ∀ w : World, (Instr.index 22 (.agg #[.int .i64 k0, .int .i64 k1]) (.int .i64 0)).run Try.prog w = .ok (.int .i64 k0) w := fun _ => by kernel_rfl
 have i1 : ∀ w : World, (Instr.index 22 (.agg #[.int .i64 k0, .int .i64 k1]) (.int .i64 1)).run Try.prog w = .ok (.int .i64 k1) w := fun _ => by kernel_rfl
 have HW := hide hW
 go_enter Try.func47, Try.ntmps47
 clear hW
 go_wp2
 refine wp_loop_rounds 3 ?_
 rw [rounds_succ]
 go_wp2_with fail
 rw [← HW.out]
 by_cases h0 : 1 ≤ k0 ∧ k0 ≤ 3
 case neg =>
  refine (of_no k0 (by omega) W).mono ?_
  rintro e w1 ⟨rfl, hB1⟩
  go_wp2
  go_ret
  exact ⟨⟨_, rfl, .inl ⟨by unfold kindsOk; omega, rfl⟩⟩, by rw [hS]; exact (hWB.trans (hB1.mono (by omega))).alloc (by have := hB1.size; omega) _⟩
 refine (of_yes k0 h0.1 h0.2 W).mono ?_
 rintro e w1 ⟨⟨f, g, h, rfl⟩, hB1⟩
 have hs1 := hB1.size
 have bX := ((bW.below hB1 (by omega)).alloc (.cells #[.func (.func f) #[] #[], .func (.func g) #[] #[], .func (.func h) #[] #[]] 111))
 have hX1 : Below S w (w1.alloc (.cells #[.func (.func f) #[] #[], .func (.func g) #[] #[], .func (.func h) #[] #[]] 111)) := (hWB.trans (hB1.mono (by omega))).alloc (by omega) _
 have hXs : (w1.alloc (.cells #[.func (.func f) #[] #[], .func (.func g) #[] #[], .func (.func h) #[] #[]] 111)).heap.size = w1.heap.size + 1 := by simp
 clear bW hB1 hWB
 go_wp2_with fail
 rw [rounds_succ]
 go_wp2_with fail
 obtain ⟨X, hX⟩ : ∃ X, X = (w1.alloc (.cells #[.func (.func f) #[] #[], .func (.func g) #[] #[], .func (.func h) #[] #[]] 111)) := ⟨_, rfl⟩
 rw [← hX] at bX hX1 hXs ⊢
 clear hX
 by_cases h1 : 1 ≤ k1 ∧ k1 ≤ 3
 case neg =>
  refine (of_no k1 (by omega) X).mono ?_
  rintro e w2 ⟨rfl, hB2⟩
  go_wp2
  go_ret
  exact ⟨⟨_, rfl, .inl ⟨by unfold kindsOk; omega, rfl⟩⟩, by rw [hS]; exact (hX1.trans (hB2.mono (by omega))).alloc (by have := hB2.size; omega) _⟩
 refine (of_yes k1 h1.1 h1.2 X).mono ?_
 rintro e w2 ⟨⟨f', g', h', rfl⟩, hB2⟩
 have hs2 := hB2.size
 obtain ⟨Y, hY⟩ : ∃ Y, Y = (w2.alloc (.cells #[.func (.func f') #[] #[], .func (.func g') #[] #[], .func (.func h') #[] #[]] 111)) := ⟨_, rfl⟩
 have bY : Blk Y S [.int .i64 k0, .int .i64 k1, .int .i64 R, .int .i64 Q, .int .i64 J] := by rw [hY]; exact ((bX.below hB2 (by omega)).alloc _)
 have hY1 : Below S w Y := by rw [hY]; exact (hX1.trans (hB2.mono (by omega))).alloc (by omega) _
 clear bX hB2 hX1
 go_wp2_with fail
 rw [← hY]
 have HYB := hide hY1
 have d2 := (bY 2 _ rfl).1
 have d3 := (bY 3 _ rfl).1
 have d4 := (bY 4 _ rfl).1
 clear hY bY hY1
 rw [rounds_succ]
 by_cases g0 : 1 ≤ R
 case neg => (go_wp2; go_ret; exact ⟨⟨_, rfl, .inr (.inl ⟨by unfold kindsOk; omega, by unfold rangeOk; omega, rfl⟩)⟩, by first | exact HYB.out | (rw [hS]; exact HYB.out) | (rw [hS, ← HW.out]; exact HYB.out) | (rw [← HW.out]; exact HYB.out)⟩)
 by_cases g1 : R ≤ 12
 case neg => (go_wp2; go_ret; exact ⟨⟨_, rfl, .inr (.inl ⟨by unfold kindsOk; omega, by unfold rangeOk; omega, rfl⟩)⟩, by first | exact HYB.out | (rw [hS]; exact HYB.out) | (rw [hS, ← HW.out]; exact HYB.out) | (rw [← HW.out]; exact HYB.out)⟩)
 by_cases g2 : 0 ≤ Q
 case neg => (go_wp2; go_ret; exact ⟨⟨_, rfl, .inr (.inl ⟨by unfold kindsOk; omega, by unfold rangeOk; omega, rfl⟩)⟩, by first | exact HYB.out | (rw [hS]; exact HYB.out) | (rw [hS, ← HW.out]; exact HYB.out) | (rw [← HW.out]; exact HYB.out)⟩)
 by_cases g3 : Q ≤ 16
 case neg => (go_wp2; go_ret; exact ⟨⟨_, rfl, .inr (.inl ⟨by unfold kindsOk; omega, by unfold rangeOk; omega, rfl⟩)⟩, by first | exact HYB.out | (rw [hS]; exact HYB.out) | (rw [hS, ← HW.out]; exact HYB.out) | (rw [← HW.out]; exact HYB.out)⟩)
 by_cases g4 : 0 ≤ J
 case neg => (go_wp2; go_ret; exact ⟨⟨_, rfl, .inr (.inl ⟨by unfold kindsOk; omega, by unfold rangeOk; omega, rfl⟩)⟩, by first | exact HYB.out | (rw [hS]; exact HYB.out) | (rw [hS, ← HW.out]; exact HYB.out) | (rw [← HW.out]; exact HYB.out)⟩)
 by_cases g5 : J ≤ 3
 case neg => (go_wp2; go_ret; exact ⟨⟨_, rfl, .inr (.inl ⟨by unfold kindsOk; omega, by unfold rangeOk; omega, rfl⟩)⟩, by first | exact HYB.out | (rw [hS]; exact HYB.out) | (rw [hS, ← HW.out]; exact HYB.out) | (rw [← HW.out]; exact HYB.out)⟩)
 go_wp2
 go_ret
 exact ⟨⟨_, rfl, .inr (.inr ⟨by unfold kindsOk; omega, by unfold rangeOk; omega, rfl⟩)⟩, by first | exact HYB.out | (rw [hS]; exact HYB.out) | (rw [hS, ← HW.out]; exact HYB.out) | (rw [← HW.out]; exact HYB.out)⟩
set_option maxRecDepth 100000 in
set_option maxHeartbeats 4000000 in
theorem pwrong_any (k0 k1 R Q J : Int) (w : World) : Calls Try.prog 31 #[.agg #[.int .i64 k0, .int .i64 k1, .int .i64 R, .int .i64 Q, .int .i64 J]] w fun e w' => WrongEnds k0 k1 R Q J e ∧ Below w.heap.size w w' := by
 obtain ⟨S, hS⟩ : ∃ S, w.heap.size = S := ⟨_, rfl⟩
 have bW := Blk.new w [.int .i64 k0, .int .i64 k1, .int .i64 R, .int .i64 Q, .int .i64 J] 24
 have hWB : Below S w (w.alloc (.cells #[.int .i64 k0, .int .i64 k1, .int .i64 R, .int .i64 Q, .int .i64 J] 24)) := by rw [← hS]; exact (Below.refl _ _).alloc (Nat.le_refl _) _
 have hWs : (w.alloc (.cells #[.int .i64 k0, .int .i64 k1, .int .i64 R, .int .i64 Q, .int .i64 J] 24)).heap.size = S + 1 := by simp [hS]
 obtain ⟨W, hW⟩ : ∃ W, W = w.alloc (.cells #[.int .i64 k0, .int .i64 k1, .int .i64 R, .int .i64 Q, .int .i64 J] 24) := ⟨_, rfl⟩
 rw [hS, ← hW] at bW
 rw [← hW] at hWB hWs
 have HW := hide hW
 go_enter Try.func31, Try.ntmps31
 have HYB := hide hWB
 clear hW bW hWB
 by_cases h0 : 1 ≤ min k0 k1
 case neg => (go_wp2; go_ret; exact ⟨⟨_, rfl, .inl ⟨by unfold kindsOk; omega, rfl⟩⟩, by first | exact HYB.out | (rw [hS]; exact HYB.out) | (rw [hS, ← HW.out]; exact HYB.out) | (rw [← HW.out]; exact HYB.out)⟩)
 by_cases h1 : max k0 k1 ≤ 3
 case neg => (go_wp2; go_ret; exact ⟨⟨_, rfl, .inl ⟨by unfold kindsOk; omega, rfl⟩⟩, by first | exact HYB.out | (rw [hS]; exact HYB.out) | (rw [hS, ← HW.out]; exact HYB.out) | (rw [← HW.out]; exact HYB.out)⟩)
 by_cases g0 : 1 ≤ R
 case neg => (go_wp2; go_ret; exact ⟨⟨_, rfl, .inr (.inl ⟨by unfold kindsOk; omega, by unfold rangeOk; omega, rfl⟩)⟩, by first | exact HYB.out | (rw [hS]; exact HYB.out) | (rw [hS, ← HW.out]; exact HYB.out) | (rw [← HW.out]; exact HYB.out)⟩)
 by_cases g1 : R ≤ 12
 case neg => (go_wp2; go_ret; exact ⟨⟨_, rfl, .inr (.inl ⟨by unfold kindsOk; omega, by unfold rangeOk; omega, rfl⟩)⟩, by first | exact HYB.out | (rw [hS]; exact HYB.out) | (rw [hS, ← HW.out]; exact HYB.out) | (rw [← HW.out]; exact HYB.out)⟩)
 by_cases g2 : 0 ≤ Q
 case neg => (go_wp2; go_ret; exact ⟨⟨_, rfl, .inr (.inl ⟨by unfold kindsOk; omega, by unfold rangeOk; omega, rfl⟩)⟩, by first | exact HYB.out | (rw [hS]; exact HYB.out) | (rw [hS, ← HW.out]; exact HYB.out) | (rw [← HW.out]; exact HYB.out)⟩)
 by_cases g3 : Q ≤ 16
 case neg => (go_wp2; go_ret; exact ⟨⟨_, rfl, .inr (.inl ⟨by unfold kindsOk; omega, by unfold rangeOk; omega, rfl⟩)⟩, by first | exact HYB.out | (rw [hS]; exact HYB.out) | (rw [hS, ← HW.out]; exact HYB.out) | (rw [← HW.out]; exact HYB.out)⟩)
 by_cases g4 : 0 ≤ J
 case neg => (go_wp2; go_ret; exact ⟨⟨_, rfl, .inr (.inl ⟨by unfold kindsOk; omega, by unfold rangeOk; omega, rfl⟩)⟩, by first | exact HYB.out | (rw [hS]; exact HYB.out) | (rw [hS, ← HW.out]; exact HYB.out) | (rw [← HW.out]; exact HYB.out)⟩)
 by_cases g5 : J ≤ 3
 case neg => (go_wp2; go_ret; exact ⟨⟨_, rfl, .inr (.inl ⟨by unfold kindsOk; omega, by unfold rangeOk; omega, rfl⟩)⟩, by first | exact HYB.out | (rw [hS]; exact HYB.out) | (rw [hS, ← HW.out]; exact HYB.out) | (rw [← HW.out]; exact HYB.out)⟩)
 go_wp2
 go_ret
 exact ⟨⟨_, rfl, .inr (.inr ⟨by unfold kindsOk; omega, by unfold rangeOk; omega, rfl⟩)⟩, by first | exact HYB.out | (rw [hS]; exact HYB.out) | (rw [hS, ← HW.out]; exact HYB.out) | (rw [← HW.out]; exact HYB.out)⟩
end Go.Proofs.Ytkmodnggncadeaa
namespace Go.Proofs.Ytkmodnggncadeaa
open Go.RowKit
set_option linter.unusedSimpArgs false
set_option linter.unusedVariables false
attribute [local go_sem] iteMin iteMax iteMinN iteMaxN
def StRight (k0 k1 R Q J a0 a1 a2 a3 a4 a5 b0 b1 b2 b3 b4 b5 x y : Int) : Prop := kindsOk k0 k1 ∧ rangeOk R Q J ∧ rightK k0 ⟨a0, a1, a2, a3, a4, a5⟩ = true ∧ rightK k1 ⟨b0, b1, b2, b3, b4, b5⟩ = true ∧ 0 ≤ x ∧ 0 ≤ y ∧ x + y ≤ Q
set_option maxRecDepth 100000 in
set_option maxHeartbeats 8000000 in
theorem dright_any (k0 k1 R Q J a0 a1 a2 a3 a4 a5 b0 b1 b2 b3 b4 b5 x y : Int) (w : World) : Calls Try.prog 50 #[.agg #[.int .i64 k0, .int .i64 k1, .int .i64 R, .int .i64 Q, .int .i64 J], .agg #[.int .i64 a0, .int .i64 a1, .int .i64 a2, .int .i64 a3, .int .i64 a4, .int .i64 a5, .int .i64 b0, .int .i64 b1, .int .i64 b2, .int .i64 b3, .int .i64 b4, .int .i64 b5, .int .i64 x, .int .i64 y]] w fun e w' => IsB (StRight k0 k1 R Q J a0 a1 a2 a3 a4 a5 b0 b1 b2 b3 b4 b5 x y) e ∧ Below w.heap.size w w' := by
 obtain ⟨S, hS⟩ : ∃ S, w.heap.size = S := ⟨_, rfl⟩
 have i0 : ∀ w : World, (Instr.index 22 (.agg #[.int .i64 k0, .int .i64 k1]) (.int .i64 0)).run Try.prog w = .ok (.int .i64 k0) w := fun _ => by kernel_rfl
 have i1 : ∀ w : World, (Instr.index 22 (.agg #[.int .i64 k0, .int .i64 k1]) (.int .i64 1)).run Try.prog w = .ok (.int .i64 k1) w := fun _ => by kernel_rfl
 go_enter Try.func50, Try.ntmps50
 go_wp2_with fail
 obtain ⟨W, hW⟩ : ∃ W, W = (w.alloc (.cells #[.int .i64 k0, .int .i64 k1, .int .i64 R, .int .i64 Q, .int .i64 J] 24)).alloc (.cells #[.int .i64 a0, .int .i64 a1, .int .i64 a2, .int .i64 a3, .int .i64 a4, .int .i64 a5, .int .i64 b0, .int .i64 b1, .int .i64 b2, .int .i64 b3, .int .i64 b4, .int .i64 b5, .int .i64 x, .int .i64 y] 41) := ⟨_, rfl⟩
 rw [← hW]
 have PR : Blk W S [.int .i64 k0, .int .i64 k1, .int .i64 R, .int .i64 Q, .int .i64 J] := by
  have := (Blk.new w [.int .i64 k0, .int .i64 k1, .int .i64 R, .int .i64 Q, .int .i64 J] 24).alloc (.cells #[.int .i64 a0, .int .i64 a1, .int .i64 a2, .int .i64 a3, .int .i64 a4, .int .i64 a5, .int .i64 b0, .int .i64 b1, .int .i64 b2, .int .i64 b3, .int .i64 b4, .int .i64 b5, .int .i64 x, .int .i64 y] 41)
  rw [hW]; simpa [hS] using this
 have PS : Blk W (S + 1) [.int .i64 a0, .int .i64 a1, .int .i64 a2, .int .i64 a3, .int .i64 a4, .int .i64 a5, .int .i64 b0, .int .i64 b1, .int .i64 b2, .int .i64 b3, .int .i64 b4, .int .i64 b5, .int .i64 x, .int .i64 y] := by
  have := Blk.new (w.alloc (.cells #[.int .i64 k0, .int .i64 k1, .int .i64 R, .int .i64 Q, .int .i64 J] 24)) [.int .i64 a0, .int .i64 a1, .int .i64 a2, .int .i64 a3, .int .i64 a4, .int .i64 a5, .int .i64 b0, .int .i64 b1, .int .i64 b2, .int .i64 b3, .int .i64 b4, .int .i64 b5, .int .i64 x, .int .i64 y] 41
  rw [hW]; simpa [hS] using this
 have BS : Below S w W := by rw [hW, ← hS]; exact ((Below.refl _ _).alloc (Nat.le_refl _) _).alloc (by simp) _
 clear hW
 refine (dwrong_any k0 k1 R Q J W).mono ?_
 rintro e w1 ⟨⟨r, rfl, hw⟩, hB1⟩
 have BS := BS.trans (hB1.mono (by have := PR.lt; omega))
 have PR := PR.below hB1 PR.lt
 have PS := PS.below hB1 PS.lt
 clear hB1
 by_cases hok : kindsOk k0 k1 ∧ rangeOk R Q J
 case neg =>
  have h0 : (r == 0) = false := by
   rcases hw with ⟨_, rfl⟩ | ⟨_, _, rfl⟩ | ⟨h1, h2, _⟩
   · rfl
   · rfl
   · exact absurd ⟨h1, h2⟩ hok
  have HBS := hide BS
  have HNO := hide hok
  clear PR PS BS hw hok
  go_wp2
  go_ret
  exact ⟨IsB.f (fun h => HNO.out ⟨h.1, h.2.1⟩), by first | exact HBS.out | (rw [hS]; exact HBS.out)⟩
 obtain ⟨hk, hr⟩ := hok
 obtain rfl : r = 0 := wrongSays_one hw (.inr (.inr ⟨hk, hr, rfl⟩))
 clear hw
 obtain ⟨f0, g0, h0, HK0, hof0⟩ := of_gen k0 hk.1 hk.2.1
 obtain ⟨f1, g1, h1, HK1, hof1⟩ := of_gen k1 hk.2.2.1 hk.2.2.2
 have HOF0 := hide hof0; have HOF1 := hide hof1
 have c0 := (PR 0 _ rfl).1
 have c1 := (PR 1 _ rfl).1
 have HPR := hide PR; have HPS := hide PS; have HBS := hide BS
 clear PR PS BS hof0 hof1
 go_wp2_with fail
 refine wp_loop_rounds 3 ?_
 rw [rounds_succ]
 go_wp2_with fail
 have PR := HPR.out; have PS := HPS.out; have BS := HBS.out
 clear HPR HPS HBS c0 c1
 have hof0 := HOF0.out
 cases hr0 : rightK k0 ⟨a0, a1, a2, a3, a4, a5⟩ with
 | false =>
   refine (hof0 w1).mono ?_
   rintro e u0 ⟨rfl, hA0⟩
   obtain ⟨V0, hV0⟩ : ∃ V, V = u0.alloc (.cells #[.func (.func f0) #[] #[], .func (.func g0) #[] #[], .func (.func h0) #[] #[]] 111) := ⟨_, rfl⟩
   obtain ⟨U0, hU0⟩ : ∃ U, u0.heap.size = U := ⟨_, rfl⟩
   have BS := (BS.trans (hA0.mono (Nat.le_of_lt PR.lt))).alloc (Nat.le_trans (Nat.le_of_lt PR.lt) hA0.size) (.cells #[.func (.func f0) #[] #[], .func (.func g0) #[] #[], .func (.func h0) #[] #[]] 111)
   have PR := (PR.below hA0 PR.lt).alloc (.cells #[.func (.func f0) #[] #[], .func (.func g0) #[] #[], .func (.func h0) #[] #[]] 111)
   have PS := (PS.below hA0 PS.lt).alloc (.cells #[.func (.func f0) #[] #[], .func (.func g0) #[] #[], .func (.func h0) #[] #[]] 111)
   have PC := Blk.new u0 [.func (.func f0) #[] #[], .func (.func g0) #[] #[], .func (.func h0) #[] #[]] 111
   rw [← hV0] at PR PS BS PC
   rw [hU0] at PC
   have HV := hide hV0
   have HPR := hide PR; have HPS := hide PS; have HBS := hide BS; have HPC := hide PC
   clear hV0 PR PS BS PC hA0
   go_upto_region 7 with fail
   rw [← HV.out]
   have eg := HK0.out.2.1
   unfold EntersF at eg
   have HRG := hide (fun w => HK0.out.2.2.2.2.1 a0 a1 a2 a3 a4 a5 w)
   rw [hr0] at HRG
   have F0_0 : ∀ q : Beyond V0, q.w.cell? ⟨U0, 1, none⟩ = some (.func (.func g0) #[] #[]) := fun q => q.cell HPC.out.lt (HPC.out 1 _ rfl).1
   obtain ⟨F0_1, F0_2, F0_3, F0_4, F0_5, F0_6, F0_7, F0_8, F0_9, F0_10, F0_11, F0_12, F0_13, F0_14⟩ := HPS.out.by14
   refine wp_region_beyond (by kernel_rfl) (by kernel_rfl) ?_
   repeat (first | go_big_quiet_step (first | (go_at_fn g0; exact beyondCall (HRG.out _))) | quiet_step (first | (go_at_fn g0; exact beyondCall (HRG.out _))))
   refine wpQuiet_nil ?_
   intro _ hw'
   obtain ⟨pq0, hw''⟩ := hw'
   subst hw''
   clear eg HRG F0_0 F0_1 F0_2 F0_3 F0_4 F0_5 F0_6 F0_7 F0_8 F0_9 F0_10 F0_11 F0_12 F0_13 F0_14
   go_wp2
   go_ret
   exact ⟨IsB.f (fun h => by have := h.2.2.1; rw [hr0] at this; cases this), by first | exact HBS.out.trans (pq0.h.mono (by have := HBS.out.size; omega)) | (rw [hS]; exact HBS.out.trans (pq0.h.mono (by have := HBS.out.size; omega)))⟩
 | true =>
   rcases Int.lt_or_le x 0 with hx0 | hx0
   · refine (hof0 w1).mono ?_
     rintro e u0 ⟨rfl, hA0⟩
     obtain ⟨V0, hV0⟩ : ∃ V, V = u0.alloc (.cells #[.func (.func f0) #[] #[], .func (.func g0) #[] #[], .func (.func h0) #[] #[]] 111) := ⟨_, rfl⟩
     obtain ⟨U0, hU0⟩ : ∃ U, u0.heap.size = U := ⟨_, rfl⟩
     have BS := (BS.trans (hA0.mono (Nat.le_of_lt PR.lt))).alloc (Nat.le_trans (Nat.le_of_lt PR.lt) hA0.size) (.cells #[.func (.func f0) #[] #[], .func (.func g0) #[] #[], .func (.func h0) #[] #[]] 111)
     have PR := (PR.below hA0 PR.lt).alloc (.cells #[.func (.func f0) #[] #[], .func (.func g0) #[] #[], .func (.func h0) #[] #[]] 111)
     have PS := (PS.below hA0 PS.lt).alloc (.cells #[.func (.func f0) #[] #[], .func (.func g0) #[] #[], .func (.func h0) #[] #[]] 111)
     have PC := Blk.new u0 [.func (.func f0) #[] #[], .func (.func g0) #[] #[], .func (.func h0) #[] #[]] 111
     rw [← hV0] at PR PS BS PC
     rw [hU0] at PC
     have HV := hide hV0
     have HPR := hide PR; have HPS := hide PS; have HBS := hide BS; have HPC := hide PC
     clear hV0 PR PS BS PC hA0
     go_upto_region 7 with fail
     rw [← HV.out]
     have eg := HK0.out.2.1
     unfold EntersF at eg
     have HRG := hide (fun w => HK0.out.2.2.2.2.1 a0 a1 a2 a3 a4 a5 w)
     rw [hr0] at HRG
     have F0_0 : ∀ q : Beyond V0, q.w.cell? ⟨U0, 1, none⟩ = some (.func (.func g0) #[] #[]) := fun q => q.cell HPC.out.lt (HPC.out 1 _ rfl).1
     obtain ⟨F0_1, F0_2, F0_3, F0_4, F0_5, F0_6, F0_7, F0_8, F0_9, F0_10, F0_11, F0_12, F0_13, F0_14⟩ := HPS.out.by14
     refine wp_region_beyond (by kernel_rfl) (by kernel_rfl) ?_
     repeat (first | go_big_quiet_step (first | (go_at_fn g0; exact beyondCall (HRG.out _))) | quiet_step (first | (go_at_fn g0; exact beyondCall (HRG.out _))))
     refine wpQuiet_nil ?_
     intro _ hw'
     obtain ⟨pq0, hw''⟩ := hw'
     subst hw''
     clear eg HRG F0_0 F0_1 F0_2 F0_3 F0_4 F0_5 F0_6 F0_7 F0_8 F0_9 F0_10 F0_11 F0_12 F0_13 F0_14
     go_wp2
     go_ret
     exact ⟨IsB.f (fun h => by have := h.2.2.2.2.1; omega), by first | exact HBS.out.trans (pq0.h.mono (by have := HBS.out.size; omega)) | (rw [hS]; exact HBS.out.trans (pq0.h.mono (by have := HBS.out.size; omega)))⟩
   · refine (hof0 w1).mono ?_
     rintro e u0 ⟨rfl, hA0⟩
     obtain ⟨V0, hV0⟩ : ∃ V, V = u0.alloc (.cells #[.func (.func f0) #[] #[], .func (.func g0) #[] #[], .func (.func h0) #[] #[]] 111) := ⟨_, rfl⟩
     obtain ⟨U0, hU0⟩ : ∃ U, u0.heap.size = U := ⟨_, rfl⟩
     have BS := (BS.trans (hA0.mono (Nat.le_of_lt PR.lt))).alloc (Nat.le_trans (Nat.le_of_lt PR.lt) hA0.size) (.cells #[.func (.func f0) #[] #[], .func (.func g0) #[] #[], .func (.func h0) #[] #[]] 111)
     have PR := (PR.below hA0 PR.lt).alloc (.cells #[.func (.func f0) #[] #[], .func (.func g0) #[] #[], .func (.func h0) #[] #[]] 111)
     have PS := (PS.below hA0 PS.lt).alloc (.cells #[.func (.func f0) #[] #[], .func (.func g0) #[] #[], .func (.func h0) #[] #[]] 111)
     have PC := Blk.new u0 [.func (.func f0) #[] #[], .func (.func g0) #[] #[], .func (.func h0) #[] #[]] 111
     rw [← hV0] at PR PS BS PC
     rw [hU0] at PC
     have HV := hide hV0
     have HPR := hide PR; have HPS := hide PS; have HBS := hide BS; have HPC := hide PC
     clear hV0 PR PS BS PC hA0
     go_upto_region 7 with fail
     rw [← HV.out]
     have eg := HK0.out.2.1
     unfold EntersF at eg
     have HRG := hide (fun w => HK0.out.2.2.2.2.1 a0 a1 a2 a3 a4 a5 w)
     rw [hr0] at HRG
     have F0_0 : ∀ q : Beyond V0, q.w.cell? ⟨U0, 1, none⟩ = some (.func (.func g0) #[] #[]) := fun q => q.cell HPC.out.lt (HPC.out 1 _ rfl).1
     obtain ⟨F0_1, F0_2, F0_3, F0_4, F0_5, F0_6, F0_7, F0_8, F0_9, F0_10, F0_11, F0_12, F0_13, F0_14⟩ := HPS.out.by14
     refine wp_region_beyond (by kernel_rfl) (by kernel_rfl) ?_
     repeat (first | go_big_quiet_step (first | (go_at_fn g0; exact beyondCall (HRG.out _))) | quiet_step (first | (go_at_fn g0; exact beyondCall (HRG.out _))))
     refine wpQuiet_nil ?_
     intro _ hw'
     obtain ⟨pq0, hw''⟩ := hw'
     subst hw''
     clear eg HRG F0_0 F0_1 F0_2 F0_3 F0_4 F0_5 F0_6 F0_7 F0_8 F0_9 F0_10 F0_11 F0_12 F0_13 F0_14
     have PR := HPR.out.below pq0.h HPR.out.lt
     have PS := HPS.out.below pq0.h HPS.out.lt
     have BS := HBS.out.trans (pq0.h.mono (by have := HBS.out.size; omega))
     obtain ⟨N0, hN0⟩ : ∃ N, pq0.w = N := ⟨_, rfl⟩
     rw [hN0] at PR PS BS ⊢
     clear hN0 HPR HPS HBS HPC HV hU0 pq0
     have HPR := hide PR; have HPS := hide PS; have HBS := hide BS
     clear PR PS BS
     go_wp2_with fail
     rw [rounds_succ]
     go_wp2_with fail
     have PR := HPR.out; have PS := HPS.out; have BS := HBS.out
     clear HPR HPS HBS
     have hof1 := HOF1.out
     cases hr1 : rightK k1 ⟨b0, b1, b2, b3, b4, b5⟩ with
     | false =>
       refine (hof1 N0).mono ?_
       rintro e u1 ⟨rfl, hA1⟩
       obtain ⟨V1, hV1⟩ : ∃ V, V = u1.alloc (.cells #[.func (.func f1) #[] #[], .func (.func g1) #[] #[], .func (.func h1) #[] #[]] 111) := ⟨_, rfl⟩
       obtain ⟨U1, hU1⟩ : ∃ U, u1.heap.size = U := ⟨_, rfl⟩
       have BS := (BS.trans (hA1.mono (Nat.le_of_lt PR.lt))).alloc (Nat.le_trans (Nat.le_of_lt PR.lt) hA1.size) (.cells #[.func (.func f1) #[] #[], .func (.func g1) #[] #[], .func (.func h1) #[] #[]] 111)
       have PR := (PR.below hA1 PR.lt).alloc (.cells #[.func (.func f1) #[] #[], .func (.func g1) #[] #[], .func (.func h1) #[] #[]] 111)
       have PS := (PS.below hA1 PS.lt).alloc (.cells #[.func (.func f1) #[] #[], .func (.func g1) #[] #[], .func (.func h1) #[] #[]] 111)
       have PC := Blk.new u1 [.func (.func f1) #[] #[], .func (.func g1) #[] #[], .func (.func h1) #[] #[]] 111
       rw [← hV1] at PR PS BS PC
       rw [hU1] at PC
       have HV := hide hV1
       have HPR := hide PR; have HPS := hide PS; have HBS := hide BS; have HPC := hide PC
       clear hV1 PR PS BS PC hA1
       go_upto_region 7 with fail
       rw [← HV.out]
       have eg := HK1.out.2.1
       unfold EntersF at eg
       have HRG := hide (fun w => HK1.out.2.2.2.2.1 b0 b1 b2 b3 b4 b5 w)
       rw [hr1] at HRG
       have F1_0 : ∀ q : Beyond V1, q.w.cell? ⟨U1, 1, none⟩ = some (.func (.func g1) #[] #[]) := fun q => q.cell HPC.out.lt (HPC.out 1 _ rfl).1
       obtain ⟨F1_1, F1_2, F1_3, F1_4, F1_5, F1_6, F1_7, F1_8, F1_9, F1_10, F1_11, F1_12, F1_13, F1_14⟩ := HPS.out.by14
       refine wp_region_beyond (by kernel_rfl) (by kernel_rfl) ?_
       repeat (first | go_big_quiet_step (first | (go_at_fn g1; exact beyondCall (HRG.out _))) | quiet_step (first | (go_at_fn g1; exact beyondCall (HRG.out _))))
       refine wpQuiet_nil ?_
       intro _ hw'
       obtain ⟨pq1, hw''⟩ := hw'
       subst hw''
       clear eg HRG F1_0 F1_1 F1_2 F1_3 F1_4 F1_5 F1_6 F1_7 F1_8 F1_9 F1_10 F1_11 F1_12 F1_13 F1_14
       go_wp2
       go_ret
       exact ⟨IsB.f (fun h => by have := h.2.2.2.1; rw [hr1] at this; cases this), by first | exact HBS.out.trans (pq1.h.mono (by have := HBS.out.size; omega)) | (rw [hS]; exact HBS.out.trans (pq1.h.mono (by have := HBS.out.size; omega)))⟩
     | true =>
       rcases Int.lt_or_le y 0 with hx1 | hx1
       · refine (hof1 N0).mono ?_
         rintro e u1 ⟨rfl, hA1⟩
         obtain ⟨V1, hV1⟩ : ∃ V, V = u1.alloc (.cells #[.func (.func f1) #[] #[], .func (.func g1) #[] #[], .func (.func h1) #[] #[]] 111) := ⟨_, rfl⟩
         obtain ⟨U1, hU1⟩ : ∃ U, u1.heap.size = U := ⟨_, rfl⟩
         have BS := (BS.trans (hA1.mono (Nat.le_of_lt PR.lt))).alloc (Nat.le_trans (Nat.le_of_lt PR.lt) hA1.size) (.cells #[.func (.func f1) #[] #[], .func (.func g1) #[] #[], .func (.func h1) #[] #[]] 111)
         have PR := (PR.below hA1 PR.lt).alloc (.cells #[.func (.func f1) #[] #[], .func (.func g1) #[] #[], .func (.func h1) #[] #[]] 111)
         have PS := (PS.below hA1 PS.lt).alloc (.cells #[.func (.func f1) #[] #[], .func (.func g1) #[] #[], .func (.func h1) #[] #[]] 111)
         have PC := Blk.new u1 [.func (.func f1) #[] #[], .func (.func g1) #[] #[], .func (.func h1) #[] #[]] 111
         rw [← hV1] at PR PS BS PC
         rw [hU1] at PC
         have HV := hide hV1
         have HPR := hide PR; have HPS := hide PS; have HBS := hide BS; have HPC := hide PC
         clear hV1 PR PS BS PC hA1
         go_upto_region 7 with fail
         rw [← HV.out]
         have eg := HK1.out.2.1
         unfold EntersF at eg
         have HRG := hide (fun w => HK1.out.2.2.2.2.1 b0 b1 b2 b3 b4 b5 w)
         rw [hr1] at HRG
         have F1_0 : ∀ q : Beyond V1, q.w.cell? ⟨U1, 1, none⟩ = some (.func (.func g1) #[] #[]) := fun q => q.cell HPC.out.lt (HPC.out 1 _ rfl).1
         obtain ⟨F1_1, F1_2, F1_3, F1_4, F1_5, F1_6, F1_7, F1_8, F1_9, F1_10, F1_11, F1_12, F1_13, F1_14⟩ := HPS.out.by14
         refine wp_region_beyond (by kernel_rfl) (by kernel_rfl) ?_
         repeat (first | go_big_quiet_step (first | (go_at_fn g1; exact beyondCall (HRG.out _))) | quiet_step (first | (go_at_fn g1; exact beyondCall (HRG.out _))))
         refine wpQuiet_nil ?_
         intro _ hw'
         obtain ⟨pq1, hw''⟩ := hw'
         subst hw''
         clear eg HRG F1_0 F1_1 F1_2 F1_3 F1_4 F1_5 F1_6 F1_7 F1_8 F1_9 F1_10 F1_11 F1_12 F1_13 F1_14
         go_wp2
         go_ret
         exact ⟨IsB.f (fun h => by have := h.2.2.2.2.2.1; omega), by first | exact HBS.out.trans (pq1.h.mono (by have := HBS.out.size; omega)) | (rw [hS]; exact HBS.out.trans (pq1.h.mono (by have := HBS.out.size; omega)))⟩
       · refine (hof1 N0).mono ?_
         rintro e u1 ⟨rfl, hA1⟩
         obtain ⟨V1, hV1⟩ : ∃ V, V = u1.alloc (.cells #[.func (.func f1) #[] #[], .func (.func g1) #[] #[], .func (.func h1) #[] #[]] 111) := ⟨_, rfl⟩
         obtain ⟨U1, hU1⟩ : ∃ U, u1.heap.size = U := ⟨_, rfl⟩
         have BS := (BS.trans (hA1.mono (Nat.le_of_lt PR.lt))).alloc (Nat.le_trans (Nat.le_of_lt PR.lt) hA1.size) (.cells #[.func (.func f1) #[] #[], .func (.func g1) #[] #[], .func (.func h1) #[] #[]] 111)
         have PR := (PR.below hA1 PR.lt).alloc (.cells #[.func (.func f1) #[] #[], .func (.func g1) #[] #[], .func (.func h1) #[] #[]] 111)
         have PS := (PS.below hA1 PS.lt).alloc (.cells #[.func (.func f1) #[] #[], .func (.func g1) #[] #[], .func (.func h1) #[] #[]] 111)
         have PC := Blk.new u1 [.func (.func f1) #[] #[], .func (.func g1) #[] #[], .func (.func h1) #[] #[]] 111
         rw [← hV1] at PR PS BS PC
         rw [hU1] at PC
         have HV := hide hV1
         have HPR := hide PR; have HPS := hide PS; have HBS := hide BS; have HPC := hide PC
         clear hV1 PR PS BS PC hA1
         go_upto_region 7 with fail
         rw [← HV.out]
         have eg := HK1.out.2.1
         unfold EntersF at eg
         have HRG := hide (fun w => HK1.out.2.2.2.2.1 b0 b1 b2 b3 b4 b5 w)
         rw [hr1] at HRG
         have F1_0 : ∀ q : Beyond V1, q.w.cell? ⟨U1, 1, none⟩ = some (.func (.func g1) #[] #[]) := fun q => q.cell HPC.out.lt (HPC.out 1 _ rfl).1
         obtain ⟨F1_1, F1_2, F1_3, F1_4, F1_5, F1_6, F1_7, F1_8, F1_9, F1_10, F1_11, F1_12, F1_13, F1_14⟩ := HPS.out.by14
         refine wp_region_beyond (by kernel_rfl) (by kernel_rfl) ?_
         repeat (first | go_big_quiet_step (first | (go_at_fn g1; exact beyondCall (HRG.out _))) | quiet_step (first | (go_at_fn g1; exact beyondCall (HRG.out _))))
         refine wpQuiet_nil ?_
         intro _ hw'
         obtain ⟨pq1, hw''⟩ := hw'
         subst hw''
         clear eg HRG F1_0 F1_1 F1_2 F1_3 F1_4 F1_5 F1_6 F1_7 F1_8 F1_9 F1_10 F1_11 F1_12 F1_13 F1_14
         have PR := HPR.out.below pq1.h HPR.out.lt
         have PS := HPS.out.below pq1.h HPS.out.lt
         have BS := HBS.out.trans (pq1.h.mono (by have := HBS.out.size; omega))
         obtain ⟨N1, hN1⟩ : ∃ N, pq1.w = N := ⟨_, rfl⟩
         rw [hN1] at PR PS BS ⊢
         clear hN1 HPR HPS HBS HPC HV hU1 pq1
         have HPR := hide PR; have HPS := hide PS; have HBS := hide BS
         have d2 := (PR 3 _ rfl).1
         have e12 := (PS 12 _ rfl).1
         have e13 := (PS 13 _ rfl).1
         clear PR PS BS
         by_cases hm : max x y ≤ Q
         case neg => (go_wp2; rw [rounds_succ]; go_wp2; go_ret; exact ⟨by first | exact IsB.f (fun h => by have := h.2.2.2.2.2.2; omega) | exact IsB.d (by simp [StRight]; omega), by first | exact HBS.out | (rw [hS]; exact HBS.out)⟩)
         have hr' := hr
         unfold rangeOk at hr'
         have hQ1 : Q ≤ 16 := by omega
         by_cases hs' : x + y ≤ Q
         case neg => (go_wp2; rw [rounds_succ]; go_wp2; go_ret; exact ⟨by first | exact IsB.f (fun h => by have := h.2.2.2.2.2.2; omega) | exact IsB.d (by simp [StRight]; omega), by first | exact HBS.out | (rw [hS]; exact HBS.out)⟩)
         go_wp2
         rw [rounds_succ]
         go_wp2
         go_ret
         exact ⟨by first | exact IsB.t ⟨hk, hr, hr0, hr1, hx0, hx1, hs'⟩ | exact IsB.d (by simp [StRight, hk, hr, hr0, hr1, hx0, hx1, hs']), by first | exact HBS.out | (rw [hS]; exact HBS.out)⟩
end Go.Proofs.Ytkmodnggncadeaa
namespace Go.Proofs.Ytkmodnggncadeaa
open Go.RowKit
set_option linter.unusedSimpArgs false
set_option linter.unusedVariables false
attribute [local go_sem] iteMin iteMax iteMinN iteMaxN
theorem kind_right {kd a0 a1 a2 a3 a4 a5 : Int} (h1 : 1 ≤ kd ∧ kd ≤ 3) (h : rightK kd ⟨a0, a1, a2, a3, a4, a5⟩ = true) : a0 = kd := by
 unfold rightK at h
 rcases (show kd = 1 ∨ kd = 2 ∨ kd = 3 by omega) with rfl | rfl | rfl
 · exact kind_of_veg h
 · exact kind_of_cop h
 · exact kind_of_led h
set_option maxRecDepth 100000 in
set_option maxHeartbeats 8000000 in
theorem pright_any (k0 k1 R Q J a0 a1 a2 a3 a4 a5 b0 b1 b2 b3 b4 b5 x y : Int) (w : World) : Calls Try.prog 33 #[.agg #[.int .i64 k0, .int .i64 k1, .int .i64 R, .int .i64 Q, .int .i64 J], .agg #[.int .i64 a0, .int .i64 a1, .int .i64 a2, .int .i64 a3, .int .i64 a4, .int .i64 a5, .int .i64 b0, .int .i64 b1, .int .i64 b2, .int .i64 b3, .int .i64 b4, .int .i64 b5, .int .i64 x, .int .i64 y]] w fun e w' => IsB (StRight k0 k1 R Q J a0 a1 a2 a3 a4 a5 b0 b1 b2 b3 b4 b5 x y) e ∧ Below w.heap.size w w' := by
 obtain ⟨S, hS⟩ : ∃ S, w.heap.size = S := ⟨_, rfl⟩
 have i0 : ∀ w : World, (Instr.index 39 (.agg #[.int .i64 a0, .int .i64 a1, .int .i64 a2, .int .i64 a3, .int .i64 a4, .int .i64 a5, .int .i64 b0, .int .i64 b1, .int .i64 b2, .int .i64 b3, .int .i64 b4, .int .i64 b5]) (.int .i64 0)).run Try.prog w = .ok (.agg #[.int .i64 a0, .int .i64 a1, .int .i64 a2, .int .i64 a3, .int .i64 a4, .int .i64 a5]) w := fun _ => by kernel_rfl
 have i1 : ∀ w : World, (Instr.index 39 (.agg #[.int .i64 a0, .int .i64 a1, .int .i64 a2, .int .i64 a3, .int .i64 a4, .int .i64 a5, .int .i64 b0, .int .i64 b1, .int .i64 b2, .int .i64 b3, .int .i64 b4, .int .i64 b5]) (.int .i64 1)).run Try.prog w = .ok (.agg #[.int .i64 b0, .int .i64 b1, .int .i64 b2, .int .i64 b3, .int .i64 b4, .int .i64 b5]) w := fun _ => by kernel_rfl
 go_enter Try.func33, Try.ntmps33
 go_wp2_with fail
 obtain ⟨W, hW⟩ : ∃ W, W = (w.alloc (.cells #[.int .i64 k0, .int .i64 k1, .int .i64 R, .int .i64 Q, .int .i64 J] 24)).alloc (.cells #[.int .i64 a0, .int .i64 a1, .int .i64 a2, .int .i64 a3, .int .i64 a4, .int .i64 a5, .int .i64 b0, .int .i64 b1, .int .i64 b2, .int .i64 b3, .int .i64 b4, .int .i64 b5, .int .i64 x, .int .i64 y] 41) := ⟨_, rfl⟩
 rw [← hW]
 have PR : Blk W S [.int .i64 k0, .int .i64 k1, .int .i64 R, .int .i64 Q, .int .i64 J] := by
  have := (Blk.new w [.int .i64 k0, .int .i64 k1, .int .i64 R, .int .i64 Q, .int .i64 J] 24).alloc (.cells #[.int .i64 a0, .int .i64 a1, .int .i64 a2, .int .i64 a3, .int .i64 a4, .int .i64 a5, .int .i64 b0, .int .i64 b1, .int .i64 b2, .int .i64 b3, .int .i64 b4, .int .i64 b5, .int .i64 x, .int .i64 y] 41)
  rw [hW]; simpa [hS] using this
 have PS : Blk W (S + 1) [.int .i64 a0, .int .i64 a1, .int .i64 a2, .int .i64 a3, .int .i64 a4, .int .i64 a5, .int .i64 b0, .int .i64 b1, .int .i64 b2, .int .i64 b3, .int .i64 b4, .int .i64 b5, .int .i64 x, .int .i64 y] := by
  have := Blk.new (w.alloc (.cells #[.int .i64 k0, .int .i64 k1, .int .i64 R, .int .i64 Q, .int .i64 J] 24)) [.int .i64 a0, .int .i64 a1, .int .i64 a2, .int .i64 a3, .int .i64 a4, .int .i64 a5, .int .i64 b0, .int .i64 b1, .int .i64 b2, .int .i64 b3, .int .i64 b4, .int .i64 b5, .int .i64 x, .int .i64 y] 41
  rw [hW]; simpa [hS] using this
 have BS : Below S w W := by rw [hW, ← hS]; exact ((Below.refl _ _).alloc (Nat.le_refl _) _).alloc (by simp) _
 clear hW
 refine (pwrong_any k0 k1 R Q J W).mono ?_
 rintro e w1 ⟨⟨r, rfl, hw⟩, hB1⟩
 have BS := BS.trans (hB1.mono (by have := PR.lt; omega))
 have PR := PR.below hB1 PR.lt
 have PS := PS.below hB1 PS.lt
 clear hB1
 by_cases hok : kindsOk k0 k1 ∧ rangeOk R Q J
 case neg =>
  have HBS := hide BS
  have HNO := hide hok
  clear PR PS BS
  rcases hw with ⟨_, rfl⟩ | ⟨_, _, rfl⟩ | ⟨h1, h2, _⟩
  · clear hok
    go_wp2
    go_ret
    exact ⟨IsB.f (fun h => HNO.out ⟨h.1, h.2.1⟩), by first | exact HBS.out | (rw [hS]; exact HBS.out)⟩
  · clear hok
    go_wp2
    go_ret
    exact ⟨IsB.f (fun h => HNO.out ⟨h.1, h.2.1⟩), by first | exact HBS.out | (rw [hS]; exact HBS.out)⟩
  · exact absurd ⟨h1, h2⟩ hok
 obtain ⟨hk, hr⟩ := hok
 obtain rfl : r = 0 := wrongSays_one hw (.inr (.inr ⟨hk, hr, rfl⟩))
 clear hw
 have hQ16 : Q ≤ 16 := hr.2.2.2.1
 have c2 := (PR 3 _ rfl).1
 have e0 := (PS 0 _ rfl).1
 have e1 := (PS 1 _ rfl).1
 have e2 := (PS 2 _ rfl).1
 have e3 := (PS 3 _ rfl).1
 have e4 := (PS 4 _ rfl).1
 have e5 := (PS 5 _ rfl).1
 have e6 := (PS 6 _ rfl).1
 have e7 := (PS 7 _ rfl).1
 have e8 := (PS 8 _ rfl).1
 have e9 := (PS 9 _ rfl).1
 have e10 := (PS 10 _ rfl).1
 have e11 := (PS 11 _ rfl).1
 have e12 := (PS 12 _ rfl).1
 have e13 := (PS 13 _ rfl).1
 have HPR := hide PR; have HBS := hide BS
 clear PR PS BS
 by_cases hx : 0 ≤ x ∧ 0 ≤ y ∧ x + y ≤ Q
 case neg =>
  by_cases hm : 0 ≤ min x y
  case neg => (go_wp2; go_ret; exact ⟨IsB.f (fun h => hx h.2.2.2.2), by first | exact HBS.out | (rw [hS]; exact HBS.out)⟩)
  by_cases hM : max x y ≤ 16
  case neg => (go_wp2; go_ret; exact ⟨IsB.f (fun h => hx h.2.2.2.2), by first | exact HBS.out | (rw [hS]; exact HBS.out)⟩)
  have hs : Q < x + y := by omega
  go_wp2
  go_ret
  exact ⟨IsB.f (fun h => hx h.2.2.2.2), by first | exact HBS.out | (rw [hS]; exact HBS.out)⟩
 have hm : 0 ≤ min x y := by omega
 have hM : max x y ≤ 16 := by omega
 have hs : x + y ≤ Q := hx.2.2
 obtain ⟨k0', n0', b0', y0', s0', p0', t0, ht0, hp0⟩ := pnext_zero a0 a1 a2 a3 a4 a5
 obtain ⟨k1', n1', b1', y1', s1', p1', t1, ht1, hp1⟩ := pnext_zero b0 b1 b2 b3 b4 b5
 have HP0 := hide hp0; have HP1 := hide hp1
 clear hp0 hp1
 go_wp2
 refine wp_loop_rounds 3 ?_
 rw [rounds_succ]
 go_wp2_with fail
 have PR := HPR.out; have BS := HBS.out
 have hp0 := HP0.out
 clear HPR HBS c2 e0 e1 e2 e3 e4 e5 e6 e7 e8 e9 e10 e11 e12 e13
 by_cases he0 : a0 = k0
 case neg =>
  have he' : (a0 == k0) = false := by simp [he0]
  cases t0
  all_goals
   obtain ⟨V0, hV0⟩ : ∃ V, V = w1.alloc (.cells #[.int .i64 a0, .int .i64 a1, .int .i64 a2, .int .i64 a3, .int .i64 a4, .int .i64 a5] 38) := ⟨_, rfl⟩
   obtain ⟨U0, hU0⟩ : ∃ U, w1.heap.size = U := ⟨_, rfl⟩
   have BS := BS.alloc (Nat.le_of_lt PR.lt) (.cells #[.int .i64 a0, .int .i64 a1, .int .i64 a2, .int .i64 a3, .int .i64 a4, .int .i64 a5] 38)
   have PR := PR.alloc (.cells #[.int .i64 a0, .int .i64 a1, .int .i64 a2, .int .i64 a3, .int .i64 a4, .int .i64 a5] 38)
   have PC := Blk.new w1 [.int .i64 a0, .int .i64 a1, .int .i64 a2, .int .i64 a3, .int .i64 a4, .int .i64 a5] 38
   rw [← hV0] at PR BS PC
   rw [hU0] at PC
   rw [← hV0]
   refine (hp0 V0).mono ?_
   rintro e u0 ⟨rfl, hA0⟩
   have BS := (BS.trans (hA0.mono (Nat.le_of_lt PR.lt))).alloc (Nat.le_trans (Nat.le_of_lt PR.lt) hA0.size) (.cells #[.int .i64 k0', .int .i64 n0', .int .i64 b0', .int .i64 y0', .int .i64 s0', .int .i64 p0'] 38)
   have PC := (PC.below hA0 PC.lt).alloc (.cells #[.int .i64 k0', .int .i64 n0', .int .i64 b0', .int .i64 y0', .int .i64 s0', .int .i64 p0'] 38)
   have PR := (PR.below hA0 PR.lt).alloc (.cells #[.int .i64 k0', .int .i64 n0', .int .i64 b0', .int .i64 y0', .int .i64 s0', .int .i64 p0'] 38)
   obtain ⟨X0, hX0⟩ : ∃ X, X = u0.alloc (.cells #[.int .i64 k0', .int .i64 n0', .int .i64 b0', .int .i64 y0', .int .i64 s0', .int .i64 p0'] 38) := ⟨_, rfl⟩
   rw [← hX0] at PR BS PC
   clear hA0 hV0
   have HX := hide hX0
   have HPR := hide PR; have HBS := hide BS; have HPC := hide PC
   clear hX0 PR BS PC
   go_upto_region 7 with fail
   rw [← HX.out]
   have y0 := (HPC.out 0 _ rfl).1
   have y1 := (HPR.out 0 _ rfl).1
   have y2 := (HPR.out 1 _ rfl).1
   go_quiet (fail)
   clear y0 y1 y2
   go_wp2
   go_ret
   exact ⟨IsB.f (fun h => he0 (kind_right ⟨hk.1, hk.2.1⟩ h.2.2.1)), by first | exact below_drewN HBS.out _ | (rw [hS]; exact below_drewN HBS.out _)⟩
 subst he0
 cases hq0 : rightK a0 ⟨a0, a1, a2, a3, a4, a5⟩ with
 | false =>
   obtain rfl : t0 = false := by rw [ht0 a0 hk.1 hk.2.1 rfl, hq0]
   obtain ⟨V0, hV0⟩ : ∃ V, V = w1.alloc (.cells #[.int .i64 a0, .int .i64 a1, .int .i64 a2, .int .i64 a3, .int .i64 a4, .int .i64 a5] 38) := ⟨_, rfl⟩
   obtain ⟨U0, hU0⟩ : ∃ U, w1.heap.size = U := ⟨_, rfl⟩
   have BS := BS.alloc (Nat.le_of_lt PR.lt) (.cells #[.int .i64 a0, .int .i64 a1, .int .i64 a2, .int .i64 a3, .int .i64 a4, .int .i64 a5] 38)
   have PR := PR.alloc (.cells #[.int .i64 a0, .int .i64 a1, .int .i64 a2, .int .i64 a3, .int .i64 a4, .int .i64 a5] 38)
   have PC := Blk.new w1 [.int .i64 a0, .int .i64 a1, .int .i64 a2, .int .i64 a3, .int .i64 a4, .int .i64 a5] 38
   rw [← hV0] at PR BS PC
   rw [hU0] at PC
   rw [← hV0]
   refine (hp0 V0).mono ?_
   rintro e u0 ⟨rfl, hA0⟩
   have BS := (BS.trans (hA0.mono (Nat.le_of_lt PR.lt))).alloc (Nat.le_trans (Nat.le_of_lt PR.lt) hA0.size) (.cells #[.int .i64 k0', .int .i64 n0', .int .i64 b0', .int .i64 y0', .int .i64 s0', .int .i64 p0'] 38)
   have PC := (PC.below hA0 PC.lt).alloc (.cells #[.int .i64 k0', .int .i64 n0', .int .i64 b0', .int .i64 y0', .int .i64 s0', .int .i64 p0'] 38)
   have PR := (PR.below hA0 PR.lt).alloc (.cells #[.int .i64 k0', .int .i64 n0', .int .i64 b0', .int .i64 y0', .int .i64 s0', .int .i64 p0'] 38)
   obtain ⟨X0, hX0⟩ : ∃ X, X = u0.alloc (.cells #[.int .i64 k0', .int .i64 n0', .int .i64 b0', .int .i64 y0', .int .i64 s0', .int .i64 p0'] 38) := ⟨_, rfl⟩
   rw [← hX0] at PR BS PC
   clear hA0 hV0
   have HX := hide hX0
   have HPR := hide PR; have HBS := hide BS; have HPC := hide PC
   clear hX0 PR BS PC
   go_upto_region 7 with fail
   rw [← HX.out]
   have y0 := (HPC.out 0 _ rfl).1
   have y1 := (HPR.out 0 _ rfl).1
   have y2 := (HPR.out 1 _ rfl).1
   go_quiet (fail)
   clear y0 y1 y2
   go_wp2
   go_ret
   exact ⟨IsB.f (fun h => by have := h.2.2.1; rw [hq0] at this; cases this), by first | exact below_drewN HBS.out _ | (rw [hS]; exact below_drewN HBS.out _)⟩
 | true =>
   obtain rfl : t0 = true := by rw [ht0 a0 hk.1 hk.2.1 rfl, hq0]
   obtain ⟨V0, hV0⟩ : ∃ V, V = w1.alloc (.cells #[.int .i64 a0, .int .i64 a1, .int .i64 a2, .int .i64 a3, .int .i64 a4, .int .i64 a5] 38) := ⟨_, rfl⟩
   obtain ⟨U0, hU0⟩ : ∃ U, w1.heap.size = U := ⟨_, rfl⟩
   have BS := BS.alloc (Nat.le_of_lt PR.lt) (.cells #[.int .i64 a0, .int .i64 a1, .int .i64 a2, .int .i64 a3, .int .i64 a4, .int .i64 a5] 38)
   have PR := PR.alloc (.cells #[.int .i64 a0, .int .i64 a1, .int .i64 a2, .int .i64 a3, .int .i64 a4, .int .i64 a5] 38)
   have PC := Blk.new w1 [.int .i64 a0, .int .i64 a1, .int .i64 a2, .int .i64 a3, .int .i64 a4, .int .i64 a5] 38
   rw [← hV0] at PR BS PC
   rw [hU0] at PC
   rw [← hV0]
   refine (hp0 V0).mono ?_
   rintro e u0 ⟨rfl, hA0⟩
   have BS := (BS.trans (hA0.mono (Nat.le_of_lt PR.lt))).alloc (Nat.le_trans (Nat.le_of_lt PR.lt) hA0.size) (.cells #[.int .i64 k0', .int .i64 n0', .int .i64 b0', .int .i64 y0', .int .i64 s0', .int .i64 p0'] 38)
   have PC := (PC.below hA0 PC.lt).alloc (.cells #[.int .i64 k0', .int .i64 n0', .int .i64 b0', .int .i64 y0', .int .i64 s0', .int .i64 p0'] 38)
   have PR := (PR.below hA0 PR.lt).alloc (.cells #[.int .i64 k0', .int .i64 n0', .int .i64 b0', .int .i64 y0', .int .i64 s0', .int .i64 p0'] 38)
   obtain ⟨X0, hX0⟩ : ∃ X, X = u0.alloc (.cells #[.int .i64 k0', .int .i64 n0', .int .i64 b0', .int .i64 y0', .int .i64 s0', .int .i64 p0'] 38) := ⟨_, rfl⟩
   rw [← hX0] at PR BS PC
   clear hA0 hV0
   have HX := hide hX0
   have HPR := hide PR; have HBS := hide BS; have HPC := hide PC
   clear hX0 PR BS PC
   go_upto_region 7 with fail
   rw [← HX.out]
   have y0 := (HPC.out 0 _ rfl).1
   have y1 := (HPR.out 0 _ rfl).1
   have y2 := (HPR.out 1 _ rfl).1
   go_quiet (fail)
   clear y0 y1 y2
   have PR : Blk (X0.drewN nq) S [.int .i64 a0, .int .i64 k1, .int .i64 R, .int .i64 Q, .int .i64 J] := HPR.out
   have BS := below_drewN HBS.out nq
   clear HPC HX hU0 HPR HBS
   generalize X0.drewN nq = N0 at PR BS ⊢
   have HPR := hide PR; have HBS := hide BS
   clear PR BS
   go_wp2_with fail
   rw [rounds_succ]
   go_wp2_with fail
   have PR := HPR.out; have BS := HBS.out
   clear HPR HBS
   have hp1 := HP1.out
   by_cases he1 : b0 = k1
   case neg =>
    have he' : (b0 == k1) = false := by simp [he1]
    cases t1
    all_goals
     obtain ⟨V1, hV1⟩ : ∃ V, V = N0.alloc (.cells #[.int .i64 b0, .int .i64 b1, .int .i64 b2, .int .i64 b3, .int .i64 b4, .int .i64 b5] 38) := ⟨_, rfl⟩
     obtain ⟨U1, hU1⟩ : ∃ U, N0.heap.size = U := ⟨_, rfl⟩
     have BS := BS.alloc (Nat.le_of_lt PR.lt) (.cells #[.int .i64 b0, .int .i64 b1, .int .i64 b2, .int .i64 b3, .int .i64 b4, .int .i64 b5] 38)
     have PR := PR.alloc (.cells #[.int .i64 b0, .int .i64 b1, .int .i64 b2, .int .i64 b3, .int .i64 b4, .int .i64 b5] 38)
     have PC := Blk.new N0 [.int .i64 b0, .int .i64 b1, .int .i64 b2, .int .i64 b3, .int .i64 b4, .int .i64 b5] 38
     rw [← hV1] at PR BS PC
     rw [hU1] at PC
     rw [← hV1]
     refine (hp1 V1).mono ?_
     rintro e u1 ⟨rfl, hA1⟩
     have BS := (BS.trans (hA1.mono (Nat.le_of_lt PR.lt))).alloc (Nat.le_trans (Nat.le_of_lt PR.lt) hA1.size) (.cells #[.int .i64 k1', .int .i64 n1', .int .i64 b1', .int .i64 y1', .int .i64 s1', .int .i64 p1'] 38)
     have PC := (PC.below hA1 PC.lt).alloc (.cells #[.int .i64 k1', .int .i64 n1', .int .i64 b1', .int .i64 y1', .int .i64 s1', .int .i64 p1'] 38)
     have PR := (PR.below hA1 PR.lt).alloc (.cells #[.int .i64 k1', .int .i64 n1', .int .i64 b1', .int .i64 y1', .int .i64 s1', .int .i64 p1'] 38)
     obtain ⟨X1, hX1⟩ : ∃ X, X = u1.alloc (.cells #[.int .i64 k1', .int .i64 n1', .int .i64 b1', .int .i64 y1', .int .i64 s1', .int .i64 p1'] 38) := ⟨_, rfl⟩
     rw [← hX1] at PR BS PC
     clear hA1 hV1
     have HX := hide hX1
     have HPR := hide PR; have HBS := hide BS; have HPC := hide PC
     clear hX1 PR BS PC
     go_upto_region 7 with fail
     rw [← HX.out]
     have y0 := (HPC.out 0 _ rfl).1
     have y1 := (HPR.out 0 _ rfl).1
     have y2 := (HPR.out 1 _ rfl).1
     go_quiet (fail)
     clear y0 y1 y2
     go_wp2
     go_ret
     exact ⟨IsB.f (fun h => he1 (kind_right ⟨hk.2.2.1, hk.2.2.2⟩ h.2.2.2.1)), by first | exact below_drewN HBS.out _ | (rw [hS]; exact below_drewN HBS.out _)⟩
   subst he1
   cases hq1 : rightK b0 ⟨b0, b1, b2, b3, b4, b5⟩ with
   | false =>
     obtain rfl : t1 = false := by rw [ht1 b0 hk.2.2.1 hk.2.2.2 rfl, hq1]
     obtain ⟨V1, hV1⟩ : ∃ V, V = N0.alloc (.cells #[.int .i64 b0, .int .i64 b1, .int .i64 b2, .int .i64 b3, .int .i64 b4, .int .i64 b5] 38) := ⟨_, rfl⟩
     obtain ⟨U1, hU1⟩ : ∃ U, N0.heap.size = U := ⟨_, rfl⟩
     have BS := BS.alloc (Nat.le_of_lt PR.lt) (.cells #[.int .i64 b0, .int .i64 b1, .int .i64 b2, .int .i64 b3, .int .i64 b4, .int .i64 b5] 38)
     have PR := PR.alloc (.cells #[.int .i64 b0, .int .i64 b1, .int .i64 b2, .int .i64 b3, .int .i64 b4, .int .i64 b5] 38)
     have PC := Blk.new N0 [.int .i64 b0, .int .i64 b1, .int .i64 b2, .int .i64 b3, .int .i64 b4, .int .i64 b5] 38
     rw [← hV1] at PR BS PC
     rw [hU1] at PC
     rw [← hV1]
     refine (hp1 V1).mono ?_
     rintro e u1 ⟨rfl, hA1⟩
     have BS := (BS.trans (hA1.mono (Nat.le_of_lt PR.lt))).alloc (Nat.le_trans (Nat.le_of_lt PR.lt) hA1.size) (.cells #[.int .i64 k1', .int .i64 n1', .int .i64 b1', .int .i64 y1', .int .i64 s1', .int .i64 p1'] 38)
     have PC := (PC.below hA1 PC.lt).alloc (.cells #[.int .i64 k1', .int .i64 n1', .int .i64 b1', .int .i64 y1', .int .i64 s1', .int .i64 p1'] 38)
     have PR := (PR.below hA1 PR.lt).alloc (.cells #[.int .i64 k1', .int .i64 n1', .int .i64 b1', .int .i64 y1', .int .i64 s1', .int .i64 p1'] 38)
     obtain ⟨X1, hX1⟩ : ∃ X, X = u1.alloc (.cells #[.int .i64 k1', .int .i64 n1', .int .i64 b1', .int .i64 y1', .int .i64 s1', .int .i64 p1'] 38) := ⟨_, rfl⟩
     rw [← hX1] at PR BS PC
     clear hA1 hV1
     have HX := hide hX1
     have HPR := hide PR; have HBS := hide BS; have HPC := hide PC
     clear hX1 PR BS PC
     go_upto_region 7 with fail
     rw [← HX.out]
     have y0 := (HPC.out 0 _ rfl).1
     have y1 := (HPR.out 0 _ rfl).1
     have y2 := (HPR.out 1 _ rfl).1
     go_quiet (fail)
     clear y0 y1 y2
     go_wp2
     go_ret
     exact ⟨IsB.f (fun h => by have := h.2.2.2.1; rw [hq1] at this; cases this), by first | exact below_drewN HBS.out _ | (rw [hS]; exact below_drewN HBS.out _)⟩
   | true =>
     obtain rfl : t1 = true := by rw [ht1 b0 hk.2.2.1 hk.2.2.2 rfl, hq1]
     obtain ⟨V1, hV1⟩ : ∃ V, V = N0.alloc (.cells #[.int .i64 b0, .int .i64 b1, .int .i64 b2, .int .i64 b3, .int .i64 b4, .int .i64 b5] 38) := ⟨_, rfl⟩
     obtain ⟨U1, hU1⟩ : ∃ U, N0.heap.size = U := ⟨_, rfl⟩
     have BS := BS.alloc (Nat.le_of_lt PR.lt) (.cells #[.int .i64 b0, .int .i64 b1, .int .i64 b2, .int .i64 b3, .int .i64 b4, .int .i64 b5] 38)
     have PR := PR.alloc (.cells #[.int .i64 b0, .int .i64 b1, .int .i64 b2, .int .i64 b3, .int .i64 b4, .int .i64 b5] 38)
     have PC := Blk.new N0 [.int .i64 b0, .int .i64 b1, .int .i64 b2, .int .i64 b3, .int .i64 b4, .int .i64 b5] 38
     rw [← hV1] at PR BS PC
     rw [hU1] at PC
     rw [← hV1]
     refine (hp1 V1).mono ?_
     rintro e u1 ⟨rfl, hA1⟩
     have BS := (BS.trans (hA1.mono (Nat.le_of_lt PR.lt))).alloc (Nat.le_trans (Nat.le_of_lt PR.lt) hA1.size) (.cells #[.int .i64 k1', .int .i64 n1', .int .i64 b1', .int .i64 y1', .int .i64 s1', .int .i64 p1'] 38)
     have PC := (PC.below hA1 PC.lt).alloc (.cells #[.int .i64 k1', .int .i64 n1', .int .i64 b1', .int .i64 y1', .int .i64 s1', .int .i64 p1'] 38)
     have PR := (PR.below hA1 PR.lt).alloc (.cells #[.int .i64 k1', .int .i64 n1', .int .i64 b1', .int .i64 y1', .int .i64 s1', .int .i64 p1'] 38)
     obtain ⟨X1, hX1⟩ : ∃ X, X = u1.alloc (.cells #[.int .i64 k1', .int .i64 n1', .int .i64 b1', .int .i64 y1', .int .i64 s1', .int .i64 p1'] 38) := ⟨_, rfl⟩
     rw [← hX1] at PR BS PC
     clear hA1 hV1
     have HX := hide hX1
     have HPR := hide PR; have HBS := hide BS; have HPC := hide PC
     clear hX1 PR BS PC
     go_upto_region 7 with fail
     rw [← HX.out]
     have y0 := (HPC.out 0 _ rfl).1
     have y1 := (HPR.out 0 _ rfl).1
     have y2 := (HPR.out 1 _ rfl).1
     go_quiet (fail)
     clear y0 y1 y2
     go_wp2
     rw [rounds_succ]
     go_wp2
     go_ret
     exact ⟨IsB.t ⟨hk, hr, hq0, hq1, hx.1, hx.2.1, hx.2.2⟩, by first | exact below_drewN HBS.out _ | (rw [hS]; exact below_drewN HBS.out _)⟩
end Go.Proofs.Ytkmodnggncadeaa
