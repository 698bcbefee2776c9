/-
  Lemmas and walks for the statement: Duel12.
-/
import Derived.Test.YtmmjopmffpfccaaQ23
import Derived.Test.YtmmjopmffpfccaaQ27
import Derived.Deep.DeepCutAuto
import Derived.BigRegion
namespace Go.Proofs.Ytmmjopmffpfccaa
open Go.RowKit
set_option linter.unusedSimpArgs false
set_option linter.unusedVariables false
attribute [local go_sem] iteMin iteMax iteMinN iteMaxN
set_option maxRecDepth 100000 in
set_option maxHeartbeats 8000000 in
theorem pstep_ok (k0 k1 R Q J a0 a1 a2 a3 a4 a5 b0 b1 b2 b3 b4 b5 x y l0 l1 : Int) (w : World) (hk : kindsOk k0 k1) (hr : rangeOk R Q J) (hs : StRight k0 k1 R Q J a0 a1 a2 a3 a4 a5 b0 b1 b2 b3 b4 b5 x y) (hl0 : 0 ≤ l0) (hl1 : l0 ≤ J) (hl2 : 0 ≤ l1) (hl3 : l1 ≤ J) (D d0 d1 x0 x1 x2 x3 x4 x5 y0 y1 a0' a1' a2' a3' a4' a5' b0' b1' b2' b3' b4' b5' : Int) (hD : (x + y) / R = D) (hd0 : D + l0 = d0) (hd1 : D + l1 = d1) (hDb : 0 ≤ D ∧ D ≤ 16)
 (PX0 : Hid (∀ w : World, Calls Try.prog 29 #[.agg #[.int .i64 a0, .int .i64 a1, .int .i64 a2, .int .i64 a3, .int .i64 a4, .int .i64 a5], .int .i64 d0] w fun e w' => e = .returned (.tuple #[.agg #[.int .i64 a0', .int .i64 a1', .int .i64 a2', .int .i64 a3', .int .i64 a4', .int .i64 a5'], .bool true]) ∧ Below w.heap.size w w'))
 (PX1 : Hid (∀ w : World, Calls Try.prog 29 #[.agg #[.int .i64 b0, .int .i64 b1, .int .i64 b2, .int .i64 b3, .int .i64 b4, .int .i64 b5], .int .i64 d1] w fun e w' => e = .returned (.tuple #[.agg #[.int .i64 b0', .int .i64 b1', .int .i64 b2', .int .i64 b3', .int .i64 b4', .int .i64 b5'], .bool true]) ∧ Below w.heap.size w w'))
 (HPA : Hid (∀ w : World, Calls Try.prog 30 #[.int .i64 R, .int .i64 Q, .agg #[.int .i64 x, .int .i64 y], .agg #[.int .i64 a1, .int .i64 b1]] w fun e w' => e = .returned (.tuple #[.agg #[.int .i64 x0, .int .i64 x1, .int .i64 x2, .int .i64 x3, .int .i64 x4, .int .i64 x5], .agg #[.int .i64 y0, .int .i64 y1], .int .i64 0]) ∧ Below w.heap.size w w')) :
 Calls Try.prog 9 #[.agg #[.int .i64 k0, .int .i64 k1, .int .i64 R, .int .i64 Q, .int .i64 J], .agg #[.int .i64 a0, .int .i64 a1, .int .i64 a2, .int .i64 a3, .int .i64 a4, .int .i64 a5, .int .i64 b0, .int .i64 b1, .int .i64 b2, .int .i64 b3, .int .i64 b4, .int .i64 b5, .int .i64 x, .int .i64 y], .agg #[.int .i64 l0, .int .i64 l1]] w fun e w' => e = .returned (.tuple #[.agg #[.int .i64 a0', .int .i64 a1', .int .i64 a2', .int .i64 a3', .int .i64 a4', .int .i64 a5', .int .i64 b0', .int .i64 b1', .int .i64 b2', .int .i64 b3', .int .i64 b4', .int .i64 b5', .int .i64 y0, .int .i64 y1], .agg #[.int .i64 x0, .int .i64 x1, .int .i64 x2, .int .i64 x3, .int .i64 x4, .int .i64 x5], .int .i64 0]) ∧ Below w.heap.size w w' := by
 obtain ⟨S, hS⟩ : ∃ S, w.heap.size = S := ⟨_, rfl⟩
 go_enter Try.func9, Try.ntmps9
 go_wp2_with fail
 obtain ⟨W, hW⟩ : ∃ W, W = ((((w.alloc (.cells #[.int .i64 k0, .int .i64 k1, .int .i64 R, .int .i64 Q, .int .i64 J] 24)).alloc (.cells #[.int .i64 a0, .int .i64 a1, .int .i64 a2, .int .i64 a3, .int .i64 a4, .int .i64 a5, .int .i64 b0, .int .i64 b1, .int .i64 b2, .int .i64 b3, .int .i64 b4, .int .i64 b5, .int .i64 x, .int .i64 y] 29)).alloc (.cells #[.int .i64 l0, .int .i64 l1] 22)).alloc (.cells #[.int .i64 0, .int .i64 0, .int .i64 0, .int .i64 0, .int .i64 0, .int .i64 0, .int .i64 0, .int .i64 0, .int .i64 0, .int .i64 0, .int .i64 0, .int .i64 0, .int .i64 0, .int .i64 0] 29)).alloc (.cells #[.int .i64 0, .int .i64 0, .int .i64 0, .int .i64 0, .int .i64 0, .int .i64 0] 34) := ⟨_, rfl⟩
 rw [← hW]
 have P0 : Blk W (S) [.int .i64 k0, .int .i64 k1, .int .i64 R, .int .i64 Q, .int .i64 J] := by
  have := ((((Blk.new w [.int .i64 k0, .int .i64 k1, .int .i64 R, .int .i64 Q, .int .i64 J] 24).alloc (.cells #[.int .i64 a0, .int .i64 a1, .int .i64 a2, .int .i64 a3, .int .i64 a4, .int .i64 a5, .int .i64 b0, .int .i64 b1, .int .i64 b2, .int .i64 b3, .int .i64 b4, .int .i64 b5, .int .i64 x, .int .i64 y] 29)).alloc (.cells #[.int .i64 l0, .int .i64 l1] 22)).alloc (.cells #[.int .i64 0, .int .i64 0, .int .i64 0, .int .i64 0, .int .i64 0, .int .i64 0, .int .i64 0, .int .i64 0, .int .i64 0, .int .i64 0, .int .i64 0, .int .i64 0, .int .i64 0, .int .i64 0] 29)).alloc (.cells #[.int .i64 0, .int .i64 0, .int .i64 0, .int .i64 0, .int .i64 0, .int .i64 0] 34)
  rw [hW]; simpa [hS] using this
 have P1 : Blk W (S + 1) [.int .i64 a0, .int .i64 a1, .int .i64 a2, .int .i64 a3, .int .i64 a4, .int .i64 a5, .int .i64 b0, .int .i64 b1, .int .i64 b2, .int .i64 b3, .int .i64 b4, .int .i64 b5, .int .i64 x, .int .i64 y] := by
  have := (((Blk.new (w.alloc (.cells #[.int .i64 k0, .int .i64 k1, .int .i64 R, .int .i64 Q, .int .i64 J] 24)) [.int .i64 a0, .int .i64 a1, .int .i64 a2, .int .i64 a3, .int .i64 a4, .int .i64 a5, .int .i64 b0, .int .i64 b1, .int .i64 b2, .int .i64 b3, .int .i64 b4, .int .i64 b5, .int .i64 x, .int .i64 y] 29).alloc (.cells #[.int .i64 l0, .int .i64 l1] 22)).alloc (.cells #[.int .i64 0, .int .i64 0, .int .i64 0, .int .i64 0, .int .i64 0, .int .i64 0, .int .i64 0, .int .i64 0, .int .i64 0, .int .i64 0, .int .i64 0, .int .i64 0, .int .i64 0, .int .i64 0] 29)).alloc (.cells #[.int .i64 0, .int .i64 0, .int .i64 0, .int .i64 0, .int .i64 0, .int .i64 0] 34)
  rw [hW]; simpa [hS] using this
 have P2 : Blk W (S + 1 + 1) [.int .i64 l0, .int .i64 l1] := by
  have := ((Blk.new ((w.alloc (.cells #[.int .i64 k0, .int .i64 k1, .int .i64 R, .int .i64 Q, .int .i64 J] 24)).alloc (.cells #[.int .i64 a0, .int .i64 a1, .int .i64 a2, .int .i64 a3, .int .i64 a4, .int .i64 a5, .int .i64 b0, .int .i64 b1, .int .i64 b2, .int .i64 b3, .int .i64 b4, .int .i64 b5, .int .i64 x, .int .i64 y] 29)) [.int .i64 l0, .int .i64 l1] 22).alloc (.cells #[.int .i64 0, .int .i64 0, .int .i64 0, .int .i64 0, .int .i64 0, .int .i64 0, .int .i64 0, .int .i64 0, .int .i64 0, .int .i64 0, .int .i64 0, .int .i64 0, .int .i64 0, .int .i64 0] 29)).alloc (.cells #[.int .i64 0, .int .i64 0, .int .i64 0, .int .i64 0, .int .i64 0, .int .i64 0] 34)
  rw [hW]; simpa [hS] using this
 have P3 : Blk W (S + 1 + 1 + 1) [.int .i64 0, .int .i64 0, .int .i64 0, .int .i64 0, .int .i64 0, .int .i64 0, .int .i64 0, .int .i64 0, .int .i64 0, .int .i64 0, .int .i64 0, .int .i64 0, .int .i64 0, .int .i64 0] := by
  have := (Blk.new (((w.alloc (.cells #[.int .i64 k0, .int .i64 k1, .int .i64 R, .int .i64 Q, .int .i64 J] 24)).alloc (.cells #[.int .i64 a0, .int .i64 a1, .int .i64 a2, .int .i64 a3, .int .i64 a4, .int .i64 a5, .int .i64 b0, .int .i64 b1, .int .i64 b2, .int .i64 b3, .int .i64 b4, .int .i64 b5, .int .i64 x, .int .i64 y] 29)).alloc (.cells #[.int .i64 l0, .int .i64 l1] 22)) [.int .i64 0, .int .i64 0, .int .i64 0, .int .i64 0, .int .i64 0, .int .i64 0, .int .i64 0, .int .i64 0, .int .i64 0, .int .i64 0, .int .i64 0, .int .i64 0, .int .i64 0, .int .i64 0] 29).alloc (.cells #[.int .i64 0, .int .i64 0, .int .i64 0, .int .i64 0, .int .i64 0, .int .i64 0] 34)
  rw [hW]; simpa [hS] using this
 have P4 : Blk W (S + 1 + 1 + 1 + 1) [.int .i64 0, .int .i64 0, .int .i64 0, .int .i64 0, .int .i64 0, .int .i64 0] := by
  have := Blk.new ((((w.alloc (.cells #[.int .i64 k0, .int .i64 k1, .int .i64 R, .int .i64 Q, .int .i64 J] 24)).alloc (.cells #[.int .i64 a0, .int .i64 a1, .int .i64 a2, .int .i64 a3, .int .i64 a4, .int .i64 a5, .int .i64 b0, .int .i64 b1, .int .i64 b2, .int .i64 b3, .int .i64 b4, .int .i64 b5, .int .i64 x, .int .i64 y] 29)).alloc (.cells #[.int .i64 l0, .int .i64 l1] 22)).alloc (.cells #[.int .i64 0, .int .i64 0, .int .i64 0, .int .i64 0, .int .i64 0, .int .i64 0, .int .i64 0, .int .i64 0, .int .i64 0, .int .i64 0, .int .i64 0, .int .i64 0, .int .i64 0, .int .i64 0] 29)) [.int .i64 0, .int .i64 0, .int .i64 0, .int .i64 0, .int .i64 0, .int .i64 0] 34
  rw [hW]; simpa [hS] using this
 have BS : Below S w W := by rw [hW, ← hS]; exact (((((Below.refl _ _).alloc (by first | exact Nat.le_refl _ | (simp; done) | (simp; omega)) _).alloc (by first | exact Nat.le_refl _ | (simp; done) | (simp; omega)) _).alloc (by first | exact Nat.le_refl _ | (simp; done) | (simp; omega)) _).alloc (by first | exact Nat.le_refl _ | (simp; done) | (simp; omega)) _).alloc (by first | exact Nat.le_refl _ | (simp; done) | (simp; omega)) _
 clear hW
 have i0 : ∀ w : World, (Instr.index 22 (.agg #[.int .i64 l0, .int .i64 l1]) (.int .i64 0)).run Try.prog w = .ok (.int .i64 l0) w := fun _ => by kernel_rfl
 have i1 : ∀ w : World, (Instr.index 22 (.agg #[.int .i64 l0, .int .i64 l1]) (.int .i64 1)).run Try.prog w = .ok (.int .i64 l1) w := fun _ => by kernel_rfl
 refine (pwrong_any k0 k1 R Q J W).mono ?_
 rintro e w1 ⟨⟨r', rfl, hr'⟩, hB1⟩
 have BS := BS.trans (hB1.mono (Nat.le_of_lt P0.lt))
 have P4 := P4.below hB1 P4.lt
 have P3 := P3.below hB1 P3.lt
 have P2 := P2.below hB1 P2.lt
 have P1 := P1.below hB1 P1.lt
 have P0 := P0.below hB1 P0.lt
 clear hB1
 obtain rfl := wrongSays_one hr' (.inr (.inr ⟨hk, hr, rfl⟩))
 clear hr'
 have r_0 := (P0 0 _ rfl).1
 have r_1 := (P0 1 _ rfl).1
 have r_2 := (P0 2 _ rfl).1
 have r_3 := (P0 3 _ rfl).1
 have r_4 := (P0 4 _ rfl).1
 have s_0 := (P1 0 _ rfl).1
 have s_1 := (P1 1 _ rfl).1
 have s_2 := (P1 2 _ rfl).1
 have s_3 := (P1 3 _ rfl).1
 have s_4 := (P1 4 _ rfl).1
 have s_5 := (P1 5 _ rfl).1
 have s_6 := (P1 6 _ rfl).1
 have s_7 := (P1 7 _ rfl).1
 have s_8 := (P1 8 _ rfl).1
 have s_9 := (P1 9 _ rfl).1
 have s_10 := (P1 10 _ rfl).1
 have s_11 := (P1 11 _ rfl).1
 have s_12 := (P1 12 _ rfl).1
 have s_13 := (P1 13 _ rfl).1
 have h0 := hide P0; have h1 := hide P1; have h2 := hide P2; have h3 := hide P3; have h4 := hide P4; have hb := hide BS
 have HY := hide hs
 clear P0 P1 P2 P3 P4 BS hs
 go_wp2_with fail
 have P0 := h0.out; have P1 := h1.out; have P2 := h2.out; have P3 := h3.out; have P4 := h4.out; have BS := hb.out
 clear h0 h1 h2 h3 h4 hb r_0 r_1 r_2 r_3 r_4 s_0 s_1 s_2 s_3 s_4 s_5 s_6 s_7 s_8 s_9 s_10 s_11 s_12 s_13
 refine (callT (pright_any k0 k1 R Q J a0 a1 a2 a3 a4 a5 b0 b1 b2 b3 b4 b5 x y w1) HY.out).mono ?_
 rintro e w2 ⟨rfl, hB2⟩
 have BS := BS.trans (hB2.mono (Nat.le_of_lt P0.lt))
 have P4 := P4.below hB2 P4.lt
 have P3 := P3.below hB2 P3.lt
 have P2 := P2.below hB2 P2.lt
 have P1 := P1.below hB2 P1.lt
 have P0 := P0.below hB2 P0.lt
 clear hB2
 obtain ⟨hx, hy, hxy⟩ := HY.out.2.2.2.2
 obtain ⟨hR1, hR2, hQ1, hQ2, hJ1, hJ2⟩ := hr
 have wd0 : IntKind.i64.wrap d0 = d0 := by rw [IntKind.wrap_i64]; omega
 have wd1 : IntKind.i64.wrap d1 = d1 := by rw [IntKind.wrap_i64]; omega
 have hm : ¬ (min l0 l1 < 0) := by omega
 have hM : ¬ (J < max l0 l1) := by omega
 have r_0 := (P0 0 _ rfl).1
 have r_1 := (P0 1 _ rfl).1
 have r_2 := (P0 2 _ rfl).1
 have r_3 := (P0 3 _ rfl).1
 have r_4 := (P0 4 _ rfl).1
 have s_0 := (P1 0 _ rfl).1
 have s_1 := (P1 1 _ rfl).1
 have s_2 := (P1 2 _ rfl).1
 have s_3 := (P1 3 _ rfl).1
 have s_4 := (P1 4 _ rfl).1
 have s_5 := (P1 5 _ rfl).1
 have s_6 := (P1 6 _ rfl).1
 have s_7 := (P1 7 _ rfl).1
 have s_8 := (P1 8 _ rfl).1
 have s_9 := (P1 9 _ rfl).1
 have s_10 := (P1 10 _ rfl).1
 have s_11 := (P1 11 _ rfl).1
 have s_12 := (P1 12 _ rfl).1
 have s_13 := (P1 13 _ rfl).1
 have l_0 := (P2 0 _ rfl).1
 have l_1 := (P2 1 _ rfl).1
 have HP0 := hide P0
 have HP1 := hide P1
 have HP2 := hide P2
 have HP3 := hide P3
 have HP4 := hide P4
 have HBS := hide BS
 clear P0 P1 P2 P3 P4 BS
 go_wp2_with fail
 have P0 := HP0.out
 have P1 := HP1.out
 have P2 := HP2.out
 have P3 := HP3.out
 have P4 := HP4.out
 have BS := HBS.out
 clear HP0 HP1 HP2 HP3 HP4 HBS
 clear l_0 l_1 s_0 s_1 s_2 s_3 s_4 s_5 s_6 s_7 s_8 s_9 s_10 s_11 s_12 s_13 r_0 r_1 r_2 r_3 r_4
 refine (PX0.out w2).mono ?_
 rintro e u1 ⟨rfl, hA1⟩
 have BS := BS.trans (hA1.mono (Nat.le_of_lt P0.lt))
 have P4 := P4.below hA1 P4.lt
 have P3 := P3.below hA1 P3.lt
 have P2 := P2.below hA1 P2.lt
 have P1 := P1.below hA1 P1.lt
 have P0 := P0.below hA1 P0.lt
 obtain ⟨T1, hT1⟩ : ∃ T, u1.heap.size = T := ⟨_, rfl⟩
 have hS1 : S + 1 + 1 + 1 + 1 < T1 := by rw [← hT1]; exact P4.lt
 obtain ⟨X1, hX1⟩ : ∃ X, X = u1.alloc (.cells #[.int .i64 a0', .int .i64 a1', .int .i64 a2', .int .i64 a3', .int .i64 a4', .int .i64 a5'] 26) := ⟨_, rfl⟩
 have P5 : Blk X1 T1 [.int .i64 a0', .int .i64 a1', .int .i64 a2', .int .i64 a3', .int .i64 a4', .int .i64 a5'] := by rw [hX1, ← hT1]; exact Blk.new _ _ _
 have BS := BS.alloc (Nat.le_of_lt P0.lt) (.cells #[.int .i64 a0', .int .i64 a1', .int .i64 a2', .int .i64 a3', .int .i64 a4', .int .i64 a5'] 26)
 have P4 := P4.alloc (.cells #[.int .i64 a0', .int .i64 a1', .int .i64 a2', .int .i64 a3', .int .i64 a4', .int .i64 a5'] 26)
 have P3 := P3.alloc (.cells #[.int .i64 a0', .int .i64 a1', .int .i64 a2', .int .i64 a3', .int .i64 a4', .int .i64 a5'] 26)
 have P2 := P2.alloc (.cells #[.int .i64 a0', .int .i64 a1', .int .i64 a2', .int .i64 a3', .int .i64 a4', .int .i64 a5'] 26)
 have P1 := P1.alloc (.cells #[.int .i64 a0', .int .i64 a1', .int .i64 a2', .int .i64 a3', .int .i64 a4', .int .i64 a5'] 26)
 have P0 := P0.alloc (.cells #[.int .i64 a0', .int .i64 a1', .int .i64 a2', .int .i64 a3', .int .i64 a4', .int .i64 a5'] 26)
 rw [← hX1] at BS P0 P1 P2 P3 P4
 have s_6 := (P1 6 _ rfl).1
 have s_7 := (P1 7 _ rfl).1
 have s_8 := (P1 8 _ rfl).1
 have s_9 := (P1 9 _ rfl).1
 have s_10 := (P1 10 _ rfl).1
 have s_11 := (P1 11 _ rfl).1
 have s_12 := (P1 12 _ rfl).1
 have s_13 := (P1 13 _ rfl).1
 have l_1 := (P2 1 _ rfl).1
 have r_2 := (P0 2 _ rfl).1
 rw [hX1] at s_6 s_7 s_8 s_9 s_10 s_11 s_12 s_13 l_1 r_2
 have HX := hide hX1
 clear hX1 hA1
 have HP0 := hide P0
 have HP1 := hide P1
 have HP2 := hide P2
 have HP3 := hide P3
 have HP4 := hide P4
 have HP5 := hide P5
 have HBS := hide BS
 clear P0 P1 P2 P3 P4 P5 BS
 go_wp2_with fail
 rw [← HX.out]
 clear HX s_6 s_7 s_8 s_9 s_10 s_11 s_12 s_13 l_1 r_2
 have P0 := HP0.out
 have P1 := HP1.out
 have P2 := HP2.out
 have P3 := HP3.out
 have P4 := HP4.out
 have P5 := HP5.out
 have BS := HBS.out
 clear HP0 HP1 HP2 HP3 HP4 HP5 HBS
 refine (PX1.out X1).mono ?_
 rintro e u2 ⟨rfl, hA2⟩
 have BS := BS.trans (hA2.mono (Nat.le_of_lt P0.lt))
 have P5 := P5.below hA2 P5.lt
 have P4 := P4.below hA2 P4.lt
 have P3 := P3.below hA2 P3.lt
 have P2 := P2.below hA2 P2.lt
 have P1 := P1.below hA2 P1.lt
 have P0 := P0.below hA2 P0.lt
 obtain ⟨T2, hT2⟩ : ∃ T, u2.heap.size = T := ⟨_, rfl⟩
 have hS2 : S + 1 + 1 + 1 + 1 < T2 := by rw [← hT2]; exact P4.lt
 obtain ⟨X2, hX2⟩ : ∃ X, X = u2.alloc (.cells #[.int .i64 b0', .int .i64 b1', .int .i64 b2', .int .i64 b3', .int .i64 b4', .int .i64 b5'] 26) := ⟨_, rfl⟩
 have P6 : Blk X2 T2 [.int .i64 b0', .int .i64 b1', .int .i64 b2', .int .i64 b3', .int .i64 b4', .int .i64 b5'] := by rw [hX2, ← hT2]; exact Blk.new _ _ _
 have BS := BS.alloc (Nat.le_of_lt P0.lt) (.cells #[.int .i64 b0', .int .i64 b1', .int .i64 b2', .int .i64 b3', .int .i64 b4', .int .i64 b5'] 26)
 have P5 := P5.alloc (.cells #[.int .i64 b0', .int .i64 b1', .int .i64 b2', .int .i64 b3', .int .i64 b4', .int .i64 b5'] 26)
 have P4 := P4.alloc (.cells #[.int .i64 b0', .int .i64 b1', .int .i64 b2', .int .i64 b3', .int .i64 b4', .int .i64 b5'] 26)
 have P3 := P3.alloc (.cells #[.int .i64 b0', .int .i64 b1', .int .i64 b2', .int .i64 b3', .int .i64 b4', .int .i64 b5'] 26)
 have P2 := P2.alloc (.cells #[.int .i64 b0', .int .i64 b1', .int .i64 b2', .int .i64 b3', .int .i64 b4', .int .i64 b5'] 26)
 have P1 := P1.alloc (.cells #[.int .i64 b0', .int .i64 b1', .int .i64 b2', .int .i64 b3', .int .i64 b4', .int .i64 b5'] 26)
 have P0 := P0.alloc (.cells #[.int .i64 b0', .int .i64 b1', .int .i64 b2', .int .i64 b3', .int .i64 b4', .int .i64 b5'] 26)
 rw [← hX2] at BS P0 P1 P2 P3 P4 P5
 have s_1 := (P1 1 _ rfl).1
 have s_7 := (P1 7 _ rfl).1
 have s_12 := (P1 12 _ rfl).1
 have s_13 := (P1 13 _ rfl).1
 have r_2 := (P0 2 _ rfl).1
 have r_3 := (P0 3 _ rfl).1
 rw [hX2] at s_1 s_7 s_12 s_13 r_2 r_3
 have HX := hide hX2
 clear hX2 hA2
 have HP0 := hide P0
 have HP1 := hide P1
 have HP2 := hide P2
 have HP3 := hide P3
 have HP4 := hide P4
 have HP5 := hide P5
 have HP6 := hide P6
 have HBS := hide BS
 clear P0 P1 P2 P3 P4 P5 P6 BS
 go_wp2_with fail
 rw [← HX.out]
 clear HX s_1 s_7 s_12 s_13 r_2 r_3
 have P0 := HP0.out
 have P1 := HP1.out
 have P2 := HP2.out
 have P3 := HP3.out
 have P4 := HP4.out
 have P5 := HP5.out
 have P6 := HP6.out
 have BS := HBS.out
 clear HP0 HP1 HP2 HP3 HP4 HP5 HP6 HBS
 refine (HPA.out X2).mono ?_
 rintro e u3 ⟨rfl, hA3⟩
 have BS := BS.trans (hA3.mono (Nat.le_of_lt P0.lt))
 have P6 := P6.below hA3 P6.lt
 have P5 := P5.below hA3 P5.lt
 have P4 := P4.below hA3 P4.lt
 have P3 := P3.below hA3 P3.lt
 have P2 := P2.below hA3 P2.lt
 have P1 := P1.below hA3 P1.lt
 have P0 := P0.below hA3 P0.lt
 obtain ⟨T3, hT3⟩ : ∃ T, u3.heap.size = T := ⟨_, rfl⟩
 have hS3 : S + 1 + 1 + 1 + 1 < T3 := by rw [← hT3]; exact P4.lt
 have hBX : Below T3 u3 ((u3.alloc (.cells #[.int .i64 x0, .int .i64 x1, .int .i64 x2, .int .i64 x3, .int .i64 x4, .int .i64 x5] 34)).alloc (.cells #[.int .i64 y0, .int .i64 y1] 22)) := by rw [← hT3]; exact ((Below.refl _ _).alloc (Nat.le_refl _) _).alloc (by simp) _
 obtain ⟨X3, hX3⟩ : ∃ X, X = (u3.alloc (.cells #[.int .i64 x0, .int .i64 x1, .int .i64 x2, .int .i64 x3, .int .i64 x4, .int .i64 x5] 34)).alloc (.cells #[.int .i64 y0, .int .i64 y1] 22) := ⟨_, rfl⟩
 have P7 : Blk X3 T3 [.int .i64 x0, .int .i64 x1, .int .i64 x2, .int .i64 x3, .int .i64 x4, .int .i64 x5] := by
  have := (Blk.new u3 [.int .i64 x0, .int .i64 x1, .int .i64 x2, .int .i64 x3, .int .i64 x4, .int .i64 x5] 34).alloc (.cells #[.int .i64 y0, .int .i64 y1] 22)
  rw [hX3]; simpa [hT3] using this
 have P8 : Blk X3 (T3 + 1) [.int .i64 y0, .int .i64 y1] := by
  have := Blk.new (u3.alloc (.cells #[.int .i64 x0, .int .i64 x1, .int .i64 x2, .int .i64 x3, .int .i64 x4, .int .i64 x5] 34)) [.int .i64 y0, .int .i64 y1] 22
  rw [hX3]; simpa [hT3] using this
 rw [← hX3] at hBX
 have BS := BS.trans (hBX.mono (by rw [← hT3]; exact Nat.le_of_lt P0.lt))
 have P6 := P6.below hBX (by rw [← hT3]; exact P6.lt)
 have P5 := P5.below hBX (by rw [← hT3]; exact P5.lt)
 have P4 := P4.below hBX (by rw [← hT3]; exact P4.lt)
 have P3 := P3.below hBX (by rw [← hT3]; exact P3.lt)
 have P2 := P2.below hBX (by rw [← hT3]; exact P2.lt)
 have P1 := P1.below hBX (by rw [← hT3]; exact P1.lt)
 have P0 := P0.below hBX (by rw [← hT3]; exact P0.lt)
 have HX := hide hX3
 clear hX3 hBX hA3
 have HP0 := hide P0
 have HP1 := hide P1
 have HP2 := hide P2
 have HP3 := hide P3
 have HP4 := hide P4
 have HP5 := hide P5
 have HP6 := hide P6
 have HP7 := hide P7
 have HP8 := hide P8
 have HBS := hide BS
 clear P0 P1 P2 P3 P4 P5 P6 P7 P8 BS
 go_wp2_with fail
 rw [← HX.out]
 clear HX
 have P0 := HP0.out
 have P1 := HP1.out
 have P2 := HP2.out
 have P3 := HP3.out
 have P4 := HP4.out
 have P5 := HP5.out
 have P6 := HP6.out
 have P7 := HP7.out
 have P8 := HP8.out
 have BS := HBS.out
 clear HP0 HP1 HP2 HP3 HP4 HP5 HP6 HP7 HP8 HBS
 have n_0 := (P5 0 _ rfl).1
 have n_1 := (P5 1 _ rfl).1
 have n_2 := (P5 2 _ rfl).1
 have n_3 := (P5 3 _ rfl).1
 have n_4 := (P5 4 _ rfl).1
 have n_5 := (P5 5 _ rfl).1
 have nn_0 := (P6 0 _ rfl).1
 have nn_1 := (P6 1 _ rfl).1
 have nn_2 := (P6 2 _ rfl).1
 have nn_3 := (P6 3 _ rfl).1
 have nn_4 := (P6 4 _ rfl).1
 have nn_5 := (P6 5 _ rfl).1
 have m_0 := (P7 0 _ rfl).1
 have m_1 := (P7 1 _ rfl).1
 have m_2 := (P7 2 _ rfl).1
 have m_3 := (P7 3 _ rfl).1
 have m_4 := (P7 4 _ rfl).1
 have m_5 := (P7 5 _ rfl).1
 have mm_0 := (P8 0 _ rfl).1
 have mm_1 := (P8 1 _ rfl).1
 have p_0 := (P3 0 _ rfl).1
 have p_f0 := (P3 0 _ rfl).2
 have p_1 := (P3 1 _ rfl).1
 have p_f1 := (P3 1 _ rfl).2
 have p_2 := (P3 2 _ rfl).1
 have p_f2 := (P3 2 _ rfl).2
 have p_3 := (P3 3 _ rfl).1
 have p_f3 := (P3 3 _ rfl).2
 have p_4 := (P3 4 _ rfl).1
 have p_f4 := (P3 4 _ rfl).2
 have p_5 := (P3 5 _ rfl).1
 have p_f5 := (P3 5 _ rfl).2
 have p_6 := (P3 6 _ rfl).1
 have p_f6 := (P3 6 _ rfl).2
 have p_7 := (P3 7 _ rfl).1
 have p_f7 := (P3 7 _ rfl).2
 have p_8 := (P3 8 _ rfl).1
 have p_f8 := (P3 8 _ rfl).2
 have p_9 := (P3 9 _ rfl).1
 have p_f9 := (P3 9 _ rfl).2
 have p_10 := (P3 10 _ rfl).1
 have p_f10 := (P3 10 _ rfl).2
 have p_11 := (P3 11 _ rfl).1
 have p_f11 := (P3 11 _ rfl).2
 have p_12 := (P3 12 _ rfl).1
 have p_f12 := (P3 12 _ rfl).2
 have p_13 := (P3 13 _ rfl).1
 have p_f13 := (P3 13 _ rfl).2
 have o_0 := (P4 0 _ rfl).1
 have o_f0 := (P4 0 _ rfl).2
 have o_1 := (P4 1 _ rfl).1
 have o_f1 := (P4 1 _ rfl).2
 have o_2 := (P4 2 _ rfl).1
 have o_f2 := (P4 2 _ rfl).2
 have o_3 := (P4 3 _ rfl).1
 have o_f3 := (P4 3 _ rfl).2
 have o_4 := (P4 4 _ rfl).1
 have o_f4 := (P4 4 _ rfl).2
 have o_5 := (P4 5 _ rfl).1
 have o_f5 := (P4 5 _ rfl).2
 have H3 := hide P3; have H4 := hide P4; have HBS := hide BS
 clear BS P0 P1 P2 P3 P4 P5 P6 P7 P8
 have dq1 := (show ¬ (T1 = S + 1 + 1 + 1) by omega)
 have dr1 := (show ¬ (S + 1 + 1 + 1 = T1) by omega)
 have dq2 := (show ¬ (T2 = S + 1 + 1 + 1) by omega)
 have dr2 := (show ¬ (S + 1 + 1 + 1 = T2) by omega)
 have dq3 := (show ¬ (T3 = S + 1 + 1 + 1) by omega)
 have dr3 := (show ¬ (S + 1 + 1 + 1 = T3) by omega)
 have dq4 := (show ¬ (T3 + 1 = S + 1 + 1 + 1) by omega)
 have dr4 := (show ¬ (S + 1 + 1 + 1 = T3 + 1) by omega)
 go_region
 go_wp2
 obtain ⟨Z, hZ⟩ : ∃ Z, Z = ((((((((((((((((((((X3.setCell ⟨S + 1 + 1 + 1, 0, none⟩ (.int .i64 a0')).setCell ⟨S + 1 + 1 + 1, 1, none⟩ (.int .i64 a1')).setCell ⟨S + 1 + 1 + 1, 2, none⟩ (.int .i64 a2')).setCell ⟨S + 1 + 1 + 1, 3, none⟩ (.int .i64 a3')).setCell ⟨S + 1 + 1 + 1, 4, none⟩ (.int .i64 a4')).setCell ⟨S + 1 + 1 + 1, 5, none⟩ (.int .i64 a5')).setCell ⟨S + 1 + 1 + 1, 6, none⟩ (.int .i64 b0')).setCell ⟨S + 1 + 1 + 1, 7, none⟩ (.int .i64 b1')).setCell ⟨S + 1 + 1 + 1, 8, none⟩ (.int .i64 b2')).setCell ⟨S + 1 + 1 + 1, 9, none⟩ (.int .i64 b3')).setCell ⟨S + 1 + 1 + 1, 10, none⟩ (.int .i64 b4')).setCell ⟨S + 1 + 1 + 1, 11, none⟩ (.int .i64 b5')).setCell ⟨S + 1 + 1 + 1, 12, none⟩ (.int .i64 y0)).setCell ⟨S + 1 + 1 + 1, 13, none⟩ (.int .i64 y1)).setCell ⟨S + 1 + 1 + 1 + 1, 0, none⟩ (.int .i64 x0)).setCell ⟨S + 1 + 1 + 1 + 1, 1, none⟩ (.int .i64 x1)).setCell ⟨S + 1 + 1 + 1 + 1, 2, none⟩ (.int .i64 x2)).setCell ⟨S + 1 + 1 + 1 + 1, 3, none⟩ (.int .i64 x3)).setCell ⟨S + 1 + 1 + 1 + 1, 4, none⟩ (.int .i64 x4)).setCell ⟨S + 1 + 1 + 1 + 1, 5, none⟩ (.int .i64 x5)).drew := ⟨_, rfl⟩
 have z3 : Blk Z (S + 1 + 1 + 1) [.int .i64 a0', .int .i64 a1', .int .i64 a2', .int .i64 a3', .int .i64 a4', .int .i64 a5', .int .i64 b0', .int .i64 b1', .int .i64 b2', .int .i64 b3', .int .i64 b4', .int .i64 b5', .int .i64 y0, .int .i64 y1] := by rw [hZ]; exact Blk.drew ((((((((((((((((((((H3.out.set (j := 0) (by simp) (.int .i64 a0')).set (j := 1) (by simp) (.int .i64 a1')).set (j := 2) (by simp) (.int .i64 a2')).set (j := 3) (by simp) (.int .i64 a3')).set (j := 4) (by simp) (.int .i64 a4')).set (j := 5) (by simp) (.int .i64 a5')).set (j := 6) (by simp) (.int .i64 b0')).set (j := 7) (by simp) (.int .i64 b1')).set (j := 8) (by simp) (.int .i64 b2')).set (j := 9) (by simp) (.int .i64 b3')).set (j := 10) (by simp) (.int .i64 b4')).set (j := 11) (by simp) (.int .i64 b5')).set (j := 12) (by simp) (.int .i64 y0)).set (j := 13) (by simp) (.int .i64 y1)).other ⟨S + 1 + 1 + 1 + 1, 0, none⟩ (.int .i64 x0) (by simp only; omega)).other ⟨S + 1 + 1 + 1 + 1, 1, none⟩ (.int .i64 x1) (by simp only; omega)).other ⟨S + 1 + 1 + 1 + 1, 2, none⟩ (.int .i64 x2) (by simp only; omega)).other ⟨S + 1 + 1 + 1 + 1, 3, none⟩ (.int .i64 x3) (by simp only; omega)).other ⟨S + 1 + 1 + 1 + 1, 4, none⟩ (.int .i64 x4) (by simp only; omega)).other ⟨S + 1 + 1 + 1 + 1, 5, none⟩ (.int .i64 x5) (by simp only; omega))
 have z4 : Blk Z (S + 1 + 1 + 1 + 1) [.int .i64 x0, .int .i64 x1, .int .i64 x2, .int .i64 x3, .int .i64 x4, .int .i64 x5] := by rw [hZ]; exact Blk.drew ((((((((((((((((((((H4.out.other ⟨S + 1 + 1 + 1, 0, none⟩ (.int .i64 a0') (by simp only; omega)).other ⟨S + 1 + 1 + 1, 1, none⟩ (.int .i64 a1') (by simp only; omega)).other ⟨S + 1 + 1 + 1, 2, none⟩ (.int .i64 a2') (by simp only; omega)).other ⟨S + 1 + 1 + 1, 3, none⟩ (.int .i64 a3') (by simp only; omega)).other ⟨S + 1 + 1 + 1, 4, none⟩ (.int .i64 a4') (by simp only; omega)).other ⟨S + 1 + 1 + 1, 5, none⟩ (.int .i64 a5') (by simp only; omega)).other ⟨S + 1 + 1 + 1, 6, none⟩ (.int .i64 b0') (by simp only; omega)).other ⟨S + 1 + 1 + 1, 7, none⟩ (.int .i64 b1') (by simp only; omega)).other ⟨S + 1 + 1 + 1, 8, none⟩ (.int .i64 b2') (by simp only; omega)).other ⟨S + 1 + 1 + 1, 9, none⟩ (.int .i64 b3') (by simp only; omega)).other ⟨S + 1 + 1 + 1, 10, none⟩ (.int .i64 b4') (by simp only; omega)).other ⟨S + 1 + 1 + 1, 11, none⟩ (.int .i64 b5') (by simp only; omega)).other ⟨S + 1 + 1 + 1, 12, none⟩ (.int .i64 y0) (by simp only; omega)).other ⟨S + 1 + 1 + 1, 13, none⟩ (.int .i64 y1) (by simp only; omega)).set (j := 0) (by simp) (.int .i64 x0)).set (j := 1) (by simp) (.int .i64 x1)).set (j := 2) (by simp) (.int .i64 x2)).set (j := 3) (by simp) (.int .i64 x3)).set (j := 4) (by simp) (.int .i64 x4)).set (j := 5) (by simp) (.int .i64 x5))
 have zB : Below S w Z := by rw [hZ]; exact ((((((((((((((((((((HBS.out.setCell (p := ⟨S + 1 + 1 + 1, 0, none⟩) (by simp only; omega) _).setCell (p := ⟨S + 1 + 1 + 1, 1, none⟩) (by simp only; omega) _).setCell (p := ⟨S + 1 + 1 + 1, 2, none⟩) (by simp only; omega) _).setCell (p := ⟨S + 1 + 1 + 1, 3, none⟩) (by simp only; omega) _).setCell (p := ⟨S + 1 + 1 + 1, 4, none⟩) (by simp only; omega) _).setCell (p := ⟨S + 1 + 1 + 1, 5, none⟩) (by simp only; omega) _).setCell (p := ⟨S + 1 + 1 + 1, 6, none⟩) (by simp only; omega) _).setCell (p := ⟨S + 1 + 1 + 1, 7, none⟩) (by simp only; omega) _).setCell (p := ⟨S + 1 + 1 + 1, 8, none⟩) (by simp only; omega) _).setCell (p := ⟨S + 1 + 1 + 1, 9, none⟩) (by simp only; omega) _).setCell (p := ⟨S + 1 + 1 + 1, 10, none⟩) (by simp only; omega) _).setCell (p := ⟨S + 1 + 1 + 1, 11, none⟩) (by simp only; omega) _).setCell (p := ⟨S + 1 + 1 + 1, 12, none⟩) (by simp only; omega) _).setCell (p := ⟨S + 1 + 1 + 1, 13, none⟩) (by simp only; omega) _).setCell (p := ⟨S + 1 + 1 + 1 + 1, 0, none⟩) (by simp only; omega) _).setCell (p := ⟨S + 1 + 1 + 1 + 1, 1, none⟩) (by simp only; omega) _).setCell (p := ⟨S + 1 + 1 + 1 + 1, 2, none⟩) (by simp only; omega) _).setCell (p := ⟨S + 1 + 1 + 1 + 1, 3, none⟩) (by simp only; omega) _).setCell (p := ⟨S + 1 + 1 + 1 + 1, 4, none⟩) (by simp only; omega) _).setCell (p := ⟨S + 1 + 1 + 1 + 1, 5, none⟩) (by simp only; omega) _).drew
 rw [← hZ]
 clear hZ
 have y_0 := (z3 0 _ rfl).1
 have y_1 := (z3 1 _ rfl).1
 have y_2 := (z3 2 _ rfl).1
 have y_3 := (z3 3 _ rfl).1
 have y_4 := (z3 4 _ rfl).1
 have y_5 := (z3 5 _ rfl).1
 have y_6 := (z3 6 _ rfl).1
 have y_7 := (z3 7 _ rfl).1
 have y_8 := (z3 8 _ rfl).1
 have y_9 := (z3 9 _ rfl).1
 have y_10 := (z3 10 _ rfl).1
 have y_11 := (z3 11 _ rfl).1
 have y_12 := (z3 12 _ rfl).1
 have y_13 := (z3 13 _ rfl).1
 have v_0 := (z4 0 _ rfl).1
 have v_1 := (z4 1 _ rfl).1
 have v_2 := (z4 2 _ rfl).1
 have v_3 := (z4 3 _ rfl).1
 have v_4 := (z4 4 _ rfl).1
 have v_5 := (z4 5 _ rfl).1
 refine bodyPost_ret (v := .tuple #[.agg #[.int .i64 a0', .int .i64 a1', .int .i64 a2', .int .i64 a3', .int .i64 a4', .int .i64 a5', .int .i64 b0', .int .i64 b1', .int .i64 b2', .int .i64 b3', .int .i64 b4', .int .i64 b5', .int .i64 y0, .int .i64 y1], .agg #[.int .i64 x0, .int .i64 x1, .int .i64 x2, .int .i64 x3, .int .i64 x4, .int .i64 x5], .int .i64 0]) ?_ rfl ⟨rfl, ?_⟩
 · simp [results, Try.f9, go_sem, y_0, y_1, y_2, y_3, y_4, y_5, y_6, y_7, y_8, y_9, y_10, y_11, y_12, y_13, v_0, v_1, v_2, v_3, v_4, v_5]
 · first | exact zB | (rw [hS]; exact zB)
end Go.Proofs.Ytmmjopmffpfccaa
