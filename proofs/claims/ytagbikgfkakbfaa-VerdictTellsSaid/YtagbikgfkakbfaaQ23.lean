/-
  Lemmas and walks for the statement: Duel12.
-/
import Derived.Test.YtagbikgfkakbfaaQ18
import Derived.Test.YtagbikgfkakbfaaQ21
import Derived.Deep.DeepCutAuto
import Derived.BigRegion
namespace Go.Proofs.Ytagbikgfkakbfaa
open Go.RowKit
set_option linter.unusedSimpArgs false
set_option linter.unusedVariables false
attribute [local go_sem] iteMin iteMax iteMinN iteMaxN
set_option maxRecDepth 100000 in
set_option maxHeartbeats 8000000 in
theorem pstep_ok (k0 k1 R Q J a0 a1 a2 a3 a4 a5 b0 b1 b2 b3 b4 b5 x y l0 l1 : Int) (w : World) (hk : kindsOk k0 k1) (hr : rangeOk R Q J) (hs : StRight k0 k1 R Q J a0 a1 a2 a3 a4 a5 b0 b1 b2 b3 b4 b5 x y) (hl0 : 0 ≤ l0) (hl1 : l0 ≤ J) (hl2 : 0 ≤ l1) (hl3 : l1 ≤ J) (D d0 d1 x0 x1 x2 x3 x4 x5 y0 y1 a0' a1' a2' a3' a4' a5' b0' b1' b2' b3' b4' b5' : Int) (hD : (x + y) / R = D) (hd0 : D + l0 = d0) (hd1 : D + l1 = d1) (hDb : 0 ≤ D ∧ D ≤ 16)
 (PX0 : Hid (∀ w : World, Calls Try.prog 34 #[.agg #[.int .i64 a0, .int .i64 a1, .int .i64 a2, .int .i64 a3, .int .i64 a4, .int .i64 a5], .int .i64 d0] w fun e w' => e = .returned (.tuple #[.agg #[.int .i64 a0', .int .i64 a1', .int .i64 a2', .int .i64 a3', .int .i64 a4', .int .i64 a5'], .bool true]) ∧ Below w.heap.size w w'))
 (PX1 : Hid (∀ w : World, Calls Try.prog 34 #[.agg #[.int .i64 b0, .int .i64 b1, .int .i64 b2, .int .i64 b3, .int .i64 b4, .int .i64 b5], .int .i64 d1] w fun e w' => e = .returned (.tuple #[.agg #[.int .i64 b0', .int .i64 b1', .int .i64 b2', .int .i64 b3', .int .i64 b4', .int .i64 b5'], .bool true]) ∧ Below w.heap.size w w'))
 (HPA : Hid (∀ w : World, Calls Try.prog 35 #[.int .i64 R, .int .i64 Q, .agg #[.int .i64 x, .int .i64 y], .agg #[.int .i64 a1, .int .i64 b1]] w fun e w' => e = .returned (.tuple #[.agg #[.int .i64 x0, .int .i64 x1, .int .i64 x2, .int .i64 x3, .int .i64 x4, .int .i64 x5], .agg #[.int .i64 y0, .int .i64 y1], .int .i64 0]) ∧ Below w.heap.size w w')) :
 Calls Try.prog 21 #[.agg #[.int .i64 k0, .int .i64 k1, .int .i64 R, .int .i64 Q, .int .i64 J], .agg #[.int .i64 a0, .int .i64 a1, .int .i64 a2, .int .i64 a3, .int .i64 a4, .int .i64 a5, .int .i64 b0, .int .i64 b1, .int .i64 b2, .int .i64 b3, .int .i64 b4, .int .i64 b5, .int .i64 x, .int .i64 y], .agg #[.int .i64 l0, .int .i64 l1]] w fun e w' => e = .returned (.tuple #[.agg #[.int .i64 a0', .int .i64 a1', .int .i64 a2', .int .i64 a3', .int .i64 a4', .int .i64 a5', .int .i64 b0', .int .i64 b1', .int .i64 b2', .int .i64 b3', .int .i64 b4', .int .i64 b5', .int .i64 y0, .int .i64 y1], .agg #[.int .i64 x0, .int .i64 x1, .int .i64 x2, .int .i64 x3, .int .i64 x4, .int .i64 x5], .int .i64 0]) ∧ Below w.heap.size w w' := by
 obtain ⟨S, hS⟩ : ∃ S, w.heap.size = S := ⟨_, rfl⟩
 go_enter Try.func21, Try.ntmps21
 go_wp2_with fail
 obtain ⟨W, hW, P0, P1, P2, P3, P4, BS⟩ := step_pre k0 k1 R Q J a0 a1 a2 a3 a4 a5 b0 b1 b2 b3 b4 b5 x y l0 l1 hS
 rw [← hW]
 clear hW
 have i0 : ∀ w : World, (Instr.index 22 (.agg #[.int .i64 l0, .int .i64 l1]) (.int .i64 0)).run Try.prog w = .ok (.int .i64 l0) w := fun _ => by kernel_rfl
 have i1 : ∀ w : World, (Instr.index 22 (.agg #[.int .i64 l0, .int .i64 l1]) (.int .i64 1)).run Try.prog w = .ok (.int .i64 l1) w := fun _ => by kernel_rfl
 refine (pwrong_any k0 k1 R Q J W).mono ?_
 rintro e w1 ⟨⟨r', rfl, hr'⟩, hB1⟩
 have BS := BS.trans (hB1.mono (Nat.le_of_lt P0.lt))
 have P4 := P4.below hB1 P4.lt
 have P3 := P3.below hB1 P3.lt
 have P2 := P2.below hB1 P2.lt
 have P1 := P1.below hB1 P1.lt
 have P0 := P0.below hB1 P0.lt
 clear hB1
 obtain rfl := wrongSays_one hr' (.inr (.inr ⟨hk, hr, rfl⟩))
 clear hr'
 obtain ⟨r_0, r_1, r_2, r_3, r_4⟩ := P0.c5
 obtain ⟨s_0, s_1, s_2, s_3, s_4, s_5, s_6, s_7, s_8, s_9, s_10, s_11, s_12, s_13⟩ := P1.c14
 have h0 := hide P0; have h1 := hide P1; have h2 := hide P2; have h3 := hide P3; have h4 := hide P4; have hb := hide BS
 have HY := hide hs
 clear P0 P1 P2 P3 P4 BS hs
 go_wp2_with fail
 have P0 := h0.out; have P1 := h1.out; have P2 := h2.out; have P3 := h3.out; have P4 := h4.out; have BS := hb.out
 clear h0 h1 h2 h3 h4 hb r_0 r_1 r_2 r_3 r_4 s_0 s_1 s_2 s_3 s_4 s_5 s_6 s_7 s_8 s_9 s_10 s_11 s_12 s_13
 refine (callT (pright_any k0 k1 R Q J a0 a1 a2 a3 a4 a5 b0 b1 b2 b3 b4 b5 x y w1) HY.out).mono ?_
 rintro e w2 ⟨rfl, hB2⟩
 have BS := BS.trans (hB2.mono (Nat.le_of_lt P0.lt))
 have P4 := P4.below hB2 P4.lt
 have P3 := P3.below hB2 P3.lt
 have P2 := P2.below hB2 P2.lt
 have P1 := P1.below hB2 P1.lt
 have P0 := P0.below hB2 P0.lt
 clear hB2
 obtain ⟨hx, hy, hxy⟩ := HY.out.2.2.2.2
 obtain ⟨hR1, hR2, hQ1, hQ2, hJ1, hJ2⟩ := hr
 have wd0 : IntKind.i64.wrap d0 = d0 := by rw [IntKind.wrap_i64]; omega
 have wd1 : IntKind.i64.wrap d1 = d1 := by rw [IntKind.wrap_i64]; omega
 have hm : ¬ (min l0 l1 < 0) := by omega
 have hM : ¬ (J < max l0 l1) := by omega
 obtain ⟨r_0, r_1, r_2, r_3, r_4⟩ := P0.c5
 obtain ⟨s_0, s_1, s_2, s_3, s_4, s_5, s_6, s_7, s_8, s_9, s_10, s_11, s_12, s_13⟩ := P1.c14
 obtain ⟨l_0, l_1⟩ := P2.c2
 have HP0 := hide P0
 have HP1 := hide P1
 have HP2 := hide P2
 have HP3 := hide P3
 have HP4 := hide P4
 have HBS := hide BS
 clear P0 P1 P2 P3 P4 BS
 go_wp2_with fail
 have P0 := HP0.out
 have P1 := HP1.out
 have P2 := HP2.out
 have P3 := HP3.out
 have P4 := HP4.out
 have BS := HBS.out
 clear HP0 HP1 HP2 HP3 HP4 HBS
 clear l_0 l_1 s_0 s_1 s_2 s_3 s_4 s_5 s_6 s_7 s_8 s_9 s_10 s_11 s_12 s_13 r_0 r_1 r_2 r_3 r_4
 refine (PX0.out w2).mono ?_
 rintro e u1 ⟨rfl, hA1⟩
 have BS := BS.trans (hA1.mono (Nat.le_of_lt P0.lt))
 have P4 := P4.below hA1 P4.lt
 have P3 := P3.below hA1 P3.lt
 have P2 := P2.below hA1 P2.lt
 have P1 := P1.below hA1 P1.lt
 have P0 := P0.below hA1 P0.lt
 obtain ⟨T1, hT1⟩ : ∃ T, u1.heap.size = T := ⟨_, rfl⟩
 have hS1 : S + 1 + 1 + 1 + 1 < T1 := by rw [← hT1]; exact P4.lt
 obtain ⟨X1, hX1⟩ : ∃ X, X = u1.alloc (.cells #[.int .i64 a0', .int .i64 a1', .int .i64 a2', .int .i64 a3', .int .i64 a4', .int .i64 a5'] 38) := ⟨_, rfl⟩
 have P5 : Blk X1 T1 [.int .i64 a0', .int .i64 a1', .int .i64 a2', .int .i64 a3', .int .i64 a4', .int .i64 a5'] := by rw [hX1, ← hT1]; exact Blk.new _ _ _
 have BS := BS.alloc (Nat.le_of_lt P0.lt) (.cells #[.int .i64 a0', .int .i64 a1', .int .i64 a2', .int .i64 a3', .int .i64 a4', .int .i64 a5'] 38)
 have P4 := P4.alloc (.cells #[.int .i64 a0', .int .i64 a1', .int .i64 a2', .int .i64 a3', .int .i64 a4', .int .i64 a5'] 38)
 have P3 := P3.alloc (.cells #[.int .i64 a0', .int .i64 a1', .int .i64 a2', .int .i64 a3', .int .i64 a4', .int .i64 a5'] 38)
 have P2 := P2.alloc (.cells #[.int .i64 a0', .int .i64 a1', .int .i64 a2', .int .i64 a3', .int .i64 a4', .int .i64 a5'] 38)
 have P1 := P1.alloc (.cells #[.int .i64 a0', .int .i64 a1', .int .i64 a2', .int .i64 a3', .int .i64 a4', .int .i64 a5'] 38)
 have P0 := P0.alloc (.cells #[.int .i64 a0', .int .i64 a1', .int .i64 a2', .int .i64 a3', .int .i64 a4', .int .i64 a5'] 38)
 rw [← hX1] at BS P0 P1 P2 P3 P4
 have s_6 := (P1 6 _ rfl).1
 have s_7 := (P1 7 _ rfl).1
 have s_8 := (P1 8 _ rfl).1
 have s_9 := (P1 9 _ rfl).1
 have s_10 := (P1 10 _ rfl).1
 have s_11 := (P1 11 _ rfl).1
 have s_12 := (P1 12 _ rfl).1
 have s_13 := (P1 13 _ rfl).1
 have l_1 := (P2 1 _ rfl).1
 have r_2 := (P0 2 _ rfl).1
 rw [hX1] at s_6 s_7 s_8 s_9 s_10 s_11 s_12 s_13 l_1 r_2
 have HX := hide hX1
 clear hX1 hA1
 have HP0 := hide P0
 have HP1 := hide P1
 have HP2 := hide P2
 have HP3 := hide P3
 have HP4 := hide P4
 have HP5 := hide P5
 have HBS := hide BS
 clear P0 P1 P2 P3 P4 P5 BS
 go_wp2_with fail
 rw [← HX.out]
 clear HX s_6 s_7 s_8 s_9 s_10 s_11 s_12 s_13 l_1 r_2
 have P0 := HP0.out
 have P1 := HP1.out
 have P2 := HP2.out
 have P3 := HP3.out
 have P4 := HP4.out
 have P5 := HP5.out
 have BS := HBS.out
 clear HP0 HP1 HP2 HP3 HP4 HP5 HBS
 refine (PX1.out X1).mono ?_
 rintro e u2 ⟨rfl, hA2⟩
 have BS := BS.trans (hA2.mono (Nat.le_of_lt P0.lt))
 have P5 := P5.below hA2 P5.lt
 have P4 := P4.below hA2 P4.lt
 have P3 := P3.below hA2 P3.lt
 have P2 := P2.below hA2 P2.lt
 have P1 := P1.below hA2 P1.lt
 have P0 := P0.below hA2 P0.lt
 obtain ⟨T2, hT2⟩ : ∃ T, u2.heap.size = T := ⟨_, rfl⟩
 have hS2 : S + 1 + 1 + 1 + 1 < T2 := by rw [← hT2]; exact P4.lt
 obtain ⟨X2, hX2⟩ : ∃ X, X = u2.alloc (.cells #[.int .i64 b0', .int .i64 b1', .int .i64 b2', .int .i64 b3', .int .i64 b4', .int .i64 b5'] 38) := ⟨_, rfl⟩
 have P6 : Blk X2 T2 [.int .i64 b0', .int .i64 b1', .int .i64 b2', .int .i64 b3', .int .i64 b4', .int .i64 b5'] := by rw [hX2, ← hT2]; exact Blk.new _ _ _
 have BS := BS.alloc (Nat.le_of_lt P0.lt) (.cells #[.int .i64 b0', .int .i64 b1', .int .i64 b2', .int .i64 b3', .int .i64 b4', .int .i64 b5'] 38)
 have P5 := P5.alloc (.cells #[.int .i64 b0', .int .i64 b1', .int .i64 b2', .int .i64 b3', .int .i64 b4', .int .i64 b5'] 38)
 have P4 := P4.alloc (.cells #[.int .i64 b0', .int .i64 b1', .int .i64 b2', .int .i64 b3', .int .i64 b4', .int .i64 b5'] 38)
 have P3 := P3.alloc (.cells #[.int .i64 b0', .int .i64 b1', .int .i64 b2', .int .i64 b3', .int .i64 b4', .int .i64 b5'] 38)
 have P2 := P2.alloc (.cells #[.int .i64 b0', .int .i64 b1', .int .i64 b2', .int .i64 b3', .int .i64 b4', .int .i64 b5'] 38)
 have P1 := P1.alloc (.cells #[.int .i64 b0', .int .i64 b1', .int .i64 b2', .int .i64 b3', .int .i64 b4', .int .i64 b5'] 38)
 have P0 := P0.alloc (.cells #[.int .i64 b0', .int .i64 b1', .int .i64 b2', .int .i64 b3', .int .i64 b4', .int .i64 b5'] 38)
 rw [← hX2] at BS P0 P1 P2 P3 P4 P5
 have s_1 := (P1 1 _ rfl).1
 have s_7 := (P1 7 _ rfl).1
 have s_12 := (P1 12 _ rfl).1
 have s_13 := (P1 13 _ rfl).1
 have r_2 := (P0 2 _ rfl).1
 have r_3 := (P0 3 _ rfl).1
 rw [hX2] at s_1 s_7 s_12 s_13 r_2 r_3
 have HX := hide hX2
 clear hX2 hA2
 have HP0 := hide P0
 have HP1 := hide P1
 have HP2 := hide P2
 have HP3 := hide P3
 have HP4 := hide P4
 have HP5 := hide P5
 have HP6 := hide P6
 have HBS := hide BS
 clear P0 P1 P2 P3 P4 P5 P6 BS
 go_wp2_with fail
 rw [← HX.out]
 clear HX s_1 s_7 s_12 s_13 r_2 r_3
 have P0 := HP0.out
 have P1 := HP1.out
 have P2 := HP2.out
 have P3 := HP3.out
 have P4 := HP4.out
 have P5 := HP5.out
 have P6 := HP6.out
 have BS := HBS.out
 clear HP0 HP1 HP2 HP3 HP4 HP5 HP6 HBS
 refine (HPA.out X2).mono ?_
 rintro e u3 ⟨rfl, hA3⟩
 have BS := BS.trans (hA3.mono (Nat.le_of_lt P0.lt))
 have P6 := P6.below hA3 P6.lt
 have P5 := P5.below hA3 P5.lt
 have P4 := P4.below hA3 P4.lt
 have P3 := P3.below hA3 P3.lt
 have P2 := P2.below hA3 P2.lt
 have P1 := P1.below hA3 P1.lt
 have P0 := P0.below hA3 P0.lt
 obtain ⟨T3, hT3⟩ : ∃ T, u3.heap.size = T := ⟨_, rfl⟩
 have hS3 : S + 1 + 1 + 1 + 1 < T3 := by rw [← hT3]; exact P4.lt
 have hBX : Below T3 u3 ((u3.alloc (.cells #[.int .i64 x0, .int .i64 x1, .int .i64 x2, .int .i64 x3, .int .i64 x4, .int .i64 x5] 71)).alloc (.cells #[.int .i64 y0, .int .i64 y1] 22)) := by rw [← hT3]; exact ((Below.refl _ _).alloc (Nat.le_refl _) _).alloc (by simp) _
 obtain ⟨X3, hX3⟩ : ∃ X, X = (u3.alloc (.cells #[.int .i64 x0, .int .i64 x1, .int .i64 x2, .int .i64 x3, .int .i64 x4, .int .i64 x5] 71)).alloc (.cells #[.int .i64 y0, .int .i64 y1] 22) := ⟨_, rfl⟩
 have P7 : Blk X3 T3 [.int .i64 x0, .int .i64 x1, .int .i64 x2, .int .i64 x3, .int .i64 x4, .int .i64 x5] := by
  have := (Blk.new u3 [.int .i64 x0, .int .i64 x1, .int .i64 x2, .int .i64 x3, .int .i64 x4, .int .i64 x5] 71).alloc (.cells #[.int .i64 y0, .int .i64 y1] 22)
  rw [hX3]; simpa [hT3] using this
 have P8 : Blk X3 (T3 + 1) [.int .i64 y0, .int .i64 y1] := by
  have := Blk.new (u3.alloc (.cells #[.int .i64 x0, .int .i64 x1, .int .i64 x2, .int .i64 x3, .int .i64 x4, .int .i64 x5] 71)) [.int .i64 y0, .int .i64 y1] 22
  rw [hX3]; simpa [hT3] using this
 rw [← hX3] at hBX
 have BS := BS.trans (hBX.mono (by rw [← hT3]; exact Nat.le_of_lt P0.lt))
 have P6 := P6.below hBX (by rw [← hT3]; exact P6.lt)
 have P5 := P5.below hBX (by rw [← hT3]; exact P5.lt)
 have P4 := P4.below hBX (by rw [← hT3]; exact P4.lt)
 have P3 := P3.below hBX (by rw [← hT3]; exact P3.lt)
 have P2 := P2.below hBX (by rw [← hT3]; exact P2.lt)
 have P1 := P1.below hBX (by rw [← hT3]; exact P1.lt)
 have P0 := P0.below hBX (by rw [← hT3]; exact P0.lt)
 have HX := hide hX3
 clear hX3 hBX hA3
 have HP0 := hide P0
 have HP1 := hide P1
 have HP2 := hide P2
 have HP3 := hide P3
 have HP4 := hide P4
 have HP5 := hide P5
 have HP6 := hide P6
 have HP7 := hide P7
 have HP8 := hide P8
 have HBS := hide BS
 clear P0 P1 P2 P3 P4 P5 P6 P7 P8 BS
 go_wp2_with fail
 rw [← HX.out]
 clear HX
 have P0 := HP0.out
 have P1 := HP1.out
 have P2 := HP2.out
 have P3 := HP3.out
 have P4 := HP4.out
 have P5 := HP5.out
 have P6 := HP6.out
 have P7 := HP7.out
 have P8 := HP8.out
 have BS := HBS.out
 clear HP0 HP1 HP2 HP3 HP4 HP5 HP6 HP7 HP8 HBS
 obtain ⟨n_0, n_1, n_2, n_3, n_4, n_5⟩ := P5.c6
 obtain ⟨nn_0, nn_1, nn_2, nn_3, nn_4, nn_5⟩ := P6.c6
 obtain ⟨m_0, m_1, m_2, m_3, m_4, m_5⟩ := P7.c6
 obtain ⟨mm_0, mm_1⟩ := P8.c2
 obtain ⟨p_0, p_f0, p_1, p_f1, p_2, p_f2, p_3, p_f3, p_4, p_f4, p_5, p_f5, p_6, p_f6, p_7, p_f7, p_8, p_f8, p_9, p_f9, p_10, p_f10, p_11, p_f11, p_12, p_f12, p_13, p_f13⟩ := P3.cf14
 obtain ⟨o_0, o_f0, o_1, o_f1, o_2, o_f2, o_3, o_f3, o_4, o_f4, o_5, o_f5⟩ := P4.cf6
 have H3 := hide P3; have H4 := hide P4; have HBS := hide BS
 clear BS P0 P1 P2 P3 P4 P5 P6 P7 P8
 have dq1 := (show ¬ (T1 = S + 1 + 1 + 1) by omega)
 have dr1 := (show ¬ (S + 1 + 1 + 1 = T1) by omega)
 have dq2 := (show ¬ (T2 = S + 1 + 1 + 1) by omega)
 have dr2 := (show ¬ (S + 1 + 1 + 1 = T2) by omega)
 have dq3 := (show ¬ (T3 = S + 1 + 1 + 1) by omega)
 have dr3 := (show ¬ (S + 1 + 1 + 1 = T3) by omega)
 have dq4 := (show ¬ (T3 + 1 = S + 1 + 1 + 1) by omega)
 have dr4 := (show ¬ (S + 1 + 1 + 1 = T3 + 1) by omega)
 go_region
 go_wp2
 obtain ⟨Z, hZ, z3, z4, zB⟩ := step_fin a0' a1' a2' a3' a4' a5' b0' b1' b2' b3' b4' b5' y0 y1 x0 x1 x2 x3 x4 x5 H3.out H4.out HBS.out
 rw [← hZ]
 clear hZ
 have z3 := z3.drew; have z4 := z4.drew; have zB := zB.drew
 obtain ⟨y_0, y_1, y_2, y_3, y_4, y_5, y_6, y_7, y_8, y_9, y_10, y_11, y_12, y_13⟩ := z3.c14
 obtain ⟨v_0, v_1, v_2, v_3, v_4, v_5⟩ := z4.c6
 refine bodyPost_ret (v := .tuple #[.agg #[.int .i64 a0', .int .i64 a1', .int .i64 a2', .int .i64 a3', .int .i64 a4', .int .i64 a5', .int .i64 b0', .int .i64 b1', .int .i64 b2', .int .i64 b3', .int .i64 b4', .int .i64 b5', .int .i64 y0, .int .i64 y1], .agg #[.int .i64 x0, .int .i64 x1, .int .i64 x2, .int .i64 x3, .int .i64 x4, .int .i64 x5], .int .i64 0]) ?_ rfl ⟨rfl, ?_⟩
 · simp [results, Try.f21, go_sem, *]
 · first | exact zB | (rw [hS]; exact zB)
end Go.Proofs.Ytagbikgfkakbfaa
