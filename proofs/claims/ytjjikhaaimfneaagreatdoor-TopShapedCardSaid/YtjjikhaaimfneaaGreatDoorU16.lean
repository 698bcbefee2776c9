/-
  Lemmas and walks for the statement: Duel12, Duel13, Duel14, Edge.
-/
import Derived.Test.YtjjikhaaimfneaaGreatDoorU13
import Derived.Test.YtjjikhaaimfneaaGreatDoorU14
import Derived.Deep.DeepCutAuto
import Derived.BigRegion
import Derived.Test.YtjjikhaaimfneaaGreatDoorU15
import Derived.Test.YtjjikhaaimfneaaGreatDoorU01
namespace Go.Proofs.YtjjikhaaimfneaaGreatDoor
open Go.RowKit
set_option linter.unusedSimpArgs false
set_option linter.unusedVariables false
attribute [local go_sem] iteMin iteMax iteMinN iteMaxN
set_option maxRecDepth 100000 in
set_option maxHeartbeats 8000000 in
theorem pstep_ok (k0 k1 R Q J a0 a1 a2 a3 a4 a5 b0 b1 b2 b3 b4 b5 x y l0 l1 : Int) (w : World) (hk : kindsOk k0 k1) (hr : rangeOk R Q J) (hs : StRight k0 k1 R Q J a0 a1 a2 a3 a4 a5 b0 b1 b2 b3 b4 b5 x y) (hl0 : 0 ≤ l0) (hl1 : l0 ≤ J) (hl2 : 0 ≤ l1) (hl3 : l1 ≤ J) (D d0 d1 x0 x1 x2 x3 x4 x5 y0 y1 a0' a1' a2' a3' a4' a5' b0' b1' b2' b3' b4' b5' : Int) (hD : (x + y) / R = D) (hd0 : D + l0 = d0) (hd1 : D + l1 = d1) (hDb : 0 ≤ D ∧ D ≤ 16)
 (PX0 : Hid (∀ w : World, Calls Tryz.prog 110 #[.agg #[.int .i64 a0, .int .i64 a1, .int .i64 a2, .int .i64 a3, .int .i64 a4, .int .i64 a5], .int .i64 d0] w fun e w' => e = .returned (.tuple #[.agg #[.int .i64 a0', .int .i64 a1', .int .i64 a2', .int .i64 a3', .int .i64 a4', .int .i64 a5'], .bool true]) ∧ Below w.heap.size w w'))
 (PX1 : Hid (∀ w : World, Calls Tryz.prog 110 #[.agg #[.int .i64 b0, .int .i64 b1, .int .i64 b2, .int .i64 b3, .int .i64 b4, .int .i64 b5], .int .i64 d1] w fun e w' => e = .returned (.tuple #[.agg #[.int .i64 b0', .int .i64 b1', .int .i64 b2', .int .i64 b3', .int .i64 b4', .int .i64 b5'], .bool true]) ∧ Below w.heap.size w w'))
 (HPA : Hid (∀ w : World, Calls Tryz.prog 111 #[.int .i64 R, .int .i64 Q, .agg #[.int .i64 x, .int .i64 y], .agg #[.int .i64 a1, .int .i64 b1]] w fun e w' => e = .returned (.tuple #[.agg #[.int .i64 x0, .int .i64 x1, .int .i64 x2, .int .i64 x3, .int .i64 x4, .int .i64 x5], .agg #[.int .i64 y0, .int .i64 y1], .int .i64 0]) ∧ Below w.heap.size w w')) :
 Calls Tryz.prog 84 #[.agg #[.int .i64 k0, .int .i64 k1, .int .i64 R, .int .i64 Q, .int .i64 J], .agg #[.int .i64 a0, .int .i64 a1, .int .i64 a2, .int .i64 a3, .int .i64 a4, .int .i64 a5, .int .i64 b0, .int .i64 b1, .int .i64 b2, .int .i64 b3, .int .i64 b4, .int .i64 b5, .int .i64 x, .int .i64 y], .agg #[.int .i64 l0, .int .i64 l1]] w fun e w' => e = .returned (.tuple #[.agg #[.int .i64 a0', .int .i64 a1', .int .i64 a2', .int .i64 a3', .int .i64 a4', .int .i64 a5', .int .i64 b0', .int .i64 b1', .int .i64 b2', .int .i64 b3', .int .i64 b4', .int .i64 b5', .int .i64 y0, .int .i64 y1], .agg #[.int .i64 x0, .int .i64 x1, .int .i64 x2, .int .i64 x3, .int .i64 x4, .int .i64 x5], .int .i64 0]) ∧ Below w.heap.size w w' := by
 obtain ⟨S, hS⟩ : ∃ S, w.heap.size = S := ⟨_, rfl⟩
 go_enter Tryz.func84, Tryz.ntmps84
 go_wp2_with fail
 obtain ⟨W, hW, P0, P1, P2, P3, P4, BS⟩ := step_pre k0 k1 R Q J a0 a1 a2 a3 a4 a5 b0 b1 b2 b3 b4 b5 x y l0 l1 hS
 rw [← hW]
 clear hW
 have i0 : ∀ w : World, (Instr.index 47 (.agg #[.int .i64 l0, .int .i64 l1]) (.int .i64 0)).run Tryz.prog w = .ok (.int .i64 l0) w := fun _ => by kernel_rfl
 have i1 : ∀ w : World, (Instr.index 47 (.agg #[.int .i64 l0, .int .i64 l1]) (.int .i64 1)).run Tryz.prog w = .ok (.int .i64 l1) w := fun _ => by kernel_rfl
 refine (pwrong_any k0 k1 R Q J W).mono ?_
 rintro e w1 ⟨⟨r', rfl, hr'⟩, hB1⟩
 have BS := BS.trans (hB1.mono (Nat.le_of_lt P0.lt))
 have P4 := P4.below hB1 P4.lt
 have P3 := P3.below hB1 P3.lt
 have P2 := P2.below hB1 P2.lt
 have P1 := P1.below hB1 P1.lt
 have P0 := P0.below hB1 P0.lt
 clear hB1
 obtain rfl := wrongSays_one hr' (.inr (.inr ⟨hk, hr, rfl⟩))
 clear hr'
 obtain ⟨r_0, r_1, r_2, r_3, r_4⟩ := P0.c5
 obtain ⟨s_0, s_1, s_2, s_3, s_4, s_5, s_6, s_7, s_8, s_9, s_10, s_11, s_12, s_13⟩ := P1.c14
 have h0 := hide P0; have h1 := hide P1; have h2 := hide P2; have h3 := hide P3; have h4 := hide P4; have hb := hide BS
 have HY := hide hs
 clear P0 P1 P2 P3 P4 BS hs
 go_wp2_with fail
 have P0 := h0.out; have P1 := h1.out; have P2 := h2.out; have P3 := h3.out; have P4 := h4.out; have BS := hb.out
 clear h0 h1 h2 h3 h4 hb r_0 r_1 r_2 r_3 r_4 s_0 s_1 s_2 s_3 s_4 s_5 s_6 s_7 s_8 s_9 s_10 s_11 s_12 s_13
 refine (callT (pright_any k0 k1 R Q J a0 a1 a2 a3 a4 a5 b0 b1 b2 b3 b4 b5 x y w1) HY.out).mono ?_
 rintro e w2 ⟨rfl, hB2⟩
 have BS := BS.trans (hB2.mono (Nat.le_of_lt P0.lt))
 have P4 := P4.below hB2 P4.lt
 have P3 := P3.below hB2 P3.lt
 have P2 := P2.below hB2 P2.lt
 have P1 := P1.below hB2 P1.lt
 have P0 := P0.below hB2 P0.lt
 clear hB2
 obtain ⟨hx, hy, hxy⟩ := HY.out.2.2.2.2
 obtain ⟨hR1, hR2, hQ1, hQ2, hJ1, hJ2⟩ := hr
 have wd0 : IntKind.i64.wrap d0 = d0 := by rw [IntKind.wrap_i64]; omega
 have wd1 : IntKind.i64.wrap d1 = d1 := by rw [IntKind.wrap_i64]; omega
 have hm : ¬ (min l0 l1 < 0) := by omega
 have hM : ¬ (J < max l0 l1) := by omega
 obtain ⟨r_0, r_1, r_2, r_3, r_4⟩ := P0.c5
 obtain ⟨s_0, s_1, s_2, s_3, s_4, s_5, s_6, s_7, s_8, s_9, s_10, s_11, s_12, s_13⟩ := P1.c14
 obtain ⟨l_0, l_1⟩ := P2.c2
 have HP0 := hide P0
 have HP1 := hide P1
 have HP2 := hide P2
 have HP3 := hide P3
 have HP4 := hide P4
 have HBS := hide BS
 clear P0 P1 P2 P3 P4 BS
 go_wp2_with fail
 have P0 := HP0.out
 have P1 := HP1.out
 have P2 := HP2.out
 have P3 := HP3.out
 have P4 := HP4.out
 have BS := HBS.out
 clear HP0 HP1 HP2 HP3 HP4 HBS
 clear l_0 l_1 s_0 s_1 s_2 s_3 s_4 s_5 s_6 s_7 s_8 s_9 s_10 s_11 s_12 s_13 r_0 r_1 r_2 r_3 r_4
 refine (PX0.out w2).mono ?_
 rintro e u1 ⟨rfl, hA1⟩
 have BS := BS.trans (hA1.mono (Nat.le_of_lt P0.lt))
 have P4 := P4.below hA1 P4.lt
 have P3 := P3.below hA1 P3.lt
 have P2 := P2.below hA1 P2.lt
 have P1 := P1.below hA1 P1.lt
 have P0 := P0.below hA1 P0.lt
 obtain ⟨T1, hT1⟩ : ∃ T, u1.heap.size = T := ⟨_, rfl⟩
 have hS1 : S + 1 + 1 + 1 + 1 < T1 := by rw [← hT1]; exact P4.lt
 obtain ⟨X1, hX1⟩ : ∃ X, X = u1.alloc (.cells #[.int .i64 a0', .int .i64 a1', .int .i64 a2', .int .i64 a3', .int .i64 a4', .int .i64 a5'] 36) := ⟨_, rfl⟩
 have P5 : Blk X1 T1 [.int .i64 a0', .int .i64 a1', .int .i64 a2', .int .i64 a3', .int .i64 a4', .int .i64 a5'] := by rw [hX1, ← hT1]; exact Blk.new _ _ _
 have BS := BS.alloc (Nat.le_of_lt P0.lt) (.cells #[.int .i64 a0', .int .i64 a1', .int .i64 a2', .int .i64 a3', .int .i64 a4', .int .i64 a5'] 36)
 have P4 := P4.alloc (.cells #[.int .i64 a0', .int .i64 a1', .int .i64 a2', .int .i64 a3', .int .i64 a4', .int .i64 a5'] 36)
 have P3 := P3.alloc (.cells #[.int .i64 a0', .int .i64 a1', .int .i64 a2', .int .i64 a3', .int .i64 a4', .int .i64 a5'] 36)
 have P2 := P2.alloc (.cells #[.int .i64 a0', .int .i64 a1', .int .i64 a2', .int .i64 a3', .int .i64 a4', .int .i64 a5'] 36)
 have P1 := P1.alloc (.cells #[.int .i64 a0', .int .i64 a1', .int .i64 a2', .int .i64 a3', .int .i64 a4', .int .i64 a5'] 36)
 have P0 := P0.alloc (.cells #[.int .i64 a0', .int .i64 a1', .int .i64 a2', .int .i64 a3', .int .i64 a4', .int .i64 a5'] 36)
 rw [← hX1] at BS P0 P1 P2 P3 P4
 have s_6 := (P1 6 _ rfl).1
 have s_7 := (P1 7 _ rfl).1
 have s_8 := (P1 8 _ rfl).1
 have s_9 := (P1 9 _ rfl).1
 have s_10 := (P1 10 _ rfl).1
 have s_11 := (P1 11 _ rfl).1
 have s_12 := (P1 12 _ rfl).1
 have s_13 := (P1 13 _ rfl).1
 have l_1 := (P2 1 _ rfl).1
 have r_2 := (P0 2 _ rfl).1
 rw [hX1] at s_6 s_7 s_8 s_9 s_10 s_11 s_12 s_13 l_1 r_2
 have HX := hide hX1
 clear hX1 hA1
 have HP0 := hide P0
 have HP1 := hide P1
 have HP2 := hide P2
 have HP3 := hide P3
 have HP4 := hide P4
 have HP5 := hide P5
 have HBS := hide BS
 clear P0 P1 P2 P3 P4 P5 BS
 go_wp2_with fail
 rw [← HX.out]
 clear HX s_6 s_7 s_8 s_9 s_10 s_11 s_12 s_13 l_1 r_2
 have P0 := HP0.out
 have P1 := HP1.out
 have P2 := HP2.out
 have P3 := HP3.out
 have P4 := HP4.out
 have P5 := HP5.out
 have BS := HBS.out
 clear HP0 HP1 HP2 HP3 HP4 HP5 HBS
 refine (PX1.out X1).mono ?_
 rintro e u2 ⟨rfl, hA2⟩
 have BS := BS.trans (hA2.mono (Nat.le_of_lt P0.lt))
 have P5 := P5.below hA2 P5.lt
 have P4 := P4.below hA2 P4.lt
 have P3 := P3.below hA2 P3.lt
 have P2 := P2.below hA2 P2.lt
 have P1 := P1.below hA2 P1.lt
 have P0 := P0.below hA2 P0.lt
 obtain ⟨T2, hT2⟩ : ∃ T, u2.heap.size = T := ⟨_, rfl⟩
 have hS2 : S + 1 + 1 + 1 + 1 < T2 := by rw [← hT2]; exact P4.lt
 obtain ⟨X2, hX2⟩ : ∃ X, X = u2.alloc (.cells #[.int .i64 b0', .int .i64 b1', .int .i64 b2', .int .i64 b3', .int .i64 b4', .int .i64 b5'] 36) := ⟨_, rfl⟩
 have P6 : Blk X2 T2 [.int .i64 b0', .int .i64 b1', .int .i64 b2', .int .i64 b3', .int .i64 b4', .int .i64 b5'] := by rw [hX2, ← hT2]; exact Blk.new _ _ _
 have BS := BS.alloc (Nat.le_of_lt P0.lt) (.cells #[.int .i64 b0', .int .i64 b1', .int .i64 b2', .int .i64 b3', .int .i64 b4', .int .i64 b5'] 36)
 have P5 := P5.alloc (.cells #[.int .i64 b0', .int .i64 b1', .int .i64 b2', .int .i64 b3', .int .i64 b4', .int .i64 b5'] 36)
 have P4 := P4.alloc (.cells #[.int .i64 b0', .int .i64 b1', .int .i64 b2', .int .i64 b3', .int .i64 b4', .int .i64 b5'] 36)
 have P3 := P3.alloc (.cells #[.int .i64 b0', .int .i64 b1', .int .i64 b2', .int .i64 b3', .int .i64 b4', .int .i64 b5'] 36)
 have P2 := P2.alloc (.cells #[.int .i64 b0', .int .i64 b1', .int .i64 b2', .int .i64 b3', .int .i64 b4', .int .i64 b5'] 36)
 have P1 := P1.alloc (.cells #[.int .i64 b0', .int .i64 b1', .int .i64 b2', .int .i64 b3', .int .i64 b4', .int .i64 b5'] 36)
 have P0 := P0.alloc (.cells #[.int .i64 b0', .int .i64 b1', .int .i64 b2', .int .i64 b3', .int .i64 b4', .int .i64 b5'] 36)
 rw [← hX2] at BS P0 P1 P2 P3 P4 P5
 have s_1 := (P1 1 _ rfl).1
 have s_7 := (P1 7 _ rfl).1
 have s_12 := (P1 12 _ rfl).1
 have s_13 := (P1 13 _ rfl).1
 have r_2 := (P0 2 _ rfl).1
 have r_3 := (P0 3 _ rfl).1
 rw [hX2] at s_1 s_7 s_12 s_13 r_2 r_3
 have HX := hide hX2
 clear hX2 hA2
 have HP0 := hide P0
 have HP1 := hide P1
 have HP2 := hide P2
 have HP3 := hide P3
 have HP4 := hide P4
 have HP5 := hide P5
 have HP6 := hide P6
 have HBS := hide BS
 clear P0 P1 P2 P3 P4 P5 P6 BS
 go_wp2_with fail
 rw [← HX.out]
 clear HX s_1 s_7 s_12 s_13 r_2 r_3
 have P0 := HP0.out
 have P1 := HP1.out
 have P2 := HP2.out
 have P3 := HP3.out
 have P4 := HP4.out
 have P5 := HP5.out
 have P6 := HP6.out
 have BS := HBS.out
 clear HP0 HP1 HP2 HP3 HP4 HP5 HP6 HBS
 refine (HPA.out X2).mono ?_
 rintro e u3 ⟨rfl, hA3⟩
 have BS := BS.trans (hA3.mono (Nat.le_of_lt P0.lt))
 have P6 := P6.below hA3 P6.lt
 have P5 := P5.below hA3 P5.lt
 have P4 := P4.below hA3 P4.lt
 have P3 := P3.below hA3 P3.lt
 have P2 := P2.below hA3 P2.lt
 have P1 := P1.below hA3 P1.lt
 have P0 := P0.below hA3 P0.lt
 obtain ⟨T3, hT3⟩ : ∃ T, u3.heap.size = T := ⟨_, rfl⟩
 have hS3 : S + 1 + 1 + 1 + 1 < T3 := by rw [← hT3]; exact P4.lt
 have hBX : Below T3 u3 ((u3.alloc (.cells #[.int .i64 x0, .int .i64 x1, .int .i64 x2, .int .i64 x3, .int .i64 x4, .int .i64 x5] 92)).alloc (.cells #[.int .i64 y0, .int .i64 y1] 47)) := by rw [← hT3]; exact ((Below.refl _ _).alloc (Nat.le_refl _) _).alloc (by simp) _
 obtain ⟨X3, hX3⟩ : ∃ X, X = (u3.alloc (.cells #[.int .i64 x0, .int .i64 x1, .int .i64 x2, .int .i64 x3, .int .i64 x4, .int .i64 x5] 92)).alloc (.cells #[.int .i64 y0, .int .i64 y1] 47) := ⟨_, rfl⟩
 have P7 : Blk X3 T3 [.int .i64 x0, .int .i64 x1, .int .i64 x2, .int .i64 x3, .int .i64 x4, .int .i64 x5] := by
  have := (Blk.new u3 [.int .i64 x0, .int .i64 x1, .int .i64 x2, .int .i64 x3, .int .i64 x4, .int .i64 x5] 92).alloc (.cells #[.int .i64 y0, .int .i64 y1] 47)
  rw [hX3]; simpa [hT3] using this
 have P8 : Blk X3 (T3 + 1) [.int .i64 y0, .int .i64 y1] := by
  have := Blk.new (u3.alloc (.cells #[.int .i64 x0, .int .i64 x1, .int .i64 x2, .int .i64 x3, .int .i64 x4, .int .i64 x5] 92)) [.int .i64 y0, .int .i64 y1] 47
  rw [hX3]; simpa [hT3] using this
 rw [← hX3] at hBX
 have BS := BS.trans (hBX.mono (by rw [← hT3]; exact Nat.le_of_lt P0.lt))
 have P6 := P6.below hBX (by rw [← hT3]; exact P6.lt)
 have P5 := P5.below hBX (by rw [← hT3]; exact P5.lt)
 have P4 := P4.below hBX (by rw [← hT3]; exact P4.lt)
 have P3 := P3.below hBX (by rw [← hT3]; exact P3.lt)
 have P2 := P2.below hBX (by rw [← hT3]; exact P2.lt)
 have P1 := P1.below hBX (by rw [← hT3]; exact P1.lt)
 have P0 := P0.below hBX (by rw [← hT3]; exact P0.lt)
 have HX := hide hX3
 clear hX3 hBX hA3
 have HP0 := hide P0
 have HP1 := hide P1
 have HP2 := hide P2
 have HP3 := hide P3
 have HP4 := hide P4
 have HP5 := hide P5
 have HP6 := hide P6
 have HP7 := hide P7
 have HP8 := hide P8
 have HBS := hide BS
 clear P0 P1 P2 P3 P4 P5 P6 P7 P8 BS
 go_wp2_with fail
 rw [← HX.out]
 clear HX
 have P0 := HP0.out
 have P1 := HP1.out
 have P2 := HP2.out
 have P3 := HP3.out
 have P4 := HP4.out
 have P5 := HP5.out
 have P6 := HP6.out
 have P7 := HP7.out
 have P8 := HP8.out
 have BS := HBS.out
 clear HP0 HP1 HP2 HP3 HP4 HP5 HP6 HP7 HP8 HBS
 obtain ⟨n_0, n_1, n_2, n_3, n_4, n_5⟩ := P5.c6
 obtain ⟨nn_0, nn_1, nn_2, nn_3, nn_4, nn_5⟩ := P6.c6
 obtain ⟨m_0, m_1, m_2, m_3, m_4, m_5⟩ := P7.c6
 obtain ⟨mm_0, mm_1⟩ := P8.c2
 obtain ⟨p_0, p_f0, p_1, p_f1, p_2, p_f2, p_3, p_f3, p_4, p_f4, p_5, p_f5, p_6, p_f6, p_7, p_f7, p_8, p_f8, p_9, p_f9, p_10, p_f10, p_11, p_f11, p_12, p_f12, p_13, p_f13⟩ := P3.cf14
 obtain ⟨o_0, o_f0, o_1, o_f1, o_2, o_f2, o_3, o_f3, o_4, o_f4, o_5, o_f5⟩ := P4.cf6
 have H3 := hide P3; have H4 := hide P4; have HBS := hide BS
 clear BS P0 P1 P2 P3 P4 P5 P6 P7 P8
 have dq1 := (show ¬ (T1 = S + 1 + 1 + 1) by omega)
 have dr1 := (show ¬ (S + 1 + 1 + 1 = T1) by omega)
 have dq2 := (show ¬ (T2 = S + 1 + 1 + 1) by omega)
 have dr2 := (show ¬ (S + 1 + 1 + 1 = T2) by omega)
 have dq3 := (show ¬ (T3 = S + 1 + 1 + 1) by omega)
 have dr3 := (show ¬ (S + 1 + 1 + 1 = T3) by omega)
 have dq4 := (show ¬ (T3 + 1 = S + 1 + 1 + 1) by omega)
 have dr4 := (show ¬ (S + 1 + 1 + 1 = T3 + 1) by omega)
 go_region
 go_wp2
 obtain ⟨Z, hZ, z3, z4, zB⟩ := step_fin a0' a1' a2' a3' a4' a5' b0' b1' b2' b3' b4' b5' y0 y1 x0 x1 x2 x3 x4 x5 H3.out H4.out HBS.out
 rw [← hZ]
 clear hZ
 have z3 := z3.drew; have z4 := z4.drew; have zB := zB.drew
 obtain ⟨y_0, y_1, y_2, y_3, y_4, y_5, y_6, y_7, y_8, y_9, y_10, y_11, y_12, y_13⟩ := z3.c14
 obtain ⟨v_0, v_1, v_2, v_3, v_4, v_5⟩ := z4.c6
 refine bodyPost_ret (v := .tuple #[.agg #[.int .i64 a0', .int .i64 a1', .int .i64 a2', .int .i64 a3', .int .i64 a4', .int .i64 a5', .int .i64 b0', .int .i64 b1', .int .i64 b2', .int .i64 b3', .int .i64 b4', .int .i64 b5', .int .i64 y0, .int .i64 y1], .agg #[.int .i64 x0, .int .i64 x1, .int .i64 x2, .int .i64 x3, .int .i64 x4, .int .i64 x5], .int .i64 0]) ?_ rfl ⟨rfl, ?_⟩
 · simp [results, Tryz.f84, go_sem, *]
 · first | exact zB | (rw [hS]; exact zB)
end Go.Proofs.YtjjikhaaimfneaaGreatDoor
namespace Go.Proofs.YtjjikhaaimfneaaGreatDoor
open Go.RowKit
set_option linter.unusedSimpArgs false
set_option linter.unusedVariables false
theorem sm_wf {x : Int} (h : -4398046511104 ≤ x ∧ x ≤ 4398046511104) : (Lit.int .i64 x).wf = true := by
 simp only [Lit.wf, IntKind.min, IntKind.max, IntKind.signed, IntKind.bits, Bool.and_eq_true, decide_eq_true_eq, if_true]
 omega
def Sml (x : Int) : Prop := -4398046511104 ≤ x ∧ x ≤ 4398046511104
theorem right_sml {kd k n b y s p : Int} (hk : 1 ≤ kd ∧ kd ≤ 3) (h : rightK kd ⟨k, n, b, y, s, p⟩ = true) : Sml k ∧ (1 ≤ n ∧ n ≤ 12) ∧ Sml b ∧ Sml y ∧ Sml s ∧ Sml p := by
 unfold rightK at h
 unfold Sml
 rcases (show kd = 1 ∨ kd = 2 ∨ kd = 3 by omega) with rfl | rfl | rfl
 · have h : vegRight ⟨k, n, b, y, s, p⟩ = true := h
   simp only [vegRight, decide_eq_true_eq] at h; omega
 · have h : copRight ⟨k, n, b, y, s, p⟩ = true := h
   simp only [copRight, decide_eq_true_eq] at h; omega
 · have h : ledRight ⟨k, n, b, y, s, p⟩ = true := h
   simp only [ledRight, decide_eq_true_eq] at h; omega
def StepIs (k0 k1 R Q J a0 a1 a2 a3 a4 a5 b0 b1 b2 b3 b4 b5 x y l0 l1 : Int) (ss us : List Int) (n : Int) : Prop := ss.length = 14 ∧ us.length = 6 ∧ (∀ z ∈ ss, Sml z) ∧ (∀ z ∈ us, Sml z) ∧
 (∀ w : World, Calls Tryz.prog 68 #[.agg #[.int .i64 k0, .int .i64 k1, .int .i64 R, .int .i64 Q, .int .i64 J], .agg #[.int .i64 a0, .int .i64 a1, .int .i64 a2, .int .i64 a3, .int .i64 a4, .int .i64 a5, .int .i64 b0, .int .i64 b1, .int .i64 b2, .int .i64 b3, .int .i64 b4, .int .i64 b5, .int .i64 x, .int .i64 y], .agg #[.int .i64 l0, .int .i64 l1]] w fun e w' => e = .returned (.tuple #[.agg (ss.map (Value.int .i64)).toArray, .agg (us.map (Value.int .i64)).toArray, .int .i64 n]) ∧ Below w.heap.size w w') ∧
 (∀ w : World, Calls Tryz.prog 84 #[.agg #[.int .i64 k0, .int .i64 k1, .int .i64 R, .int .i64 Q, .int .i64 J], .agg #[.int .i64 a0, .int .i64 a1, .int .i64 a2, .int .i64 a3, .int .i64 a4, .int .i64 a5, .int .i64 b0, .int .i64 b1, .int .i64 b2, .int .i64 b3, .int .i64 b4, .int .i64 b5, .int .i64 x, .int .i64 y], .agg #[.int .i64 l0, .int .i64 l1]] w fun e w' => e = .returned (.tuple #[.agg (ss.map (Value.int .i64)).toArray, .agg (us.map (Value.int .i64)).toArray, .int .i64 n]) ∧ Below w.heap.size w w')
theorem zero_sml (n : Nat) : ∀ z ∈ List.replicate n (0 : Int), Sml z := fun z h => by rw [(List.mem_replicate.1 h).2]; unfold Sml; omega
end Go.Proofs.YtjjikhaaimfneaaGreatDoor
namespace Go.Proofs.YtjjikhaaimfneaaGreatDoor
open Go.RowKit
set_option linter.unusedSimpArgs false
set_option linter.unusedVariables false
theorem count_ft (l : List Bool) : List.count false l + List.count true l = l.length := by
 induction l with
 | nil => rfl
 | cons x l ih => cases x <;> simp <;> omega
theorem tally_sum {R Q : Nat} {pre : List Bool} {p0 q0 r0 p1 q1 r1 : Nat} (h0 : Tally R Q pre false p0 q0 r0) (h1 : Tally R Q pre true p1 q1 r1) : (q0 : Int) + (q1 : Int) ≤ (Q : Int) := by
 obtain ⟨a0, b0, c0⟩ := h0
 obtain ⟨a1, b1, c1⟩ := h1
 have k1 := count_ft (List.take R pre)
 have k2 := count_ft (List.take (R + Q) pre)
 simp only [List.length_take] at k1 k2
 omega
theorem pass_both2 {R Q a b c d : Int} (hok : LinkOk R Q a b c d) : ∃ x0 x1 x2 x3 x4 x5 y0 y1 : Int, (∀ x ∈ [x0, x1, x2, x3, x4, x5, y0, y1], 0 ≤ x ∧ x ≤ 1000) ∧ 0 ≤ y0 ∧ 0 ≤ y1 ∧ y0 + y1 ≤ Q ∧ (∀ z ∈ [x0, x1, x2, x3, x4, x5], 0 ≤ z ∧ z ≤ 100) ∧
 (∀ w : World, Calls Tryz.prog 90 #[.int .i64 R, .int .i64 Q, .agg #[.int .i64 a, .int .i64 b], .agg #[.int .i64 c, .int .i64 d]] w fun e w' => e = .returned (.tuple #[.agg #[.int .i64 x0, .int .i64 x1, .int .i64 x2, .int .i64 x3, .int .i64 x4, .int .i64 x5], .agg #[.int .i64 y0, .int .i64 y1], .int .i64 0]) ∧ Below w.heap.size w w') ∧
 (∀ w : World, Calls Tryz.prog 111 #[.int .i64 R, .int .i64 Q, .agg #[.int .i64 a, .int .i64 b], .agg #[.int .i64 c, .int .i64 d]] w fun e w' => e = .returned (.tuple #[.agg #[.int .i64 x0, .int .i64 x1, .int .i64 x2, .int .i64 x3, .int .i64 x4, .int .i64 x5], .agg #[.int .i64 y0, .int .i64 y1], .int .i64 0]) ∧ Below w.heap.size w w') := by
 have hbd := hok
 unfold LinkOk at hbd
 obtain ⟨R, rfl⟩ : ∃ n : Nat, R = (n : Int) := ⟨R.toNat, by omega⟩
 obtain ⟨Q, rfl⟩ : ∃ n : Nat, Q = (n : Int) := ⟨Q.toNat, by omega⟩
 obtain ⟨a, rfl⟩ : ∃ n : Nat, a = (n : Int) := ⟨a.toNat, by omega⟩
 obtain ⟨b, rfl⟩ : ∃ n : Nat, b = (n : Int) := ⟨b.toNat, by omega⟩
 obtain ⟨c, rfl⟩ : ∃ n : Nat, c = (n : Int) := ⟨c.toNat, by omega⟩
 obtain ⟨d, rfl⟩ : ∃ n : Nat, d = (n : Int) := ⟨d.toNat, by omega⟩
 obtain ⟨p0, q0, r0, t0⟩ := tally_ex R Q (rowB a b c d) false
 obtain ⟨p1, q1, r1, t1⟩ := tally_ex R Q (rowB a b c d) true
 have s0 := tally_small t0
 have s1 := tally_small t1
 rw [row_len] at s0 s1
 exact ⟨c, d, p0, p1, r0, r1, q0, q1, by simp; omega, by omega, by omega, tally_sum t0 t1, by simp; omega, fun w => (lpass_ok R Q a b c d w hok).mono fun e w' ⟨h, hB⟩ => ⟨pass_detF t0 t1 h, hB⟩, fun w => (opass_ok R Q a b c d w hok).mono fun e w' ⟨h, hB⟩ => ⟨pass_detF t0 t1 h, hB⟩⟩
def StRightL (k0 k1 R Q J : Int) : List Int → Prop
 | [a0, a1, a2, a3, a4, a5, b0, b1, b2, b3, b4, b5, x, y] => StRight k0 k1 R Q J a0 a1 a2 a3 a4 a5 b0 b1 b2 b3 b4 b5 x y
 | _ => False
def StepGood (k0 k1 R Q J a0 a1 a2 a3 a4 a5 b0 b1 b2 b3 b4 b5 x y l0 l1 : Int) (ss us : List Int) (n : Int) : Prop := StRight k0 k1 R Q J a0 a1 a2 a3 a4 a5 b0 b1 b2 b3 b4 b5 x y → (0 ≤ l0 ∧ l0 ≤ J ∧ 0 ≤ l1 ∧ l1 ≤ J) → n = 0 ∧ StRightL k0 k1 R Q J ss ∧ (∀ z ∈ us, 0 ≤ z ∧ z ≤ 100)
theorem step_both2 (k0 k1 R Q J a0 a1 a2 a3 a4 a5 b0 b1 b2 b3 b4 b5 x y l0 l1 : Int) : ∃ ss us n, StepIs k0 k1 R Q J a0 a1 a2 a3 a4 a5 b0 b1 b2 b3 b4 b5 x y l0 l1 ss us n ∧ StepGood k0 k1 R Q J a0 a1 a2 a3 a4 a5 b0 b1 b2 b3 b4 b5 x y l0 l1 ss us n := by
 by_cases hok : kindsOk k0 k1 ∧ rangeOk R Q J
 case neg =>
  obtain ⟨r, hw, h0⟩ : ∃ r, WrongSays k0 k1 R Q J r ∧ r ≠ 0 := by
   by_cases hk : kindsOk k0 k1
   · exact ⟨2, .inr (.inl ⟨hk, fun h => hok ⟨hk, h⟩, rfl⟩), by omega⟩
   · exact ⟨5, .inl ⟨hk, rfl⟩, by omega⟩
  exact ⟨List.replicate 14 0, List.replicate 6 0, r, ⟨rfl, rfl, zero_sml _, zero_sml _, fun w => step_wrong k0 k1 R Q J a0 a1 a2 a3 a4 a5 b0 b1 b2 b3 b4 b5 x y l0 l1 w r hw h0, fun w => pstep_wrong k0 k1 R Q J a0 a1 a2 a3 a4 a5 b0 b1 b2 b3 b4 b5 x y l0 l1 w r hw h0⟩, fun h _ => (hok ⟨h.1, h.2.1⟩).elim⟩
 obtain ⟨hk, hr⟩ := hok
 by_cases hs : StRight k0 k1 R Q J a0 a1 a2 a3 a4 a5 b0 b1 b2 b3 b4 b5 x y
 case neg => exact ⟨List.replicate 14 0, List.replicate 6 0, 1, ⟨rfl, rfl, zero_sml _, zero_sml _, fun w => step_form k0 k1 R Q J a0 a1 a2 a3 a4 a5 b0 b1 b2 b3 b4 b5 x y l0 l1 w hk hr hs, fun w => pstep_form k0 k1 R Q J a0 a1 a2 a3 a4 a5 b0 b1 b2 b3 b4 b5 x y l0 l1 w hk hr hs⟩, fun h _ => (hs h).elim⟩
 by_cases hl : 0 ≤ l0 ∧ l0 ≤ J ∧ 0 ≤ l1 ∧ l1 ≤ J
 case neg =>
  refine ⟨List.replicate 14 0, List.replicate 6 0, 2, ⟨rfl, rfl, zero_sml _, zero_sml _, fun w => ?_, fun w => pstep_late k0 k1 R Q J a0 a1 a2 a3 a4 a5 b0 b1 b2 b3 b4 b5 x y l0 l1 w hk hr hs hl⟩, fun _ h => (hl h).elim⟩
  by_cases h0 : 0 ≤ l0 ∧ l0 ≤ J
  · exact step_late1 k0 k1 R Q J a0 a1 a2 a3 a4 a5 b0 b1 b2 b3 b4 b5 x y l0 l1 w hk hr hs h0 (by omega)
  · exact step_late0 k0 k1 R Q J a0 a1 a2 a3 a4 a5 b0 b1 b2 b3 b4 b5 x y l0 l1 w hk hr hs (by omega)
 obtain ⟨q0, q1, q2, q3⟩ := hl
 obtain ⟨f0, g0, h0, HK0, hof0⟩ := of_gen k0 hk.1 hk.2.1
 obtain ⟨f1, g1, h1, HK1, hof1⟩ := of_gen k1 hk.2.2.1 hk.2.2.2
 obtain ⟨_, _, hr0, hr1, hx, hy, hxy⟩ := id hs
 have hr' := hr
 unfold rangeOk at hr'
 obtain ⟨D, hD⟩ : ∃ D, (x + y) / R = D := ⟨_, rfl⟩
 have hD1 : 0 ≤ D := by rw [← hD]; exact Int.ediv_nonneg (by omega) (by omega)
 have hD2 : D ≤ 16 := by rw [← hD]; exact Int.le_trans (Int.ediv_le_self _ (by omega)) (by omega)
 obtain ⟨c0, c1, c2, c3, c4, c5, m0, n0, n1⟩ := HK0.out.2.2.2.2.2 a0 a1 a2 a3 a4 a5 (D + l0) hr0 (by omega) (by omega)
 obtain ⟨e0, e1, e2, e3, e4, e5, m1, o0, o1⟩ := HK1.out.2.2.2.2.2 b0 b1 b2 b3 b4 b5 (D + l1) hr1 (by omega) (by omega)
 have w0 := right_sml ⟨hk.1, hk.2.1⟩ hr0
 have w1 := right_sml ⟨hk.2.2.1, hk.2.2.2⟩ hr1
 have v0 := right_sml ⟨hk.1, hk.2.1⟩ m0
 have v1 := right_sml ⟨hk.2.2.1, hk.2.2.2⟩ m1
 obtain ⟨x0, x1, x2, x3, x4, x5, y0, y1, hsm, z0, z1, z2, zc, p1, p2⟩ := pass_both2 (R := R) (Q := Q) (a := x) (b := y) (c := a1) (d := b1) (by unfold LinkOk; omega)
 refine ⟨[c0, c1, c2, c3, c4, c5, e0, e1, e2, e3, e4, e5, y0, y1], [x0, x1, x2, x3, x4, x5], 0, ⟨rfl, rfl, ?_, ?_, fun w => ?_, fun w => ?_⟩, fun _ _ => ⟨rfl, ⟨hk, hr, m0, m1, z0, z1, z2⟩, ?_⟩⟩
 · have := hsm y0 (by simp); have := hsm y1 (by simp)
   unfold Sml at *
   intro z hz
   simp only [List.mem_cons, List.not_mem_nil, or_false] at hz
   omega
 · intro z hz
   have := hsm z (by simp only [List.mem_cons, List.not_mem_nil, or_false] at hz ⊢; omega)
   unfold Sml; omega
 · exact step_ok k0 k1 R Q J a0 a1 a2 a3 a4 a5 b0 b1 b2 b3 b4 b5 x y l0 l1 w hk hr hs q0 q1 q2 q3 f0 g0 h0 f1 g1 h1 D _ _ x0 x1 x2 x3 x4 x5 y0 y1 c0 c1 c2 c3 c4 c5 e0 e1 e2 e3 e4 e5 hD rfl rfl ⟨hD1, hD2⟩ hof0 hof1 (hide HK0.out.2.2.1) (hide HK1.out.2.2.1) n0 o0 p1
 · exact pstep_ok k0 k1 R Q J a0 a1 a2 a3 a4 a5 b0 b1 b2 b3 b4 b5 x y l0 l1 w hk hr hs q0 q1 q2 q3 D _ _ x0 x1 x2 x3 x4 x5 y0 y1 c0 c1 c2 c3 c4 c5 e0 e1 e2 e3 e4 e5 hD rfl rfl ⟨hD1, hD2⟩ n1 o1 p2
 · intro z hz
   exact zc z hz
end Go.Proofs.YtjjikhaaimfneaaGreatDoor
namespace Go.Proofs.YtjjikhaaimfneaaGreatDoor
open Go.RowKit
set_option linter.unusedSimpArgs false
set_option linter.unusedVariables false
structure GE where
 src : Int
 dst : Int
 wt : Int
def EdgesAt (w : World) (a : Option Addr) (n c : Nat) (es : List GE) : Prop :=
 es.length = n ∧ n ≤ c ∧ n ≤ 17592186044416 ∧ (0 < n → ∃ ad, a = some ad ∧ ad.block < w.heap.size ∧ ∀ (j : Nat) (e : GE), es[j]? = some e → w.cell? (ad.add (j * 3)) = some (.int .i64 e.src) ∧ w.cell? (ad.add (j * 3 + 1)) = some (.int .i64 e.dst) ∧ w.cell? (ad.add (j * 3 + 2)) = some (.int .i64 e.wt))
section
variable {w w' : World} {a : Option Addr} {n c : Nat} {es : List GE}
theorem EdgesAt.len (h : EdgesAt w a n c es) : es.length = n := h.1
theorem EdgesAt.cap (h : EdgesAt w a n c es) : n ≤ c := h.2.1
theorem EdgesAt.lim (h : EdgesAt w a n c es) : n ≤ 17592186044416 := h.2.2.1
theorem EdgesAt.below (h : EdgesAt w a n c es) (hb : Below w.heap.size w w') : EdgesAt w' a n c es :=
 ⟨h.1, h.2.1, h.2.2.1, fun hn => by
  obtain ⟨ad, e, hlt, hc⟩ := h.2.2.2 hn
  refine ⟨ad, e, Nat.lt_of_lt_of_le hlt hb.size, fun j x hx => ?_⟩
  obtain ⟨c0, c1, c2⟩ := hc j x hx
  exact ⟨(hb.cell (by rw [block_add]; exact hlt)).trans c0, (hb.cell (by rw [block_add]; exact hlt)).trans c1, (hb.cell (by rw [block_add]; exact hlt)).trans c2⟩⟩
theorem add_parts (ad : Addr) (m i : Nat) : ad.add (m + (i + 1)) = ⟨(ad.add m).block, (ad.add m).off + (i + 1), none⟩ := by
 unfold Addr.add; (repeat' split) <;> simp_all <;> omega
theorem EdgesAt.getB {k : Nat} (h : EdgesAt w a n c es) (hb : Below w.heap.size w w') (hk : k < n) : ∃ ad x y z, a = some ad ∧ (ad.add (k * 3)).block < w.heap.size ∧ Hid (es[k]? = some ⟨x, y, z⟩) ∧
 w'.cell? (ad.add (k * 3)) = some (.int .i64 x) ∧ w'.cell? ⟨(ad.add (k * 3)).block, (ad.add (k * 3)).off + 1, none⟩ = some (.int .i64 y) ∧ w'.cell? ⟨(ad.add (k * 3)).block, (ad.add (k * 3)).off + 2, none⟩ = some (.int .i64 z) := by
 obtain ⟨ad, e, hlt, hc⟩ := h.2.2.2 (by omega)
 have hl : k < es.length := by rw [h.1]; exact hk
 have hg : es[k]? = some es[k] := List.getElem?_eq_getElem hl
 obtain ⟨c0, c1, c2⟩ := hc k _ hg
 rw [show k * 3 + 1 = k * 3 + (0 + 1) by omega, add_parts] at c1
 rw [show k * 3 + 2 = k * 3 + (1 + 1) by omega, add_parts] at c2
 exact ⟨ad, es[k].src, es[k].dst, es[k].wt, e, by rw [block_add]; exact hlt, hg, (hb.cell (by rw [block_add]; exact hlt)).trans c0, (hb.cell (by simp only [block_add]; exact hlt)).trans c1, (hb.cell (by simp only [block_add]; exact hlt)).trans c2⟩
end
end Go.Proofs.YtjjikhaaimfneaaGreatDoor
