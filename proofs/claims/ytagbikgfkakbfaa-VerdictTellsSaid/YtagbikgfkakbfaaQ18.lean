/-
  Lemmas and walks for the statement: Duel10.
-/
import Derived.Test.YtagbikgfkakbfaaQ17
namespace Go.Proofs.Ytagbikgfkakbfaa
open Go.RowKit
set_option linter.unusedSimpArgs false
set_option linter.unusedVariables false
attribute [local go_sem] iteMin iteMax iteMinN iteMaxN
set_option maxRecDepth 100000 in
set_option maxHeartbeats 8000000 in
theorem step_late0 (k0 k1 R Q J a0 a1 a2 a3 a4 a5 b0 b1 b2 b3 b4 b5 x y l0 l1 : Int) (w : World) (hk : kindsOk k0 k1) (hr : rangeOk R Q J) (hs : StRight k0 k1 R Q J a0 a1 a2 a3 a4 a5 b0 b1 b2 b3 b4 b5 x y) (hl : l0 < 0 ∨ J < l0) : Calls Try.prog 39 #[.agg #[.int .i64 k0, .int .i64 k1, .int .i64 R, .int .i64 Q, .int .i64 J], .agg #[.int .i64 a0, .int .i64 a1, .int .i64 a2, .int .i64 a3, .int .i64 a4, .int .i64 a5, .int .i64 b0, .int .i64 b1, .int .i64 b2, .int .i64 b3, .int .i64 b4, .int .i64 b5, .int .i64 x, .int .i64 y], .agg #[.int .i64 l0, .int .i64 l1]] w fun e w' => e = .returned (.tuple #[.agg #[.int .i64 0, .int .i64 0, .int .i64 0, .int .i64 0, .int .i64 0, .int .i64 0, .int .i64 0, .int .i64 0, .int .i64 0, .int .i64 0, .int .i64 0, .int .i64 0, .int .i64 0, .int .i64 0], .agg #[.int .i64 0, .int .i64 0, .int .i64 0, .int .i64 0, .int .i64 0, .int .i64 0], .int .i64 2]) ∧ Below w.heap.size w w' := by
 obtain ⟨S, hS⟩ : ∃ S, w.heap.size = S := ⟨_, rfl⟩
 go_enter Try.func39, Try.ntmps39
 go_wp2_with fail
 obtain ⟨W, hW, P0, P1, P2, P3, P4, BS⟩ := step_pre k0 k1 R Q J a0 a1 a2 a3 a4 a5 b0 b1 b2 b3 b4 b5 x y l0 l1 hS
 rw [← hW]
 clear hW
 have i0 : ∀ w : World, (Instr.index 22 (.agg #[.int .i64 l0, .int .i64 l1]) (.int .i64 0)).run Try.prog w = .ok (.int .i64 l0) w := fun _ => by kernel_rfl
 have i1 : ∀ w : World, (Instr.index 22 (.agg #[.int .i64 l0, .int .i64 l1]) (.int .i64 1)).run Try.prog w = .ok (.int .i64 l1) w := fun _ => by kernel_rfl
 refine (dwrong_any k0 k1 R Q J W).mono ?_
 rintro e w1 ⟨⟨r', rfl, hr'⟩, hB1⟩
 have BS := BS.trans (hB1.mono (Nat.le_of_lt P0.lt))
 have P4 := P4.below hB1 P4.lt
 have P3 := P3.below hB1 P3.lt
 have P2 := P2.below hB1 P2.lt
 have P1 := P1.below hB1 P1.lt
 have P0 := P0.below hB1 P0.lt
 clear hB1
 obtain rfl := wrongSays_one hr' (.inr (.inr ⟨hk, hr, rfl⟩))
 clear hr'
 obtain ⟨r_0, r_1, r_2, r_3, r_4⟩ := P0.c5
 obtain ⟨s_0, s_1, s_2, s_3, s_4, s_5, s_6, s_7, s_8, s_9, s_10, s_11, s_12, s_13⟩ := P1.c14
 have h0 := hide P0; have h1 := hide P1; have h2 := hide P2; have h3 := hide P3; have h4 := hide P4; have hb := hide BS
 have HY := hide hs
 clear P0 P1 P2 P3 P4 BS hs
 go_wp2_with fail
 have P0 := h0.out; have P1 := h1.out; have P2 := h2.out; have P3 := h3.out; have P4 := h4.out; have BS := hb.out
 clear h0 h1 h2 h3 h4 hb r_0 r_1 r_2 r_3 r_4 s_0 s_1 s_2 s_3 s_4 s_5 s_6 s_7 s_8 s_9 s_10 s_11 s_12 s_13
 refine (callT (dright_any k0 k1 R Q J a0 a1 a2 a3 a4 a5 b0 b1 b2 b3 b4 b5 x y w1) HY.out).mono ?_
 rintro e w2 ⟨rfl, hB2⟩
 have BS := BS.trans (hB2.mono (Nat.le_of_lt P0.lt))
 have P4 := P4.below hB2 P4.lt
 have P3 := P3.below hB2 P3.lt
 have P2 := P2.below hB2 P2.lt
 have P1 := P1.below hB2 P1.lt
 have P0 := P0.below hB2 P0.lt
 clear hB2
 obtain ⟨hx, hy, hxy⟩ := HY.out.2.2.2.2
 obtain ⟨hR1, hR2, hQ1, hQ2, hJ1, hJ2⟩ := hr
 obtain ⟨r_0, r_1, r_2, r_3, r_4⟩ := P0.c5
 obtain ⟨s_0, s_1, s_2, s_3, s_4, s_5, s_6, s_7, s_8, s_9, s_10, s_11, s_12, s_13⟩ := P1.c14
 obtain ⟨l_0, l_1⟩ := P2.c2
 obtain ⟨p_0, p_f0, p_1, p_f1, p_2, p_f2, p_3, p_f3, p_4, p_f4, p_5, p_f5, p_6, p_f6, p_7, p_f7, p_8, p_f8, p_9, p_f9, p_10, p_f10, p_11, p_f11, p_12, p_f12, p_13, p_f13⟩ := P3.cf14
 obtain ⟨o_0, o_f0, o_1, o_f1, o_2, o_f2, o_3, o_f3, o_4, o_f4, o_5, o_f5⟩ := P4.cf6
 have H3 := hide P3; have H4 := hide P4; have HBS := hide BS
 clear P0 P1 P2 P3 P4 BS
 rcases hl with hl | hl
 · go_wp2
   refine wp_loop_rounds 3 ?_
   rw [rounds_succ]
   go_wp2
   obtain ⟨Z, hZ, z3, z4, zB⟩ := step_fin 0 0 0 0 0 0 0 0 0 0 0 0 0 0 0 0 0 0 0 0 H3.out H4.out HBS.out
   rw [← hZ]
   clear hZ
   obtain ⟨y_0, y_1, y_2, y_3, y_4, y_5, y_6, y_7, y_8, y_9, y_10, y_11, y_12, y_13⟩ := z3.c14
   obtain ⟨v_0, v_1, v_2, v_3, v_4, v_5⟩ := z4.c6
   refine bodyPost_ret (v := .tuple #[.agg #[.int .i64 0, .int .i64 0, .int .i64 0, .int .i64 0, .int .i64 0, .int .i64 0, .int .i64 0, .int .i64 0, .int .i64 0, .int .i64 0, .int .i64 0, .int .i64 0, .int .i64 0, .int .i64 0], .agg #[.int .i64 0, .int .i64 0, .int .i64 0, .int .i64 0, .int .i64 0, .int .i64 0], .int .i64 2]) ?_ rfl ⟨rfl, ?_⟩
   · simp [results, Try.f39, go_sem, *]
   · first | exact zB | (rw [hS]; exact zB)
 · go_wp2
   refine wp_loop_rounds 3 ?_
   rw [rounds_succ]
   go_wp2
   obtain ⟨Z, hZ, z3, z4, zB⟩ := step_fin 0 0 0 0 0 0 0 0 0 0 0 0 0 0 0 0 0 0 0 0 H3.out H4.out HBS.out
   rw [← hZ]
   clear hZ
   obtain ⟨y_0, y_1, y_2, y_3, y_4, y_5, y_6, y_7, y_8, y_9, y_10, y_11, y_12, y_13⟩ := z3.c14
   obtain ⟨v_0, v_1, v_2, v_3, v_4, v_5⟩ := z4.c6
   refine bodyPost_ret (v := .tuple #[.agg #[.int .i64 0, .int .i64 0, .int .i64 0, .int .i64 0, .int .i64 0, .int .i64 0, .int .i64 0, .int .i64 0, .int .i64 0, .int .i64 0, .int .i64 0, .int .i64 0, .int .i64 0, .int .i64 0], .agg #[.int .i64 0, .int .i64 0, .int .i64 0, .int .i64 0, .int .i64 0, .int .i64 0], .int .i64 2]) ?_ rfl ⟨rfl, ?_⟩
   · simp [results, Try.f39, go_sem, *]
   · first | exact zB | (rw [hS]; exact zB)
set_option maxRecDepth 100000 in
set_option maxHeartbeats 8000000 in
theorem step_late1 (k0 k1 R Q J a0 a1 a2 a3 a4 a5 b0 b1 b2 b3 b4 b5 x y l0 l1 : Int) (w : World) (hk : kindsOk k0 k1) (hr : rangeOk R Q J) (hs : StRight k0 k1 R Q J a0 a1 a2 a3 a4 a5 b0 b1 b2 b3 b4 b5 x y) (hl0 : 0 ≤ l0 ∧ l0 ≤ J) (hl : l1 < 0 ∨ J < l1) : Calls Try.prog 39 #[.agg #[.int .i64 k0, .int .i64 k1, .int .i64 R, .int .i64 Q, .int .i64 J], .agg #[.int .i64 a0, .int .i64 a1, .int .i64 a2, .int .i64 a3, .int .i64 a4, .int .i64 a5, .int .i64 b0, .int .i64 b1, .int .i64 b2, .int .i64 b3, .int .i64 b4, .int .i64 b5, .int .i64 x, .int .i64 y], .agg #[.int .i64 l0, .int .i64 l1]] w fun e w' => e = .returned (.tuple #[.agg #[.int .i64 0, .int .i64 0, .int .i64 0, .int .i64 0, .int .i64 0, .int .i64 0, .int .i64 0, .int .i64 0, .int .i64 0, .int .i64 0, .int .i64 0, .int .i64 0, .int .i64 0, .int .i64 0], .agg #[.int .i64 0, .int .i64 0, .int .i64 0, .int .i64 0, .int .i64 0, .int .i64 0], .int .i64 2]) ∧ Below w.heap.size w w' := by
 obtain ⟨S, hS⟩ : ∃ S, w.heap.size = S := ⟨_, rfl⟩
 go_enter Try.func39, Try.ntmps39
 go_wp2_with fail
 obtain ⟨W, hW, P0, P1, P2, P3, P4, BS⟩ := step_pre k0 k1 R Q J a0 a1 a2 a3 a4 a5 b0 b1 b2 b3 b4 b5 x y l0 l1 hS
 rw [← hW]
 clear hW
 have i0 : ∀ w : World, (Instr.index 22 (.agg #[.int .i64 l0, .int .i64 l1]) (.int .i64 0)).run Try.prog w = .ok (.int .i64 l0) w := fun _ => by kernel_rfl
 have i1 : ∀ w : World, (Instr.index 22 (.agg #[.int .i64 l0, .int .i64 l1]) (.int .i64 1)).run Try.prog w = .ok (.int .i64 l1) w := fun _ => by kernel_rfl
 refine (dwrong_any k0 k1 R Q J W).mono ?_
 rintro e w1 ⟨⟨r', rfl, hr'⟩, hB1⟩
 have BS := BS.trans (hB1.mono (Nat.le_of_lt P0.lt))
 have P4 := P4.below hB1 P4.lt
 have P3 := P3.below hB1 P3.lt
 have P2 := P2.below hB1 P2.lt
 have P1 := P1.below hB1 P1.lt
 have P0 := P0.below hB1 P0.lt
 clear hB1
 obtain rfl := wrongSays_one hr' (.inr (.inr ⟨hk, hr, rfl⟩))
 clear hr'
 obtain ⟨r_0, r_1, r_2, r_3, r_4⟩ := P0.c5
 obtain ⟨s_0, s_1, s_2, s_3, s_4, s_5, s_6, s_7, s_8, s_9, s_10, s_11, s_12, s_13⟩ := P1.c14
 have h0 := hide P0; have h1 := hide P1; have h2 := hide P2; have h3 := hide P3; have h4 := hide P4; have hb := hide BS
 have HY := hide hs
 clear P0 P1 P2 P3 P4 BS hs
 go_wp2_with fail
 have P0 := h0.out; have P1 := h1.out; have P2 := h2.out; have P3 := h3.out; have P4 := h4.out; have BS := hb.out
 clear h0 h1 h2 h3 h4 hb r_0 r_1 r_2 r_3 r_4 s_0 s_1 s_2 s_3 s_4 s_5 s_6 s_7 s_8 s_9 s_10 s_11 s_12 s_13
 refine (callT (dright_any k0 k1 R Q J a0 a1 a2 a3 a4 a5 b0 b1 b2 b3 b4 b5 x y w1) HY.out).mono ?_
 rintro e w2 ⟨rfl, hB2⟩
 have BS := BS.trans (hB2.mono (Nat.le_of_lt P0.lt))
 have P4 := P4.below hB2 P4.lt
 have P3 := P3.below hB2 P3.lt
 have P2 := P2.below hB2 P2.lt
 have P1 := P1.below hB2 P1.lt
 have P0 := P0.below hB2 P0.lt
 clear hB2
 obtain ⟨hx, hy, hxy⟩ := HY.out.2.2.2.2
 obtain ⟨hR1, hR2, hQ1, hQ2, hJ1, hJ2⟩ := hr
 obtain ⟨r_0, r_1, r_2, r_3, r_4⟩ := P0.c5
 obtain ⟨s_0, s_1, s_2, s_3, s_4, s_5, s_6, s_7, s_8, s_9, s_10, s_11, s_12, s_13⟩ := P1.c14
 obtain ⟨l_0, l_1⟩ := P2.c2
 obtain ⟨p_0, p_f0, p_1, p_f1, p_2, p_f2, p_3, p_f3, p_4, p_f4, p_5, p_f5, p_6, p_f6, p_7, p_f7, p_8, p_f8, p_9, p_f9, p_10, p_f10, p_11, p_f11, p_12, p_f12, p_13, p_f13⟩ := P3.cf14
 obtain ⟨o_0, o_f0, o_1, o_f1, o_2, o_f2, o_3, o_f3, o_4, o_f4, o_5, o_f5⟩ := P4.cf6
 have H3 := hide P3; have H4 := hide P4; have HBS := hide BS
 clear P0 P1 P2 P3 P4 BS
 obtain ⟨hl1, hl2⟩ := hl0
 rcases hl with hl | hl
 · go_wp2
   refine wp_loop_rounds 3 ?_
   rw [rounds_succ]
   go_wp2
   rw [rounds_succ]
   go_wp2
   obtain ⟨Z, hZ, z3, z4, zB⟩ := step_fin 0 0 0 0 0 0 0 0 0 0 0 0 0 0 0 0 0 0 0 0 H3.out H4.out HBS.out
   rw [← hZ]
   clear hZ
   obtain ⟨y_0, y_1, y_2, y_3, y_4, y_5, y_6, y_7, y_8, y_9, y_10, y_11, y_12, y_13⟩ := z3.c14
   obtain ⟨v_0, v_1, v_2, v_3, v_4, v_5⟩ := z4.c6
   refine bodyPost_ret (v := .tuple #[.agg #[.int .i64 0, .int .i64 0, .int .i64 0, .int .i64 0, .int .i64 0, .int .i64 0, .int .i64 0, .int .i64 0, .int .i64 0, .int .i64 0, .int .i64 0, .int .i64 0, .int .i64 0, .int .i64 0], .agg #[.int .i64 0, .int .i64 0, .int .i64 0, .int .i64 0, .int .i64 0, .int .i64 0], .int .i64 2]) ?_ rfl ⟨rfl, ?_⟩
   · simp [results, Try.f39, go_sem, *]
   · first | exact zB | (rw [hS]; exact zB)
 · go_wp2
   refine wp_loop_rounds 3 ?_
   rw [rounds_succ]
   go_wp2
   rw [rounds_succ]
   go_wp2
   obtain ⟨Z, hZ, z3, z4, zB⟩ := step_fin 0 0 0 0 0 0 0 0 0 0 0 0 0 0 0 0 0 0 0 0 H3.out H4.out HBS.out
   rw [← hZ]
   clear hZ
   obtain ⟨y_0, y_1, y_2, y_3, y_4, y_5, y_6, y_7, y_8, y_9, y_10, y_11, y_12, y_13⟩ := z3.c14
   obtain ⟨v_0, v_1, v_2, v_3, v_4, v_5⟩ := z4.c6
   refine bodyPost_ret (v := .tuple #[.agg #[.int .i64 0, .int .i64 0, .int .i64 0, .int .i64 0, .int .i64 0, .int .i64 0, .int .i64 0, .int .i64 0, .int .i64 0, .int .i64 0, .int .i64 0, .int .i64 0, .int .i64 0, .int .i64 0], .agg #[.int .i64 0, .int .i64 0, .int .i64 0, .int .i64 0, .int .i64 0, .int .i64 0], .int .i64 2]) ?_ rfl ⟨rfl, ?_⟩
   · simp [results, Try.f39, go_sem, *]
   · first | exact zB | (rw [hS]; exact zB)
set_option maxRecDepth 100000 in
set_option maxHeartbeats 8000000 in
theorem pstep_late (k0 k1 R Q J a0 a1 a2 a3 a4 a5 b0 b1 b2 b3 b4 b5 x y l0 l1 : Int) (w : World) (hk : kindsOk k0 k1) (hr : rangeOk R Q J) (hs : StRight k0 k1 R Q J a0 a1 a2 a3 a4 a5 b0 b1 b2 b3 b4 b5 x y) (hl : ¬ (0 ≤ l0 ∧ l0 ≤ J ∧ 0 ≤ l1 ∧ l1 ≤ J)) : Calls Try.prog 21 #[.agg #[.int .i64 k0, .int .i64 k1, .int .i64 R, .int .i64 Q, .int .i64 J], .agg #[.int .i64 a0, .int .i64 a1, .int .i64 a2, .int .i64 a3, .int .i64 a4, .int .i64 a5, .int .i64 b0, .int .i64 b1, .int .i64 b2, .int .i64 b3, .int .i64 b4, .int .i64 b5, .int .i64 x, .int .i64 y], .agg #[.int .i64 l0, .int .i64 l1]] w fun e w' => e = .returned (.tuple #[.agg #[.int .i64 0, .int .i64 0, .int .i64 0, .int .i64 0, .int .i64 0, .int .i64 0, .int .i64 0, .int .i64 0, .int .i64 0, .int .i64 0, .int .i64 0, .int .i64 0, .int .i64 0, .int .i64 0], .agg #[.int .i64 0, .int .i64 0, .int .i64 0, .int .i64 0, .int .i64 0, .int .i64 0], .int .i64 2]) ∧ Below w.heap.size w w' := by
 obtain ⟨S, hS⟩ : ∃ S, w.heap.size = S := ⟨_, rfl⟩
 go_enter Try.func21, Try.ntmps21
 go_wp2_with fail
 obtain ⟨W, hW, P0, P1, P2, P3, P4, BS⟩ := step_pre k0 k1 R Q J a0 a1 a2 a3 a4 a5 b0 b1 b2 b3 b4 b5 x y l0 l1 hS
 rw [← hW]
 clear hW
 have i0 : ∀ w : World, (Instr.index 22 (.agg #[.int .i64 l0, .int .i64 l1]) (.int .i64 0)).run Try.prog w = .ok (.int .i64 l0) w := fun _ => by kernel_rfl
 have i1 : ∀ w : World, (Instr.index 22 (.agg #[.int .i64 l0, .int .i64 l1]) (.int .i64 1)).run Try.prog w = .ok (.int .i64 l1) w := fun _ => by kernel_rfl
 refine (pwrong_any k0 k1 R Q J W).mono ?_
 rintro e w1 ⟨⟨r', rfl, hr'⟩, hB1⟩
 have BS := BS.trans (hB1.mono (Nat.le_of_lt P0.lt))
 have P4 := P4.below hB1 P4.lt
 have P3 := P3.below hB1 P3.lt
 have P2 := P2.below hB1 P2.lt
 have P1 := P1.below hB1 P1.lt
 have P0 := P0.below hB1 P0.lt
 clear hB1
 obtain rfl := wrongSays_one hr' (.inr (.inr ⟨hk, hr, rfl⟩))
 clear hr'
 obtain ⟨r_0, r_1, r_2, r_3, r_4⟩ := P0.c5
 obtain ⟨s_0, s_1, s_2, s_3, s_4, s_5, s_6, s_7, s_8, s_9, s_10, s_11, s_12, s_13⟩ := P1.c14
 have h0 := hide P0; have h1 := hide P1; have h2 := hide P2; have h3 := hide P3; have h4 := hide P4; have hb := hide BS
 have HY := hide hs
 clear P0 P1 P2 P3 P4 BS hs
 go_wp2_with fail
 have P0 := h0.out; have P1 := h1.out; have P2 := h2.out; have P3 := h3.out; have P4 := h4.out; have BS := hb.out
 clear h0 h1 h2 h3 h4 hb r_0 r_1 r_2 r_3 r_4 s_0 s_1 s_2 s_3 s_4 s_5 s_6 s_7 s_8 s_9 s_10 s_11 s_12 s_13
 refine (callT (pright_any k0 k1 R Q J a0 a1 a2 a3 a4 a5 b0 b1 b2 b3 b4 b5 x y w1) HY.out).mono ?_
 rintro e w2 ⟨rfl, hB2⟩
 have BS := BS.trans (hB2.mono (Nat.le_of_lt P0.lt))
 have P4 := P4.below hB2 P4.lt
 have P3 := P3.below hB2 P3.lt
 have P2 := P2.below hB2 P2.lt
 have P1 := P1.below hB2 P1.lt
 have P0 := P0.below hB2 P0.lt
 clear hB2
 obtain ⟨hx, hy, hxy⟩ := HY.out.2.2.2.2
 obtain ⟨hR1, hR2, hQ1, hQ2, hJ1, hJ2⟩ := hr
 obtain ⟨r_0, r_1, r_2, r_3, r_4⟩ := P0.c5
 obtain ⟨s_0, s_1, s_2, s_3, s_4, s_5, s_6, s_7, s_8, s_9, s_10, s_11, s_12, s_13⟩ := P1.c14
 obtain ⟨l_0, l_1⟩ := P2.c2
 obtain ⟨p_0, p_f0, p_1, p_f1, p_2, p_f2, p_3, p_f3, p_4, p_f4, p_5, p_f5, p_6, p_f6, p_7, p_f7, p_8, p_f8, p_9, p_f9, p_10, p_f10, p_11, p_f11, p_12, p_f12, p_13, p_f13⟩ := P3.cf14
 obtain ⟨o_0, o_f0, o_1, o_f1, o_2, o_f2, o_3, o_f3, o_4, o_f4, o_5, o_f5⟩ := P4.cf6
 have H3 := hide P3; have H4 := hide P4; have HBS := hide BS
 clear P0 P1 P2 P3 P4 BS
 by_cases hm : min l0 l1 < 0
 · go_wp2
   obtain ⟨Z, hZ, z3, z4, zB⟩ := step_fin 0 0 0 0 0 0 0 0 0 0 0 0 0 0 0 0 0 0 0 0 H3.out H4.out HBS.out
   rw [← hZ]
   clear hZ
   obtain ⟨y_0, y_1, y_2, y_3, y_4, y_5, y_6, y_7, y_8, y_9, y_10, y_11, y_12, y_13⟩ := z3.c14
   obtain ⟨v_0, v_1, v_2, v_3, v_4, v_5⟩ := z4.c6
   refine bodyPost_ret (v := .tuple #[.agg #[.int .i64 0, .int .i64 0, .int .i64 0, .int .i64 0, .int .i64 0, .int .i64 0, .int .i64 0, .int .i64 0, .int .i64 0, .int .i64 0, .int .i64 0, .int .i64 0, .int .i64 0, .int .i64 0], .agg #[.int .i64 0, .int .i64 0, .int .i64 0, .int .i64 0, .int .i64 0, .int .i64 0], .int .i64 2]) ?_ rfl ⟨rfl, ?_⟩
   · simp [results, Try.f21, go_sem, *]
   · first | exact zB | (rw [hS]; exact zB)
 · have hM : J < max l0 l1 := by omega
   go_wp2
   obtain ⟨Z, hZ, z3, z4, zB⟩ := step_fin 0 0 0 0 0 0 0 0 0 0 0 0 0 0 0 0 0 0 0 0 H3.out H4.out HBS.out
   rw [← hZ]
   clear hZ
   obtain ⟨y_0, y_1, y_2, y_3, y_4, y_5, y_6, y_7, y_8, y_9, y_10, y_11, y_12, y_13⟩ := z3.c14
   obtain ⟨v_0, v_1, v_2, v_3, v_4, v_5⟩ := z4.c6
   refine bodyPost_ret (v := .tuple #[.agg #[.int .i64 0, .int .i64 0, .int .i64 0, .int .i64 0, .int .i64 0, .int .i64 0, .int .i64 0, .int .i64 0, .int .i64 0, .int .i64 0, .int .i64 0, .int .i64 0, .int .i64 0, .int .i64 0], .agg #[.int .i64 0, .int .i64 0, .int .i64 0, .int .i64 0, .int .i64 0, .int .i64 0], .int .i64 2]) ?_ rfl ⟨rfl, ?_⟩
   · simp [results, Try.f21, go_sem, *]
   · first | exact zB | (rw [hS]; exact zB)
end Go.Proofs.Ytagbikgfkakbfaa
