/-
  Lemmas and walks for the statement: Duel10, Lk2, LkBad.
-/
import Derived.Test.YtjjikhaaimfneaaGreatDoorU12
import Derived.Test.YtjjikhaaimfneaaGreatDoorU02
import Derived.Test.YtjjikhaaimfneaaGreatDoorU03
namespace Go.Proofs.YtjjikhaaimfneaaGreatDoor
open Go.RowKit
set_option linter.unusedSimpArgs false
set_option linter.unusedVariables false
attribute [local go_sem] iteMin iteMax iteMinN iteMaxN
set_option maxRecDepth 100000 in
set_option maxHeartbeats 8000000 in
theorem step_late0 (k0 k1 R Q J a0 a1 a2 a3 a4 a5 b0 b1 b2 b3 b4 b5 x y l0 l1 : Int) (w : World) (hk : kindsOk k0 k1) (hr : rangeOk R Q J) (hs : StRight k0 k1 R Q J a0 a1 a2 a3 a4 a5 b0 b1 b2 b3 b4 b5 x y) (hl : l0 < 0 ∨ J < l0) : Calls Tryz.prog 68 #[.agg #[.int .i64 k0, .int .i64 k1, .int .i64 R, .int .i64 Q, .int .i64 J], .agg #[.int .i64 a0, .int .i64 a1, .int .i64 a2, .int .i64 a3, .int .i64 a4, .int .i64 a5, .int .i64 b0, .int .i64 b1, .int .i64 b2, .int .i64 b3, .int .i64 b4, .int .i64 b5, .int .i64 x, .int .i64 y], .agg #[.int .i64 l0, .int .i64 l1]] w fun e w' => e = .returned (.tuple #[.agg #[.int .i64 0, .int .i64 0, .int .i64 0, .int .i64 0, .int .i64 0, .int .i64 0, .int .i64 0, .int .i64 0, .int .i64 0, .int .i64 0, .int .i64 0, .int .i64 0, .int .i64 0, .int .i64 0], .agg #[.int .i64 0, .int .i64 0, .int .i64 0, .int .i64 0, .int .i64 0, .int .i64 0], .int .i64 2]) ∧ Below w.heap.size w w' := by
 obtain ⟨S, hS⟩ : ∃ S, w.heap.size = S := ⟨_, rfl⟩
 go_enter Tryz.func68, Tryz.ntmps68
 go_wp2_with fail
 obtain ⟨W, hW, P0, P1, P2, P3, P4, BS⟩ := step_pre k0 k1 R Q J a0 a1 a2 a3 a4 a5 b0 b1 b2 b3 b4 b5 x y l0 l1 hS
 rw [← hW]
 clear hW
 have i0 : ∀ w : World, (Instr.index 47 (.agg #[.int .i64 l0, .int .i64 l1]) (.int .i64 0)).run Tryz.prog w = .ok (.int .i64 l0) w := fun _ => by kernel_rfl
 have i1 : ∀ w : World, (Instr.index 47 (.agg #[.int .i64 l0, .int .i64 l1]) (.int .i64 1)).run Tryz.prog w = .ok (.int .i64 l1) w := fun _ => by kernel_rfl
 refine (dwrong_any k0 k1 R Q J W).mono ?_
 rintro e w1 ⟨⟨r', rfl, hr'⟩, hB1⟩
 have BS := BS.trans (hB1.mono (Nat.le_of_lt P0.lt))
 have P4 := P4.below hB1 P4.lt
 have P3 := P3.below hB1 P3.lt
 have P2 := P2.below hB1 P2.lt
 have P1 := P1.below hB1 P1.lt
 have P0 := P0.below hB1 P0.lt
 clear hB1
 obtain rfl := wrongSays_one hr' (.inr (.inr ⟨hk, hr, rfl⟩))
 clear hr'
 obtain ⟨r_0, r_1, r_2, r_3, r_4⟩ := P0.c5
 obtain ⟨s_0, s_1, s_2, s_3, s_4, s_5, s_6, s_7, s_8, s_9, s_10, s_11, s_12, s_13⟩ := P1.c14
 have h0 := hide P0; have h1 := hide P1; have h2 := hide P2; have h3 := hide P3; have h4 := hide P4; have hb := hide BS
 have HY := hide hs
 clear P0 P1 P2 P3 P4 BS hs
 go_wp2_with fail
 have P0 := h0.out; have P1 := h1.out; have P2 := h2.out; have P3 := h3.out; have P4 := h4.out; have BS := hb.out
 clear h0 h1 h2 h3 h4 hb r_0 r_1 r_2 r_3 r_4 s_0 s_1 s_2 s_3 s_4 s_5 s_6 s_7 s_8 s_9 s_10 s_11 s_12 s_13
 refine (callT (dright_any k0 k1 R Q J a0 a1 a2 a3 a4 a5 b0 b1 b2 b3 b4 b5 x y w1) HY.out).mono ?_
 rintro e w2 ⟨rfl, hB2⟩
 have BS := BS.trans (hB2.mono (Nat.le_of_lt P0.lt))
 have P4 := P4.below hB2 P4.lt
 have P3 := P3.below hB2 P3.lt
 have P2 := P2.below hB2 P2.lt
 have P1 := P1.below hB2 P1.lt
 have P0 := P0.below hB2 P0.lt
 clear hB2
 obtain ⟨hx, hy, hxy⟩ := HY.out.2.2.2.2
 obtain ⟨hR1, hR2, hQ1, hQ2, hJ1, hJ2⟩ := hr
 obtain ⟨r_0, r_1, r_2, r_3, r_4⟩ := P0.c5
 obtain ⟨s_0, s_1, s_2, s_3, s_4, s_5, s_6, s_7, s_8, s_9, s_10, s_11, s_12, s_13⟩ := P1.c14
 obtain ⟨l_0, l_1⟩ := P2.c2
 obtain ⟨p_0, p_f0, p_1, p_f1, p_2, p_f2, p_3, p_f3, p_4, p_f4, p_5, p_f5, p_6, p_f6, p_7, p_f7, p_8, p_f8, p_9, p_f9, p_10, p_f10, p_11, p_f11, p_12, p_f12, p_13, p_f13⟩ := P3.cf14
 obtain ⟨o_0, o_f0, o_1, o_f1, o_2, o_f2, o_3, o_f3, o_4, o_f4, o_5, o_f5⟩ := P4.cf6
 have H3 := hide P3; have H4 := hide P4; have HBS := hide BS
 clear P0 P1 P2 P3 P4 BS
 rcases hl with hl | hl
 · go_wp2
   refine wp_loop_rounds 3 ?_
   rw [rounds_succ]
   go_wp2
   obtain ⟨Z, hZ, z3, z4, zB⟩ := step_fin 0 0 0 0 0 0 0 0 0 0 0 0 0 0 0 0 0 0 0 0 H3.out H4.out HBS.out
   rw [← hZ]
   clear hZ
   obtain ⟨y_0, y_1, y_2, y_3, y_4, y_5, y_6, y_7, y_8, y_9, y_10, y_11, y_12, y_13⟩ := z3.c14
   obtain ⟨v_0, v_1, v_2, v_3, v_4, v_5⟩ := z4.c6
   refine bodyPost_ret (v := .tuple #[.agg #[.int .i64 0, .int .i64 0, .int .i64 0, .int .i64 0, .int .i64 0, .int .i64 0, .int .i64 0, .int .i64 0, .int .i64 0, .int .i64 0, .int .i64 0, .int .i64 0, .int .i64 0, .int .i64 0], .agg #[.int .i64 0, .int .i64 0, .int .i64 0, .int .i64 0, .int .i64 0, .int .i64 0], .int .i64 2]) ?_ rfl ⟨rfl, ?_⟩
   · simp [results, Tryz.f68, go_sem, *]
   · first | exact zB | (rw [hS]; exact zB)
 · go_wp2
   refine wp_loop_rounds 3 ?_
   rw [rounds_succ]
   go_wp2
   obtain ⟨Z, hZ, z3, z4, zB⟩ := step_fin 0 0 0 0 0 0 0 0 0 0 0 0 0 0 0 0 0 0 0 0 H3.out H4.out HBS.out
   rw [← hZ]
   clear hZ
   obtain ⟨y_0, y_1, y_2, y_3, y_4, y_5, y_6, y_7, y_8, y_9, y_10, y_11, y_12, y_13⟩ := z3.c14
   obtain ⟨v_0, v_1, v_2, v_3, v_4, v_5⟩ := z4.c6
   refine bodyPost_ret (v := .tuple #[.agg #[.int .i64 0, .int .i64 0, .int .i64 0, .int .i64 0, .int .i64 0, .int .i64 0, .int .i64 0, .int .i64 0, .int .i64 0, .int .i64 0, .int .i64 0, .int .i64 0, .int .i64 0, .int .i64 0], .agg #[.int .i64 0, .int .i64 0, .int .i64 0, .int .i64 0, .int .i64 0, .int .i64 0], .int .i64 2]) ?_ rfl ⟨rfl, ?_⟩
   · simp [results, Tryz.f68, go_sem, *]
   · first | exact zB | (rw [hS]; exact zB)
set_option maxRecDepth 100000 in
set_option maxHeartbeats 8000000 in
theorem step_late1 (k0 k1 R Q J a0 a1 a2 a3 a4 a5 b0 b1 b2 b3 b4 b5 x y l0 l1 : Int) (w : World) (hk : kindsOk k0 k1) (hr : rangeOk R Q J) (hs : StRight k0 k1 R Q J a0 a1 a2 a3 a4 a5 b0 b1 b2 b3 b4 b5 x y) (hl0 : 0 ≤ l0 ∧ l0 ≤ J) (hl : l1 < 0 ∨ J < l1) : Calls Tryz.prog 68 #[.agg #[.int .i64 k0, .int .i64 k1, .int .i64 R, .int .i64 Q, .int .i64 J], .agg #[.int .i64 a0, .int .i64 a1, .int .i64 a2, .int .i64 a3, .int .i64 a4, .int .i64 a5, .int .i64 b0, .int .i64 b1, .int .i64 b2, .int .i64 b3, .int .i64 b4, .int .i64 b5, .int .i64 x, .int .i64 y], .agg #[.int .i64 l0, .int .i64 l1]] w fun e w' => e = .returned (.tuple #[.agg #[.int .i64 0, .int .i64 0, .int .i64 0, .int .i64 0, .int .i64 0, .int .i64 0, .int .i64 0, .int .i64 0, .int .i64 0, .int .i64 0, .int .i64 0, .int .i64 0, .int .i64 0, .int .i64 0], .agg #[.int .i64 0, .int .i64 0, .int .i64 0, .int .i64 0, .int .i64 0, .int .i64 0], .int .i64 2]) ∧ Below w.heap.size w w' := by
 obtain ⟨S, hS⟩ : ∃ S, w.heap.size = S := ⟨_, rfl⟩
 go_enter Tryz.func68, Tryz.ntmps68
 go_wp2_with fail
 obtain ⟨W, hW, P0, P1, P2, P3, P4, BS⟩ := step_pre k0 k1 R Q J a0 a1 a2 a3 a4 a5 b0 b1 b2 b3 b4 b5 x y l0 l1 hS
 rw [← hW]
 clear hW
 have i0 : ∀ w : World, (Instr.index 47 (.agg #[.int .i64 l0, .int .i64 l1]) (.int .i64 0)).run Tryz.prog w = .ok (.int .i64 l0) w := fun _ => by kernel_rfl
 have i1 : ∀ w : World, (Instr.index 47 (.agg #[.int .i64 l0, .int .i64 l1]) (.int .i64 1)).run Tryz.prog w = .ok (.int .i64 l1) w := fun _ => by kernel_rfl
 refine (dwrong_any k0 k1 R Q J W).mono ?_
 rintro e w1 ⟨⟨r', rfl, hr'⟩, hB1⟩
 have BS := BS.trans (hB1.mono (Nat.le_of_lt P0.lt))
 have P4 := P4.below hB1 P4.lt
 have P3 := P3.below hB1 P3.lt
 have P2 := P2.below hB1 P2.lt
 have P1 := P1.below hB1 P1.lt
 have P0 := P0.below hB1 P0.lt
 clear hB1
 obtain rfl := wrongSays_one hr' (.inr (.inr ⟨hk, hr, rfl⟩))
 clear hr'
 obtain ⟨r_0, r_1, r_2, r_3, r_4⟩ := P0.c5
 obtain ⟨s_0, s_1, s_2, s_3, s_4, s_5, s_6, s_7, s_8, s_9, s_10, s_11, s_12, s_13⟩ := P1.c14
 have h0 := hide P0; have h1 := hide P1; have h2 := hide P2; have h3 := hide P3; have h4 := hide P4; have hb := hide BS
 have HY := hide hs
 clear P0 P1 P2 P3 P4 BS hs
 go_wp2_with fail
 have P0 := h0.out; have P1 := h1.out; have P2 := h2.out; have P3 := h3.out; have P4 := h4.out; have BS := hb.out
 clear h0 h1 h2 h3 h4 hb r_0 r_1 r_2 r_3 r_4 s_0 s_1 s_2 s_3 s_4 s_5 s_6 s_7 s_8 s_9 s_10 s_11 s_12 s_13
 refine (callT (dright_any k0 k1 R Q J a0 a1 a2 a3 a4 a5 b0 b1 b2 b3 b4 b5 x y w1) HY.out).mono ?_
 rintro e w2 ⟨rfl, hB2⟩
 have BS := BS.trans (hB2.mono (Nat.le_of_lt P0.lt))
 have P4 := P4.below hB2 P4.lt
 have P3 := P3.below hB2 P3.lt
 have P2 := P2.below hB2 P2.lt
 have P1 := P1.below hB2 P1.lt
 have P0 := P0.below hB2 P0.lt
 clear hB2
 obtain ⟨hx, hy, hxy⟩ := HY.out.2.2.2.2
 obtain ⟨hR1, hR2, hQ1, hQ2, hJ1, hJ2⟩ := hr
 obtain ⟨r_0, r_1, r_2, r_3, r_4⟩ := P0.c5
 obtain ⟨s_0, s_1, s_2, s_3, s_4, s_5, s_6, s_7, s_8, s_9, s_10, s_11, s_12, s_13⟩ := P1.c14
 obtain ⟨l_0, l_1⟩ := P2.c2
 obtain ⟨p_0, p_f0, p_1, p_f1, p_2, p_f2, p_3, p_f3, p_4, p_f4, p_5, p_f5, p_6, p_f6, p_7, p_f7, p_8, p_f8, p_9, p_f9, p_10, p_f10, p_11, p_f11, p_12, p_f12, p_13, p_f13⟩ := P3.cf14
 obtain ⟨o_0, o_f0, o_1, o_f1, o_2, o_f2, o_3, o_f3, o_4, o_f4, o_5, o_f5⟩ := P4.cf6
 have H3 := hide P3; have H4 := hide P4; have HBS := hide BS
 clear P0 P1 P2 P3 P4 BS
 obtain ⟨hl1, hl2⟩ := hl0
 rcases hl with hl | hl
 · go_wp2
   refine wp_loop_rounds 3 ?_
   rw [rounds_succ]
   go_wp2
   rw [rounds_succ]
   go_wp2
   obtain ⟨Z, hZ, z3, z4, zB⟩ := step_fin 0 0 0 0 0 0 0 0 0 0 0 0 0 0 0 0 0 0 0 0 H3.out H4.out HBS.out
   rw [← hZ]
   clear hZ
   obtain ⟨y_0, y_1, y_2, y_3, y_4, y_5, y_6, y_7, y_8, y_9, y_10, y_11, y_12, y_13⟩ := z3.c14
   obtain ⟨v_0, v_1, v_2, v_3, v_4, v_5⟩ := z4.c6
   refine bodyPost_ret (v := .tuple #[.agg #[.int .i64 0, .int .i64 0, .int .i64 0, .int .i64 0, .int .i64 0, .int .i64 0, .int .i64 0, .int .i64 0, .int .i64 0, .int .i64 0, .int .i64 0, .int .i64 0, .int .i64 0, .int .i64 0], .agg #[.int .i64 0, .int .i64 0, .int .i64 0, .int .i64 0, .int .i64 0, .int .i64 0], .int .i64 2]) ?_ rfl ⟨rfl, ?_⟩
   · simp [results, Tryz.f68, go_sem, *]
   · first | exact zB | (rw [hS]; exact zB)
 · go_wp2
   refine wp_loop_rounds 3 ?_
   rw [rounds_succ]
   go_wp2
   rw [rounds_succ]
   go_wp2
   obtain ⟨Z, hZ, z3, z4, zB⟩ := step_fin 0 0 0 0 0 0 0 0 0 0 0 0 0 0 0 0 0 0 0 0 H3.out H4.out HBS.out
   rw [← hZ]
   clear hZ
   obtain ⟨y_0, y_1, y_2, y_3, y_4, y_5, y_6, y_7, y_8, y_9, y_10, y_11, y_12, y_13⟩ := z3.c14
   obtain ⟨v_0, v_1, v_2, v_3, v_4, v_5⟩ := z4.c6
   refine bodyPost_ret (v := .tuple #[.agg #[.int .i64 0, .int .i64 0, .int .i64 0, .int .i64 0, .int .i64 0, .int .i64 0, .int .i64 0, .int .i64 0, .int .i64 0, .int .i64 0, .int .i64 0, .int .i64 0, .int .i64 0, .int .i64 0], .agg #[.int .i64 0, .int .i64 0, .int .i64 0, .int .i64 0, .int .i64 0, .int .i64 0], .int .i64 2]) ?_ rfl ⟨rfl, ?_⟩
   · simp [results, Tryz.f68, go_sem, *]
   · first | exact zB | (rw [hS]; exact zB)
set_option maxRecDepth 100000 in
set_option maxHeartbeats 8000000 in
theorem pstep_late (k0 k1 R Q J a0 a1 a2 a3 a4 a5 b0 b1 b2 b3 b4 b5 x y l0 l1 : Int) (w : World) (hk : kindsOk k0 k1) (hr : rangeOk R Q J) (hs : StRight k0 k1 R Q J a0 a1 a2 a3 a4 a5 b0 b1 b2 b3 b4 b5 x y) (hl : ¬ (0 ≤ l0 ∧ l0 ≤ J ∧ 0 ≤ l1 ∧ l1 ≤ J)) : Calls Tryz.prog 84 #[.agg #[.int .i64 k0, .int .i64 k1, .int .i64 R, .int .i64 Q, .int .i64 J], .agg #[.int .i64 a0, .int .i64 a1, .int .i64 a2, .int .i64 a3, .int .i64 a4, .int .i64 a5, .int .i64 b0, .int .i64 b1, .int .i64 b2, .int .i64 b3, .int .i64 b4, .int .i64 b5, .int .i64 x, .int .i64 y], .agg #[.int .i64 l0, .int .i64 l1]] w fun e w' => e = .returned (.tuple #[.agg #[.int .i64 0, .int .i64 0, .int .i64 0, .int .i64 0, .int .i64 0, .int .i64 0, .int .i64 0, .int .i64 0, .int .i64 0, .int .i64 0, .int .i64 0, .int .i64 0, .int .i64 0, .int .i64 0], .agg #[.int .i64 0, .int .i64 0, .int .i64 0, .int .i64 0, .int .i64 0, .int .i64 0], .int .i64 2]) ∧ Below w.heap.size w w' := by
 obtain ⟨S, hS⟩ : ∃ S, w.heap.size = S := ⟨_, rfl⟩
 go_enter Tryz.func84, Tryz.ntmps84
 go_wp2_with fail
 obtain ⟨W, hW, P0, P1, P2, P3, P4, BS⟩ := step_pre k0 k1 R Q J a0 a1 a2 a3 a4 a5 b0 b1 b2 b3 b4 b5 x y l0 l1 hS
 rw [← hW]
 clear hW
 have i0 : ∀ w : World, (Instr.index 47 (.agg #[.int .i64 l0, .int .i64 l1]) (.int .i64 0)).run Tryz.prog w = .ok (.int .i64 l0) w := fun _ => by kernel_rfl
 have i1 : ∀ w : World, (Instr.index 47 (.agg #[.int .i64 l0, .int .i64 l1]) (.int .i64 1)).run Tryz.prog w = .ok (.int .i64 l1) w := fun _ => by kernel_rfl
 refine (pwrong_any k0 k1 R Q J W).mono ?_
 rintro e w1 ⟨⟨r', rfl, hr'⟩, hB1⟩
 have BS := BS.trans (hB1.mono (Nat.le_of_lt P0.lt))
 have P4 := P4.below hB1 P4.lt
 have P3 := P3.below hB1 P3.lt
 have P2 := P2.below hB1 P2.lt
 have P1 := P1.below hB1 P1.lt
 have P0 := P0.below hB1 P0.lt
 clear hB1
 obtain rfl := wrongSays_one hr' (.inr (.inr ⟨hk, hr, rfl⟩))
 clear hr'
 obtain ⟨r_0, r_1, r_2, r_3, r_4⟩ := P0.c5
 obtain ⟨s_0, s_1, s_2, s_3, s_4, s_5, s_6, s_7, s_8, s_9, s_10, s_11, s_12, s_13⟩ := P1.c14
 have h0 := hide P0; have h1 := hide P1; have h2 := hide P2; have h3 := hide P3; have h4 := hide P4; have hb := hide BS
 have HY := hide hs
 clear P0 P1 P2 P3 P4 BS hs
 go_wp2_with fail
 have P0 := h0.out; have P1 := h1.out; have P2 := h2.out; have P3 := h3.out; have P4 := h4.out; have BS := hb.out
 clear h0 h1 h2 h3 h4 hb r_0 r_1 r_2 r_3 r_4 s_0 s_1 s_2 s_3 s_4 s_5 s_6 s_7 s_8 s_9 s_10 s_11 s_12 s_13
 refine (callT (pright_any k0 k1 R Q J a0 a1 a2 a3 a4 a5 b0 b1 b2 b3 b4 b5 x y w1) HY.out).mono ?_
 rintro e w2 ⟨rfl, hB2⟩
 have BS := BS.trans (hB2.mono (Nat.le_of_lt P0.lt))
 have P4 := P4.below hB2 P4.lt
 have P3 := P3.below hB2 P3.lt
 have P2 := P2.below hB2 P2.lt
 have P1 := P1.below hB2 P1.lt
 have P0 := P0.below hB2 P0.lt
 clear hB2
 obtain ⟨hx, hy, hxy⟩ := HY.out.2.2.2.2
 obtain ⟨hR1, hR2, hQ1, hQ2, hJ1, hJ2⟩ := hr
 obtain ⟨r_0, r_1, r_2, r_3, r_4⟩ := P0.c5
 obtain ⟨s_0, s_1, s_2, s_3, s_4, s_5, s_6, s_7, s_8, s_9, s_10, s_11, s_12, s_13⟩ := P1.c14
 obtain ⟨l_0, l_1⟩ := P2.c2
 obtain ⟨p_0, p_f0, p_1, p_f1, p_2, p_f2, p_3, p_f3, p_4, p_f4, p_5, p_f5, p_6, p_f6, p_7, p_f7, p_8, p_f8, p_9, p_f9, p_10, p_f10, p_11, p_f11, p_12, p_f12, p_13, p_f13⟩ := P3.cf14
 obtain ⟨o_0, o_f0, o_1, o_f1, o_2, o_f2, o_3, o_f3, o_4, o_f4, o_5, o_f5⟩ := P4.cf6
 have H3 := hide P3; have H4 := hide P4; have HBS := hide BS
 clear P0 P1 P2 P3 P4 BS
 by_cases hm : min l0 l1 < 0
 · go_wp2
   obtain ⟨Z, hZ, z3, z4, zB⟩ := step_fin 0 0 0 0 0 0 0 0 0 0 0 0 0 0 0 0 0 0 0 0 H3.out H4.out HBS.out
   rw [← hZ]
   clear hZ
   obtain ⟨y_0, y_1, y_2, y_3, y_4, y_5, y_6, y_7, y_8, y_9, y_10, y_11, y_12, y_13⟩ := z3.c14
   obtain ⟨v_0, v_1, v_2, v_3, v_4, v_5⟩ := z4.c6
   refine bodyPost_ret (v := .tuple #[.agg #[.int .i64 0, .int .i64 0, .int .i64 0, .int .i64 0, .int .i64 0, .int .i64 0, .int .i64 0, .int .i64 0, .int .i64 0, .int .i64 0, .int .i64 0, .int .i64 0, .int .i64 0, .int .i64 0], .agg #[.int .i64 0, .int .i64 0, .int .i64 0, .int .i64 0, .int .i64 0, .int .i64 0], .int .i64 2]) ?_ rfl ⟨rfl, ?_⟩
   · simp [results, Tryz.f84, go_sem, *]
   · first | exact zB | (rw [hS]; exact zB)
 · have hM : J < max l0 l1 := by omega
   go_wp2
   obtain ⟨Z, hZ, z3, z4, zB⟩ := step_fin 0 0 0 0 0 0 0 0 0 0 0 0 0 0 0 0 0 0 0 0 H3.out H4.out HBS.out
   rw [← hZ]
   clear hZ
   obtain ⟨y_0, y_1, y_2, y_3, y_4, y_5, y_6, y_7, y_8, y_9, y_10, y_11, y_12, y_13⟩ := z3.c14
   obtain ⟨v_0, v_1, v_2, v_3, v_4, v_5⟩ := z4.c6
   refine bodyPost_ret (v := .tuple #[.agg #[.int .i64 0, .int .i64 0, .int .i64 0, .int .i64 0, .int .i64 0, .int .i64 0, .int .i64 0, .int .i64 0, .int .i64 0, .int .i64 0, .int .i64 0, .int .i64 0, .int .i64 0, .int .i64 0], .agg #[.int .i64 0, .int .i64 0, .int .i64 0, .int .i64 0, .int .i64 0, .int .i64 0], .int .i64 2]) ?_ rfl ⟨rfl, ?_⟩
   · simp [results, Tryz.f84, go_sem, *]
   · first | exact zB | (rw [hS]; exact zB)
end Go.Proofs.YtjjikhaaimfneaaGreatDoor
namespace Go.Proofs.YtjjikhaaimfneaaGreatDoor
open Go.RowKit
set_option linter.unusedSimpArgs false
set_option linter.unusedVariables false
attribute [local go_sem] iteMin iteMax iteMinN iteMaxN
set_option maxRecDepth 100000 in
set_option maxHeartbeats 8000000 in
theorem oright_any (R Q a b c d : Int) (w : World) :
 Calls Tryz.prog 141 #[.int .i64 R, .int .i64 Q, .agg #[.int .i64 a, .int .i64 b], .agg #[.int .i64 c, .int .i64 d]] w fun e w' => IsB (LinkOk R Q a b c d) e ∧ Below w.heap.size w w' := by
 have hB : Below w.heap.size w ((w.alloc (.cells #[.int .i64 a, .int .i64 b] 47)).alloc (.cells #[.int .i64 c, .int .i64 d] 47)) := ((Below.refl _ _).alloc (Nat.le_refl _) _).alloc (by simp) _
 go_enter Tryz.func141, Tryz.ntmps141
 have HB := hide hB
 clear hB
 have i0 : ∀ w : World, (Instr.index 47 (.agg #[.int .i64 c, .int .i64 d]) (.int .i64 0)).run Tryz.prog w = .ok (.int .i64 c) w := fun _ => by kernel_rfl
 have i1 : ∀ w : World, (Instr.index 47 (.agg #[.int .i64 c, .int .i64 d]) (.int .i64 1)).run Tryz.prog w = .ok (.int .i64 d) w := fun _ => by kernel_rfl
 by_cases h0 : 1 ≤ R
 case neg => (go_wp2; refine wp_loop_rounds 3 ?_; rw [rounds_succ]; go_wp2; rw [rounds_succ]; go_wp2; rw [rounds_succ]; go_wp2; go_ret; first | exact ⟨IsB.f (by unfold LinkOk; omega), HB.out⟩ | exact ⟨IsB.d (by unfold LinkOk; simp; omega), HB.out⟩)
 by_cases h1 : R ≤ 12
 case neg => (go_wp2; refine wp_loop_rounds 3 ?_; rw [rounds_succ]; go_wp2; rw [rounds_succ]; go_wp2; rw [rounds_succ]; go_wp2; go_ret; first | exact ⟨IsB.f (by unfold LinkOk; omega), HB.out⟩ | exact ⟨IsB.d (by unfold LinkOk; simp; omega), HB.out⟩)
 by_cases h2 : 0 ≤ Q
 case neg => (go_wp2; refine wp_loop_rounds 3 ?_; rw [rounds_succ]; go_wp2; rw [rounds_succ]; go_wp2; rw [rounds_succ]; go_wp2; go_ret; first | exact ⟨IsB.f (by unfold LinkOk; omega), HB.out⟩ | exact ⟨IsB.d (by unfold LinkOk; simp; omega), HB.out⟩)
 by_cases h3 : Q ≤ 16
 case neg => (go_wp2; refine wp_loop_rounds 3 ?_; rw [rounds_succ]; go_wp2; rw [rounds_succ]; go_wp2; rw [rounds_succ]; go_wp2; go_ret; first | exact ⟨IsB.f (by unfold LinkOk; omega), HB.out⟩ | exact ⟨IsB.d (by unfold LinkOk; simp; omega), HB.out⟩)
 by_cases h4 : 0 ≤ a
 case neg => (go_wp2; refine wp_loop_rounds 3 ?_; rw [rounds_succ]; go_wp2; rw [rounds_succ]; go_wp2; rw [rounds_succ]; go_wp2; go_ret; first | exact ⟨IsB.f (by unfold LinkOk; omega), HB.out⟩ | exact ⟨IsB.d (by unfold LinkOk; simp; omega), HB.out⟩)
 by_cases h5 : 0 ≤ b
 case neg => (go_wp2; refine wp_loop_rounds 3 ?_; rw [rounds_succ]; go_wp2; rw [rounds_succ]; go_wp2; rw [rounds_succ]; go_wp2; go_ret; first | exact ⟨IsB.f (by unfold LinkOk; omega), HB.out⟩ | exact ⟨IsB.d (by unfold LinkOk; simp; omega), HB.out⟩)
 by_cases h6 : a ≤ 16
 case neg => (go_wp2; refine wp_loop_rounds 3 ?_; rw [rounds_succ]; go_wp2; rw [rounds_succ]; go_wp2; rw [rounds_succ]; go_wp2; go_ret; first | exact ⟨IsB.f (by unfold LinkOk; omega), HB.out⟩ | exact ⟨IsB.d (by unfold LinkOk; simp; omega), HB.out⟩)
 have e8 : wrap64 (16 - min a 16) = 16 - a := by unfold wrap64; omega
 have e8' : wrap64 (16 - a) = 16 - a := by unfold wrap64; omega
 have e8'' : min a 16 = a := by omega
 by_cases h8 : b ≤ 16 - a
 case neg => (go_wp2; refine wp_loop_rounds 3 ?_; rw [rounds_succ]; go_wp2; rw [rounds_succ]; go_wp2; rw [rounds_succ]; go_wp2; go_ret; first | exact ⟨IsB.f (by unfold LinkOk; omega), HB.out⟩ | exact ⟨IsB.d (by unfold LinkOk; simp; omega), HB.out⟩)
 by_cases h9 : 0 ≤ c
 case neg => (go_wp2; refine wp_loop_rounds 3 ?_; rw [rounds_succ]; go_wp2; rw [rounds_succ]; go_wp2; rw [rounds_succ]; go_wp2; go_ret; first | exact ⟨IsB.f (by unfold LinkOk; omega), HB.out⟩ | exact ⟨IsB.d (by unfold LinkOk; simp; omega), HB.out⟩)
 by_cases h10 : c ≤ 12
 case neg => (go_wp2; refine wp_loop_rounds 3 ?_; rw [rounds_succ]; go_wp2; rw [rounds_succ]; go_wp2; rw [rounds_succ]; go_wp2; go_ret; first | exact ⟨IsB.f (by unfold LinkOk; omega), HB.out⟩ | exact ⟨IsB.d (by unfold LinkOk; simp; omega), HB.out⟩)
 by_cases h11 : 0 ≤ d
 case neg => (go_wp2; refine wp_loop_rounds 3 ?_; rw [rounds_succ]; go_wp2; rw [rounds_succ]; go_wp2; rw [rounds_succ]; go_wp2; go_ret; first | exact ⟨IsB.f (by unfold LinkOk; omega), HB.out⟩ | exact ⟨IsB.d (by unfold LinkOk; simp; omega), HB.out⟩)
 by_cases h12 : d ≤ 12
 case neg => (go_wp2; refine wp_loop_rounds 3 ?_; rw [rounds_succ]; go_wp2; rw [rounds_succ]; go_wp2; rw [rounds_succ]; go_wp2; go_ret; first | exact ⟨IsB.f (by unfold LinkOk; omega), HB.out⟩ | exact ⟨IsB.d (by unfold LinkOk; simp; omega), HB.out⟩)
 go_wp2
 refine wp_loop_rounds 3 ?_
 rw [rounds_succ]
 go_wp2
 rw [rounds_succ]
 go_wp2
 rw [rounds_succ]
 go_wp2
 go_ret
 exact ⟨IsB.d (by unfold LinkOk; simp; omega), HB.out⟩
end Go.Proofs.YtjjikhaaimfneaaGreatDoor
namespace Go.Proofs.YtjjikhaaimfneaaGreatDoor
open Go.RowKit
set_option linter.unusedSimpArgs false
set_option linter.unusedVariables false
attribute [local go_sem] iteMin iteMax iteMinN iteMaxN
def PassBad (e : Ending) : Prop := e = .returned (.tuple #[.agg #[.int .i64 0, .int .i64 0, .int .i64 0, .int .i64 0, .int .i64 0, .int .i64 0], .agg #[.int .i64 0, .int .i64 0], .int .i64 2])
set_option maxRecDepth 100000 in
set_option maxHeartbeats 4000000 in
theorem upto_any (n a b c d : Nat) (w : World) (hn : n ≤ 100) (ha : a ≤ 100) (hb : b ≤ 100) (hc : c ≤ 100) (hd : d ≤ 100) :
 Calls Tryz.prog 142 #[.int .i64 n, .agg #[.int .i64 a, .int .i64 b], .agg #[.int .i64 c, .int .i64 d]] w fun e w' => (∃ f t : Nat, e = .returned (.agg #[.int .i64 f, .int .i64 t]) ∧ UpC a b c d n f t) ∧ Below w.heap.size w w' := by
 obtain ⟨S, hS⟩ : ∃ S, w.heap.size = S := ⟨_, rfl⟩
 have hn0 : (0 : Int) ≤ (n : Int) := Int.natCast_nonneg _
 have ha0 : (0 : Int) ≤ (a : Int) := Int.natCast_nonneg _
 have hb0 : (0 : Int) ≤ (b : Int) := Int.natCast_nonneg _
 have hc0 : (0 : Int) ≤ (c : Int) := Int.natCast_nonneg _
 have hd0 : (0 : Int) ≤ (d : Int) := Int.natCast_nonneg _
 go_enter Tryz.func142, Tryz.ntmps142
 go_wp2
 · rename_i hw
   obtain ⟨x, hx⟩ : ∃ x : Nat, min (n : Int) (a : Int) + (((n : Int) - (min (n : Int) (a : Int) + min ((n : Int) - min (n : Int) (a : Int)) (b : Int))) + 1) / 2 = (x : Int) := ⟨(min (n : Int) (a : Int) + (((n : Int) - (min (n : Int) (a : Int) + min ((n : Int) - min (n : Int) (a : Int)) (b : Int))) + 1) / 2).toNat, by omega⟩
   obtain ⟨y, hy⟩ : ∃ y : Nat, min ((n : Int) - min (n : Int) (a : Int)) (b : Int) + ((n : Int) - (min (n : Int) (a : Int) + min ((n : Int) - min (n : Int) (a : Int)) (b : Int))) / 2 = (y : Int) := ⟨(min ((n : Int) - min (n : Int) (a : Int)) (b : Int) + ((n : Int) - (min (n : Int) (a : Int) + min ((n : Int) - min (n : Int) (a : Int)) (b : Int))) / 2).toNat, by omega⟩
   rw [hx, hy]
   refine bodyPost_ret (v := .agg #[.int .i64 x, .int .i64 y]) ?_ rfl ⟨⟨x, y, rfl, ?_⟩, ?_⟩
   · have z := (Blk.new ((w.alloc (.cells #[.int .i64 a, .int .i64 b] 47)).alloc (.cells #[.int .i64 c, .int .i64 d] 47)) [.int .i64 x, .int .i64 y] 47).alloc (.cells #[.int .i64 (min (n : Int) (a : Int)), .int .i64 (min ((n : Int) - min (n : Int) (a : Int)) (b : Int))] 47)
     have z0 := (z 0 _ rfl).1
     have z1 := (z 1 _ rfl).1
     simp only [World.size_alloc, hS] at z0 z1
     simp [results, Tryz.f142, go_sem, z0, z1]
   · unfold UpC AltC
     refine ⟨⟨fun h => ?_, fun h => ⟨fun h' => ?_, fun h' => ?_⟩⟩, ?_, ?_⟩ <;> omega
   · rw [hS]
     exact (((((Below.refl S w).alloc (by omega) _).alloc (by simp; omega) _).alloc (by simp; omega) _).alloc (by simp; omega) _)
 · rename_i hw
   obtain ⟨x, hx⟩ : ∃ x : Nat, min (n : Int) (a : Int) + min ((n : Int) - (min (n : Int) (a : Int) + min ((n : Int) - min (n : Int) (a : Int)) (b : Int))) ((c : Int) + (d : Int)) - min (c : Int) (d : Int) = (x : Int) := ⟨(min (n : Int) (a : Int) + min ((n : Int) - (min (n : Int) (a : Int) + min ((n : Int) - min (n : Int) (a : Int)) (b : Int))) ((c : Int) + (d : Int)) - min (c : Int) (d : Int)).toNat, by omega⟩
   obtain ⟨y, hy⟩ : ∃ y : Nat, min ((n : Int) - min (n : Int) (a : Int)) (b : Int) + min (c : Int) (d : Int) = (y : Int) := ⟨(min ((n : Int) - min (n : Int) (a : Int)) (b : Int) + min (c : Int) (d : Int)).toNat, by omega⟩
   rw [hx, hy]
   refine bodyPost_ret (v := .agg #[.int .i64 x, .int .i64 y]) ?_ rfl ⟨⟨x, y, rfl, ?_⟩, ?_⟩
   · have z := (Blk.new ((w.alloc (.cells #[.int .i64 a, .int .i64 b] 47)).alloc (.cells #[.int .i64 c, .int .i64 d] 47)) [.int .i64 x, .int .i64 y] 47).alloc (.cells #[.int .i64 (min (n : Int) (a : Int)), .int .i64 (min ((n : Int) - min (n : Int) (a : Int)) (b : Int))] 47)
     have z0 := (z 0 _ rfl).1
     have z1 := (z 1 _ rfl).1
     simp only [World.size_alloc, hS] at z0 z1
     simp [results, Tryz.f142, go_sem, z0, z1]
   · unfold UpC AltC
     refine ⟨⟨fun h => ?_, fun h => ⟨fun h' => ?_, fun h' => ?_⟩⟩, ?_, ?_⟩ <;> omega
   · rw [hS]
     exact (((((Below.refl S w).alloc (by omega) _).alloc (by simp; omega) _).alloc (by simp; omega) _).alloc (by simp; omega) _)
 · rename_i hw
   obtain ⟨x, hx⟩ : ∃ x : Nat, min (n : Int) (a : Int) + min (c : Int) (d : Int) = (x : Int) := ⟨(min (n : Int) (a : Int) + min (c : Int) (d : Int)).toNat, by omega⟩
   obtain ⟨y, hy⟩ : ∃ y : Nat, min ((n : Int) - min (n : Int) (a : Int)) (b : Int) + min ((n : Int) - (min (n : Int) (a : Int) + min ((n : Int) - min (n : Int) (a : Int)) (b : Int))) ((c : Int) + (d : Int)) - min (c : Int) (d : Int) = (y : Int) := ⟨(min ((n : Int) - min (n : Int) (a : Int)) (b : Int) + min ((n : Int) - (min (n : Int) (a : Int) + min ((n : Int) - min (n : Int) (a : Int)) (b : Int))) ((c : Int) + (d : Int)) - min (c : Int) (d : Int)).toNat, by omega⟩
   rw [hx, hy]
   refine bodyPost_ret (v := .agg #[.int .i64 x, .int .i64 y]) ?_ rfl ⟨⟨x, y, rfl, ?_⟩, ?_⟩
   · have z := (Blk.new ((w.alloc (.cells #[.int .i64 a, .int .i64 b] 47)).alloc (.cells #[.int .i64 c, .int .i64 d] 47)) [.int .i64 x, .int .i64 y] 47).alloc (.cells #[.int .i64 (min (n : Int) (a : Int)), .int .i64 (min ((n : Int) - min (n : Int) (a : Int)) (b : Int))] 47)
     have z0 := (z 0 _ rfl).1
     have z1 := (z 1 _ rfl).1
     simp only [World.size_alloc, hS] at z0 z1
     simp [results, Tryz.f142, go_sem, z0, z1]
   · unfold UpC AltC
     refine ⟨⟨fun h => ?_, fun h => ⟨fun h' => ?_, fun h' => ?_⟩⟩, ?_, ?_⟩ <;> omega
   · rw [hS]
     exact (((((Below.refl S w).alloc (by omega) _).alloc (by simp; omega) _).alloc (by simp; omega) _).alloc (by simp; omega) _)
end Go.Proofs.YtjjikhaaimfneaaGreatDoor
