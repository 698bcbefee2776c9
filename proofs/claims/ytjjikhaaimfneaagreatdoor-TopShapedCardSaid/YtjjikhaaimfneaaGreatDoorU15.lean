/-
  Lemmas and walks for the statement: Duel11.
-/
import Derived.Test.YtjjikhaaimfneaaGreatDoorU13
import Derived.Test.YtjjikhaaimfneaaGreatDoorU14
import Derived.Deep.RegionHeld3
import Derived.Deep.DeepCutAuto
import Derived.BigRegion
import Derived.Shelf.Abstract
import Derived.Laws.EntriesVeiled
namespace Go.Proofs.YtjjikhaaimfneaaGreatDoor
open Go.RowKit
set_option linter.unusedSimpArgs false
set_option linter.unusedVariables false
attribute [local go_sem] iteMin iteMax iteMinN iteMaxN
set_option maxRecDepth 100000 in
set_option maxHeartbeats 8000000 in
theorem step_ok (k0 k1 R Q J a0 a1 a2 a3 a4 a5 b0 b1 b2 b3 b4 b5 x y l0 l1 : Int) (w : World) (hk : kindsOk k0 k1) (hr : rangeOk R Q J) (hs : StRight k0 k1 R Q J a0 a1 a2 a3 a4 a5 b0 b1 b2 b3 b4 b5 x y) (hl0 : 0 ≤ l0) (hl1 : l0 ≤ J) (hl2 : 0 ≤ l1) (hl3 : l1 ≤ J) (f0 g0 h0 f1 g1 h1 : Nat) (D d0 d1 x0 x1 x2 x3 x4 x5 y0 y1 a0' a1' a2' a3' a4' a5' b0' b1' b2' b3' b4' b5' : Int) (hD : (x + y) / R = D) (hd0 : D + l0 = d0) (hd1 : D + l1 = d1) (hDb : 0 ≤ D ∧ D ≤ 16)
 (HOF0 : Hid (∀ w : World, Calls Tryz.prog 87 #[.int .i64 k0] w fun e w' => e = .returned (.tuple #[.agg #[.func (.func f0) #[] #[], .func (.func g0) #[] #[], .func (.func h0) #[] #[]], .bool true]) ∧ Below w.heap.size w w'))
 (HOF1 : Hid (∀ w : World, Calls Tryz.prog 87 #[.int .i64 k1] w fun e w' => e = .returned (.tuple #[.agg #[.func (.func f1) #[] #[], .func (.func g1) #[] #[], .func (.func h1) #[] #[]], .bool true]) ∧ Below w.heap.size w w'))
 (EN0 : Hid (EntersF h0)) (EN1 : Hid (EntersF h1))
 (NX0 : Hid (∀ w : World, Calls Tryz.prog h0 #[.agg #[.int .i64 a0, .int .i64 a1, .int .i64 a2, .int .i64 a3, .int .i64 a4, .int .i64 a5], .int .i64 d0] w fun e w' => e = .returned (.tuple #[.agg #[.int .i64 a0', .int .i64 a1', .int .i64 a2', .int .i64 a3', .int .i64 a4', .int .i64 a5'], .int .i64 0]) ∧ Below w.heap.size w w'))
 (NX1 : Hid (∀ w : World, Calls Tryz.prog h1 #[.agg #[.int .i64 b0, .int .i64 b1, .int .i64 b2, .int .i64 b3, .int .i64 b4, .int .i64 b5], .int .i64 d1] w fun e w' => e = .returned (.tuple #[.agg #[.int .i64 b0', .int .i64 b1', .int .i64 b2', .int .i64 b3', .int .i64 b4', .int .i64 b5'], .int .i64 0]) ∧ Below w.heap.size w w'))
 (HPA : Hid (∀ w : World, Calls Tryz.prog 90 #[.int .i64 R, .int .i64 Q, .agg #[.int .i64 x, .int .i64 y], .agg #[.int .i64 a1, .int .i64 b1]] w fun e w' => e = .returned (.tuple #[.agg #[.int .i64 x0, .int .i64 x1, .int .i64 x2, .int .i64 x3, .int .i64 x4, .int .i64 x5], .agg #[.int .i64 y0, .int .i64 y1], .int .i64 0]) ∧ Below w.heap.size w w')) :
 Calls Tryz.prog 68 #[.agg #[.int .i64 k0, .int .i64 k1, .int .i64 R, .int .i64 Q, .int .i64 J], .agg #[.int .i64 a0, .int .i64 a1, .int .i64 a2, .int .i64 a3, .int .i64 a4, .int .i64 a5, .int .i64 b0, .int .i64 b1, .int .i64 b2, .int .i64 b3, .int .i64 b4, .int .i64 b5, .int .i64 x, .int .i64 y], .agg #[.int .i64 l0, .int .i64 l1]] w fun e w' => e = .returned (.tuple #[.agg #[.int .i64 a0', .int .i64 a1', .int .i64 a2', .int .i64 a3', .int .i64 a4', .int .i64 a5', .int .i64 b0', .int .i64 b1', .int .i64 b2', .int .i64 b3', .int .i64 b4', .int .i64 b5', .int .i64 y0, .int .i64 y1], .agg #[.int .i64 x0, .int .i64 x1, .int .i64 x2, .int .i64 x3, .int .i64 x4, .int .i64 x5], .int .i64 0]) ∧ Below w.heap.size w w' := by
 obtain ⟨S, hS⟩ : ∃ S, w.heap.size = S := ⟨_, rfl⟩
 go_enter Tryz.func68, Tryz.ntmps68
 go_wp2_with fail
 obtain ⟨W, hW, P0, P1, P2, P3, P4, BS⟩ := step_pre k0 k1 R Q J a0 a1 a2 a3 a4 a5 b0 b1 b2 b3 b4 b5 x y l0 l1 hS
 rw [← hW]
 clear hW
 have i0 : ∀ w : World, (Instr.index 47 (.agg #[.int .i64 l0, .int .i64 l1]) (.int .i64 0)).run Tryz.prog w = .ok (.int .i64 l0) w := fun _ => by kernel_rfl
 have i1 : ∀ w : World, (Instr.index 47 (.agg #[.int .i64 l0, .int .i64 l1]) (.int .i64 1)).run Tryz.prog w = .ok (.int .i64 l1) w := fun _ => by kernel_rfl
 refine (dwrong_any k0 k1 R Q J W).mono ?_
 rintro e w1 ⟨⟨r', rfl, hr'⟩, hB1⟩
 have BS := BS.trans (hB1.mono (Nat.le_of_lt P0.lt))
 have P4 := P4.below hB1 P4.lt
 have P3 := P3.below hB1 P3.lt
 have P2 := P2.below hB1 P2.lt
 have P1 := P1.below hB1 P1.lt
 have P0 := P0.below hB1 P0.lt
 clear hB1
 obtain rfl := wrongSays_one hr' (.inr (.inr ⟨hk, hr, rfl⟩))
 clear hr'
 obtain ⟨r_0, r_1, r_2, r_3, r_4⟩ := P0.c5
 obtain ⟨s_0, s_1, s_2, s_3, s_4, s_5, s_6, s_7, s_8, s_9, s_10, s_11, s_12, s_13⟩ := P1.c14
 have h0 := hide P0; have h1 := hide P1; have h2 := hide P2; have h3 := hide P3; have h4 := hide P4; have hb := hide BS
 have HY := hide hs
 clear P0 P1 P2 P3 P4 BS hs
 go_wp2_with fail
 have P0 := h0.out; have P1 := h1.out; have P2 := h2.out; have P3 := h3.out; have P4 := h4.out; have BS := hb.out
 clear h0 h1 h2 h3 h4 hb r_0 r_1 r_2 r_3 r_4 s_0 s_1 s_2 s_3 s_4 s_5 s_6 s_7 s_8 s_9 s_10 s_11 s_12 s_13
 refine (callT (dright_any k0 k1 R Q J a0 a1 a2 a3 a4 a5 b0 b1 b2 b3 b4 b5 x y w1) HY.out).mono ?_
 rintro e w2 ⟨rfl, hB2⟩
 have BS := BS.trans (hB2.mono (Nat.le_of_lt P0.lt))
 have P4 := P4.below hB2 P4.lt
 have P3 := P3.below hB2 P3.lt
 have P2 := P2.below hB2 P2.lt
 have P1 := P1.below hB2 P1.lt
 have P0 := P0.below hB2 P0.lt
 clear hB2
 obtain ⟨hx, hy, hxy⟩ := HY.out.2.2.2.2
 obtain ⟨hR1, hR2, hQ1, hQ2, hJ1, hJ2⟩ := hr
 have wd0 : IntKind.i64.wrap d0 = d0 := by rw [IntKind.wrap_i64]; omega
 have wd1 : IntKind.i64.wrap d1 = d1 := by rw [IntKind.wrap_i64]; omega
 have j0 : ∀ w : World, (Instr.index 47 (.agg #[.int .i64 k0, .int .i64 k1]) (.int .i64 0)).run Tryz.prog w = .ok (.int .i64 k0) w := fun _ => by kernel_rfl
 have j1 : ∀ w : World, (Instr.index 47 (.agg #[.int .i64 k0, .int .i64 k1]) (.int .i64 1)).run Tryz.prog w = .ok (.int .i64 k1) w := fun _ => by kernel_rfl
 obtain ⟨r_0, r_1, r_2, r_3, r_4⟩ := P0.c5
 obtain ⟨s_0, s_1, s_2, s_3, s_4, s_5, s_6, s_7, s_8, s_9, s_10, s_11, s_12, s_13⟩ := P1.c14
 have HP0 := hide P0
 have HP1 := hide P1
 have HP2 := hide P2
 have HP3 := hide P3
 have HP4 := hide P4
 have HBS := hide BS
 have l_0 := (P2 0 _ rfl).1
 have l_1 := (P2 1 _ rfl).1
 clear P0 P1 P2 P3 P4 BS
 go_wp2
 refine wp_loop_rounds 3 ?_
 rw [rounds_succ]
 go_wp2
 rw [rounds_succ]
 go_wp2
 rw [rounds_succ]
 go_wp2_with fail
 have P0 := HP0.out
 have P1 := HP1.out
 have P2 := HP2.out
 have P3 := HP3.out
 have P4 := HP4.out
 have BS := HBS.out
 clear HP0 HP1 HP2 HP3 HP4 HBS
 clear l_0 l_1 s_0 s_1 s_2 s_3 s_4 s_5 s_6 s_7 s_8 s_9 s_10 s_11 s_12 s_13 r_0 r_1 r_2 r_3 r_4
 refine (HPA.out w2).mono ?_
 rintro e w3 ⟨rfl, hB3⟩
 have BS := BS.trans (hB3.mono (Nat.le_of_lt P0.lt))
 have P4 := P4.below hB3 P4.lt
 have P3 := P3.below hB3 P3.lt
 have P2 := P2.below hB3 P2.lt
 have P1 := P1.below hB3 P1.lt
 have P0 := P0.below hB3 P0.lt
 clear hB3
 obtain ⟨T, hT⟩ : ∃ T, w3.heap.size = T := ⟨_, rfl⟩
 have hST : S + 1 + 1 + 1 + 1 < T := by rw [← hT]; exact P4.lt
 have r_0 := (P0 0 _ rfl).1
 have r_1 := (P0 1 _ rfl).1
 have hBX : Below T w3 (((w3.alloc (.cells #[.int .i64 x0, .int .i64 x1, .int .i64 x2, .int .i64 x3, .int .i64 x4, .int .i64 x5] 92)).alloc (.cells #[.int .i64 y0, .int .i64 y1] 47)).alloc (.cells #[.int .i64 0, .int .i64 0, .int .i64 0, .int .i64 0, .int .i64 0, .int .i64 0, .int .i64 0, .int .i64 0, .int .i64 0, .int .i64 0, .int .i64 0, .int .i64 0, .int .i64 y0, .int .i64 y1] 133)) := by rw [← hT]; exact (((Below.refl _ _).alloc (Nat.le_refl _) _).alloc (by simp) _).alloc (by simp; omega) _
 obtain ⟨X, hX⟩ : ∃ X, X = ((w3.alloc (.cells #[.int .i64 x0, .int .i64 x1, .int .i64 x2, .int .i64 x3, .int .i64 x4, .int .i64 x5] 92)).alloc (.cells #[.int .i64 y0, .int .i64 y1] 47)).alloc (.cells #[.int .i64 0, .int .i64 0, .int .i64 0, .int .i64 0, .int .i64 0, .int .i64 0, .int .i64 0, .int .i64 0, .int .i64 0, .int .i64 0, .int .i64 0, .int .i64 0, .int .i64 y0, .int .i64 y1] 133) := ⟨_, rfl⟩
 have P5 : Blk X T [.int .i64 x0, .int .i64 x1, .int .i64 x2, .int .i64 x3, .int .i64 x4, .int .i64 x5] := by
  have := ((Blk.new w3 [.int .i64 x0, .int .i64 x1, .int .i64 x2, .int .i64 x3, .int .i64 x4, .int .i64 x5] 92).alloc (.cells #[.int .i64 y0, .int .i64 y1] 47)).alloc (.cells #[.int .i64 0, .int .i64 0, .int .i64 0, .int .i64 0, .int .i64 0, .int .i64 0, .int .i64 0, .int .i64 0, .int .i64 0, .int .i64 0, .int .i64 0, .int .i64 0, .int .i64 y0, .int .i64 y1] 133)
  rw [hX]; simpa [hT] using this
 have P7 : Blk X (T + 1 + 1) [.int .i64 0, .int .i64 0, .int .i64 0, .int .i64 0, .int .i64 0, .int .i64 0, .int .i64 0, .int .i64 0, .int .i64 0, .int .i64 0, .int .i64 0, .int .i64 0, .int .i64 y0, .int .i64 y1] := by
  have := Blk.new ((w3.alloc (.cells #[.int .i64 x0, .int .i64 x1, .int .i64 x2, .int .i64 x3, .int .i64 x4, .int .i64 x5] 92)).alloc (.cells #[.int .i64 y0, .int .i64 y1] 47)) [.int .i64 0, .int .i64 0, .int .i64 0, .int .i64 0, .int .i64 0, .int .i64 0, .int .i64 0, .int .i64 0, .int .i64 0, .int .i64 0, .int .i64 0, .int .i64 0, .int .i64 y0, .int .i64 y1] 133
  rw [hX]; simpa [hT] using this
 have q_0 := (hBX.cell (p := ⟨S, 0, none⟩) (by show S < T; omega)).trans r_0
 have q_1 := (hBX.cell (p := ⟨S, 1, none⟩) (by show S < T; omega)).trans r_1
 rw [← hX] at hBX
 have BS := BS.trans (hBX.mono (by omega))
 have P4 := P4.below hBX (by omega)
 have P3 := P3.below hBX (by omega)
 have P2 := P2.below hBX (by omega)
 have P1 := P1.below hBX (by omega)
 have P0 := P0.below hBX (by omega)
 have HX := hide hX
 clear hX hBX r_0 r_1
 have HP0 := hide P0
 have HP1 := hide P1
 have HP2 := hide P2
 have HP3 := hide P3
 have HP4 := hide P4
 have HP5 := hide P5
 have HP7 := hide P7
 have HBS := hide BS
 clear P0 P1 P2 P3 P4 P5 P7 BS
 go_wp2
 rw [← HX.out]
 clear q_0 q_1
 refine wp_loop_rounds 3 ?_
 rw [rounds_succ]
 go_wp2_with fail
 have hof0 := HOF0.out
 have P0 := HP0.out
 have P1 := HP1.out
 have P2 := HP2.out
 have P3 := HP3.out
 have P4 := HP4.out
 have P5 := HP5.out
 have P7 := HP7.out
 have BS := HBS.out
 clear HP0 HP1 HP2 HP3 HP4 HP5 HP7 HBS
 refine (hof0 X).mono ?_
 rintro e u0 ⟨rfl, hA0⟩
 have BS := BS.trans (hA0.mono (Nat.le_of_lt P0.lt))
 have P7 := P7.below hA0 P7.lt
 have P5 := P5.below hA0 P5.lt
 have P4 := P4.below hA0 P4.lt
 have P3 := P3.below hA0 P3.lt
 have P2 := P2.below hA0 P2.lt
 have P1 := P1.below hA0 P1.lt
 have P0 := P0.below hA0 P0.lt
 obtain ⟨U0, hU0⟩ : ∃ U, u0.heap.size = U := ⟨_, rfl⟩
 have hTU0 : T + 1 + 1 < U0 := by rw [← hU0]; exact P7.lt
 have PC := Blk.new u0 [.func (.func f0) #[] #[], .func (.func g0) #[] #[], .func (.func h0) #[] #[]] 154
 have BS := BS.alloc (Nat.le_of_lt P0.lt) (.cells #[.func (.func f0) #[] #[], .func (.func g0) #[] #[], .func (.func h0) #[] #[]] 154)
 have P7 := P7.alloc (.cells #[.func (.func f0) #[] #[], .func (.func g0) #[] #[], .func (.func h0) #[] #[]] 154)
 have P5 := P5.alloc (.cells #[.func (.func f0) #[] #[], .func (.func g0) #[] #[], .func (.func h0) #[] #[]] 154)
 have P4 := P4.alloc (.cells #[.func (.func f0) #[] #[], .func (.func g0) #[] #[], .func (.func h0) #[] #[]] 154)
 have P3 := P3.alloc (.cells #[.func (.func f0) #[] #[], .func (.func g0) #[] #[], .func (.func h0) #[] #[]] 154)
 have P2 := P2.alloc (.cells #[.func (.func f0) #[] #[], .func (.func g0) #[] #[], .func (.func h0) #[] #[]] 154)
 have P1 := P1.alloc (.cells #[.func (.func f0) #[] #[], .func (.func g0) #[] #[], .func (.func h0) #[] #[]] 154)
 have P0 := P0.alloc (.cells #[.func (.func f0) #[] #[], .func (.func g0) #[] #[], .func (.func h0) #[] #[]] 154)
 obtain ⟨V0, hV0⟩ : ∃ V, V = u0.alloc (.cells #[.func (.func f0) #[] #[], .func (.func g0) #[] #[], .func (.func h0) #[] #[]] 154) := ⟨_, rfl⟩
 rw [← hV0] at PC BS P0 P1 P2 P3 P4 P5 P7
 rw [hU0] at PC
 have HV := hide hV0
 clear hV0 hA0
 have HC := hide (show ∀ w', Below V0.heap.size V0 w' → (w'.cell? ⟨U0, 2, none⟩ = some (.func (.func h0) #[] #[]) ∧ w'.cell? ⟨S + 1, 0, none⟩ = some (.int .i64 a0) ∧ w'.cell? ⟨S + 1, 1, none⟩ = some (.int .i64 a1) ∧ w'.cell? ⟨S + 1, 2, none⟩ = some (.int .i64 a2) ∧ w'.cell? ⟨S + 1, 3, none⟩ = some (.int .i64 a3) ∧ w'.cell? ⟨S + 1, 4, none⟩ = some (.int .i64 a4) ∧ w'.cell? ⟨S + 1, 5, none⟩ = some (.int .i64 a5) ∧ w'.cell? ⟨S + 1 + 1, 0, none⟩ = some (.int .i64 l0)) from fun w' hb => ⟨(hb.cell PC.lt).trans (PC 2 _ rfl).1, (hb.cell P1.lt).trans (P1 0 _ rfl).1, (hb.cell P1.lt).trans (P1 1 _ rfl).1, (hb.cell P1.lt).trans (P1 2 _ rfl).1, (hb.cell P1.lt).trans (P1 3 _ rfl).1, (hb.cell P1.lt).trans (P1 4 _ rfl).1, (hb.cell P1.lt).trans (P1 5 _ rfl).1, (hb.cell P2.lt).trans (P2 0 _ rfl).1⟩)
 have HK2 := hide (show ∀ w' : World, (w'.cell? ⟨U0, 2, none⟩ = some (.func (.func h0) #[] #[]) ∧ w'.cell? ⟨S + 1, 0, none⟩ = some (.int .i64 a0) ∧ w'.cell? ⟨S + 1, 1, none⟩ = some (.int .i64 a1) ∧ w'.cell? ⟨S + 1, 2, none⟩ = some (.int .i64 a2) ∧ w'.cell? ⟨S + 1, 3, none⟩ = some (.int .i64 a3) ∧ w'.cell? ⟨S + 1, 4, none⟩ = some (.int .i64 a4) ∧ w'.cell? ⟨S + 1, 5, none⟩ = some (.int .i64 a5) ∧ w'.cell? ⟨S + 1 + 1, 0, none⟩ = some (.int .i64 l0)) → (((((((w'.setCell ⟨T + 1 + 1, 0, none⟩ (.int .i64 a0')).setCell ⟨T + 1 + 1, 1, none⟩ (.int .i64 a1')).setCell ⟨T + 1 + 1, 2, none⟩ (.int .i64 a2')).setCell ⟨T + 1 + 1, 3, none⟩ (.int .i64 a3')).setCell ⟨T + 1 + 1, 4, none⟩ (.int .i64 a4')).setCell ⟨T + 1 + 1, 5, none⟩ (.int .i64 a5')).cell? ⟨U0, 2, none⟩ = some (.func (.func h0) #[] #[]) ∧ ((((((w'.setCell ⟨T + 1 + 1, 0, none⟩ (.int .i64 a0')).setCell ⟨T + 1 + 1, 1, none⟩ (.int .i64 a1')).setCell ⟨T + 1 + 1, 2, none⟩ (.int .i64 a2')).setCell ⟨T + 1 + 1, 3, none⟩ (.int .i64 a3')).setCell ⟨T + 1 + 1, 4, none⟩ (.int .i64 a4')).setCell ⟨T + 1 + 1, 5, none⟩ (.int .i64 a5')).cell? ⟨S + 1, 0, none⟩ = some (.int .i64 a0) ∧ ((((((w'.setCell ⟨T + 1 + 1, 0, none⟩ (.int .i64 a0')).setCell ⟨T + 1 + 1, 1, none⟩ (.int .i64 a1')).setCell ⟨T + 1 + 1, 2, none⟩ (.int .i64 a2')).setCell ⟨T + 1 + 1, 3, none⟩ (.int .i64 a3')).setCell ⟨T + 1 + 1, 4, none⟩ (.int .i64 a4')).setCell ⟨T + 1 + 1, 5, none⟩ (.int .i64 a5')).cell? ⟨S + 1, 1, none⟩ = some (.int .i64 a1) ∧ ((((((w'.setCell ⟨T + 1 + 1, 0, none⟩ (.int .i64 a0')).setCell ⟨T + 1 + 1, 1, none⟩ (.int .i64 a1')).setCell ⟨T + 1 + 1, 2, none⟩ (.int .i64 a2')).setCell ⟨T + 1 + 1, 3, none⟩ (.int .i64 a3')).setCell ⟨T + 1 + 1, 4, none⟩ (.int .i64 a4')).setCell ⟨T + 1 + 1, 5, none⟩ (.int .i64 a5')).cell? ⟨S + 1, 2, none⟩ = some (.int .i64 a2) ∧ ((((((w'.setCell ⟨T + 1 + 1, 0, none⟩ (.int .i64 a0')).setCell ⟨T + 1 + 1, 1, none⟩ (.int .i64 a1')).setCell ⟨T + 1 + 1, 2, none⟩ (.int .i64 a2')).setCell ⟨T + 1 + 1, 3, none⟩ (.int .i64 a3')).setCell ⟨T + 1 + 1, 4, none⟩ (.int .i64 a4')).setCell ⟨T + 1 + 1, 5, none⟩ (.int .i64 a5')).cell? ⟨S + 1, 3, none⟩ = some (.int .i64 a3) ∧ ((((((w'.setCell ⟨T + 1 + 1, 0, none⟩ (.int .i64 a0')).setCell ⟨T + 1 + 1, 1, none⟩ (.int .i64 a1')).setCell ⟨T + 1 + 1, 2, none⟩ (.int .i64 a2')).setCell ⟨T + 1 + 1, 3, none⟩ (.int .i64 a3')).setCell ⟨T + 1 + 1, 4, none⟩ (.int .i64 a4')).setCell ⟨T + 1 + 1, 5, none⟩ (.int .i64 a5')).cell? ⟨S + 1, 4, none⟩ = some (.int .i64 a4) ∧ ((((((w'.setCell ⟨T + 1 + 1, 0, none⟩ (.int .i64 a0')).setCell ⟨T + 1 + 1, 1, none⟩ (.int .i64 a1')).setCell ⟨T + 1 + 1, 2, none⟩ (.int .i64 a2')).setCell ⟨T + 1 + 1, 3, none⟩ (.int .i64 a3')).setCell ⟨T + 1 + 1, 4, none⟩ (.int .i64 a4')).setCell ⟨T + 1 + 1, 5, none⟩ (.int .i64 a5')).cell? ⟨S + 1, 5, none⟩ = some (.int .i64 a5) ∧ ((((((w'.setCell ⟨T + 1 + 1, 0, none⟩ (.int .i64 a0')).setCell ⟨T + 1 + 1, 1, none⟩ (.int .i64 a1')).setCell ⟨T + 1 + 1, 2, none⟩ (.int .i64 a2')).setCell ⟨T + 1 + 1, 3, none⟩ (.int .i64 a3')).setCell ⟨T + 1 + 1, 4, none⟩ (.int .i64 a4')).setCell ⟨T + 1 + 1, 5, none⟩ (.int .i64 a5')).cell? ⟨S + 1 + 1, 0, none⟩ = some (.int .i64 l0)) from fun w' hh => by
  obtain ⟨z0, z1, z2, z3, z4, z5, z6, z7⟩ := hh
  refine ⟨?_, ?_, ?_, ?_, ?_, ?_, ?_, ?_⟩ <;> (repeat rw [World.cell?_setCell_other _ _ _ _ (fun e => by injection e; omega)]) <;> assumption)
 have HP := hide (show ∀ w', Below V0.heap.size V0 w' → (w'.cell? ⟨T + 1 + 1, 0, none⟩ = some (.int .i64 0) ∧ w'.frozen? ⟨T + 1 + 1, 0, none⟩ = false ∧ w'.cell? ⟨T + 1 + 1, 1, none⟩ = some (.int .i64 0) ∧ w'.frozen? ⟨T + 1 + 1, 1, none⟩ = false ∧ w'.cell? ⟨T + 1 + 1, 2, none⟩ = some (.int .i64 0) ∧ w'.frozen? ⟨T + 1 + 1, 2, none⟩ = false ∧ w'.cell? ⟨T + 1 + 1, 3, none⟩ = some (.int .i64 0) ∧ w'.frozen? ⟨T + 1 + 1, 3, none⟩ = false ∧ w'.cell? ⟨T + 1 + 1, 4, none⟩ = some (.int .i64 0) ∧ w'.frozen? ⟨T + 1 + 1, 4, none⟩ = false ∧ w'.cell? ⟨T + 1 + 1, 5, none⟩ = some (.int .i64 0) ∧ w'.frozen? ⟨T + 1 + 1, 5, none⟩ = false) from fun w' hb => by
  have P' := P7.below hb P7.lt
  exact ⟨(P' 0 _ rfl).1, (P' 0 _ rfl).2, (P' 1 _ rfl).1, (P' 1 _ rfl).2, (P' 2 _ rfl).1, (P' 2 _ rfl).2, (P' 3 _ rfl).1, (P' 3 _ rfl).2, (P' 4 _ rfl).1, (P' 4 _ rfl).2, (P' 5 _ rfl).1, (P' 5 _ rfl).2⟩)
 have HP0 := hide P0
 have HP1 := hide P1
 have HP2 := hide P2
 have HP3 := hide P3
 have HP4 := hide P4
 have HP5 := hide P5
 have HP7 := hide P7
 have HBS := hide BS
 clear P0 P1 P2 P3 P4 P5 P7 BS
 clear PC
 go_upto_region 19 with fail
 rw [← HV.out]
 have eg := EN0.out
 unfold EntersF at eg
 go_region_held3 (fun w' => w'.cell? ⟨U0, 2, none⟩ = some (.func (.func h0) #[] #[]) ∧ w'.cell? ⟨S + 1, 0, none⟩ = some (.int .i64 a0) ∧ w'.cell? ⟨S + 1, 1, none⟩ = some (.int .i64 a1) ∧ w'.cell? ⟨S + 1, 2, none⟩ = some (.int .i64 a2) ∧ w'.cell? ⟨S + 1, 3, none⟩ = some (.int .i64 a3) ∧ w'.cell? ⟨S + 1, 4, none⟩ = some (.int .i64 a4) ∧ w'.cell? ⟨S + 1, 5, none⟩ = some (.int .i64 a5) ∧ w'.cell? ⟨S + 1 + 1, 0, none⟩ = some (.int .i64 l0)) (first | (with_reducible exact HK2.out _ (by assumption)) | ((try dsimp only); with_reducible exact HK2.out _ (by assumption)) | ((try dsimp only); exact HC.out _ (by (repeat' (first | (with_reducible assumption) | (with_reducible exact Below.refl _ _) | (with_reducible refine Below.drew ?_) | (with_reducible refine Below.drewN ?_ _) | (with_reducible refine Below.trans ?_ (B4'.mono ?_)) | omega | (simp; done) | (simp; omega))))))
  ((first | (go_at_fn h0; refine (NX0.out _).mono ?_; rintro e w4 ⟨rfl, B4'⟩; obtain ⟨p_0, p_f0, p_1, p_f1, p_2, p_f2, p_3, p_f3, p_4, p_f4, p_5, p_f5⟩ := HP.out w4 (by (repeat' (first | (with_reducible assumption) | (with_reducible exact Below.refl _ _) | (with_reducible refine Below.drew ?_) | (with_reducible refine Below.drewN ?_ _) | (with_reducible refine Below.trans ?_ (B4'.mono ?_)) | omega | (simp; done) | (simp; omega)))))))
 go_wp2_with fail
 have B4 : Below V0.heap.size V0 w4 := (by (repeat' (first | (with_reducible assumption) | (with_reducible exact Below.refl _ _) | (with_reducible refine Below.drew ?_) | (with_reducible refine Below.drewN ?_ _) | (with_reducible refine Below.trans ?_ (B4'.mono ?_)) | omega | (simp; done) | (simp; omega))))
 have P0 := HP0.out
 have P1 := HP1.out
 have P2 := HP2.out
 have P3 := HP3.out
 have P4 := HP4.out
 have P5 := HP5.out
 have P7 := HP7.out
 have BS := HBS.out
 clear HP0 HP1 HP2 HP3 HP4 HP5 HP7 HBS
 have BS := BS.trans (B4.mono (Nat.le_of_lt P0.lt))
 have P7 := P7.below B4 P7.lt
 have P5 := P5.below B4 P5.lt
 have P4 := P4.below B4 P4.lt
 have P3 := P3.below B4 P3.lt
 have P2 := P2.below B4 P2.lt
 have P1 := P1.below B4 P1.lt
 have P0 := P0.below B4 P0.lt
 obtain ⟨Z0, hZ0⟩ : ∃ Z, Z = ((((((w4.setCell ⟨T + 1 + 1, 0, none⟩ (.int .i64 a0')).setCell ⟨T + 1 + 1, 1, none⟩ (.int .i64 a1')).setCell ⟨T + 1 + 1, 2, none⟩ (.int .i64 a2')).setCell ⟨T + 1 + 1, 3, none⟩ (.int .i64 a3')).setCell ⟨T + 1 + 1, 4, none⟩ (.int .i64 a4')).setCell ⟨T + 1 + 1, 5, none⟩ (.int .i64 a5')) := ⟨_, rfl⟩
 have P0' : Blk Z0 (S) [.int .i64 k0, .int .i64 k1, .int .i64 R, .int .i64 Q, .int .i64 J] := by rw [hZ0]; exact ((((((P0.other ⟨T + 1 + 1, 0, none⟩ (.int .i64 a0') (by simp only; omega)).other ⟨T + 1 + 1, 1, none⟩ (.int .i64 a1') (by simp only; omega)).other ⟨T + 1 + 1, 2, none⟩ (.int .i64 a2') (by simp only; omega)).other ⟨T + 1 + 1, 3, none⟩ (.int .i64 a3') (by simp only; omega)).other ⟨T + 1 + 1, 4, none⟩ (.int .i64 a4') (by simp only; omega)).other ⟨T + 1 + 1, 5, none⟩ (.int .i64 a5') (by simp only; omega))
 have P1' : Blk Z0 (S + 1) [.int .i64 a0, .int .i64 a1, .int .i64 a2, .int .i64 a3, .int .i64 a4, .int .i64 a5, .int .i64 b0, .int .i64 b1, .int .i64 b2, .int .i64 b3, .int .i64 b4, .int .i64 b5, .int .i64 x, .int .i64 y] := by rw [hZ0]; exact ((((((P1.other ⟨T + 1 + 1, 0, none⟩ (.int .i64 a0') (by simp only; omega)).other ⟨T + 1 + 1, 1, none⟩ (.int .i64 a1') (by simp only; omega)).other ⟨T + 1 + 1, 2, none⟩ (.int .i64 a2') (by simp only; omega)).other ⟨T + 1 + 1, 3, none⟩ (.int .i64 a3') (by simp only; omega)).other ⟨T + 1 + 1, 4, none⟩ (.int .i64 a4') (by simp only; omega)).other ⟨T + 1 + 1, 5, none⟩ (.int .i64 a5') (by simp only; omega))
 have P2' : Blk Z0 (S + 1 + 1) [.int .i64 l0, .int .i64 l1] := by rw [hZ0]; exact ((((((P2.other ⟨T + 1 + 1, 0, none⟩ (.int .i64 a0') (by simp only; omega)).other ⟨T + 1 + 1, 1, none⟩ (.int .i64 a1') (by simp only; omega)).other ⟨T + 1 + 1, 2, none⟩ (.int .i64 a2') (by simp only; omega)).other ⟨T + 1 + 1, 3, none⟩ (.int .i64 a3') (by simp only; omega)).other ⟨T + 1 + 1, 4, none⟩ (.int .i64 a4') (by simp only; omega)).other ⟨T + 1 + 1, 5, none⟩ (.int .i64 a5') (by simp only; omega))
 have P3' : Blk Z0 (S + 1 + 1 + 1) [.int .i64 0, .int .i64 0, .int .i64 0, .int .i64 0, .int .i64 0, .int .i64 0, .int .i64 0, .int .i64 0, .int .i64 0, .int .i64 0, .int .i64 0, .int .i64 0, .int .i64 0, .int .i64 0] := by rw [hZ0]; exact ((((((P3.other ⟨T + 1 + 1, 0, none⟩ (.int .i64 a0') (by simp only; omega)).other ⟨T + 1 + 1, 1, none⟩ (.int .i64 a1') (by simp only; omega)).other ⟨T + 1 + 1, 2, none⟩ (.int .i64 a2') (by simp only; omega)).other ⟨T + 1 + 1, 3, none⟩ (.int .i64 a3') (by simp only; omega)).other ⟨T + 1 + 1, 4, none⟩ (.int .i64 a4') (by simp only; omega)).other ⟨T + 1 + 1, 5, none⟩ (.int .i64 a5') (by simp only; omega))
 have P4' : Blk Z0 (S + 1 + 1 + 1 + 1) [.int .i64 0, .int .i64 0, .int .i64 0, .int .i64 0, .int .i64 0, .int .i64 0] := by rw [hZ0]; exact ((((((P4.other ⟨T + 1 + 1, 0, none⟩ (.int .i64 a0') (by simp only; omega)).other ⟨T + 1 + 1, 1, none⟩ (.int .i64 a1') (by simp only; omega)).other ⟨T + 1 + 1, 2, none⟩ (.int .i64 a2') (by simp only; omega)).other ⟨T + 1 + 1, 3, none⟩ (.int .i64 a3') (by simp only; omega)).other ⟨T + 1 + 1, 4, none⟩ (.int .i64 a4') (by simp only; omega)).other ⟨T + 1 + 1, 5, none⟩ (.int .i64 a5') (by simp only; omega))
 have P5' : Blk Z0 (T) [.int .i64 x0, .int .i64 x1, .int .i64 x2, .int .i64 x3, .int .i64 x4, .int .i64 x5] := by rw [hZ0]; exact ((((((P5.other ⟨T + 1 + 1, 0, none⟩ (.int .i64 a0') (by simp only; omega)).other ⟨T + 1 + 1, 1, none⟩ (.int .i64 a1') (by simp only; omega)).other ⟨T + 1 + 1, 2, none⟩ (.int .i64 a2') (by simp only; omega)).other ⟨T + 1 + 1, 3, none⟩ (.int .i64 a3') (by simp only; omega)).other ⟨T + 1 + 1, 4, none⟩ (.int .i64 a4') (by simp only; omega)).other ⟨T + 1 + 1, 5, none⟩ (.int .i64 a5') (by simp only; omega))
 have P7' : Blk Z0 (T + 1 + 1) [.int .i64 a0', .int .i64 a1', .int .i64 a2', .int .i64 a3', .int .i64 a4', .int .i64 a5', .int .i64 0, .int .i64 0, .int .i64 0, .int .i64 0, .int .i64 0, .int .i64 0, .int .i64 y0, .int .i64 y1] := by rw [hZ0]; exact ((((((P7.set (j := 0) (by simp) (.int .i64 a0')).set (j := 1) (by simp) (.int .i64 a1')).set (j := 2) (by simp) (.int .i64 a2')).set (j := 3) (by simp) (.int .i64 a3')).set (j := 4) (by simp) (.int .i64 a4')).set (j := 5) (by simp) (.int .i64 a5'))
 have BS' : Below S w Z0 := by rw [hZ0]; exact ((((((BS.setCell (p := ⟨T + 1 + 1, 0, none⟩) (by simp only; omega) _).setCell (p := ⟨T + 1 + 1, 1, none⟩) (by simp only; omega) _).setCell (p := ⟨T + 1 + 1, 2, none⟩) (by simp only; omega) _).setCell (p := ⟨T + 1 + 1, 3, none⟩) (by simp only; omega) _).setCell (p := ⟨T + 1 + 1, 4, none⟩) (by simp only; omega) _).setCell (p := ⟨T + 1 + 1, 5, none⟩) (by simp only; omega) _)
 rw [← hZ0]
 have HP0 := hide P0'
 have HP1 := hide P1'
 have HP2 := hide P2'
 have HP3 := hide P3'
 have HP4 := hide P4'
 have HP5 := hide P5'
 have HP7 := hide P7'
 have HBS := hide BS'
 clear hZ0 P0 P1 P2 P3 P4 P5 P7 BS P0' P1' P2' P3' P4' P5' P7' BS' HC HK2 HP HV eg B4 p_0 p_f0 p_1 p_f1 p_2 p_f2 p_3 p_f3 p_4 p_f4 p_5 p_f5
 clear B4'
 rw [rounds_succ]
 go_wp2_with fail
 have hof1 := HOF1.out
 have P0 := HP0.out
 have P1 := HP1.out
 have P2 := HP2.out
 have P3 := HP3.out
 have P4 := HP4.out
 have P5 := HP5.out
 have P7 := HP7.out
 have BS := HBS.out
 clear HP0 HP1 HP2 HP3 HP4 HP5 HP7 HBS
 refine (hof1 Z0).mono ?_
 rintro e u1 ⟨rfl, hA1⟩
 have BS := BS.trans (hA1.mono (Nat.le_of_lt P0.lt))
 have P7 := P7.below hA1 P7.lt
 have P5 := P5.below hA1 P5.lt
 have P4 := P4.below hA1 P4.lt
 have P3 := P3.below hA1 P3.lt
 have P2 := P2.below hA1 P2.lt
 have P1 := P1.below hA1 P1.lt
 have P0 := P0.below hA1 P0.lt
 obtain ⟨U1, hU1⟩ : ∃ U, u1.heap.size = U := ⟨_, rfl⟩
 have hTU1 : T + 1 + 1 < U1 := by rw [← hU1]; exact P7.lt
 have PC := Blk.new u1 [.func (.func f1) #[] #[], .func (.func g1) #[] #[], .func (.func h1) #[] #[]] 154
 have BS := BS.alloc (Nat.le_of_lt P0.lt) (.cells #[.func (.func f1) #[] #[], .func (.func g1) #[] #[], .func (.func h1) #[] #[]] 154)
 have P7 := P7.alloc (.cells #[.func (.func f1) #[] #[], .func (.func g1) #[] #[], .func (.func h1) #[] #[]] 154)
 have P5 := P5.alloc (.cells #[.func (.func f1) #[] #[], .func (.func g1) #[] #[], .func (.func h1) #[] #[]] 154)
 have P4 := P4.alloc (.cells #[.func (.func f1) #[] #[], .func (.func g1) #[] #[], .func (.func h1) #[] #[]] 154)
 have P3 := P3.alloc (.cells #[.func (.func f1) #[] #[], .func (.func g1) #[] #[], .func (.func h1) #[] #[]] 154)
 have P2 := P2.alloc (.cells #[.func (.func f1) #[] #[], .func (.func g1) #[] #[], .func (.func h1) #[] #[]] 154)
 have P1 := P1.alloc (.cells #[.func (.func f1) #[] #[], .func (.func g1) #[] #[], .func (.func h1) #[] #[]] 154)
 have P0 := P0.alloc (.cells #[.func (.func f1) #[] #[], .func (.func g1) #[] #[], .func (.func h1) #[] #[]] 154)
 obtain ⟨V1, hV1⟩ : ∃ V, V = u1.alloc (.cells #[.func (.func f1) #[] #[], .func (.func g1) #[] #[], .func (.func h1) #[] #[]] 154) := ⟨_, rfl⟩
 rw [← hV1] at PC BS P0 P1 P2 P3 P4 P5 P7
 rw [hU1] at PC
 have HV := hide hV1
 clear hV1 hA1
 have HC := hide (show ∀ w', Below V1.heap.size V1 w' → (w'.cell? ⟨U1, 2, none⟩ = some (.func (.func h1) #[] #[]) ∧ w'.cell? ⟨S + 1, 6, none⟩ = some (.int .i64 b0) ∧ w'.cell? ⟨S + 1, 7, none⟩ = some (.int .i64 b1) ∧ w'.cell? ⟨S + 1, 8, none⟩ = some (.int .i64 b2) ∧ w'.cell? ⟨S + 1, 9, none⟩ = some (.int .i64 b3) ∧ w'.cell? ⟨S + 1, 10, none⟩ = some (.int .i64 b4) ∧ w'.cell? ⟨S + 1, 11, none⟩ = some (.int .i64 b5) ∧ w'.cell? ⟨S + 1 + 1, 1, none⟩ = some (.int .i64 l1)) from fun w' hb => ⟨(hb.cell PC.lt).trans (PC 2 _ rfl).1, (hb.cell P1.lt).trans (P1 6 _ rfl).1, (hb.cell P1.lt).trans (P1 7 _ rfl).1, (hb.cell P1.lt).trans (P1 8 _ rfl).1, (hb.cell P1.lt).trans (P1 9 _ rfl).1, (hb.cell P1.lt).trans (P1 10 _ rfl).1, (hb.cell P1.lt).trans (P1 11 _ rfl).1, (hb.cell P2.lt).trans (P2 1 _ rfl).1⟩)
 have HK2 := hide (show ∀ w' : World, (w'.cell? ⟨U1, 2, none⟩ = some (.func (.func h1) #[] #[]) ∧ w'.cell? ⟨S + 1, 6, none⟩ = some (.int .i64 b0) ∧ w'.cell? ⟨S + 1, 7, none⟩ = some (.int .i64 b1) ∧ w'.cell? ⟨S + 1, 8, none⟩ = some (.int .i64 b2) ∧ w'.cell? ⟨S + 1, 9, none⟩ = some (.int .i64 b3) ∧ w'.cell? ⟨S + 1, 10, none⟩ = some (.int .i64 b4) ∧ w'.cell? ⟨S + 1, 11, none⟩ = some (.int .i64 b5) ∧ w'.cell? ⟨S + 1 + 1, 1, none⟩ = some (.int .i64 l1)) → (((((((w'.setCell ⟨T + 1 + 1, 6, none⟩ (.int .i64 b0')).setCell ⟨T + 1 + 1, 7, none⟩ (.int .i64 b1')).setCell ⟨T + 1 + 1, 8, none⟩ (.int .i64 b2')).setCell ⟨T + 1 + 1, 9, none⟩ (.int .i64 b3')).setCell ⟨T + 1 + 1, 10, none⟩ (.int .i64 b4')).setCell ⟨T + 1 + 1, 11, none⟩ (.int .i64 b5')).cell? ⟨U1, 2, none⟩ = some (.func (.func h1) #[] #[]) ∧ ((((((w'.setCell ⟨T + 1 + 1, 6, none⟩ (.int .i64 b0')).setCell ⟨T + 1 + 1, 7, none⟩ (.int .i64 b1')).setCell ⟨T + 1 + 1, 8, none⟩ (.int .i64 b2')).setCell ⟨T + 1 + 1, 9, none⟩ (.int .i64 b3')).setCell ⟨T + 1 + 1, 10, none⟩ (.int .i64 b4')).setCell ⟨T + 1 + 1, 11, none⟩ (.int .i64 b5')).cell? ⟨S + 1, 6, none⟩ = some (.int .i64 b0) ∧ ((((((w'.setCell ⟨T + 1 + 1, 6, none⟩ (.int .i64 b0')).setCell ⟨T + 1 + 1, 7, none⟩ (.int .i64 b1')).setCell ⟨T + 1 + 1, 8, none⟩ (.int .i64 b2')).setCell ⟨T + 1 + 1, 9, none⟩ (.int .i64 b3')).setCell ⟨T + 1 + 1, 10, none⟩ (.int .i64 b4')).setCell ⟨T + 1 + 1, 11, none⟩ (.int .i64 b5')).cell? ⟨S + 1, 7, none⟩ = some (.int .i64 b1) ∧ ((((((w'.setCell ⟨T + 1 + 1, 6, none⟩ (.int .i64 b0')).setCell ⟨T + 1 + 1, 7, none⟩ (.int .i64 b1')).setCell ⟨T + 1 + 1, 8, none⟩ (.int .i64 b2')).setCell ⟨T + 1 + 1, 9, none⟩ (.int .i64 b3')).setCell ⟨T + 1 + 1, 10, none⟩ (.int .i64 b4')).setCell ⟨T + 1 + 1, 11, none⟩ (.int .i64 b5')).cell? ⟨S + 1, 8, none⟩ = some (.int .i64 b2) ∧ ((((((w'.setCell ⟨T + 1 + 1, 6, none⟩ (.int .i64 b0')).setCell ⟨T + 1 + 1, 7, none⟩ (.int .i64 b1')).setCell ⟨T + 1 + 1, 8, none⟩ (.int .i64 b2')).setCell ⟨T + 1 + 1, 9, none⟩ (.int .i64 b3')).setCell ⟨T + 1 + 1, 10, none⟩ (.int .i64 b4')).setCell ⟨T + 1 + 1, 11, none⟩ (.int .i64 b5')).cell? ⟨S + 1, 9, none⟩ = some (.int .i64 b3) ∧ ((((((w'.setCell ⟨T + 1 + 1, 6, none⟩ (.int .i64 b0')).setCell ⟨T + 1 + 1, 7, none⟩ (.int .i64 b1')).setCell ⟨T + 1 + 1, 8, none⟩ (.int .i64 b2')).setCell ⟨T + 1 + 1, 9, none⟩ (.int .i64 b3')).setCell ⟨T + 1 + 1, 10, none⟩ (.int .i64 b4')).setCell ⟨T + 1 + 1, 11, none⟩ (.int .i64 b5')).cell? ⟨S + 1, 10, none⟩ = some (.int .i64 b4) ∧ ((((((w'.setCell ⟨T + 1 + 1, 6, none⟩ (.int .i64 b0')).setCell ⟨T + 1 + 1, 7, none⟩ (.int .i64 b1')).setCell ⟨T + 1 + 1, 8, none⟩ (.int .i64 b2')).setCell ⟨T + 1 + 1, 9, none⟩ (.int .i64 b3')).setCell ⟨T + 1 + 1, 10, none⟩ (.int .i64 b4')).setCell ⟨T + 1 + 1, 11, none⟩ (.int .i64 b5')).cell? ⟨S + 1, 11, none⟩ = some (.int .i64 b5) ∧ ((((((w'.setCell ⟨T + 1 + 1, 6, none⟩ (.int .i64 b0')).setCell ⟨T + 1 + 1, 7, none⟩ (.int .i64 b1')).setCell ⟨T + 1 + 1, 8, none⟩ (.int .i64 b2')).setCell ⟨T + 1 + 1, 9, none⟩ (.int .i64 b3')).setCell ⟨T + 1 + 1, 10, none⟩ (.int .i64 b4')).setCell ⟨T + 1 + 1, 11, none⟩ (.int .i64 b5')).cell? ⟨S + 1 + 1, 1, none⟩ = some (.int .i64 l1)) from fun w' hh => by
  obtain ⟨z0, z1, z2, z3, z4, z5, z6, z7⟩ := hh
  refine ⟨?_, ?_, ?_, ?_, ?_, ?_, ?_, ?_⟩ <;> (repeat rw [World.cell?_setCell_other _ _ _ _ (fun e => by injection e; omega)]) <;> assumption)
 have HP := hide (show ∀ w', Below V1.heap.size V1 w' → (w'.cell? ⟨T + 1 + 1, 6, none⟩ = some (.int .i64 0) ∧ w'.frozen? ⟨T + 1 + 1, 6, none⟩ = false ∧ w'.cell? ⟨T + 1 + 1, 7, none⟩ = some (.int .i64 0) ∧ w'.frozen? ⟨T + 1 + 1, 7, none⟩ = false ∧ w'.cell? ⟨T + 1 + 1, 8, none⟩ = some (.int .i64 0) ∧ w'.frozen? ⟨T + 1 + 1, 8, none⟩ = false ∧ w'.cell? ⟨T + 1 + 1, 9, none⟩ = some (.int .i64 0) ∧ w'.frozen? ⟨T + 1 + 1, 9, none⟩ = false ∧ w'.cell? ⟨T + 1 + 1, 10, none⟩ = some (.int .i64 0) ∧ w'.frozen? ⟨T + 1 + 1, 10, none⟩ = false ∧ w'.cell? ⟨T + 1 + 1, 11, none⟩ = some (.int .i64 0) ∧ w'.frozen? ⟨T + 1 + 1, 11, none⟩ = false) from fun w' hb => by
  have P' := P7.below hb P7.lt
  exact ⟨(P' 6 _ rfl).1, (P' 6 _ rfl).2, (P' 7 _ rfl).1, (P' 7 _ rfl).2, (P' 8 _ rfl).1, (P' 8 _ rfl).2, (P' 9 _ rfl).1, (P' 9 _ rfl).2, (P' 10 _ rfl).1, (P' 10 _ rfl).2, (P' 11 _ rfl).1, (P' 11 _ rfl).2⟩)
 have HP0 := hide P0
 have HP1 := hide P1
 have HP2 := hide P2
 have HP3 := hide P3
 have HP4 := hide P4
 have HP5 := hide P5
 have HP7 := hide P7
 have HBS := hide BS
 clear P0 P1 P2 P3 P4 P5 P7 BS
 clear PC
 go_upto_region 19 with fail
 rw [← HV.out]
 have eg := EN1.out
 unfold EntersF at eg
 go_region_held3 (fun w' => w'.cell? ⟨U1, 2, none⟩ = some (.func (.func h1) #[] #[]) ∧ w'.cell? ⟨S + 1, 6, none⟩ = some (.int .i64 b0) ∧ w'.cell? ⟨S + 1, 7, none⟩ = some (.int .i64 b1) ∧ w'.cell? ⟨S + 1, 8, none⟩ = some (.int .i64 b2) ∧ w'.cell? ⟨S + 1, 9, none⟩ = some (.int .i64 b3) ∧ w'.cell? ⟨S + 1, 10, none⟩ = some (.int .i64 b4) ∧ w'.cell? ⟨S + 1, 11, none⟩ = some (.int .i64 b5) ∧ w'.cell? ⟨S + 1 + 1, 1, none⟩ = some (.int .i64 l1)) (first | (with_reducible exact HK2.out _ (by assumption)) | ((try dsimp only); with_reducible exact HK2.out _ (by assumption)) | ((try dsimp only); exact HC.out _ (by (repeat' (first | (with_reducible assumption) | (with_reducible exact Below.refl _ _) | (with_reducible refine Below.drew ?_) | (with_reducible refine Below.drewN ?_ _) | (with_reducible refine Below.trans ?_ (B4'.mono ?_)) | omega | (simp; done) | (simp; omega))))))
  ((first | (go_at_fn h1; refine (NX1.out _).mono ?_; rintro e w4 ⟨rfl, B4'⟩; obtain ⟨p_0, p_f0, p_1, p_f1, p_2, p_f2, p_3, p_f3, p_4, p_f4, p_5, p_f5⟩ := HP.out w4 (by (repeat' (first | (with_reducible assumption) | (with_reducible exact Below.refl _ _) | (with_reducible refine Below.drew ?_) | (with_reducible refine Below.drewN ?_ _) | (with_reducible refine Below.trans ?_ (B4'.mono ?_)) | omega | (simp; done) | (simp; omega)))))))
 go_wp2_with fail
 have B4 : Below V1.heap.size V1 w4 := (by (repeat' (first | (with_reducible assumption) | (with_reducible exact Below.refl _ _) | (with_reducible refine Below.drew ?_) | (with_reducible refine Below.drewN ?_ _) | (with_reducible refine Below.trans ?_ (B4'.mono ?_)) | omega | (simp; done) | (simp; omega))))
 have P0 := HP0.out
 have P1 := HP1.out
 have P2 := HP2.out
 have P3 := HP3.out
 have P4 := HP4.out
 have P5 := HP5.out
 have P7 := HP7.out
 have BS := HBS.out
 clear HP0 HP1 HP2 HP3 HP4 HP5 HP7 HBS
 have BS := BS.trans (B4.mono (Nat.le_of_lt P0.lt))
 have P7 := P7.below B4 P7.lt
 have P5 := P5.below B4 P5.lt
 have P4 := P4.below B4 P4.lt
 have P3 := P3.below B4 P3.lt
 have P2 := P2.below B4 P2.lt
 have P1 := P1.below B4 P1.lt
 have P0 := P0.below B4 P0.lt
 obtain ⟨Z1, hZ1⟩ : ∃ Z, Z = ((((((w4.setCell ⟨T + 1 + 1, 6, none⟩ (.int .i64 b0')).setCell ⟨T + 1 + 1, 7, none⟩ (.int .i64 b1')).setCell ⟨T + 1 + 1, 8, none⟩ (.int .i64 b2')).setCell ⟨T + 1 + 1, 9, none⟩ (.int .i64 b3')).setCell ⟨T + 1 + 1, 10, none⟩ (.int .i64 b4')).setCell ⟨T + 1 + 1, 11, none⟩ (.int .i64 b5')) := ⟨_, rfl⟩
 have P0' : Blk Z1 (S) [.int .i64 k0, .int .i64 k1, .int .i64 R, .int .i64 Q, .int .i64 J] := by rw [hZ1]; exact ((((((P0.other ⟨T + 1 + 1, 6, none⟩ (.int .i64 b0') (by simp only; omega)).other ⟨T + 1 + 1, 7, none⟩ (.int .i64 b1') (by simp only; omega)).other ⟨T + 1 + 1, 8, none⟩ (.int .i64 b2') (by simp only; omega)).other ⟨T + 1 + 1, 9, none⟩ (.int .i64 b3') (by simp only; omega)).other ⟨T + 1 + 1, 10, none⟩ (.int .i64 b4') (by simp only; omega)).other ⟨T + 1 + 1, 11, none⟩ (.int .i64 b5') (by simp only; omega))
 have P1' : Blk Z1 (S + 1) [.int .i64 a0, .int .i64 a1, .int .i64 a2, .int .i64 a3, .int .i64 a4, .int .i64 a5, .int .i64 b0, .int .i64 b1, .int .i64 b2, .int .i64 b3, .int .i64 b4, .int .i64 b5, .int .i64 x, .int .i64 y] := by rw [hZ1]; exact ((((((P1.other ⟨T + 1 + 1, 6, none⟩ (.int .i64 b0') (by simp only; omega)).other ⟨T + 1 + 1, 7, none⟩ (.int .i64 b1') (by simp only; omega)).other ⟨T + 1 + 1, 8, none⟩ (.int .i64 b2') (by simp only; omega)).other ⟨T + 1 + 1, 9, none⟩ (.int .i64 b3') (by simp only; omega)).other ⟨T + 1 + 1, 10, none⟩ (.int .i64 b4') (by simp only; omega)).other ⟨T + 1 + 1, 11, none⟩ (.int .i64 b5') (by simp only; omega))
 have P2' : Blk Z1 (S + 1 + 1) [.int .i64 l0, .int .i64 l1] := by rw [hZ1]; exact ((((((P2.other ⟨T + 1 + 1, 6, none⟩ (.int .i64 b0') (by simp only; omega)).other ⟨T + 1 + 1, 7, none⟩ (.int .i64 b1') (by simp only; omega)).other ⟨T + 1 + 1, 8, none⟩ (.int .i64 b2') (by simp only; omega)).other ⟨T + 1 + 1, 9, none⟩ (.int .i64 b3') (by simp only; omega)).other ⟨T + 1 + 1, 10, none⟩ (.int .i64 b4') (by simp only; omega)).other ⟨T + 1 + 1, 11, none⟩ (.int .i64 b5') (by simp only; omega))
 have P3' : Blk Z1 (S + 1 + 1 + 1) [.int .i64 0, .int .i64 0, .int .i64 0, .int .i64 0, .int .i64 0, .int .i64 0, .int .i64 0, .int .i64 0, .int .i64 0, .int .i64 0, .int .i64 0, .int .i64 0, .int .i64 0, .int .i64 0] := by rw [hZ1]; exact ((((((P3.other ⟨T + 1 + 1, 6, none⟩ (.int .i64 b0') (by simp only; omega)).other ⟨T + 1 + 1, 7, none⟩ (.int .i64 b1') (by simp only; omega)).other ⟨T + 1 + 1, 8, none⟩ (.int .i64 b2') (by simp only; omega)).other ⟨T + 1 + 1, 9, none⟩ (.int .i64 b3') (by simp only; omega)).other ⟨T + 1 + 1, 10, none⟩ (.int .i64 b4') (by simp only; omega)).other ⟨T + 1 + 1, 11, none⟩ (.int .i64 b5') (by simp only; omega))
 have P4' : Blk Z1 (S + 1 + 1 + 1 + 1) [.int .i64 0, .int .i64 0, .int .i64 0, .int .i64 0, .int .i64 0, .int .i64 0] := by rw [hZ1]; exact ((((((P4.other ⟨T + 1 + 1, 6, none⟩ (.int .i64 b0') (by simp only; omega)).other ⟨T + 1 + 1, 7, none⟩ (.int .i64 b1') (by simp only; omega)).other ⟨T + 1 + 1, 8, none⟩ (.int .i64 b2') (by simp only; omega)).other ⟨T + 1 + 1, 9, none⟩ (.int .i64 b3') (by simp only; omega)).other ⟨T + 1 + 1, 10, none⟩ (.int .i64 b4') (by simp only; omega)).other ⟨T + 1 + 1, 11, none⟩ (.int .i64 b5') (by simp only; omega))
 have P5' : Blk Z1 (T) [.int .i64 x0, .int .i64 x1, .int .i64 x2, .int .i64 x3, .int .i64 x4, .int .i64 x5] := by rw [hZ1]; exact ((((((P5.other ⟨T + 1 + 1, 6, none⟩ (.int .i64 b0') (by simp only; omega)).other ⟨T + 1 + 1, 7, none⟩ (.int .i64 b1') (by simp only; omega)).other ⟨T + 1 + 1, 8, none⟩ (.int .i64 b2') (by simp only; omega)).other ⟨T + 1 + 1, 9, none⟩ (.int .i64 b3') (by simp only; omega)).other ⟨T + 1 + 1, 10, none⟩ (.int .i64 b4') (by simp only; omega)).other ⟨T + 1 + 1, 11, none⟩ (.int .i64 b5') (by simp only; omega))
 have P7' : Blk Z1 (T + 1 + 1) [.int .i64 a0', .int .i64 a1', .int .i64 a2', .int .i64 a3', .int .i64 a4', .int .i64 a5', .int .i64 b0', .int .i64 b1', .int .i64 b2', .int .i64 b3', .int .i64 b4', .int .i64 b5', .int .i64 y0, .int .i64 y1] := by rw [hZ1]; exact ((((((P7.set (j := 6) (by simp) (.int .i64 b0')).set (j := 7) (by simp) (.int .i64 b1')).set (j := 8) (by simp) (.int .i64 b2')).set (j := 9) (by simp) (.int .i64 b3')).set (j := 10) (by simp) (.int .i64 b4')).set (j := 11) (by simp) (.int .i64 b5'))
 have BS' : Below S w Z1 := by rw [hZ1]; exact ((((((BS.setCell (p := ⟨T + 1 + 1, 6, none⟩) (by simp only; omega) _).setCell (p := ⟨T + 1 + 1, 7, none⟩) (by simp only; omega) _).setCell (p := ⟨T + 1 + 1, 8, none⟩) (by simp only; omega) _).setCell (p := ⟨T + 1 + 1, 9, none⟩) (by simp only; omega) _).setCell (p := ⟨T + 1 + 1, 10, none⟩) (by simp only; omega) _).setCell (p := ⟨T + 1 + 1, 11, none⟩) (by simp only; omega) _)
 rw [← hZ1]
 have HP0 := hide P0'
 have HP1 := hide P1'
 have HP2 := hide P2'
 have HP3 := hide P3'
 have HP4 := hide P4'
 have HP5 := hide P5'
 have HP7 := hide P7'
 have HBS := hide BS'
 clear hZ1 P0 P1 P2 P3 P4 P5 P7 BS P0' P1' P2' P3' P4' P5' P7' BS' HC HK2 HP HV eg B4 p_0 p_f0 p_1 p_f1 p_2 p_f2 p_3 p_f3 p_4 p_f4 p_5 p_f5
 clear B4'
 rw [rounds_succ]
 have P0 := HP0.out
 have P1 := HP1.out
 have P2 := HP2.out
 have P3 := HP3.out
 have P4 := HP4.out
 have P5 := HP5.out
 have P7 := HP7.out
 have BS := HBS.out
 clear HP0 HP1 HP2 HP3 HP4 HP5 HP7 HBS
 obtain ⟨n_0, n_1, n_2, n_3, n_4, n_5, n_6, n_7, n_8, n_9, n_10, n_11, n_12, n_13⟩ := P7.c14
 obtain ⟨m_0, m_1, m_2, m_3, m_4, m_5⟩ := P5.c6
 obtain ⟨p_0, p_f0, p_1, p_f1, p_2, p_f2, p_3, p_f3, p_4, p_f4, p_5, p_f5, p_6, p_f6, p_7, p_f7, p_8, p_f8, p_9, p_f9, p_10, p_f10, p_11, p_f11, p_12, p_f12, p_13, p_f13⟩ := P3.cf14
 obtain ⟨o_0, o_f0, o_1, o_f1, o_2, o_f2, o_3, o_f3, o_4, o_f4, o_5, o_f5⟩ := P4.cf6
 have H3 := hide P3; have H4 := hide P4; have HBS := hide BS
 clear P0 P1 P2 P3 P4 P5 P7 BS
 go_wp2
 go_region
 go_wp2
 obtain ⟨Z, hZ, z3, z4, zB⟩ := step_fin a0' a1' a2' a3' a4' a5' b0' b1' b2' b3' b4' b5' y0 y1 x0 x1 x2 x3 x4 x5 H3.out H4.out HBS.out
 rw [← hZ]
 clear hZ
 have z3 := z3.drew; have z4 := z4.drew; have zB := zB.drew
 obtain ⟨y_0, y_1, y_2, y_3, y_4, y_5, y_6, y_7, y_8, y_9, y_10, y_11, y_12, y_13⟩ := z3.c14
 obtain ⟨v_0, v_1, v_2, v_3, v_4, v_5⟩ := z4.c6
 refine bodyPost_ret (v := .tuple #[.agg #[.int .i64 a0', .int .i64 a1', .int .i64 a2', .int .i64 a3', .int .i64 a4', .int .i64 a5', .int .i64 b0', .int .i64 b1', .int .i64 b2', .int .i64 b3', .int .i64 b4', .int .i64 b5', .int .i64 y0, .int .i64 y1], .agg #[.int .i64 x0, .int .i64 x1, .int .i64 x2, .int .i64 x3, .int .i64 x4, .int .i64 x5], .int .i64 0]) ?_ rfl ⟨rfl, ?_⟩
 · simp [results, Tryz.f68, go_sem, *]
 · first | exact zB | (rw [hS]; exact zB)
end Go.Proofs.YtjjikhaaimfneaaGreatDoor
