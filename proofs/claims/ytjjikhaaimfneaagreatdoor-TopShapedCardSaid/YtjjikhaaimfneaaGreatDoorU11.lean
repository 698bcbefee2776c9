/-
  Lemmas and walks for the statement: Duel8.
-/
import Derived.Test.YtjjikhaaimfneaaGreatDoorU10
namespace Go.Proofs.YtjjikhaaimfneaaGreatDoor
open Go.RowKit
set_option linter.unusedSimpArgs false
set_option linter.unusedVariables false
attribute [local go_sem] iteMin iteMax iteMinN iteMaxN
theorem kind_right {kd a0 a1 a2 a3 a4 a5 : Int} (h1 : 1 ≤ kd ∧ kd ≤ 3) (h : rightK kd ⟨a0, a1, a2, a3, a4, a5⟩ = true) : a0 = kd := by
 unfold rightK at h
 rcases (show kd = 1 ∨ kd = 2 ∨ kd = 3 by omega) with rfl | rfl | rfl
 · exact kind_of_veg h
 · exact kind_of_cop h
 · exact kind_of_led h
set_option maxRecDepth 100000 in
set_option maxHeartbeats 8000000 in
theorem pright_any (k0 k1 R Q J a0 a1 a2 a3 a4 a5 b0 b1 b2 b3 b4 b5 x y : Int) (w : World) : Calls Tryz.prog 109 #[.agg #[.int .i64 k0, .int .i64 k1, .int .i64 R, .int .i64 Q, .int .i64 J], .agg #[.int .i64 a0, .int .i64 a1, .int .i64 a2, .int .i64 a3, .int .i64 a4, .int .i64 a5, .int .i64 b0, .int .i64 b1, .int .i64 b2, .int .i64 b3, .int .i64 b4, .int .i64 b5, .int .i64 x, .int .i64 y]] w fun e w' => IsB (StRight k0 k1 R Q J a0 a1 a2 a3 a4 a5 b0 b1 b2 b3 b4 b5 x y) e ∧ Below w.heap.size w w' := by
 obtain ⟨S, hS⟩ : ∃ S, w.heap.size = S := ⟨_, rfl⟩
 have i0 : ∀ w : World, (Instr.index 131 (.agg #[.int .i64 a0, .int .i64 a1, .int .i64 a2, .int .i64 a3, .int .i64 a4, .int .i64 a5, .int .i64 b0, .int .i64 b1, .int .i64 b2, .int .i64 b3, .int .i64 b4, .int .i64 b5]) (.int .i64 0)).run Tryz.prog w = .ok (.agg #[.int .i64 a0, .int .i64 a1, .int .i64 a2, .int .i64 a3, .int .i64 a4, .int .i64 a5]) w := fun _ => by kernel_rfl
 have i1 : ∀ w : World, (Instr.index 131 (.agg #[.int .i64 a0, .int .i64 a1, .int .i64 a2, .int .i64 a3, .int .i64 a4, .int .i64 a5, .int .i64 b0, .int .i64 b1, .int .i64 b2, .int .i64 b3, .int .i64 b4, .int .i64 b5]) (.int .i64 1)).run Tryz.prog w = .ok (.agg #[.int .i64 b0, .int .i64 b1, .int .i64 b2, .int .i64 b3, .int .i64 b4, .int .i64 b5]) w := fun _ => by kernel_rfl
 go_enter Tryz.func109, Tryz.ntmps109
 go_wp2_with fail
 obtain ⟨W, hW⟩ : ∃ W, W = (w.alloc (.cells #[.int .i64 k0, .int .i64 k1, .int .i64 R, .int .i64 Q, .int .i64 J] 49)).alloc (.cells #[.int .i64 a0, .int .i64 a1, .int .i64 a2, .int .i64 a3, .int .i64 a4, .int .i64 a5, .int .i64 b0, .int .i64 b1, .int .i64 b2, .int .i64 b3, .int .i64 b4, .int .i64 b5, .int .i64 x, .int .i64 y] 133) := ⟨_, rfl⟩
 rw [← hW]
 have PR : Blk W S [.int .i64 k0, .int .i64 k1, .int .i64 R, .int .i64 Q, .int .i64 J] := by
  have := (Blk.new w [.int .i64 k0, .int .i64 k1, .int .i64 R, .int .i64 Q, .int .i64 J] 49).alloc (.cells #[.int .i64 a0, .int .i64 a1, .int .i64 a2, .int .i64 a3, .int .i64 a4, .int .i64 a5, .int .i64 b0, .int .i64 b1, .int .i64 b2, .int .i64 b3, .int .i64 b4, .int .i64 b5, .int .i64 x, .int .i64 y] 133)
  rw [hW]; simpa [hS] using this
 have PS : Blk W (S + 1) [.int .i64 a0, .int .i64 a1, .int .i64 a2, .int .i64 a3, .int .i64 a4, .int .i64 a5, .int .i64 b0, .int .i64 b1, .int .i64 b2, .int .i64 b3, .int .i64 b4, .int .i64 b5, .int .i64 x, .int .i64 y] := by
  have := Blk.new (w.alloc (.cells #[.int .i64 k0, .int .i64 k1, .int .i64 R, .int .i64 Q, .int .i64 J] 49)) [.int .i64 a0, .int .i64 a1, .int .i64 a2, .int .i64 a3, .int .i64 a4, .int .i64 a5, .int .i64 b0, .int .i64 b1, .int .i64 b2, .int .i64 b3, .int .i64 b4, .int .i64 b5, .int .i64 x, .int .i64 y] 133
  rw [hW]; simpa [hS] using this
 have BS : Below S w W := by rw [hW, ← hS]; exact ((Below.refl _ _).alloc (Nat.le_refl _) _).alloc (by simp) _
 clear hW
 refine (pwrong_any k0 k1 R Q J W).mono ?_
 rintro e w1 ⟨⟨r, rfl, hw⟩, hB1⟩
 have BS := BS.trans (hB1.mono (by have := PR.lt; omega))
 have PR := PR.below hB1 PR.lt
 have PS := PS.below hB1 PS.lt
 clear hB1
 by_cases hok : kindsOk k0 k1 ∧ rangeOk R Q J
 case neg =>
  have HBS := hide BS
  have HNO := hide hok
  clear PR PS BS
  rcases hw with ⟨_, rfl⟩ | ⟨_, _, rfl⟩ | ⟨h1, h2, _⟩
  · clear hok
    go_wp2
    go_ret
    exact ⟨IsB.f (fun h => HNO.out ⟨h.1, h.2.1⟩), by first | exact HBS.out | (rw [hS]; exact HBS.out)⟩
  · clear hok
    go_wp2
    go_ret
    exact ⟨IsB.f (fun h => HNO.out ⟨h.1, h.2.1⟩), by first | exact HBS.out | (rw [hS]; exact HBS.out)⟩
  · exact absurd ⟨h1, h2⟩ hok
 obtain ⟨hk, hr⟩ := hok
 obtain rfl : r = 0 := wrongSays_one hw (.inr (.inr ⟨hk, hr, rfl⟩))
 clear hw
 have hQ16 : Q ≤ 16 := hr.2.2.2.1
 have c2 := (PR 3 _ rfl).1
 have e0 := (PS 0 _ rfl).1
 have e1 := (PS 1 _ rfl).1
 have e2 := (PS 2 _ rfl).1
 have e3 := (PS 3 _ rfl).1
 have e4 := (PS 4 _ rfl).1
 have e5 := (PS 5 _ rfl).1
 have e6 := (PS 6 _ rfl).1
 have e7 := (PS 7 _ rfl).1
 have e8 := (PS 8 _ rfl).1
 have e9 := (PS 9 _ rfl).1
 have e10 := (PS 10 _ rfl).1
 have e11 := (PS 11 _ rfl).1
 have e12 := (PS 12 _ rfl).1
 have e13 := (PS 13 _ rfl).1
 have HPR := hide PR; have HBS := hide BS
 clear PR PS BS
 by_cases hx : 0 ≤ x ∧ 0 ≤ y ∧ x + y ≤ Q
 case neg =>
  by_cases hm : 0 ≤ min x y
  case neg => (go_wp2; go_ret; exact ⟨IsB.f (fun h => hx h.2.2.2.2), by first | exact HBS.out | (rw [hS]; exact HBS.out)⟩)
  by_cases hM : max x y ≤ 16
  case neg => (go_wp2; go_ret; exact ⟨IsB.f (fun h => hx h.2.2.2.2), by first | exact HBS.out | (rw [hS]; exact HBS.out)⟩)
  have hs : Q < x + y := by omega
  go_wp2
  go_ret
  exact ⟨IsB.f (fun h => hx h.2.2.2.2), by first | exact HBS.out | (rw [hS]; exact HBS.out)⟩
 have hm : 0 ≤ min x y := by omega
 have hM : max x y ≤ 16 := by omega
 have hs : x + y ≤ Q := hx.2.2
 obtain ⟨k0', n0', b0', y0', s0', p0', t0, ht0, hp0⟩ := pnext_zero a0 a1 a2 a3 a4 a5
 obtain ⟨k1', n1', b1', y1', s1', p1', t1, ht1, hp1⟩ := pnext_zero b0 b1 b2 b3 b4 b5
 have HP0 := hide hp0; have HP1 := hide hp1
 clear hp0 hp1
 go_wp2
 refine wp_loop_rounds 3 ?_
 rw [rounds_succ]
 go_wp2_with fail
 have PR := HPR.out; have BS := HBS.out
 have hp0 := HP0.out
 clear HPR HBS c2 e0 e1 e2 e3 e4 e5 e6 e7 e8 e9 e10 e11 e12 e13
 by_cases he0 : a0 = k0
 case neg =>
  have he' : (a0 == k0) = false := by simp [he0]
  cases t0
  all_goals
   obtain ⟨V0, hV0⟩ : ∃ V, V = w1.alloc (.cells #[.int .i64 a0, .int .i64 a1, .int .i64 a2, .int .i64 a3, .int .i64 a4, .int .i64 a5] 36) := ⟨_, rfl⟩
   obtain ⟨U0, hU0⟩ : ∃ U, w1.heap.size = U := ⟨_, rfl⟩
   have BS := BS.alloc (Nat.le_of_lt PR.lt) (.cells #[.int .i64 a0, .int .i64 a1, .int .i64 a2, .int .i64 a3, .int .i64 a4, .int .i64 a5] 36)
   have PR := PR.alloc (.cells #[.int .i64 a0, .int .i64 a1, .int .i64 a2, .int .i64 a3, .int .i64 a4, .int .i64 a5] 36)
   have PC := Blk.new w1 [.int .i64 a0, .int .i64 a1, .int .i64 a2, .int .i64 a3, .int .i64 a4, .int .i64 a5] 36
   rw [← hV0] at PR BS PC
   rw [hU0] at PC
   rw [← hV0]
   refine (hp0 V0).mono ?_
   rintro e u0 ⟨rfl, hA0⟩
   have BS := (BS.trans (hA0.mono (Nat.le_of_lt PR.lt))).alloc (Nat.le_trans (Nat.le_of_lt PR.lt) hA0.size) (.cells #[.int .i64 k0', .int .i64 n0', .int .i64 b0', .int .i64 y0', .int .i64 s0', .int .i64 p0'] 36)
   have PC := (PC.below hA0 PC.lt).alloc (.cells #[.int .i64 k0', .int .i64 n0', .int .i64 b0', .int .i64 y0', .int .i64 s0', .int .i64 p0'] 36)
   have PR := (PR.below hA0 PR.lt).alloc (.cells #[.int .i64 k0', .int .i64 n0', .int .i64 b0', .int .i64 y0', .int .i64 s0', .int .i64 p0'] 36)
   obtain ⟨X0, hX0⟩ : ∃ X, X = u0.alloc (.cells #[.int .i64 k0', .int .i64 n0', .int .i64 b0', .int .i64 y0', .int .i64 s0', .int .i64 p0'] 36) := ⟨_, rfl⟩
   rw [← hX0] at PR BS PC
   clear hA0 hV0
   have HX := hide hX0
   have HPR := hide PR; have HBS := hide BS; have HPC := hide PC
   clear hX0 PR BS PC
   go_upto_region 7 with fail
   rw [← HX.out]
   have y0 := (HPC.out 0 _ rfl).1
   have y1 := (HPR.out 0 _ rfl).1
   have y2 := (HPR.out 1 _ rfl).1
   go_quiet (fail)
   clear y0 y1 y2
   go_wp2
   go_ret
   exact ⟨IsB.f (fun h => he0 (kind_right ⟨hk.1, hk.2.1⟩ h.2.2.1)), by first | exact Go.below_drewN HBS.out _ | (rw [hS]; exact Go.below_drewN HBS.out _)⟩
 subst he0
 cases hq0 : rightK a0 ⟨a0, a1, a2, a3, a4, a5⟩ with
 | false =>
   obtain rfl : t0 = false := by rw [ht0 a0 hk.1 hk.2.1 rfl, hq0]
   obtain ⟨V0, hV0⟩ : ∃ V, V = w1.alloc (.cells #[.int .i64 a0, .int .i64 a1, .int .i64 a2, .int .i64 a3, .int .i64 a4, .int .i64 a5] 36) := ⟨_, rfl⟩
   obtain ⟨U0, hU0⟩ : ∃ U, w1.heap.size = U := ⟨_, rfl⟩
   have BS := BS.alloc (Nat.le_of_lt PR.lt) (.cells #[.int .i64 a0, .int .i64 a1, .int .i64 a2, .int .i64 a3, .int .i64 a4, .int .i64 a5] 36)
   have PR := PR.alloc (.cells #[.int .i64 a0, .int .i64 a1, .int .i64 a2, .int .i64 a3, .int .i64 a4, .int .i64 a5] 36)
   have PC := Blk.new w1 [.int .i64 a0, .int .i64 a1, .int .i64 a2, .int .i64 a3, .int .i64 a4, .int .i64 a5] 36
   rw [← hV0] at PR BS PC
   rw [hU0] at PC
   rw [← hV0]
   refine (hp0 V0).mono ?_
   rintro e u0 ⟨rfl, hA0⟩
   have BS := (BS.trans (hA0.mono (Nat.le_of_lt PR.lt))).alloc (Nat.le_trans (Nat.le_of_lt PR.lt) hA0.size) (.cells #[.int .i64 k0', .int .i64 n0', .int .i64 b0', .int .i64 y0', .int .i64 s0', .int .i64 p0'] 36)
   have PC := (PC.below hA0 PC.lt).alloc (.cells #[.int .i64 k0', .int .i64 n0', .int .i64 b0', .int .i64 y0', .int .i64 s0', .int .i64 p0'] 36)
   have PR := (PR.below hA0 PR.lt).alloc (.cells #[.int .i64 k0', .int .i64 n0', .int .i64 b0', .int .i64 y0', .int .i64 s0', .int .i64 p0'] 36)
   obtain ⟨X0, hX0⟩ : ∃ X, X = u0.alloc (.cells #[.int .i64 k0', .int .i64 n0', .int .i64 b0', .int .i64 y0', .int .i64 s0', .int .i64 p0'] 36) := ⟨_, rfl⟩
   rw [← hX0] at PR BS PC
   clear hA0 hV0
   have HX := hide hX0
   have HPR := hide PR; have HBS := hide BS; have HPC := hide PC
   clear hX0 PR BS PC
   go_upto_region 7 with fail
   rw [← HX.out]
   have y0 := (HPC.out 0 _ rfl).1
   have y1 := (HPR.out 0 _ rfl).1
   have y2 := (HPR.out 1 _ rfl).1
   go_quiet (fail)
   clear y0 y1 y2
   go_wp2
   go_ret
   exact ⟨IsB.f (fun h => by have := h.2.2.1; rw [hq0] at this; cases this), by first | exact Go.below_drewN HBS.out _ | (rw [hS]; exact Go.below_drewN HBS.out _)⟩
 | true =>
   obtain rfl : t0 = true := by rw [ht0 a0 hk.1 hk.2.1 rfl, hq0]
   obtain ⟨V0, hV0⟩ : ∃ V, V = w1.alloc (.cells #[.int .i64 a0, .int .i64 a1, .int .i64 a2, .int .i64 a3, .int .i64 a4, .int .i64 a5] 36) := ⟨_, rfl⟩
   obtain ⟨U0, hU0⟩ : ∃ U, w1.heap.size = U := ⟨_, rfl⟩
   have BS := BS.alloc (Nat.le_of_lt PR.lt) (.cells #[.int .i64 a0, .int .i64 a1, .int .i64 a2, .int .i64 a3, .int .i64 a4, .int .i64 a5] 36)
   have PR := PR.alloc (.cells #[.int .i64 a0, .int .i64 a1, .int .i64 a2, .int .i64 a3, .int .i64 a4, .int .i64 a5] 36)
   have PC := Blk.new w1 [.int .i64 a0, .int .i64 a1, .int .i64 a2, .int .i64 a3, .int .i64 a4, .int .i64 a5] 36
   rw [← hV0] at PR BS PC
   rw [hU0] at PC
   rw [← hV0]
   refine (hp0 V0).mono ?_
   rintro e u0 ⟨rfl, hA0⟩
   have BS := (BS.trans (hA0.mono (Nat.le_of_lt PR.lt))).alloc (Nat.le_trans (Nat.le_of_lt PR.lt) hA0.size) (.cells #[.int .i64 k0', .int .i64 n0', .int .i64 b0', .int .i64 y0', .int .i64 s0', .int .i64 p0'] 36)
   have PC := (PC.below hA0 PC.lt).alloc (.cells #[.int .i64 k0', .int .i64 n0', .int .i64 b0', .int .i64 y0', .int .i64 s0', .int .i64 p0'] 36)
   have PR := (PR.below hA0 PR.lt).alloc (.cells #[.int .i64 k0', .int .i64 n0', .int .i64 b0', .int .i64 y0', .int .i64 s0', .int .i64 p0'] 36)
   obtain ⟨X0, hX0⟩ : ∃ X, X = u0.alloc (.cells #[.int .i64 k0', .int .i64 n0', .int .i64 b0', .int .i64 y0', .int .i64 s0', .int .i64 p0'] 36) := ⟨_, rfl⟩
   rw [← hX0] at PR BS PC
   clear hA0 hV0
   have HX := hide hX0
   have HPR := hide PR; have HBS := hide BS; have HPC := hide PC
   clear hX0 PR BS PC
   go_upto_region 7 with fail
   rw [← HX.out]
   have y0 := (HPC.out 0 _ rfl).1
   have y1 := (HPR.out 0 _ rfl).1
   have y2 := (HPR.out 1 _ rfl).1
   go_quiet (fail)
   clear y0 y1 y2
   have PR : Blk (X0.drewN nq) S [.int .i64 a0, .int .i64 k1, .int .i64 R, .int .i64 Q, .int .i64 J] := HPR.out
   have BS := Go.below_drewN HBS.out nq
   clear HPC HX hU0 HPR HBS
   generalize X0.drewN nq = N0 at PR BS ⊢
   have HPR := hide PR; have HBS := hide BS
   clear PR BS
   go_wp2_with fail
   rw [rounds_succ]
   go_wp2_with fail
   have PR := HPR.out; have BS := HBS.out
   clear HPR HBS
   have hp1 := HP1.out
   by_cases he1 : b0 = k1
   case neg =>
    have he' : (b0 == k1) = false := by simp [he1]
    cases t1
    all_goals
     obtain ⟨V1, hV1⟩ : ∃ V, V = N0.alloc (.cells #[.int .i64 b0, .int .i64 b1, .int .i64 b2, .int .i64 b3, .int .i64 b4, .int .i64 b5] 36) := ⟨_, rfl⟩
     obtain ⟨U1, hU1⟩ : ∃ U, N0.heap.size = U := ⟨_, rfl⟩
     have BS := BS.alloc (Nat.le_of_lt PR.lt) (.cells #[.int .i64 b0, .int .i64 b1, .int .i64 b2, .int .i64 b3, .int .i64 b4, .int .i64 b5] 36)
     have PR := PR.alloc (.cells #[.int .i64 b0, .int .i64 b1, .int .i64 b2, .int .i64 b3, .int .i64 b4, .int .i64 b5] 36)
     have PC := Blk.new N0 [.int .i64 b0, .int .i64 b1, .int .i64 b2, .int .i64 b3, .int .i64 b4, .int .i64 b5] 36
     rw [← hV1] at PR BS PC
     rw [hU1] at PC
     rw [← hV1]
     refine (hp1 V1).mono ?_
     rintro e u1 ⟨rfl, hA1⟩
     have BS := (BS.trans (hA1.mono (Nat.le_of_lt PR.lt))).alloc (Nat.le_trans (Nat.le_of_lt PR.lt) hA1.size) (.cells #[.int .i64 k1', .int .i64 n1', .int .i64 b1', .int .i64 y1', .int .i64 s1', .int .i64 p1'] 36)
     have PC := (PC.below hA1 PC.lt).alloc (.cells #[.int .i64 k1', .int .i64 n1', .int .i64 b1', .int .i64 y1', .int .i64 s1', .int .i64 p1'] 36)
     have PR := (PR.below hA1 PR.lt).alloc (.cells #[.int .i64 k1', .int .i64 n1', .int .i64 b1', .int .i64 y1', .int .i64 s1', .int .i64 p1'] 36)
     obtain ⟨X1, hX1⟩ : ∃ X, X = u1.alloc (.cells #[.int .i64 k1', .int .i64 n1', .int .i64 b1', .int .i64 y1', .int .i64 s1', .int .i64 p1'] 36) := ⟨_, rfl⟩
     rw [← hX1] at PR BS PC
     clear hA1 hV1
     have HX := hide hX1
     have HPR := hide PR; have HBS := hide BS; have HPC := hide PC
     clear hX1 PR BS PC
     go_upto_region 7 with fail
     rw [← HX.out]
     have y0 := (HPC.out 0 _ rfl).1
     have y1 := (HPR.out 0 _ rfl).1
     have y2 := (HPR.out 1 _ rfl).1
     go_quiet (fail)
     clear y0 y1 y2
     go_wp2
     go_ret
     exact ⟨IsB.f (fun h => he1 (kind_right ⟨hk.2.2.1, hk.2.2.2⟩ h.2.2.2.1)), by first | exact Go.below_drewN HBS.out _ | (rw [hS]; exact Go.below_drewN HBS.out _)⟩
   subst he1
   cases hq1 : rightK b0 ⟨b0, b1, b2, b3, b4, b5⟩ with
   | false =>
     obtain rfl : t1 = false := by rw [ht1 b0 hk.2.2.1 hk.2.2.2 rfl, hq1]
     obtain ⟨V1, hV1⟩ : ∃ V, V = N0.alloc (.cells #[.int .i64 b0, .int .i64 b1, .int .i64 b2, .int .i64 b3, .int .i64 b4, .int .i64 b5] 36) := ⟨_, rfl⟩
     obtain ⟨U1, hU1⟩ : ∃ U, N0.heap.size = U := ⟨_, rfl⟩
     have BS := BS.alloc (Nat.le_of_lt PR.lt) (.cells #[.int .i64 b0, .int .i64 b1, .int .i64 b2, .int .i64 b3, .int .i64 b4, .int .i64 b5] 36)
     have PR := PR.alloc (.cells #[.int .i64 b0, .int .i64 b1, .int .i64 b2, .int .i64 b3, .int .i64 b4, .int .i64 b5] 36)
     have PC := Blk.new N0 [.int .i64 b0, .int .i64 b1, .int .i64 b2, .int .i64 b3, .int .i64 b4, .int .i64 b5] 36
     rw [← hV1] at PR BS PC
     rw [hU1] at PC
     rw [← hV1]
     refine (hp1 V1).mono ?_
     rintro e u1 ⟨rfl, hA1⟩
     have BS := (BS.trans (hA1.mono (Nat.le_of_lt PR.lt))).alloc (Nat.le_trans (Nat.le_of_lt PR.lt) hA1.size) (.cells #[.int .i64 k1', .int .i64 n1', .int .i64 b1', .int .i64 y1', .int .i64 s1', .int .i64 p1'] 36)
     have PC := (PC.below hA1 PC.lt).alloc (.cells #[.int .i64 k1', .int .i64 n1', .int .i64 b1', .int .i64 y1', .int .i64 s1', .int .i64 p1'] 36)
     have PR := (PR.below hA1 PR.lt).alloc (.cells #[.int .i64 k1', .int .i64 n1', .int .i64 b1', .int .i64 y1', .int .i64 s1', .int .i64 p1'] 36)
     obtain ⟨X1, hX1⟩ : ∃ X, X = u1.alloc (.cells #[.int .i64 k1', .int .i64 n1', .int .i64 b1', .int .i64 y1', .int .i64 s1', .int .i64 p1'] 36) := ⟨_, rfl⟩
     rw [← hX1] at PR BS PC
     clear hA1 hV1
     have HX := hide hX1
     have HPR := hide PR; have HBS := hide BS; have HPC := hide PC
     clear hX1 PR BS PC
     go_upto_region 7 with fail
     rw [← HX.out]
     have y0 := (HPC.out 0 _ rfl).1
     have y1 := (HPR.out 0 _ rfl).1
     have y2 := (HPR.out 1 _ rfl).1
     go_quiet (fail)
     clear y0 y1 y2
     go_wp2
     go_ret
     exact ⟨IsB.f (fun h => by have := h.2.2.2.1; rw [hq1] at this; cases this), by first | exact Go.below_drewN HBS.out _ | (rw [hS]; exact Go.below_drewN HBS.out _)⟩
   | true =>
     obtain rfl : t1 = true := by rw [ht1 b0 hk.2.2.1 hk.2.2.2 rfl, hq1]
     obtain ⟨V1, hV1⟩ : ∃ V, V = N0.alloc (.cells #[.int .i64 b0, .int .i64 b1, .int .i64 b2, .int .i64 b3, .int .i64 b4, .int .i64 b5] 36) := ⟨_, rfl⟩
     obtain ⟨U1, hU1⟩ : ∃ U, N0.heap.size = U := ⟨_, rfl⟩
     have BS := BS.alloc (Nat.le_of_lt PR.lt) (.cells #[.int .i64 b0, .int .i64 b1, .int .i64 b2, .int .i64 b3, .int .i64 b4, .int .i64 b5] 36)
     have PR := PR.alloc (.cells #[.int .i64 b0, .int .i64 b1, .int .i64 b2, .int .i64 b3, .int .i64 b4, .int .i64 b5] 36)
     have PC := Blk.new N0 [.int .i64 b0, .int .i64 b1, .int .i64 b2, .int .i64 b3, .int .i64 b4, .int .i64 b5] 36
     rw [← hV1] at PR BS PC
     rw [hU1] at PC
     rw [← hV1]
     refine (hp1 V1).mono ?_
     rintro e u1 ⟨rfl, hA1⟩
     have BS := (BS.trans (hA1.mono (Nat.le_of_lt PR.lt))).alloc (Nat.le_trans (Nat.le_of_lt PR.lt) hA1.size) (.cells #[.int .i64 k1', .int .i64 n1', .int .i64 b1', .int .i64 y1', .int .i64 s1', .int .i64 p1'] 36)
     have PC := (PC.below hA1 PC.lt).alloc (.cells #[.int .i64 k1', .int .i64 n1', .int .i64 b1', .int .i64 y1', .int .i64 s1', .int .i64 p1'] 36)
     have PR := (PR.below hA1 PR.lt).alloc (.cells #[.int .i64 k1', .int .i64 n1', .int .i64 b1', .int .i64 y1', .int .i64 s1', .int .i64 p1'] 36)
     obtain ⟨X1, hX1⟩ : ∃ X, X = u1.alloc (.cells #[.int .i64 k1', .int .i64 n1', .int .i64 b1', .int .i64 y1', .int .i64 s1', .int .i64 p1'] 36) := ⟨_, rfl⟩
     rw [← hX1] at PR BS PC
     clear hA1 hV1
     have HX := hide hX1
     have HPR := hide PR; have HBS := hide BS; have HPC := hide PC
     clear hX1 PR BS PC
     go_upto_region 7 with fail
     rw [← HX.out]
     have y0 := (HPC.out 0 _ rfl).1
     have y1 := (HPR.out 0 _ rfl).1
     have y2 := (HPR.out 1 _ rfl).1
     go_quiet (fail)
     clear y0 y1 y2
     go_wp2
     rw [rounds_succ]
     go_wp2
     go_ret
     exact ⟨IsB.t ⟨hk, hr, hq0, hq1, hx.1, hx.2.1, hx.2.2⟩, by first | exact Go.below_drewN HBS.out _ | (rw [hS]; exact Go.below_drewN HBS.out _)⟩
end Go.Proofs.YtjjikhaaimfneaaGreatDoor
