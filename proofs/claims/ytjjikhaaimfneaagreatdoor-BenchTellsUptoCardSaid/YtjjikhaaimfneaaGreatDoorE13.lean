/-
  Lemmas and walks for the statement: Duel7.
-/
import Derived.Test.YtjjikhaaimfneaaGreatDoorE12
import Derived.Test.YtjjikhaaimfneaaGreatDoorE05
import Derived.Deep.DeepCutAuto
import Derived.Shelf.Abstract
namespace Go.Proofs.YtjjikhaaimfneaaGreatDoor
open Go.RowKit
set_option linter.unusedSimpArgs false
set_option linter.unusedVariables false
attribute [local go_sem] iteMin iteMax iteMinN iteMaxN
def StRight (k0 k1 R Q J a0 a1 a2 a3 a4 a5 b0 b1 b2 b3 b4 b5 x y : Int) : Prop := kindsOk k0 k1 ∧ rangeOk R Q J ∧ rightK k0 ⟨a0, a1, a2, a3, a4, a5⟩ = true ∧ rightK k1 ⟨b0, b1, b2, b3, b4, b5⟩ = true ∧ 0 ≤ x ∧ 0 ≤ y ∧ x + y ≤ Q
set_option maxRecDepth 100000 in
set_option maxHeartbeats 8000000 in
theorem dright_any (k0 k1 R Q J a0 a1 a2 a3 a4 a5 b0 b1 b2 b3 b4 b5 x y : Int) (w : World) : Calls Tryz.prog 89 #[.agg #[.int .i64 k0, .int .i64 k1, .int .i64 R, .int .i64 Q, .int .i64 J], .agg #[.int .i64 a0, .int .i64 a1, .int .i64 a2, .int .i64 a3, .int .i64 a4, .int .i64 a5, .int .i64 b0, .int .i64 b1, .int .i64 b2, .int .i64 b3, .int .i64 b4, .int .i64 b5, .int .i64 x, .int .i64 y]] w fun e w' => IsB (StRight k0 k1 R Q J a0 a1 a2 a3 a4 a5 b0 b1 b2 b3 b4 b5 x y) e ∧ Below w.heap.size w w' := by
 obtain ⟨S, hS⟩ : ∃ S, w.heap.size = S := ⟨_, rfl⟩
 have i0 : ∀ w : World, (Instr.index 47 (.agg #[.int .i64 k0, .int .i64 k1]) (.int .i64 0)).run Tryz.prog w = .ok (.int .i64 k0) w := fun _ => by kernel_rfl
 have i1 : ∀ w : World, (Instr.index 47 (.agg #[.int .i64 k0, .int .i64 k1]) (.int .i64 1)).run Tryz.prog w = .ok (.int .i64 k1) w := fun _ => by kernel_rfl
 go_enter Tryz.func89, Tryz.ntmps89
 go_wp2_with fail
 obtain ⟨W, hW⟩ : ∃ W, W = (w.alloc (.cells #[.int .i64 k0, .int .i64 k1, .int .i64 R, .int .i64 Q, .int .i64 J] 49)).alloc (.cells #[.int .i64 a0, .int .i64 a1, .int .i64 a2, .int .i64 a3, .int .i64 a4, .int .i64 a5, .int .i64 b0, .int .i64 b1, .int .i64 b2, .int .i64 b3, .int .i64 b4, .int .i64 b5, .int .i64 x, .int .i64 y] 133) := ⟨_, rfl⟩
 rw [← hW]
 have PR : Blk W S [.int .i64 k0, .int .i64 k1, .int .i64 R, .int .i64 Q, .int .i64 J] := by
  have := (Blk.new w [.int .i64 k0, .int .i64 k1, .int .i64 R, .int .i64 Q, .int .i64 J] 49).alloc (.cells #[.int .i64 a0, .int .i64 a1, .int .i64 a2, .int .i64 a3, .int .i64 a4, .int .i64 a5, .int .i64 b0, .int .i64 b1, .int .i64 b2, .int .i64 b3, .int .i64 b4, .int .i64 b5, .int .i64 x, .int .i64 y] 133)
  rw [hW]; simpa [hS] using this
 have PS : Blk W (S + 1) [.int .i64 a0, .int .i64 a1, .int .i64 a2, .int .i64 a3, .int .i64 a4, .int .i64 a5, .int .i64 b0, .int .i64 b1, .int .i64 b2, .int .i64 b3, .int .i64 b4, .int .i64 b5, .int .i64 x, .int .i64 y] := by
  have := Blk.new (w.alloc (.cells #[.int .i64 k0, .int .i64 k1, .int .i64 R, .int .i64 Q, .int .i64 J] 49)) [.int .i64 a0, .int .i64 a1, .int .i64 a2, .int .i64 a3, .int .i64 a4, .int .i64 a5, .int .i64 b0, .int .i64 b1, .int .i64 b2, .int .i64 b3, .int .i64 b4, .int .i64 b5, .int .i64 x, .int .i64 y] 133
  rw [hW]; simpa [hS] using this
 have BS : Below S w W := by rw [hW, ← hS]; exact ((Below.refl _ _).alloc (Nat.le_refl _) _).alloc (by simp) _
 clear hW
 refine (dwrong_any k0 k1 R Q J W).mono ?_
 rintro e w1 ⟨⟨r, rfl, hw⟩, hB1⟩
 have BS := BS.trans (hB1.mono (by have := PR.lt; omega))
 have PR := PR.below hB1 PR.lt
 have PS := PS.below hB1 PS.lt
 clear hB1
 by_cases hok : kindsOk k0 k1 ∧ rangeOk R Q J
 case neg =>
  have h0 : (r == 0) = false := by
   rcases hw with ⟨_, rfl⟩ | ⟨_, _, rfl⟩ | ⟨h1, h2, _⟩
   · rfl
   · rfl
   · exact absurd ⟨h1, h2⟩ hok
  have HBS := hide BS
  have HNO := hide hok
  clear PR PS BS hw hok
  go_wp2
  go_ret
  exact ⟨IsB.f (fun h => HNO.out ⟨h.1, h.2.1⟩), by first | exact HBS.out | (rw [hS]; exact HBS.out)⟩
 obtain ⟨hk, hr⟩ := hok
 obtain rfl : r = 0 := wrongSays_one hw (.inr (.inr ⟨hk, hr, rfl⟩))
 clear hw
 obtain ⟨f0, g0, h0, HK0, hof0⟩ := of_gen k0 hk.1 hk.2.1
 obtain ⟨f1, g1, h1, HK1, hof1⟩ := of_gen k1 hk.2.2.1 hk.2.2.2
 have HOF0 := hide hof0; have HOF1 := hide hof1
 have c0 := (PR 0 _ rfl).1
 have c1 := (PR 1 _ rfl).1
 have HPR := hide PR; have HPS := hide PS; have HBS := hide BS
 clear PR PS BS hof0 hof1
 go_wp2_with fail
 refine wp_loop_rounds 3 ?_
 rw [rounds_succ]
 go_wp2_with fail
 have PR := HPR.out; have PS := HPS.out; have BS := HBS.out
 clear HPR HPS HBS c0 c1
 have hof0 := HOF0.out
 cases hr0 : rightK k0 ⟨a0, a1, a2, a3, a4, a5⟩ with
 | false =>
   refine (hof0 w1).mono ?_
   rintro e u0 ⟨rfl, hA0⟩
   obtain ⟨V0, hV0⟩ : ∃ V, V = u0.alloc (.cells #[.func (.func f0) #[] #[], .func (.func g0) #[] #[], .func (.func h0) #[] #[]] 154) := ⟨_, rfl⟩
   obtain ⟨U0, hU0⟩ : ∃ U, u0.heap.size = U := ⟨_, rfl⟩
   have BS := (BS.trans (hA0.mono (Nat.le_of_lt PR.lt))).alloc (Nat.le_trans (Nat.le_of_lt PR.lt) hA0.size) (.cells #[.func (.func f0) #[] #[], .func (.func g0) #[] #[], .func (.func h0) #[] #[]] 154)
   have PR := (PR.below hA0 PR.lt).alloc (.cells #[.func (.func f0) #[] #[], .func (.func g0) #[] #[], .func (.func h0) #[] #[]] 154)
   have PS := (PS.below hA0 PS.lt).alloc (.cells #[.func (.func f0) #[] #[], .func (.func g0) #[] #[], .func (.func h0) #[] #[]] 154)
   have PC := Blk.new u0 [.func (.func f0) #[] #[], .func (.func g0) #[] #[], .func (.func h0) #[] #[]] 154
   rw [← hV0] at PR PS BS PC
   rw [hU0] at PC
   have HV := hide hV0
   have HPR := hide PR; have HPS := hide PS; have HBS := hide BS; have HPC := hide PC
   clear hV0 PR PS BS PC hA0
   go_upto_region 7 with fail
   rw [← HV.out]
   have eg := HK0.out.2.1
   unfold EntersF at eg
   have HRG := hide (fun w => HK0.out.2.2.2.2.1 a0 a1 a2 a3 a4 a5 w)
   rw [hr0] at HRG
   have F0_0 : ∀ q : Beyond V0, q.w.cell? ⟨U0, 1, none⟩ = some (.func (.func g0) #[] #[]) := fun q => q.cell HPC.out.lt (HPC.out 1 _ rfl).1
   obtain ⟨F0_1, F0_2, F0_3, F0_4, F0_5, F0_6, F0_7, F0_8, F0_9, F0_10, F0_11, F0_12, F0_13, F0_14⟩ := HPS.out.by14
   refine wp_region_beyond (by kernel_rfl) (by kernel_rfl) ?_
   repeat (first | go_big_quiet_step (first | (go_at_fn g0; exact beyondCall (HRG.out _))) | quiet_step (first | (go_at_fn g0; exact beyondCall (HRG.out _))))
   refine wpQuiet_nil ?_
   intro _ hw'
   obtain ⟨pq0, hw''⟩ := hw'
   subst hw''
   clear eg HRG F0_0 F0_1 F0_2 F0_3 F0_4 F0_5 F0_6 F0_7 F0_8 F0_9 F0_10 F0_11 F0_12 F0_13 F0_14
   go_wp2
   go_ret
   exact ⟨IsB.f (fun h => by have := h.2.2.1; rw [hr0] at this; cases this), by first | exact HBS.out.trans (pq0.h.mono (by have := HBS.out.size; omega)) | (rw [hS]; exact HBS.out.trans (pq0.h.mono (by have := HBS.out.size; omega)))⟩
 | true =>
   rcases Int.lt_or_le x 0 with hx0 | hx0
   · refine (hof0 w1).mono ?_
     rintro e u0 ⟨rfl, hA0⟩
     obtain ⟨V0, hV0⟩ : ∃ V, V = u0.alloc (.cells #[.func (.func f0) #[] #[], .func (.func g0) #[] #[], .func (.func h0) #[] #[]] 154) := ⟨_, rfl⟩
     obtain ⟨U0, hU0⟩ : ∃ U, u0.heap.size = U := ⟨_, rfl⟩
     have BS := (BS.trans (hA0.mono (Nat.le_of_lt PR.lt))).alloc (Nat.le_trans (Nat.le_of_lt PR.lt) hA0.size) (.cells #[.func (.func f0) #[] #[], .func (.func g0) #[] #[], .func (.func h0) #[] #[]] 154)
     have PR := (PR.below hA0 PR.lt).alloc (.cells #[.func (.func f0) #[] #[], .func (.func g0) #[] #[], .func (.func h0) #[] #[]] 154)
     have PS := (PS.below hA0 PS.lt).alloc (.cells #[.func (.func f0) #[] #[], .func (.func g0) #[] #[], .func (.func h0) #[] #[]] 154)
     have PC := Blk.new u0 [.func (.func f0) #[] #[], .func (.func g0) #[] #[], .func (.func h0) #[] #[]] 154
     rw [← hV0] at PR PS BS PC
     rw [hU0] at PC
     have HV := hide hV0
     have HPR := hide PR; have HPS := hide PS; have HBS := hide BS; have HPC := hide PC
     clear hV0 PR PS BS PC hA0
     go_upto_region 7 with fail
     rw [← HV.out]
     have eg := HK0.out.2.1
     unfold EntersF at eg
     have HRG := hide (fun w => HK0.out.2.2.2.2.1 a0 a1 a2 a3 a4 a5 w)
     rw [hr0] at HRG
     have F0_0 : ∀ q : Beyond V0, q.w.cell? ⟨U0, 1, none⟩ = some (.func (.func g0) #[] #[]) := fun q => q.cell HPC.out.lt (HPC.out 1 _ rfl).1
     obtain ⟨F0_1, F0_2, F0_3, F0_4, F0_5, F0_6, F0_7, F0_8, F0_9, F0_10, F0_11, F0_12, F0_13, F0_14⟩ := HPS.out.by14
     refine wp_region_beyond (by kernel_rfl) (by kernel_rfl) ?_
     repeat (first | go_big_quiet_step (first | (go_at_fn g0; exact beyondCall (HRG.out _))) | quiet_step (first | (go_at_fn g0; exact beyondCall (HRG.out _))))
     refine wpQuiet_nil ?_
     intro _ hw'
     obtain ⟨pq0, hw''⟩ := hw'
     subst hw''
     clear eg HRG F0_0 F0_1 F0_2 F0_3 F0_4 F0_5 F0_6 F0_7 F0_8 F0_9 F0_10 F0_11 F0_12 F0_13 F0_14
     go_wp2
     go_ret
     exact ⟨IsB.f (fun h => by have := h.2.2.2.2.1; omega), by first | exact HBS.out.trans (pq0.h.mono (by have := HBS.out.size; omega)) | (rw [hS]; exact HBS.out.trans (pq0.h.mono (by have := HBS.out.size; omega)))⟩
   · refine (hof0 w1).mono ?_
     rintro e u0 ⟨rfl, hA0⟩
     obtain ⟨V0, hV0⟩ : ∃ V, V = u0.alloc (.cells #[.func (.func f0) #[] #[], .func (.func g0) #[] #[], .func (.func h0) #[] #[]] 154) := ⟨_, rfl⟩
     obtain ⟨U0, hU0⟩ : ∃ U, u0.heap.size = U := ⟨_, rfl⟩
     have BS := (BS.trans (hA0.mono (Nat.le_of_lt PR.lt))).alloc (Nat.le_trans (Nat.le_of_lt PR.lt) hA0.size) (.cells #[.func (.func f0) #[] #[], .func (.func g0) #[] #[], .func (.func h0) #[] #[]] 154)
     have PR := (PR.below hA0 PR.lt).alloc (.cells #[.func (.func f0) #[] #[], .func (.func g0) #[] #[], .func (.func h0) #[] #[]] 154)
     have PS := (PS.below hA0 PS.lt).alloc (.cells #[.func (.func f0) #[] #[], .func (.func g0) #[] #[], .func (.func h0) #[] #[]] 154)
     have PC := Blk.new u0 [.func (.func f0) #[] #[], .func (.func g0) #[] #[], .func (.func h0) #[] #[]] 154
     rw [← hV0] at PR PS BS PC
     rw [hU0] at PC
     have HV := hide hV0
     have HPR := hide PR; have HPS := hide PS; have HBS := hide BS; have HPC := hide PC
     clear hV0 PR PS BS PC hA0
     go_upto_region 7 with fail
     rw [← HV.out]
     have eg := HK0.out.2.1
     unfold EntersF at eg
     have HRG := hide (fun w => HK0.out.2.2.2.2.1 a0 a1 a2 a3 a4 a5 w)
     rw [hr0] at HRG
     have F0_0 : ∀ q : Beyond V0, q.w.cell? ⟨U0, 1, none⟩ = some (.func (.func g0) #[] #[]) := fun q => q.cell HPC.out.lt (HPC.out 1 _ rfl).1
     obtain ⟨F0_1, F0_2, F0_3, F0_4, F0_5, F0_6, F0_7, F0_8, F0_9, F0_10, F0_11, F0_12, F0_13, F0_14⟩ := HPS.out.by14
     refine wp_region_beyond (by kernel_rfl) (by kernel_rfl) ?_
     repeat (first | go_big_quiet_step (first | (go_at_fn g0; exact beyondCall (HRG.out _))) | quiet_step (first | (go_at_fn g0; exact beyondCall (HRG.out _))))
     refine wpQuiet_nil ?_
     intro _ hw'
     obtain ⟨pq0, hw''⟩ := hw'
     subst hw''
     clear eg HRG F0_0 F0_1 F0_2 F0_3 F0_4 F0_5 F0_6 F0_7 F0_8 F0_9 F0_10 F0_11 F0_12 F0_13 F0_14
     have PR := HPR.out.below pq0.h HPR.out.lt
     have PS := HPS.out.below pq0.h HPS.out.lt
     have BS := HBS.out.trans (pq0.h.mono (by have := HBS.out.size; omega))
     obtain ⟨N0, hN0⟩ : ∃ N, pq0.w = N := ⟨_, rfl⟩
     rw [hN0] at PR PS BS ⊢
     clear hN0 HPR HPS HBS HPC HV hU0 pq0
     have HPR := hide PR; have HPS := hide PS; have HBS := hide BS
     clear PR PS BS
     go_wp2_with fail
     rw [rounds_succ]
     go_wp2_with fail
     have PR := HPR.out; have PS := HPS.out; have BS := HBS.out
     clear HPR HPS HBS
     have hof1 := HOF1.out
     cases hr1 : rightK k1 ⟨b0, b1, b2, b3, b4, b5⟩ with
     | false =>
       refine (hof1 N0).mono ?_
       rintro e u1 ⟨rfl, hA1⟩
       obtain ⟨V1, hV1⟩ : ∃ V, V = u1.alloc (.cells #[.func (.func f1) #[] #[], .func (.func g1) #[] #[], .func (.func h1) #[] #[]] 154) := ⟨_, rfl⟩
       obtain ⟨U1, hU1⟩ : ∃ U, u1.heap.size = U := ⟨_, rfl⟩
       have BS := (BS.trans (hA1.mono (Nat.le_of_lt PR.lt))).alloc (Nat.le_trans (Nat.le_of_lt PR.lt) hA1.size) (.cells #[.func (.func f1) #[] #[], .func (.func g1) #[] #[], .func (.func h1) #[] #[]] 154)
       have PR := (PR.below hA1 PR.lt).alloc (.cells #[.func (.func f1) #[] #[], .func (.func g1) #[] #[], .func (.func h1) #[] #[]] 154)
       have PS := (PS.below hA1 PS.lt).alloc (.cells #[.func (.func f1) #[] #[], .func (.func g1) #[] #[], .func (.func h1) #[] #[]] 154)
       have PC := Blk.new u1 [.func (.func f1) #[] #[], .func (.func g1) #[] #[], .func (.func h1) #[] #[]] 154
       rw [← hV1] at PR PS BS PC
       rw [hU1] at PC
       have HV := hide hV1
       have HPR := hide PR; have HPS := hide PS; have HBS := hide BS; have HPC := hide PC
       clear hV1 PR PS BS PC hA1
       go_upto_region 7 with fail
       rw [← HV.out]
       have eg := HK1.out.2.1
       unfold EntersF at eg
       have HRG := hide (fun w => HK1.out.2.2.2.2.1 b0 b1 b2 b3 b4 b5 w)
       rw [hr1] at HRG
       have F1_0 : ∀ q : Beyond V1, q.w.cell? ⟨U1, 1, none⟩ = some (.func (.func g1) #[] #[]) := fun q => q.cell HPC.out.lt (HPC.out 1 _ rfl).1
       obtain ⟨F1_1, F1_2, F1_3, F1_4, F1_5, F1_6, F1_7, F1_8, F1_9, F1_10, F1_11, F1_12, F1_13, F1_14⟩ := HPS.out.by14
       refine wp_region_beyond (by kernel_rfl) (by kernel_rfl) ?_
       repeat (first | go_big_quiet_step (first | (go_at_fn g1; exact beyondCall (HRG.out _))) | quiet_step (first | (go_at_fn g1; exact beyondCall (HRG.out _))))
       refine wpQuiet_nil ?_
       intro _ hw'
       obtain ⟨pq1, hw''⟩ := hw'
       subst hw''
       clear eg HRG F1_0 F1_1 F1_2 F1_3 F1_4 F1_5 F1_6 F1_7 F1_8 F1_9 F1_10 F1_11 F1_12 F1_13 F1_14
       go_wp2
       go_ret
       exact ⟨IsB.f (fun h => by have := h.2.2.2.1; rw [hr1] at this; cases this), by first | exact HBS.out.trans (pq1.h.mono (by have := HBS.out.size; omega)) | (rw [hS]; exact HBS.out.trans (pq1.h.mono (by have := HBS.out.size; omega)))⟩
     | true =>
       rcases Int.lt_or_le y 0 with hx1 | hx1
       · refine (hof1 N0).mono ?_
         rintro e u1 ⟨rfl, hA1⟩
         obtain ⟨V1, hV1⟩ : ∃ V, V = u1.alloc (.cells #[.func (.func f1) #[] #[], .func (.func g1) #[] #[], .func (.func h1) #[] #[]] 154) := ⟨_, rfl⟩
         obtain ⟨U1, hU1⟩ : ∃ U, u1.heap.size = U := ⟨_, rfl⟩
         have BS := (BS.trans (hA1.mono (Nat.le_of_lt PR.lt))).alloc (Nat.le_trans (Nat.le_of_lt PR.lt) hA1.size) (.cells #[.func (.func f1) #[] #[], .func (.func g1) #[] #[], .func (.func h1) #[] #[]] 154)
         have PR := (PR.below hA1 PR.lt).alloc (.cells #[.func (.func f1) #[] #[], .func (.func g1) #[] #[], .func (.func h1) #[] #[]] 154)
         have PS := (PS.below hA1 PS.lt).alloc (.cells #[.func (.func f1) #[] #[], .func (.func g1) #[] #[], .func (.func h1) #[] #[]] 154)
         have PC := Blk.new u1 [.func (.func f1) #[] #[], .func (.func g1) #[] #[], .func (.func h1) #[] #[]] 154
         rw [← hV1] at PR PS BS PC
         rw [hU1] at PC
         have HV := hide hV1
         have HPR := hide PR; have HPS := hide PS; have HBS := hide BS; have HPC := hide PC
         clear hV1 PR PS BS PC hA1
         go_upto_region 7 with fail
         rw [← HV.out]
         have eg := HK1.out.2.1
         unfold EntersF at eg
         have HRG := hide (fun w => HK1.out.2.2.2.2.1 b0 b1 b2 b3 b4 b5 w)
         rw [hr1] at HRG
         have F1_0 : ∀ q : Beyond V1, q.w.cell? ⟨U1, 1, none⟩ = some (.func (.func g1) #[] #[]) := fun q => q.cell HPC.out.lt (HPC.out 1 _ rfl).1
         obtain ⟨F1_1, F1_2, F1_3, F1_4, F1_5, F1_6, F1_7, F1_8, F1_9, F1_10, F1_11, F1_12, F1_13, F1_14⟩ := HPS.out.by14
         refine wp_region_beyond (by kernel_rfl) (by kernel_rfl) ?_
         repeat (first | go_big_quiet_step (first | (go_at_fn g1; exact beyondCall (HRG.out _))) | quiet_step (first | (go_at_fn g1; exact beyondCall (HRG.out _))))
         refine wpQuiet_nil ?_
         intro _ hw'
         obtain ⟨pq1, hw''⟩ := hw'
         subst hw''
         clear eg HRG F1_0 F1_1 F1_2 F1_3 F1_4 F1_5 F1_6 F1_7 F1_8 F1_9 F1_10 F1_11 F1_12 F1_13 F1_14
         go_wp2
         go_ret
         exact ⟨IsB.f (fun h => by have := h.2.2.2.2.2.1; omega), by first | exact HBS.out.trans (pq1.h.mono (by have := HBS.out.size; omega)) | (rw [hS]; exact HBS.out.trans (pq1.h.mono (by have := HBS.out.size; omega)))⟩
       · refine (hof1 N0).mono ?_
         rintro e u1 ⟨rfl, hA1⟩
         obtain ⟨V1, hV1⟩ : ∃ V, V = u1.alloc (.cells #[.func (.func f1) #[] #[], .func (.func g1) #[] #[], .func (.func h1) #[] #[]] 154) := ⟨_, rfl⟩
         obtain ⟨U1, hU1⟩ : ∃ U, u1.heap.size = U := ⟨_, rfl⟩
         have BS := (BS.trans (hA1.mono (Nat.le_of_lt PR.lt))).alloc (Nat.le_trans (Nat.le_of_lt PR.lt) hA1.size) (.cells #[.func (.func f1) #[] #[], .func (.func g1) #[] #[], .func (.func h1) #[] #[]] 154)
         have PR := (PR.below hA1 PR.lt).alloc (.cells #[.func (.func f1) #[] #[], .func (.func g1) #[] #[], .func (.func h1) #[] #[]] 154)
         have PS := (PS.below hA1 PS.lt).alloc (.cells #[.func (.func f1) #[] #[], .func (.func g1) #[] #[], .func (.func h1) #[] #[]] 154)
         have PC := Blk.new u1 [.func (.func f1) #[] #[], .func (.func g1) #[] #[], .func (.func h1) #[] #[]] 154
         rw [← hV1] at PR PS BS PC
         rw [hU1] at PC
         have HV := hide hV1
         have HPR := hide PR; have HPS := hide PS; have HBS := hide BS; have HPC := hide PC
         clear hV1 PR PS BS PC hA1
         go_upto_region 7 with fail
         rw [← HV.out]
         have eg := HK1.out.2.1
         unfold EntersF at eg
         have HRG := hide (fun w => HK1.out.2.2.2.2.1 b0 b1 b2 b3 b4 b5 w)
         rw [hr1] at HRG
         have F1_0 : ∀ q : Beyond V1, q.w.cell? ⟨U1, 1, none⟩ = some (.func (.func g1) #[] #[]) := fun q => q.cell HPC.out.lt (HPC.out 1 _ rfl).1
         obtain ⟨F1_1, F1_2, F1_3, F1_4, F1_5, F1_6, F1_7, F1_8, F1_9, F1_10, F1_11, F1_12, F1_13, F1_14⟩ := HPS.out.by14
         refine wp_region_beyond (by kernel_rfl) (by kernel_rfl) ?_
         repeat (first | go_big_quiet_step (first | (go_at_fn g1; exact beyondCall (HRG.out _))) | quiet_step (first | (go_at_fn g1; exact beyondCall (HRG.out _))))
         refine wpQuiet_nil ?_
         intro _ hw'
         obtain ⟨pq1, hw''⟩ := hw'
         subst hw''
         clear eg HRG F1_0 F1_1 F1_2 F1_3 F1_4 F1_5 F1_6 F1_7 F1_8 F1_9 F1_10 F1_11 F1_12 F1_13 F1_14
         have PR := HPR.out.below pq1.h HPR.out.lt
         have PS := HPS.out.below pq1.h HPS.out.lt
         have BS := HBS.out.trans (pq1.h.mono (by have := HBS.out.size; omega))
         obtain ⟨N1, hN1⟩ : ∃ N, pq1.w = N := ⟨_, rfl⟩
         rw [hN1] at PR PS BS ⊢
         clear hN1 HPR HPS HBS HPC HV hU1 pq1
         have HPR := hide PR; have HPS := hide PS; have HBS := hide BS
         have d2 := (PR 3 _ rfl).1
         have e12 := (PS 12 _ rfl).1
         have e13 := (PS 13 _ rfl).1
         clear PR PS BS
         by_cases hm : max x y ≤ Q
         case neg => (go_wp2; rw [rounds_succ]; go_wp2; go_ret; exact ⟨by first | exact IsB.f (fun h => by have := h.2.2.2.2.2.2; omega) | exact IsB.d (by simp [StRight]; omega), by first | exact HBS.out | (rw [hS]; exact HBS.out)⟩)
         have hr' := hr
         unfold rangeOk at hr'
         have hQ1 : Q ≤ 16 := by omega
         by_cases hs' : x + y ≤ Q
         case neg => (go_wp2; rw [rounds_succ]; go_wp2; go_ret; exact ⟨by first | exact IsB.f (fun h => by have := h.2.2.2.2.2.2; omega) | exact IsB.d (by simp [StRight]; omega), by first | exact HBS.out | (rw [hS]; exact HBS.out)⟩)
         go_wp2
         rw [rounds_succ]
         go_wp2
         go_ret
         exact ⟨by first | exact IsB.t ⟨hk, hr, hr0, hr1, hx0, hx1, hs'⟩ | exact IsB.d (by simp [StRight, hk, hr, hr0, hr1, hx0, hx1, hs']), by first | exact HBS.out | (rw [hS]; exact HBS.out)⟩
end Go.Proofs.YtjjikhaaimfneaaGreatDoor
