/-
  THE STATEMENT VerdictTellsSaid: for every input the law returns true, and its arguments read as they did. No condition.
-/
import Derived.Test.YtagbikgfkakbfaaQ48
import Derived.Test.YtagbikgfkakbfaaQ49
import Derived.Test.YtagbikgfkakbfaaRows
import Derived.Test.YtagbikgfkakbfaaQ01
namespace Go.Proofs.Ytagbikgfkakbfaa
open Go.RowKit
set_option linter.unusedSimpArgs false
set_option linter.unusedVariables false
attribute [local go_sem] iteMin iteMax iteMinN iteMaxN
set_option maxRecDepth 100000 in
set_option maxHeartbeats 8000000 in
theorem vtells_no (w : World) (k0 k1 R Q J who ratio kind most er : Int) (hv : VSays k0 k1 R Q J who ratio kind most er) (hk : kind ≠ 2) : Calls Try.prog 4 #[.agg #[.int .i64 k0, .int .i64 k1, .int .i64 R, .int .i64 Q, .int .i64 J], .int .i64 who, .int .i64 ratio] w fun e w' => e = .returned (.bool true) ∧ Below w.heap.size w w' := by
 have HJ := hide (judge_no hv hk)
 have HT := hide (tjudge_v hv)
 clear hv
 have hb1 : ((kind : Int) != 2) = true := by simp; omega
 have hb2 : ((kind : Int) == 2) = false := by simp; omega
 clear hk
 obtain ⟨S, hS⟩ : ∃ S, w.heap.size = S := ⟨_, rfl⟩
 go_enter Try.func4, Try.ntmps4
 go_upto_region 1 with fail
 obtain ⟨W, hW⟩ : ∃ W, W = w.alloc (.cells #[.int .i64 k0, .int .i64 k1, .int .i64 R, .int .i64 Q, .int .i64 J] 24) := ⟨_, rfl⟩
 rw [← hW]
 have R0 : Blk W S [.int .i64 k0, .int .i64 k1, .int .i64 R, .int .i64 Q, .int .i64 J] := by
  have := Blk.new w [.int .i64 k0, .int .i64 k1, .int .i64 R, .int .i64 Q, .int .i64 J] 24
  rw [hW]; simpa [hS] using this
 have BS : Below S w W := by rw [hW, ← hS]; exact (Below.refl _ _).alloc (Nat.le_refl _) _
 clear hW
 obtain ⟨r_0, r_1, r_2, r_3, r_4⟩ := R0.c5
 have H0 := hide R0; have HB := hide BS
 clear R0 BS
 go_wp2_with fail
 refine (HJ.out W).mono ?_
 rintro e w1 ⟨rfl, hA⟩
 clear r_0 r_1 r_2 r_3 r_4 HJ
 obtain ⟨V, hV⟩ : ∃ V, V = w1.alloc (.cells #[.int .i64 kind, .int .i64 most, .slice none 0 0, .slice none 0 0] 33) := ⟨_, rfl⟩
 obtain ⟨T, hT⟩ : ∃ T, w1.heap.size = T := ⟨_, rfl⟩
 have R0 := H0.out.below hA H0.out.lt
 have BS := HB.out.trans (hA.mono (Nat.le_of_lt H0.out.lt))
 have hST : S < T := by have := R0.lt; omega
 have R0 := R0.alloc (.cells #[.int .i64 kind, .int .i64 most, .slice none 0 0, .slice none 0 0] 33)
 have BS := BS.alloc (by omega) (.cells #[.int .i64 kind, .int .i64 most, .slice none 0 0, .slice none 0 0] 33)
 have R1 := Blk.new w1 [.int .i64 kind, .int .i64 most, .slice none 0 0, .slice none 0 0] 33
 rw [← hV] at R0 R1 BS
 rw [hT] at R1
 clear hA H0 HB
 have H0 := hide R0; have H1 := hide R1; have HB := hide BS
 clear R0 R1 BS
 go_upto_region 2 with fail
 (try rw [hT])
 rw [← hV]
 clear hV
 have r_0 := (H0.out 0 _ rfl).1
 have r_1 := (H0.out 1 _ rfl).1
 have r_2 := (H0.out 2 _ rfl).1
 have r_3 := (H0.out 3 _ rfl).1
 have r_4 := (H0.out 4 _ rfl).1
 go_wp2_with fail
 refine (HT.out V).mono ?_
 rintro e w2 ⟨rfl, hA⟩
 clear r_0 r_1 r_2 r_3 r_4 HT
 have R1 := H1.out.below hA H1.out.lt
 have BS := HB.out.trans (hA.mono (Nat.le_of_lt H0.out.lt))
 clear hA H0 H1 HB
 have H1 := hide R1; have HB := hide BS
 clear R1 BS
 have v_0 := (H1.out 0 _ rfl).1
 have v_1 := (H1.out 1 _ rfl).1
 have v_2 := (H1.out 2 _ rfl).1
 have v_3 := (H1.out 3 _ rfl).1
 go_wp2_with fail
 go_ret
 exact ⟨by simp, by rw [hS]; exact HB.out⟩
end Go.Proofs.Ytagbikgfkakbfaa
namespace Go.Proofs.Ytagbikgfkakbfaa
open Go.RowKit
set_option linter.unusedSimpArgs false
set_option linter.unusedVariables false
theorem verdictTellsW (w : World) (k0 k1 R Q J who ratio : Int) : Calls Try.prog 4 #[.agg #[.int .i64 k0, .int .i64 k1, .int .i64 R, .int .i64 Q, .int .i64 J], .int .i64 who, .int .i64 ratio] w fun e w' => e = .returned (.bool true) ∧ Below w.heap.size w w' := by
 obtain ⟨kind, most, er, hv⟩ := vsays_ex k0 k1 R Q J who ratio
 by_cases hk : kind = 2
 · subst hk
   exact vtells_two w k0 k1 R Q J who ratio most er hv
 · exact vtells_no w k0 k1 R Q J who ratio kind most er hv hk
theorem verdictTellsJ {A B C : Prop} (w : World) (k0 k1 R Q J : Int) (_ : A) (who : Int) (_ : B) (ratio : Int) (_ : C) : Calls Try.prog 4 #[.agg #[.int .i64 k0, .int .i64 k1, .int .i64 R, .int .i64 Q, .int .i64 J], .int .i64 who, .int .i64 ratio] w fun e w' => e = .returned (.bool true) ∧ Below w.heap.size w w' := verdictTellsW w k0 k1 R Q J who ratio
end Go.Proofs.Ytagbikgfkakbfaa
namespace Go.Proofs.Ytagbikgfkakbfaa
open Go.RowKit Go.ChangeShapes Go.WideShapes Go.ChangeAt
set_option linter.unusedSimpArgs false
set_option linter.unusedVariables false
namespace verdictTellsLaw
theorem own : ownKnob Try.prog.godebug = none := by kernel_rfl
theorem laidOut : laidOutB Try.prog = true := by kernel_rfl
set_option maxRecDepth 100000 in
set_option maxHeartbeats 1000000 in
theorem lifted (os : Os) (started : os.Started) (H : Type) (enc : TypeId × Value → H) :
 ReturnsInHanded {} Try.checked os 4 .any (Rows.verdictTellsSpec.pre6 enc Try.prog Try.f4 Rows.verdictTellsRow.domain false) (Rows.verdictTellsSpec.post enc Try.prog Try.f4 false true false false) := by
 refine returnsInHanded_of_change_sized (C := Try.checked) own started (by kernel_rfl) Try.func4
  (ChangeSpec.witness6 (enc := enc) (C := Try.checked) false ⟨#[], #[.agg #[.int .i64 0, .int .i64 0, .int .i64 0, .int .i64 0, .int .i64 0], .int .i64 0, .int .i64 0], []⟩ 8 (by kernel_rfl) (by kernel_rfl) (by kernel_rfl) (by kernel_rfl)) ?_
 intro W base args ds gs before hval0 hW hcnd hsz0 _
 have hval : ∀ (j : Nat) t v, Try.f4.params[j]? = some t → args[j]? = some v → Value.okWide Try.prog W .any base t v := hval0
 have hsz : (DataW.weightsEach Try.prog (Try.f4.params.toList ++ Rows.verdictTellsSpec.plain.varTypes Try.prog) (ds ++ gs)).all (· ≤ reachBytes) = true := hsz0
 have hW' := hW
 obtain ⟨p, q, hA0, hV, rfl, hfz, hnd⟩ := hW
 have hA : DataW.TrodAll enc Try.prog W 0 (fun _ => true) true Try.f4.params.toList args.toList ds p := hA0
 rw [Try.params4] at hA hval hsz
 obtain ⟨v0, vs0, d0, ds0, p0, q0, hargs, rfl, rfl, h0, r0⟩ := trodAll_cons hA
 obtain ⟨v1, vs1, d1, ds1, p1, q1, rfl, rfl, rfl, h1, r1⟩ := trodAll_cons r0
 obtain ⟨v2, vs2, d2, ds2, p2, q2, rfl, rfl, rfl, h2, r2⟩ := trodAll_cons r1
 obtain ⟨rfl, rfl, rfl⟩ := trodAll_nil r2
 obtain rfl : args = #[v0, v1, v2] := by cases args; simp_all
 obtain ⟨rfl, rfl⟩ := trodVars_none hV
 have k0 := h0
 have lt0 : ∀ x ∈ p0, x.block < W.heap.size := by obtain ⟨m, hm⟩ := k0; exact DataW.trod_lt m _ _ _ hm
 obtain ⟨l0, hl0, rfl, w0⟩ := open_flat (k := 8) (n := 5) (by kernel_rfl) (by kernel_rfl) (by kernel_rfl) (hval 0 24 v0 rfl rfl) h0
 obtain ⟨x0_0, x0_1, x0_2, x0_3, x0_4, rfl⟩ := len5 hl0
 have k1 := h1
 have lt1 : ∀ x ∈ p1, x.block < W.heap.size := by obtain ⟨m, hm⟩ := k1; exact DataW.trod_lt m _ _ _ hm
 obtain ⟨a1, rfl, rfl, rfl, w1⟩ := open_int Try.underlying3 (hval 1 3 v1 rfl rfl) h1
 have k2 := h2
 have lt2 : ∀ x ∈ p2, x.block < W.heap.size := by obtain ⟨m, hm⟩ := k2; exact DataW.trod_lt m _ _ _ hm
 obtain ⟨a2, rfl, rfl, rfl, w2⟩ := open_int Try.underlying3 (hval 2 3 v2 rfl rfl) h2
 clear hA0 hval0 hsz0
 refine (verdictTellsJ W x0_0 x0_1 x0_2 x0_3 x0_4 w0 a1 w1 a2 w2).mono fun e W' ⟨he, bel⟩ => ?_
 subst he
 exact ⟨_, rfl, _, _, _, [], _, [], hW', trodAll_mk1 (shut_bool Try.underlying4 _), (trodAll_cons_mk (Below.trod laidOut (by kernel_rfl) (of_decide_eq_true (by kernel_rfl)) k0 bel lt0) (trodAll_cons_mk (Below.trod laidOut (by kernel_rfl) (of_decide_eq_true (by kernel_rfl)) k1 bel lt1) (trodAll_cons_mk (Below.trod laidOut (by kernel_rfl) (of_decide_eq_true (by kernel_rfl)) k2 bel lt2) trodAll_mk0))), rfl, bel.frame _, fun h => by cases h⟩
theorem holds : Rows.VerdictTellsSaid :=
 OpenClaim.holds_of_wide 4 Try.f4 rfl rfl rfl rfl rfl rfl rfl ⟨rfl, rfl, rfl, rfl, rfl⟩ rfl rfl rfl rfl rfl (by kernel_rfl) Try.func4 (by kernel_rfl)
  (of_decide_eq_true (by kernel_rfl)) (by unfold Func.isWrapper; first | (rw [if_pos (by decide +kernel)]; kernel_rfl) | (rw [if_neg (by decide +kernel)]; exact ⟨rfl, rfl⟩))
  (fun os started H enc _ => lifted os started H enc)
end verdictTellsLaw
end Go.Proofs.Ytagbikgfkakbfaa
