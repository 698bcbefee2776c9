/-
  THE STATEMENT SteadyTellsSaid: for every input the law returns true, and its arguments read as they did. No condition.
-/
import Derived.Test.YtmmjopmffpfccaaQ48
import Derived.Test.YtmmjopmffpfccaaQ49
import Derived.Test.YtmmjopmffpfccaaQ51
import Derived.Test.YtmmjopmffpfccaaQ52
import Derived.Test.YtmmjopmffpfccaaRows
import Derived.Test.YtmmjopmffpfccaaQ01
namespace Go.Proofs.Ytmmjopmffpfccaa
open Go.RowKit
set_option linter.unusedSimpArgs false
set_option linter.unusedVariables false
theorem args_cases (who ratio : Int) : (0 ≤ who ∧ who ≤ 1 ∧ 1 ≤ ratio ∧ ratio ≤ 100) ∨ who < 0 ∨ (0 ≤ who ∧ 1 < who) ∨ (0 ≤ who ∧ who ≤ 1 ∧ ratio < 1) ∨ (0 ≤ who ∧ who ≤ 1 ∧ 1 ≤ ratio ∧ 100 < ratio) := by omega
theorem steadyTellsW (k0 k1 R Q J n who ratio : Int) (w : World) : Calls Try.prog 5 #[.agg #[.int .i64 k0, .int .i64 k1, .int .i64 R, .int .i64 Q, .int .i64 J], .int .i64 n, .int .i64 who, .int .i64 ratio] w fun e w' => e = .returned (.bool true) ∧ Below w.heap.size w w' := by
 rcases st_cases k0 k1 R Q J with ⟨r, hr, h1, h2, h3, h4⟩ | ⟨X, ⟨hok, q, hq, hq3, hfl⟩, hm0, hm3, h1, h2, h3, h4⟩
 · rcases args_cases who ratio with h | h | h | h | h
   · exact steady_bad0 k0 k1 R Q J n who ratio r r w hr rfl h.1 h.2.1 h.2.2.1 h.2.2.2 h1 h2 h3 (fun w => h4 who ratio w h)
   all_goals exact steady_bad1 k0 k1 R Q J n who ratio r 2 w hr rfl (by unfold badArgs; omega) h1 h2 h3 (fun w => graph_range k0 k1 R Q J who ratio w (by omega))
 · have hl : ∀ E ∈ X.edges, 0 ≤ E.l.x ∧ E.l.x ≤ 3 ∧ 0 ≤ E.l.y ∧ E.l.y ≤ 3 := fun E hE => by have := edge_late hfl hE; omega
   rcases args_cases who ratio with h | h | h | h | h
   · exact steady_good5 k0 k1 R Q J n who ratio X _ _ w hok rfl rfl hm0 hm3 hl h.1 h.2.1 h.2.2.1 h.2.2.2 h1 h2 h3 (fun w => h4 who ratio w h)
   all_goals exact steady_good1 k0 k1 R Q J n who ratio X _ _ w hok rfl rfl hm0 hm3 hl (by unfold badArgs; omega) h1 h2 h3 (fun w => graph_range k0 k1 R Q J who ratio w (by omega))
end Go.Proofs.Ytmmjopmffpfccaa
namespace Go.Proofs.Ytmmjopmffpfccaa
open Go.RowKit Go.ChangeShapes Go.WideShapes Go.ChangeAt
set_option linter.unusedSimpArgs false
set_option linter.unusedVariables false
namespace steadyTellsLaw
theorem own : ownKnob Try.prog.godebug = none := by kernel_rfl
theorem laidOut : laidOutB Try.prog = true := by kernel_rfl
set_option maxRecDepth 100000 in
set_option maxHeartbeats 1000000 in
theorem lifted (os : Os) (started : os.Started) (H : Type) (enc : TypeId × Value → H) :
 ReturnsInHanded {} Try.checked os 5 .any (Rows.steadyTellsSpec.pre6 enc Try.prog Try.f5 Rows.steadyTellsRow.domain false) (Rows.steadyTellsSpec.post enc Try.prog Try.f5 false true false false) := by
 refine returnsInHanded_of_change_sized (C := Try.checked) own started (by kernel_rfl) Try.func5
  (ChangeSpec.witness6 (enc := enc) (C := Try.checked) false ⟨#[], #[.agg #[.int .i64 0, .int .i64 0, .int .i64 0, .int .i64 0, .int .i64 0], .int .i64 0, .int .i64 0, .int .i64 0], []⟩ 8 (by kernel_rfl) (by kernel_rfl) (by kernel_rfl) (by kernel_rfl)) ?_
 intro W base args ds gs before hval0 hW hcnd hsz0 _
 have hval : ∀ (j : Nat) t v, Try.f5.params[j]? = some t → args[j]? = some v → Value.okWide Try.prog W .any base t v := hval0
 have hsz : (DataW.weightsEach Try.prog (Try.f5.params.toList ++ Rows.steadyTellsSpec.plain.varTypes Try.prog) (ds ++ gs)).all (· ≤ reachBytes) = true := hsz0
 have hW' := hW
 obtain ⟨p, q, hA0, hV, rfl, hfz, hnd⟩ := hW
 have hA : DataW.TrodAll enc Try.prog W 0 (fun _ => true) true Try.f5.params.toList args.toList ds p := hA0
 rw [Try.params5] at hA hval hsz
 obtain ⟨v0, vs0, d0, ds0, p0, q0, hargs, rfl, rfl, h0, r0⟩ := trodAll_cons hA
 obtain ⟨v1, vs1, d1, ds1, p1, q1, rfl, rfl, rfl, h1, r1⟩ := trodAll_cons r0
 obtain ⟨v2, vs2, d2, ds2, p2, q2, rfl, rfl, rfl, h2, r2⟩ := trodAll_cons r1
 obtain ⟨v3, vs3, d3, ds3, p3, q3, rfl, rfl, rfl, h3, r3⟩ := trodAll_cons r2
 obtain ⟨rfl, rfl, rfl⟩ := trodAll_nil r3
 obtain rfl : args = #[v0, v1, v2, v3] := by cases args; simp_all
 obtain ⟨rfl, rfl⟩ := trodVars_none hV
 have k0 := h0
 have lt0 : ∀ x ∈ p0, x.block < W.heap.size := by obtain ⟨m, hm⟩ := k0; exact DataW.trod_lt m _ _ _ hm
 obtain ⟨l0, hl0, rfl, w0⟩ := open_flat (k := 8) (n := 5) (by kernel_rfl) (by kernel_rfl) (by kernel_rfl) (hval 0 24 v0 rfl rfl) h0
 obtain ⟨x0_0, x0_1, x0_2, x0_3, x0_4, rfl⟩ := len5 hl0
 have k1 := h1
 have lt1 : ∀ x ∈ p1, x.block < W.heap.size := by obtain ⟨m, hm⟩ := k1; exact DataW.trod_lt m _ _ _ hm
 obtain ⟨a1, rfl, rfl, rfl, w1⟩ := open_int Try.underlying3 (hval 1 3 v1 rfl rfl) h1
 have k2 := h2
 have lt2 : ∀ x ∈ p2, x.block < W.heap.size := by obtain ⟨m, hm⟩ := k2; exact DataW.trod_lt m _ _ _ hm
 obtain ⟨a2, rfl, rfl, rfl, w2⟩ := open_int Try.underlying3 (hval 2 3 v2 rfl rfl) h2
 have k3 := h3
 have lt3 : ∀ x ∈ p3, x.block < W.heap.size := by obtain ⟨m, hm⟩ := k3; exact DataW.trod_lt m _ _ _ hm
 obtain ⟨a3, rfl, rfl, rfl, w3⟩ := open_int Try.underlying3 (hval 3 3 v3 rfl rfl) h3
 clear hA0 hval0 hsz0
 refine (steadyTellsW x0_0 x0_1 x0_2 x0_3 x0_4 a1 a2 a3 W).mono fun e W' ⟨he, bel⟩ => ?_
 subst he
 exact ⟨_, rfl, _, _, _, [], _, [], hW', trodAll_mk1 (shut_bool Try.underlying4 _), (trodAll_cons_mk (Below.trod laidOut (by kernel_rfl) (of_decide_eq_true (by kernel_rfl)) k0 bel lt0) (trodAll_cons_mk (Below.trod laidOut (by kernel_rfl) (of_decide_eq_true (by kernel_rfl)) k1 bel lt1) (trodAll_cons_mk (Below.trod laidOut (by kernel_rfl) (of_decide_eq_true (by kernel_rfl)) k2 bel lt2) (trodAll_cons_mk (Below.trod laidOut (by kernel_rfl) (of_decide_eq_true (by kernel_rfl)) k3 bel lt3) trodAll_mk0)))), rfl, bel.frame _, fun h => by cases h⟩
theorem holds : Rows.SteadyTellsSaid :=
 OpenClaim.holds_of_wide 5 Try.f5 rfl rfl rfl rfl rfl rfl rfl ⟨rfl, rfl, rfl, rfl, rfl⟩ rfl rfl rfl rfl rfl (by kernel_rfl) Try.func5 (by kernel_rfl)
  (of_decide_eq_true (by kernel_rfl)) (by unfold Func.isWrapper; first | (rw [if_pos (by decide +kernel)]; kernel_rfl) | (rw [if_neg (by decide +kernel)]; exact ⟨rfl, rfl⟩))
  (fun os started H enc _ => lifted os started H enc)
end steadyTellsLaw
end Go.Proofs.Ytmmjopmffpfccaa
