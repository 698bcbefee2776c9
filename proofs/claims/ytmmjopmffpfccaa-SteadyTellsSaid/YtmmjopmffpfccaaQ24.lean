/-
  Lemmas and walks for the statement: Lk2.
-/
import Derived.Test.YtmmjopmffpfccaaQ16
namespace Go.Proofs.Ytmmjopmffpfccaa
open Go.RowKit
set_option linter.unusedSimpArgs false
set_option linter.unusedVariables false
attribute [local go_sem] iteMin iteMax iteMinN iteMaxN
set_option maxRecDepth 100000 in
set_option maxHeartbeats 8000000 in
theorem oright_any (R Q a b c d : Int) (w : World) :
 Calls Try.prog 50 #[.int .i64 R, .int .i64 Q, .agg #[.int .i64 a, .int .i64 b], .agg #[.int .i64 c, .int .i64 d]] w fun e w' => IsB (LinkOk R Q a b c d) e ∧ Below w.heap.size w w' := by
 have hB : Below w.heap.size w ((w.alloc (.cells #[.int .i64 a, .int .i64 b] 22)).alloc (.cells #[.int .i64 c, .int .i64 d] 22)) := ((Below.refl _ _).alloc (Nat.le_refl _) _).alloc (by simp) _
 go_enter Try.func50, Try.ntmps50
 have HB := hide hB
 clear hB
 have i0 : ∀ w : World, (Instr.index 22 (.agg #[.int .i64 c, .int .i64 d]) (.int .i64 0)).run Try.prog w = .ok (.int .i64 c) w := fun _ => by kernel_rfl
 have i1 : ∀ w : World, (Instr.index 22 (.agg #[.int .i64 c, .int .i64 d]) (.int .i64 1)).run Try.prog w = .ok (.int .i64 d) w := fun _ => by kernel_rfl
 by_cases h0 : 1 ≤ R
 case neg => (go_wp2; refine wp_loop_rounds 3 ?_; rw [rounds_succ]; go_wp2; rw [rounds_succ]; go_wp2; rw [rounds_succ]; go_wp2; go_ret; first | exact ⟨IsB.f (by unfold LinkOk; omega), HB.out⟩ | exact ⟨IsB.d (by unfold LinkOk; simp; omega), HB.out⟩)
 by_cases h1 : R ≤ 12
 case neg => (go_wp2; refine wp_loop_rounds 3 ?_; rw [rounds_succ]; go_wp2; rw [rounds_succ]; go_wp2; rw [rounds_succ]; go_wp2; go_ret; first | exact ⟨IsB.f (by unfold LinkOk; omega), HB.out⟩ | exact ⟨IsB.d (by unfold LinkOk; simp; omega), HB.out⟩)
 by_cases h2 : 0 ≤ Q
 case neg => (go_wp2; refine wp_loop_rounds 3 ?_; rw [rounds_succ]; go_wp2; rw [rounds_succ]; go_wp2; rw [rounds_succ]; go_wp2; go_ret; first | exact ⟨IsB.f (by unfold LinkOk; omega), HB.out⟩ | exact ⟨IsB.d (by unfold LinkOk; simp; omega), HB.out⟩)
 by_cases h3 : Q ≤ 16
 case neg => (go_wp2; refine wp_loop_rounds 3 ?_; rw [rounds_succ]; go_wp2; rw [rounds_succ]; go_wp2; rw [rounds_succ]; go_wp2; go_ret; first | exact ⟨IsB.f (by unfold LinkOk; omega), HB.out⟩ | exact ⟨IsB.d (by unfold LinkOk; simp; omega), HB.out⟩)
 by_cases h4 : 0 ≤ a
 case neg => (go_wp2; refine wp_loop_rounds 3 ?_; rw [rounds_succ]; go_wp2; rw [rounds_succ]; go_wp2; rw [rounds_succ]; go_wp2; go_ret; first | exact ⟨IsB.f (by unfold LinkOk; omega), HB.out⟩ | exact ⟨IsB.d (by unfold LinkOk; simp; omega), HB.out⟩)
 by_cases h5 : 0 ≤ b
 case neg => (go_wp2; refine wp_loop_rounds 3 ?_; rw [rounds_succ]; go_wp2; rw [rounds_succ]; go_wp2; rw [rounds_succ]; go_wp2; go_ret; first | exact ⟨IsB.f (by unfold LinkOk; omega), HB.out⟩ | exact ⟨IsB.d (by unfold LinkOk; simp; omega), HB.out⟩)
 by_cases h6 : a ≤ 16
 case neg => (go_wp2; refine wp_loop_rounds 3 ?_; rw [rounds_succ]; go_wp2; rw [rounds_succ]; go_wp2; rw [rounds_succ]; go_wp2; go_ret; first | exact ⟨IsB.f (by unfold LinkOk; omega), HB.out⟩ | exact ⟨IsB.d (by unfold LinkOk; simp; omega), HB.out⟩)
 have e8 : wrap64 (16 - min a 16) = 16 - a := by unfold wrap64; omega
 have e8' : wrap64 (16 - a) = 16 - a := by unfold wrap64; omega
 have e8'' : min a 16 = a := by omega
 by_cases h8 : b ≤ 16 - a
 case neg => (go_wp2; refine wp_loop_rounds 3 ?_; rw [rounds_succ]; go_wp2; rw [rounds_succ]; go_wp2; rw [rounds_succ]; go_wp2; go_ret; first | exact ⟨IsB.f (by unfold LinkOk; omega), HB.out⟩ | exact ⟨IsB.d (by unfold LinkOk; simp; omega), HB.out⟩)
 by_cases h9 : 0 ≤ c
 case neg => (go_wp2; refine wp_loop_rounds 3 ?_; rw [rounds_succ]; go_wp2; rw [rounds_succ]; go_wp2; rw [rounds_succ]; go_wp2; go_ret; first | exact ⟨IsB.f (by unfold LinkOk; omega), HB.out⟩ | exact ⟨IsB.d (by unfold LinkOk; simp; omega), HB.out⟩)
 by_cases h10 : c ≤ 12
 case neg => (go_wp2; refine wp_loop_rounds 3 ?_; rw [rounds_succ]; go_wp2; rw [rounds_succ]; go_wp2; rw [rounds_succ]; go_wp2; go_ret; first | exact ⟨IsB.f (by unfold LinkOk; omega), HB.out⟩ | exact ⟨IsB.d (by unfold LinkOk; simp; omega), HB.out⟩)
 by_cases h11 : 0 ≤ d
 case neg => (go_wp2; refine wp_loop_rounds 3 ?_; rw [rounds_succ]; go_wp2; rw [rounds_succ]; go_wp2; rw [rounds_succ]; go_wp2; go_ret; first | exact ⟨IsB.f (by unfold LinkOk; omega), HB.out⟩ | exact ⟨IsB.d (by unfold LinkOk; simp; omega), HB.out⟩)
 by_cases h12 : d ≤ 12
 case neg => (go_wp2; refine wp_loop_rounds 3 ?_; rw [rounds_succ]; go_wp2; rw [rounds_succ]; go_wp2; rw [rounds_succ]; go_wp2; go_ret; first | exact ⟨IsB.f (by unfold LinkOk; omega), HB.out⟩ | exact ⟨IsB.d (by unfold LinkOk; simp; omega), HB.out⟩)
 go_wp2
 refine wp_loop_rounds 3 ?_
 rw [rounds_succ]
 go_wp2
 rw [rounds_succ]
 go_wp2
 rw [rounds_succ]
 go_wp2
 go_ret
 exact ⟨IsB.d (by unfold LinkOk; simp; omega), HB.out⟩
end Go.Proofs.Ytmmjopmffpfccaa
