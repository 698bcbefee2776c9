/-
  Lemmas and walks for the statement: Lk1.
-/
import Derived.Test.YtagbikgfkakbfaaQ01
import Derived.Test.YtagbikgfkakbfaaChecked
import Derived.Test.YtagbikgfkakbfaaQ11
namespace Go.Proofs.Ytagbikgfkakbfaa
open Go.RowKit
set_option linter.unusedSimpArgs false
set_option linter.unusedVariables false
attribute [local go_sem] iteMin iteMax iteMinN iteMaxN
def LinkOk (R Q a b c d : Int) : Prop := (1 ≤ R ∧ R ≤ 12) ∧ (0 ≤ Q ∧ Q ≤ 16) ∧ (0 ≤ a ∧ 0 ≤ b ∧ a + b ≤ 16) ∧ (0 ≤ c ∧ c ≤ 12) ∧ (0 ≤ d ∧ d ≤ 12)
set_option maxRecDepth 100000 in
set_option maxHeartbeats 4000000 in
theorem lright_any (R Q a b c d : Int) (w : World) (ha : a ≤ 9223372036854775807) (hb : b ≤ 9223372036854775807) :
 Calls Try.prog 68 #[.int .i64 R, .int .i64 Q, .agg #[.int .i64 a, .int .i64 b], .agg #[.int .i64 c, .int .i64 d]] w fun e w' => IsB (LinkOk R Q a b c d) e ∧ Below w.heap.size w w' := by
 have hB : Below w.heap.size w ((w.alloc (.cells #[.int .i64 a, .int .i64 b] 22)).alloc (.cells #[.int .i64 c, .int .i64 d] 22)) := ((Below.refl _ _).alloc (Nat.le_refl _) _).alloc (by simp) _
 go_enter Try.func68, Try.ntmps68
 have HB := hide hB
 clear hB
 by_cases h1 : 0 ≤ R
 case neg => (go_wp2; go_ret; exact ⟨IsB.f (by unfold LinkOk; omega), HB.out⟩)
 by_cases h2 : R ≤ 12
 case neg => (go_wp2; go_ret; exact ⟨IsB.f (by unfold LinkOk; omega), HB.out⟩)
 by_cases h3 : 0 < R
 case neg => (go_wp2; go_ret; exact ⟨IsB.f (by unfold LinkOk; omega), HB.out⟩)
 by_cases h4 : 0 ≤ Q
 case neg => (go_wp2; go_ret; exact ⟨IsB.f (by unfold LinkOk; omega), HB.out⟩)
 by_cases h5 : Q ≤ 16
 case neg => (go_wp2; go_ret; exact ⟨IsB.f (by unfold LinkOk; omega), HB.out⟩)
 by_cases h6 : 0 ≤ min a b
 case neg => (go_wp2; go_ret; exact ⟨IsB.f (by unfold LinkOk; omega), HB.out⟩)
 by_cases h7 : a + b ≤ 16
 case neg =>
  have e7 : wrap64 (a + b) < 0 ∨ 16 < wrap64 (a + b) := by unfold wrap64; omega
  rcases e7 with e7 | e7
  · have e8 : ¬ (0 ≤ wrap64 (a + b)) := by omega
    go_wp2
    go_ret
    refine ⟨?_, HB.out⟩
    exact IsB.f (by unfold LinkOk; omega)
  · have e8 : 0 ≤ wrap64 (a + b) := by omega
    have e9 : ¬ (wrap64 (a + b) ≤ 16) := by omega
    go_wp2
    go_ret
    refine ⟨?_, HB.out⟩
    exact IsB.f (by unfold LinkOk; omega)
 have e7 : wrap64 (a + b) = a + b := by unfold wrap64; omega
 have e9 : 0 ≤ a + b := by omega
 by_cases h8 : 0 ≤ c
 case neg => (go_wp2; go_ret; exact ⟨IsB.f (by unfold LinkOk; omega), HB.out⟩)
 by_cases h9 : c ≤ 12
 case neg => (go_wp2; go_ret; exact ⟨IsB.f (by unfold LinkOk; omega), HB.out⟩)
 by_cases h10 : 0 ≤ d
 case neg => (go_wp2; go_ret; exact ⟨IsB.f (by unfold LinkOk; omega), HB.out⟩)
 by_cases h11 : d ≤ 12
 case neg => (go_wp2; go_ret; exact ⟨IsB.f (by unfold LinkOk; omega), HB.out⟩)
 go_wp2
 go_ret
 exact ⟨IsB.d (by unfold LinkOk; simp; omega), HB.out⟩
end Go.Proofs.Ytagbikgfkakbfaa
