/-
  DuelSteps at every argument: the walk joined with the contracts.
-/
import Derived.Test.YtmmjopmffpfccaaDuelStepsW
import Derived.Test.YtmmjopmffpfccaaDuel8
import Derived.Test.YtmmjopmffpfccaaFrame
namespace Go.Proofs.Ytmmjopmffpfccaa
open Go.RowKit
set_option linter.unusedSimpArgs false
set_option linter.unusedVariables false

theorem wrong_is {k0 k1 R Q J r : Int} {e : Ending} (hw : WrongSays k0 k1 R Q J r) (h : WrongEnds k0 k1 R Q J e) : e = .returned (.int .i64 r) := by
  obtain ⟨r', rfl, h'⟩ := h
  rw [wrongSays_one h' hw]
theorem duelStepsW (k0 k1 R Q J a0 a1 a2 a3 a4 a5 b0 b1 b2 b3 b4 b5 x y l0 l1 : Int) (w : World) : Calls Try.prog 3 #[.agg #[.int .i64 k0, .int .i64 k1, .int .i64 R, .int .i64 Q, .int .i64 J], .agg #[.int .i64 a0, .int .i64 a1, .int .i64 a2, .int .i64 a3, .int .i64 a4, .int .i64 a5, .int .i64 b0, .int .i64 b1, .int .i64 b2, .int .i64 b3, .int .i64 b4, .int .i64 b5, .int .i64 x, .int .i64 y], .agg #[.int .i64 l0, .int .i64 l1]] w fun e w' => e = .returned (.bool true) ∧ Below w.heap.size w w' := by
  obtain ⟨ss, us, n, hl14, hl6, hs, hu, c1, c2⟩ := step_both k0 k1 R Q J a0 a1 a2 a3 a4 a5 b0 b1 b2 b3 b4 b5 x y l0 l1
  obtain ⟨d0, d1, d2, d3, d4, d5, d6, d7, d8, d9, d10, d11, d12, d13, rfl⟩ := len14 hl14
  obtain ⟨e0, e1, e2, e3, e4, e5, rfl⟩ := len6 hl6
  obtain ⟨t, g7, g8⟩ : ∃ t, (∀ w : World, Calls Try.prog 12 #[.agg #[.int .i64 k0, .int .i64 k1, .int .i64 R, .int .i64 Q, .int .i64 J], .agg #[.int .i64 a0, .int .i64 a1, .int .i64 a2, .int .i64 a3, .int .i64 a4, .int .i64 a5, .int .i64 b0, .int .i64 b1, .int .i64 b2, .int .i64 b3, .int .i64 b4, .int .i64 b5, .int .i64 x, .int .i64 y]] w fun e w' => e = .returned (.bool t) ∧ Below w.heap.size w w') ∧ (∀ w : World, Calls Try.prog 13 #[.agg #[.int .i64 k0, .int .i64 k1, .int .i64 R, .int .i64 Q, .int .i64 J], .agg #[.int .i64 a0, .int .i64 a1, .int .i64 a2, .int .i64 a3, .int .i64 a4, .int .i64 a5, .int .i64 b0, .int .i64 b1, .int .i64 b2, .int .i64 b3, .int .i64 b4, .int .i64 b5, .int .i64 x, .int .i64 y]] w fun e w' => e = .returned (.bool t) ∧ Below w.heap.size w w') := by
    by_cases h : StRight k0 k1 R Q J a0 a1 a2 a3 a4 a5 b0 b1 b2 b3 b4 b5 x y
    · exact ⟨true, fun w => (callT (dright_any k0 k1 R Q J a0 a1 a2 a3 a4 a5 b0 b1 b2 b3 b4 b5 x y w) h), fun w => (callT (pright_any k0 k1 R Q J a0 a1 a2 a3 a4 a5 b0 b1 b2 b3 b4 b5 x y w) h)⟩
    · exact ⟨false, fun w => (callF (dright_any k0 k1 R Q J a0 a1 a2 a3 a4 a5 b0 b1 b2 b3 b4 b5 x y w) h), fun w => (callF (pright_any k0 k1 R Q J a0 a1 a2 a3 a4 a5 b0 b1 b2 b3 b4 b5 x y w) h)⟩
  by_cases hok : kindsOk k0 k1 ∧ rangeOk R Q J
  case neg =>
    obtain ⟨r, hw, h0⟩ : ∃ r, WrongSays k0 k1 R Q J r ∧ r ≠ 0 := by
      by_cases hk : kindsOk k0 k1
      · exact ⟨2, .inr (.inl ⟨hk, fun h => hok ⟨hk, h⟩, rfl⟩), by omega⟩
      · exact ⟨5, .inl ⟨hk, rfl⟩, by omega⟩
    exact ds_walk k0 k1 R Q J a0 a1 a2 a3 a4 a5 b0 b1 b2 b3 b4 b5 x y l0 l1 0 0 0 0 0 0 0 0 0 0 0 0 0 0 d0 d1 d2 d3 d4 d5 d6 d7 d8 d9 d10 d11 d12 d13 e0 e1 e2 e3 e4 e5 r n r t (by rfl) (by rfl) (by rfl) (by rfl) (by rfl) (by rfl) (by rfl) (by rfl) (by rfl) (by rfl) (by rfl) (by rfl) (by rfl) (by rfl) (sm_wf (hs d0 (by simp))) (sm_wf (hs d1 (by simp))) (sm_wf (hs d2 (by simp))) (sm_wf (hs d3 (by simp))) (sm_wf (hs d4 (by simp))) (sm_wf (hs d5 (by simp))) (sm_wf (hs d6 (by simp))) (sm_wf (hs d7 (by simp))) (sm_wf (hs d8 (by simp))) (sm_wf (hs d9 (by simp))) (sm_wf (hs d10 (by simp))) (sm_wf (hs d11 (by simp))) (sm_wf (hs d12 (by simp))) (sm_wf (hs d13 (by simp))) (sm_wf (hu e0 (by simp))) (sm_wf (hu e1 (by simp))) (sm_wf (hu e2 (by simp))) (sm_wf (hu e3 (by simp))) (sm_wf (hu e4 (by simp))) (sm_wf (hu e5 (by simp))) (fun w => start_bad k0 k1 R Q J r w hw h0) (fun w => pstart_bad k0 k1 R Q J r w hw h0) c1 c2 (fun w => (dwrong_any k0 k1 R Q J w).mono fun e w' h => ⟨wrong_is hw h.1, h.2⟩) (fun w => (pwrong_any k0 k1 R Q J w).mono fun e w' h => ⟨wrong_is hw h.1, h.2⟩) g7 g8 w
  obtain ⟨hk, hr⟩ := hok
  have hw : WrongSays k0 k1 R Q J 0 := .inr (.inr ⟨hk, hr, rfl⟩)
  have wk0 : (Lit.int .i64 k0).wf = true := sm_wf (by have := hk.1; have := hk.2.1; omega)
  have wk1 : (Lit.int .i64 k1).wf = true := sm_wf (by have := hk.2.2.1; have := hk.2.2.2; omega)
  exact ds_walk k0 k1 R Q J a0 a1 a2 a3 a4 a5 b0 b1 b2 b3 b4 b5 x y l0 l1 k0 1 (-1) 0 0 0 k1 1 (-1) 0 0 0 0 0 d0 d1 d2 d3 d4 d5 d6 d7 d8 d9 d10 d11 d12 d13 e0 e1 e2 e3 e4 e5 0 n 0 t wk0 (by rfl) (by rfl) (by rfl) (by rfl) (by rfl) wk1 (by rfl) (by rfl) (by rfl) (by rfl) (by rfl) (by rfl) (by rfl) (sm_wf (hs d0 (by simp))) (sm_wf (hs d1 (by simp))) (sm_wf (hs d2 (by simp))) (sm_wf (hs d3 (by simp))) (sm_wf (hs d4 (by simp))) (sm_wf (hs d5 (by simp))) (sm_wf (hs d6 (by simp))) (sm_wf (hs d7 (by simp))) (sm_wf (hs d8 (by simp))) (sm_wf (hs d9 (by simp))) (sm_wf (hs d10 (by simp))) (sm_wf (hs d11 (by simp))) (sm_wf (hs d12 (by simp))) (sm_wf (hs d13 (by simp))) (sm_wf (hu e0 (by simp))) (sm_wf (hu e1 (by simp))) (sm_wf (hu e2 (by simp))) (sm_wf (hu e3 (by simp))) (sm_wf (hu e4 (by simp))) (sm_wf (hu e5 (by simp))) (fun w => start_ok k0 k1 R Q J w hk hr) (fun w => pstart_ok k0 k1 R Q J w hk hr) c1 c2 (fun w => (dwrong_any k0 k1 R Q J w).mono fun e w' h => ⟨wrong_is hw h.1, h.2⟩) (fun w => (pwrong_any k0 k1 R Q J w).mono fun e w' h => ⟨wrong_is hw h.1, h.2⟩) g7 g8 w

end Go.Proofs.Ytmmjopmffpfccaa
