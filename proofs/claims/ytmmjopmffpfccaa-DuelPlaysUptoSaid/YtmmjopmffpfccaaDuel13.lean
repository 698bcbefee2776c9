/-
  JOIN: Step and PStep answer alike.
-/
import Derived.Test.YtmmjopmffpfccaaDuel11
import Derived.Test.YtmmjopmffpfccaaDuel12
namespace Go.Proofs.Ytmmjopmffpfccaa
open Go.RowKit
set_option linter.unusedSimpArgs false
set_option linter.unusedVariables false

theorem sm_wf {x : Int} (h : -4398046511104 ≤ x ∧ x ≤ 4398046511104) : (Lit.int .i64 x).wf = true := by
  simp only [Lit.wf, IntKind.min, IntKind.max, IntKind.signed, IntKind.bits, Bool.and_eq_true, decide_eq_true_eq, if_true]
  omega
def Sml (x : Int) : Prop := -4398046511104 ≤ x ∧ x ≤ 4398046511104
theorem right_sml {kd k n b y s p : Int} (hk : 1 ≤ kd ∧ kd ≤ 3) (h : rightK kd ⟨k, n, b, y, s, p⟩ = true) : Sml k ∧ (1 ≤ n ∧ n ≤ 12) ∧ Sml b ∧ Sml y ∧ Sml s ∧ Sml p := by
  unfold rightK at h
  unfold Sml
  rcases (show kd = 1 ∨ kd = 2 ∨ kd = 3 by omega) with rfl | rfl | rfl
  · have h : vegRight ⟨k, n, b, y, s, p⟩ = true := h
    simp only [vegRight, decide_eq_true_eq] at h; omega
  · have h : copRight ⟨k, n, b, y, s, p⟩ = true := h
    simp only [copRight, decide_eq_true_eq] at h; omega
  · have h : ledRight ⟨k, n, b, y, s, p⟩ = true := h
    simp only [ledRight, decide_eq_true_eq] at h; omega
/-- both Step and PStep answer this -/
def StepIs (k0 k1 R Q J a0 a1 a2 a3 a4 a5 b0 b1 b2 b3 b4 b5 x y l0 l1 : Int) (ss us : List Int) (n : Int) : Prop := ss.length = 14 ∧ us.length = 6 ∧ (∀ z ∈ ss, Sml z) ∧ (∀ z ∈ us, Sml z) ∧
  (∀ w : World, Calls Try.prog 8 #[.agg #[.int .i64 k0, .int .i64 k1, .int .i64 R, .int .i64 Q, .int .i64 J], .agg #[.int .i64 a0, .int .i64 a1, .int .i64 a2, .int .i64 a3, .int .i64 a4, .int .i64 a5, .int .i64 b0, .int .i64 b1, .int .i64 b2, .int .i64 b3, .int .i64 b4, .int .i64 b5, .int .i64 x, .int .i64 y], .agg #[.int .i64 l0, .int .i64 l1]] w fun e w' => e = .returned (.tuple #[.agg (ss.map (Value.int .i64)).toArray, .agg (us.map (Value.int .i64)).toArray, .int .i64 n]) ∧ Below w.heap.size w w') ∧
  (∀ w : World, Calls Try.prog 9 #[.agg #[.int .i64 k0, .int .i64 k1, .int .i64 R, .int .i64 Q, .int .i64 J], .agg #[.int .i64 a0, .int .i64 a1, .int .i64 a2, .int .i64 a3, .int .i64 a4, .int .i64 a5, .int .i64 b0, .int .i64 b1, .int .i64 b2, .int .i64 b3, .int .i64 b4, .int .i64 b5, .int .i64 x, .int .i64 y], .agg #[.int .i64 l0, .int .i64 l1]] w fun e w' => e = .returned (.tuple #[.agg (ss.map (Value.int .i64)).toArray, .agg (us.map (Value.int .i64)).toArray, .int .i64 n]) ∧ Below w.heap.size w w')
theorem zero_sml (n : Nat) : ∀ z ∈ List.replicate n (0 : Int), Sml z := fun z h => by rw [(List.mem_replicate.1 h).2]; unfold Sml; omega
theorem step_both (k0 k1 R Q J a0 a1 a2 a3 a4 a5 b0 b1 b2 b3 b4 b5 x y l0 l1 : Int) : ∃ ss us n, StepIs k0 k1 R Q J a0 a1 a2 a3 a4 a5 b0 b1 b2 b3 b4 b5 x y l0 l1 ss us n := by
  by_cases hok : kindsOk k0 k1 ∧ rangeOk R Q J
  case neg =>
    obtain ⟨r, hw, h0⟩ : ∃ r, WrongSays k0 k1 R Q J r ∧ r ≠ 0 := by
      by_cases hk : kindsOk k0 k1
      · exact ⟨2, .inr (.inl ⟨hk, fun h => hok ⟨hk, h⟩, rfl⟩), by omega⟩
      · exact ⟨5, .inl ⟨hk, rfl⟩, by omega⟩
    exact ⟨List.replicate 14 0, List.replicate 6 0, r, rfl, rfl, zero_sml _, zero_sml _, fun w => step_wrong k0 k1 R Q J a0 a1 a2 a3 a4 a5 b0 b1 b2 b3 b4 b5 x y l0 l1 w r hw h0, fun w => pstep_wrong k0 k1 R Q J a0 a1 a2 a3 a4 a5 b0 b1 b2 b3 b4 b5 x y l0 l1 w r hw h0⟩
  obtain ⟨hk, hr⟩ := hok
  by_cases hs : StRight k0 k1 R Q J a0 a1 a2 a3 a4 a5 b0 b1 b2 b3 b4 b5 x y
  case neg => exact ⟨List.replicate 14 0, List.replicate 6 0, 1, rfl, rfl, zero_sml _, zero_sml _, fun w => step_form k0 k1 R Q J a0 a1 a2 a3 a4 a5 b0 b1 b2 b3 b4 b5 x y l0 l1 w hk hr hs, fun w => pstep_form k0 k1 R Q J a0 a1 a2 a3 a4 a5 b0 b1 b2 b3 b4 b5 x y l0 l1 w hk hr hs⟩
  by_cases hl : 0 ≤ l0 ∧ l0 ≤ J ∧ 0 ≤ l1 ∧ l1 ≤ J
  case neg =>
    refine ⟨List.replicate 14 0, List.replicate 6 0, 2, rfl, rfl, zero_sml _, zero_sml _, fun w => ?_, fun w => pstep_late k0 k1 R Q J a0 a1 a2 a3 a4 a5 b0 b1 b2 b3 b4 b5 x y l0 l1 w hk hr hs hl⟩
    by_cases h0 : 0 ≤ l0 ∧ l0 ≤ J
    · exact step_late1 k0 k1 R Q J a0 a1 a2 a3 a4 a5 b0 b1 b2 b3 b4 b5 x y l0 l1 w hk hr hs h0 (by omega)
    · exact step_late0 k0 k1 R Q J a0 a1 a2 a3 a4 a5 b0 b1 b2 b3 b4 b5 x y l0 l1 w hk hr hs (by omega)
  obtain ⟨q0, q1, q2, q3⟩ := hl
  obtain ⟨f0, g0, h0, HK0, hof0⟩ := of_gen k0 hk.1 hk.2.1
  obtain ⟨f1, g1, h1, HK1, hof1⟩ := of_gen k1 hk.2.2.1 hk.2.2.2
  obtain ⟨_, _, hr0, hr1, hx, hy, hxy⟩ := id hs
  have hr' := hr
  unfold rangeOk at hr'
  obtain ⟨D, hD⟩ : ∃ D, (x + y) / R = D := ⟨_, rfl⟩
  have hD1 : 0 ≤ D := by rw [← hD]; exact Int.ediv_nonneg (by omega) (by omega)
  have hD2 : D ≤ 16 := by rw [← hD]; exact Int.le_trans (Int.ediv_le_self _ (by omega)) (by omega)
  obtain ⟨c0, c1, c2, c3, c4, c5, m0, n0, n1⟩ := HK0.out.2.2.2.2.2 a0 a1 a2 a3 a4 a5 (D + l0) hr0 (by omega) (by omega)
  obtain ⟨e0, e1, e2, e3, e4, e5, m1, o0, o1⟩ := HK1.out.2.2.2.2.2 b0 b1 b2 b3 b4 b5 (D + l1) hr1 (by omega) (by omega)
  have w0 := right_sml ⟨hk.1, hk.2.1⟩ hr0
  have w1 := right_sml ⟨hk.2.2.1, hk.2.2.2⟩ hr1
  have v0 := right_sml ⟨hk.1, hk.2.1⟩ m0
  have v1 := right_sml ⟨hk.2.2.1, hk.2.2.2⟩ m1
  obtain ⟨x0, x1, x2, x3, x4, x5, y0, y1, hsm, _, _, p1, p2⟩ := pass_both (R := R) (Q := Q) (a := x) (b := y) (c := a1) (d := b1) (by unfold LinkOk; omega)
  refine ⟨[c0, c1, c2, c3, c4, c5, e0, e1, e2, e3, e4, e5, y0, y1], [x0, x1, x2, x3, x4, x5], 0, rfl, rfl, ?_, ?_, fun w => ?_, fun w => ?_⟩
  · have := hsm y0 (by simp); have := hsm y1 (by simp)
    unfold Sml at *
    intro z hz
    simp only [List.mem_cons, List.not_mem_nil, or_false] at hz
    omega
  · intro z hz
    have := hsm z (by simp only [List.mem_cons, List.not_mem_nil, or_false] at hz ⊢; omega)
    unfold Sml; omega
  · exact step_ok k0 k1 R Q J a0 a1 a2 a3 a4 a5 b0 b1 b2 b3 b4 b5 x y l0 l1 w hk hr hs q0 q1 q2 q3 f0 g0 h0 f1 g1 h1 D _ _ x0 x1 x2 x3 x4 x5 y0 y1 c0 c1 c2 c3 c4 c5 e0 e1 e2 e3 e4 e5 hD rfl rfl ⟨hD1, hD2⟩ hof0 hof1 (hide HK0.out.2.2.1) (hide HK1.out.2.2.1) n0 o0 p1
  · exact pstep_ok k0 k1 R Q J a0 a1 a2 a3 a4 a5 b0 b1 b2 b3 b4 b5 x y l0 l1 w hk hr hs q0 q1 q2 q3 D _ _ x0 x1 x2 x3 x4 x5 y0 y1 c0 c1 c2 c3 c4 c5 e0 e1 e2 e3 e4 e5 hD rfl rfl ⟨hD1, hD2⟩ n1 o1 p2

end Go.Proofs.Ytmmjopmffpfccaa
