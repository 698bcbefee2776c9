/-
  Lemmas and walks for the statement: Duel13, Duel14, Edge, Pairs.
-/
import Derived.Test.YtagbikgfkakbfaaQ22
import Derived.Test.YtagbikgfkakbfaaQ23
import Derived.Test.YtagbikgfkakbfaaQ01
import Derived.Lib.SmallJoins
import Derived.Deep.Slices
import Derived.Deep.Fields
import Derived.ChangeSame
namespace Go.Proofs.Ytagbikgfkakbfaa
open Go.RowKit
set_option linter.unusedSimpArgs false
set_option linter.unusedVariables false
theorem sm_wf {x : Int} (h : -4398046511104 ≤ x ∧ x ≤ 4398046511104) : (Lit.int .i64 x).wf = true := by
 simp only [Lit.wf, IntKind.min, IntKind.max, IntKind.signed, IntKind.bits, Bool.and_eq_true, decide_eq_true_eq, if_true]
 omega
def Sml (x : Int) : Prop := -4398046511104 ≤ x ∧ x ≤ 4398046511104
theorem right_sml {kd k n b y s p : Int} (hk : 1 ≤ kd ∧ kd ≤ 3) (h : rightK kd ⟨k, n, b, y, s, p⟩ = true) : Sml k ∧ (1 ≤ n ∧ n ≤ 12) ∧ Sml b ∧ Sml y ∧ Sml s ∧ Sml p := by
 unfold rightK at h
 unfold Sml
 rcases (show kd = 1 ∨ kd = 2 ∨ kd = 3 by omega) with rfl | rfl | rfl
 · have h : vegRight ⟨k, n, b, y, s, p⟩ = true := h
   simp only [vegRight, decide_eq_true_eq] at h; omega
 · have h : copRight ⟨k, n, b, y, s, p⟩ = true := h
   simp only [copRight, decide_eq_true_eq] at h; omega
 · have h : ledRight ⟨k, n, b, y, s, p⟩ = true := h
   simp only [ledRight, decide_eq_true_eq] at h; omega
def StepIs (k0 k1 R Q J a0 a1 a2 a3 a4 a5 b0 b1 b2 b3 b4 b5 x y l0 l1 : Int) (ss us : List Int) (n : Int) : Prop := ss.length = 14 ∧ us.length = 6 ∧ (∀ z ∈ ss, Sml z) ∧ (∀ z ∈ us, Sml z) ∧
 (∀ w : World, Calls Try.prog 39 #[.agg #[.int .i64 k0, .int .i64 k1, .int .i64 R, .int .i64 Q, .int .i64 J], .agg #[.int .i64 a0, .int .i64 a1, .int .i64 a2, .int .i64 a3, .int .i64 a4, .int .i64 a5, .int .i64 b0, .int .i64 b1, .int .i64 b2, .int .i64 b3, .int .i64 b4, .int .i64 b5, .int .i64 x, .int .i64 y], .agg #[.int .i64 l0, .int .i64 l1]] w fun e w' => e = .returned (.tuple #[.agg (ss.map (Value.int .i64)).toArray, .agg (us.map (Value.int .i64)).toArray, .int .i64 n]) ∧ Below w.heap.size w w') ∧
 (∀ w : World, Calls Try.prog 21 #[.agg #[.int .i64 k0, .int .i64 k1, .int .i64 R, .int .i64 Q, .int .i64 J], .agg #[.int .i64 a0, .int .i64 a1, .int .i64 a2, .int .i64 a3, .int .i64 a4, .int .i64 a5, .int .i64 b0, .int .i64 b1, .int .i64 b2, .int .i64 b3, .int .i64 b4, .int .i64 b5, .int .i64 x, .int .i64 y], .agg #[.int .i64 l0, .int .i64 l1]] w fun e w' => e = .returned (.tuple #[.agg (ss.map (Value.int .i64)).toArray, .agg (us.map (Value.int .i64)).toArray, .int .i64 n]) ∧ Below w.heap.size w w')
theorem zero_sml (n : Nat) : ∀ z ∈ List.replicate n (0 : Int), Sml z := fun z h => by rw [(List.mem_replicate.1 h).2]; unfold Sml; omega
theorem step_both (k0 k1 R Q J a0 a1 a2 a3 a4 a5 b0 b1 b2 b3 b4 b5 x y l0 l1 : Int) : ∃ ss us n, StepIs k0 k1 R Q J a0 a1 a2 a3 a4 a5 b0 b1 b2 b3 b4 b5 x y l0 l1 ss us n := by
 by_cases hok : kindsOk k0 k1 ∧ rangeOk R Q J
 case neg =>
  obtain ⟨r, hw, h0⟩ : ∃ r, WrongSays k0 k1 R Q J r ∧ r ≠ 0 := by
   by_cases hk : kindsOk k0 k1
   · exact ⟨2, .inr (.inl ⟨hk, fun h => hok ⟨hk, h⟩, rfl⟩), by omega⟩
   · exact ⟨5, .inl ⟨hk, rfl⟩, by omega⟩
  exact ⟨List.replicate 14 0, List.replicate 6 0, r, rfl, rfl, zero_sml _, zero_sml _, fun w => step_wrong k0 k1 R Q J a0 a1 a2 a3 a4 a5 b0 b1 b2 b3 b4 b5 x y l0 l1 w r hw h0, fun w => pstep_wrong k0 k1 R Q J a0 a1 a2 a3 a4 a5 b0 b1 b2 b3 b4 b5 x y l0 l1 w r hw h0⟩
 obtain ⟨hk, hr⟩ := hok
 by_cases hs : StRight k0 k1 R Q J a0 a1 a2 a3 a4 a5 b0 b1 b2 b3 b4 b5 x y
 case neg => exact ⟨List.replicate 14 0, List.replicate 6 0, 1, rfl, rfl, zero_sml _, zero_sml _, fun w => step_form k0 k1 R Q J a0 a1 a2 a3 a4 a5 b0 b1 b2 b3 b4 b5 x y l0 l1 w hk hr hs, fun w => pstep_form k0 k1 R Q J a0 a1 a2 a3 a4 a5 b0 b1 b2 b3 b4 b5 x y l0 l1 w hk hr hs⟩
 by_cases hl : 0 ≤ l0 ∧ l0 ≤ J ∧ 0 ≤ l1 ∧ l1 ≤ J
 case neg =>
  refine ⟨List.replicate 14 0, List.replicate 6 0, 2, rfl, rfl, zero_sml _, zero_sml _, fun w => ?_, fun w => pstep_late k0 k1 R Q J a0 a1 a2 a3 a4 a5 b0 b1 b2 b3 b4 b5 x y l0 l1 w hk hr hs hl⟩
  by_cases h0 : 0 ≤ l0 ∧ l0 ≤ J
  · exact step_late1 k0 k1 R Q J a0 a1 a2 a3 a4 a5 b0 b1 b2 b3 b4 b5 x y l0 l1 w hk hr hs h0 (by omega)
  · exact step_late0 k0 k1 R Q J a0 a1 a2 a3 a4 a5 b0 b1 b2 b3 b4 b5 x y l0 l1 w hk hr hs (by omega)
 obtain ⟨q0, q1, q2, q3⟩ := hl
 obtain ⟨f0, g0, h0, HK0, hof0⟩ := of_gen k0 hk.1 hk.2.1
 obtain ⟨f1, g1, h1, HK1, hof1⟩ := of_gen k1 hk.2.2.1 hk.2.2.2
 obtain ⟨_, _, hr0, hr1, hx, hy, hxy⟩ := id hs
 have hr' := hr
 unfold rangeOk at hr'
 obtain ⟨D, hD⟩ : ∃ D, (x + y) / R = D := ⟨_, rfl⟩
 have hD1 : 0 ≤ D := by rw [← hD]; exact Int.ediv_nonneg (by omega) (by omega)
 have hD2 : D ≤ 16 := by rw [← hD]; exact Int.le_trans (Int.ediv_le_self _ (by omega)) (by omega)
 obtain ⟨c0, c1, c2, c3, c4, c5, m0, n0, n1⟩ := HK0.out.2.2.2.2.2 a0 a1 a2 a3 a4 a5 (D + l0) hr0 (by omega) (by omega)
 obtain ⟨e0, e1, e2, e3, e4, e5, m1, o0, o1⟩ := HK1.out.2.2.2.2.2 b0 b1 b2 b3 b4 b5 (D + l1) hr1 (by omega) (by omega)
 have w0 := right_sml ⟨hk.1, hk.2.1⟩ hr0
 have w1 := right_sml ⟨hk.2.2.1, hk.2.2.2⟩ hr1
 have v0 := right_sml ⟨hk.1, hk.2.1⟩ m0
 have v1 := right_sml ⟨hk.2.2.1, hk.2.2.2⟩ m1
 obtain ⟨x0, x1, x2, x3, x4, x5, y0, y1, hsm, _, _, p1, p2⟩ := pass_both (R := R) (Q := Q) (a := x) (b := y) (c := a1) (d := b1) (by unfold LinkOk; omega)
 refine ⟨[c0, c1, c2, c3, c4, c5, e0, e1, e2, e3, e4, e5, y0, y1], [x0, x1, x2, x3, x4, x5], 0, rfl, rfl, ?_, ?_, fun w => ?_, fun w => ?_⟩
 · have := hsm y0 (by simp); have := hsm y1 (by simp)
   unfold Sml at *
   intro z hz
   simp only [List.mem_cons, List.not_mem_nil, or_false] at hz
   omega
 · intro z hz
   have := hsm z (by simp only [List.mem_cons, List.not_mem_nil, or_false] at hz ⊢; omega)
   unfold Sml; omega
 · exact step_ok k0 k1 R Q J a0 a1 a2 a3 a4 a5 b0 b1 b2 b3 b4 b5 x y l0 l1 w hk hr hs q0 q1 q2 q3 f0 g0 h0 f1 g1 h1 D _ _ x0 x1 x2 x3 x4 x5 y0 y1 c0 c1 c2 c3 c4 c5 e0 e1 e2 e3 e4 e5 hD rfl rfl ⟨hD1, hD2⟩ hof0 hof1 (hide HK0.out.2.2.1) (hide HK1.out.2.2.1) n0 o0 p1
 · exact pstep_ok k0 k1 R Q J a0 a1 a2 a3 a4 a5 b0 b1 b2 b3 b4 b5 x y l0 l1 w hk hr hs q0 q1 q2 q3 D _ _ x0 x1 x2 x3 x4 x5 y0 y1 c0 c1 c2 c3 c4 c5 e0 e1 e2 e3 e4 e5 hD rfl rfl ⟨hD1, hD2⟩ n1 o1 p2
end Go.Proofs.Ytagbikgfkakbfaa
namespace Go.Proofs.Ytagbikgfkakbfaa
open Go.RowKit
set_option linter.unusedSimpArgs false
set_option linter.unusedVariables false
theorem count_ft (l : List Bool) : List.count false l + List.count true l = l.length := by
 induction l with
 | nil => rfl
 | cons x l ih => cases x <;> simp <;> omega
theorem tally_sum {R Q : Nat} {pre : List Bool} {p0 q0 r0 p1 q1 r1 : Nat} (h0 : Tally R Q pre false p0 q0 r0) (h1 : Tally R Q pre true p1 q1 r1) : (q0 : Int) + (q1 : Int) ≤ (Q : Int) := by
 obtain ⟨a0, b0, c0⟩ := h0
 obtain ⟨a1, b1, c1⟩ := h1
 have k1 := count_ft (List.take R pre)
 have k2 := count_ft (List.take (R + Q) pre)
 simp only [List.length_take] at k1 k2
 omega
theorem pass_both2 {R Q a b c d : Int} (hok : LinkOk R Q a b c d) : ∃ x0 x1 x2 x3 x4 x5 y0 y1 : Int, (∀ x ∈ [x0, x1, x2, x3, x4, x5, y0, y1], 0 ≤ x ∧ x ≤ 1000) ∧ 0 ≤ y0 ∧ 0 ≤ y1 ∧ y0 + y1 ≤ Q ∧ (∀ z ∈ [x0, x1, x2, x3, x4, x5], 0 ≤ z ∧ z ≤ 100) ∧
 (∀ w : World, Calls Try.prog 51 #[.int .i64 R, .int .i64 Q, .agg #[.int .i64 a, .int .i64 b], .agg #[.int .i64 c, .int .i64 d]] w fun e w' => e = .returned (.tuple #[.agg #[.int .i64 x0, .int .i64 x1, .int .i64 x2, .int .i64 x3, .int .i64 x4, .int .i64 x5], .agg #[.int .i64 y0, .int .i64 y1], .int .i64 0]) ∧ Below w.heap.size w w') ∧
 (∀ w : World, Calls Try.prog 35 #[.int .i64 R, .int .i64 Q, .agg #[.int .i64 a, .int .i64 b], .agg #[.int .i64 c, .int .i64 d]] w fun e w' => e = .returned (.tuple #[.agg #[.int .i64 x0, .int .i64 x1, .int .i64 x2, .int .i64 x3, .int .i64 x4, .int .i64 x5], .agg #[.int .i64 y0, .int .i64 y1], .int .i64 0]) ∧ Below w.heap.size w w') := by
 have hbd := hok
 unfold LinkOk at hbd
 obtain ⟨R, rfl⟩ : ∃ n : Nat, R = (n : Int) := ⟨R.toNat, by omega⟩
 obtain ⟨Q, rfl⟩ : ∃ n : Nat, Q = (n : Int) := ⟨Q.toNat, by omega⟩
 obtain ⟨a, rfl⟩ : ∃ n : Nat, a = (n : Int) := ⟨a.toNat, by omega⟩
 obtain ⟨b, rfl⟩ : ∃ n : Nat, b = (n : Int) := ⟨b.toNat, by omega⟩
 obtain ⟨c, rfl⟩ : ∃ n : Nat, c = (n : Int) := ⟨c.toNat, by omega⟩
 obtain ⟨d, rfl⟩ : ∃ n : Nat, d = (n : Int) := ⟨d.toNat, by omega⟩
 obtain ⟨p0, q0, r0, t0⟩ := tally_ex R Q (rowB a b c d) false
 obtain ⟨p1, q1, r1, t1⟩ := tally_ex R Q (rowB a b c d) true
 have s0 := tally_small t0
 have s1 := tally_small t1
 rw [row_len] at s0 s1
 exact ⟨c, d, p0, p1, r0, r1, q0, q1, by simp; omega, by omega, by omega, tally_sum t0 t1, by simp; omega, fun w => (lpass_ok R Q a b c d w hok).mono fun e w' ⟨h, hB⟩ => ⟨pass_detF t0 t1 h, hB⟩, fun w => (opass_ok R Q a b c d w hok).mono fun e w' ⟨h, hB⟩ => ⟨pass_detF t0 t1 h, hB⟩⟩
def StRightL (k0 k1 R Q J : Int) : List Int → Prop
 | [a0, a1, a2, a3, a4, a5, b0, b1, b2, b3, b4, b5, x, y] => StRight k0 k1 R Q J a0 a1 a2 a3 a4 a5 b0 b1 b2 b3 b4 b5 x y
 | _ => False
def StepGood (k0 k1 R Q J a0 a1 a2 a3 a4 a5 b0 b1 b2 b3 b4 b5 x y l0 l1 : Int) (ss us : List Int) (n : Int) : Prop := StRight k0 k1 R Q J a0 a1 a2 a3 a4 a5 b0 b1 b2 b3 b4 b5 x y → (0 ≤ l0 ∧ l0 ≤ J ∧ 0 ≤ l1 ∧ l1 ≤ J) → n = 0 ∧ StRightL k0 k1 R Q J ss ∧ (∀ z ∈ us, 0 ≤ z ∧ z ≤ 100)
theorem step_both2 (k0 k1 R Q J a0 a1 a2 a3 a4 a5 b0 b1 b2 b3 b4 b5 x y l0 l1 : Int) : ∃ ss us n, StepIs k0 k1 R Q J a0 a1 a2 a3 a4 a5 b0 b1 b2 b3 b4 b5 x y l0 l1 ss us n ∧ StepGood k0 k1 R Q J a0 a1 a2 a3 a4 a5 b0 b1 b2 b3 b4 b5 x y l0 l1 ss us n := by
 by_cases hok : kindsOk k0 k1 ∧ rangeOk R Q J
 case neg =>
  obtain ⟨r, hw, h0⟩ : ∃ r, WrongSays k0 k1 R Q J r ∧ r ≠ 0 := by
   by_cases hk : kindsOk k0 k1
   · exact ⟨2, .inr (.inl ⟨hk, fun h => hok ⟨hk, h⟩, rfl⟩), by omega⟩
   · exact ⟨5, .inl ⟨hk, rfl⟩, by omega⟩
  exact ⟨List.replicate 14 0, List.replicate 6 0, r, ⟨rfl, rfl, zero_sml _, zero_sml _, fun w => step_wrong k0 k1 R Q J a0 a1 a2 a3 a4 a5 b0 b1 b2 b3 b4 b5 x y l0 l1 w r hw h0, fun w => pstep_wrong k0 k1 R Q J a0 a1 a2 a3 a4 a5 b0 b1 b2 b3 b4 b5 x y l0 l1 w r hw h0⟩, fun h _ => (hok ⟨h.1, h.2.1⟩).elim⟩
 obtain ⟨hk, hr⟩ := hok
 by_cases hs : StRight k0 k1 R Q J a0 a1 a2 a3 a4 a5 b0 b1 b2 b3 b4 b5 x y
 case neg => exact ⟨List.replicate 14 0, List.replicate 6 0, 1, ⟨rfl, rfl, zero_sml _, zero_sml _, fun w => step_form k0 k1 R Q J a0 a1 a2 a3 a4 a5 b0 b1 b2 b3 b4 b5 x y l0 l1 w hk hr hs, fun w => pstep_form k0 k1 R Q J a0 a1 a2 a3 a4 a5 b0 b1 b2 b3 b4 b5 x y l0 l1 w hk hr hs⟩, fun h _ => (hs h).elim⟩
 by_cases hl : 0 ≤ l0 ∧ l0 ≤ J ∧ 0 ≤ l1 ∧ l1 ≤ J
 case neg =>
  refine ⟨List.replicate 14 0, List.replicate 6 0, 2, ⟨rfl, rfl, zero_sml _, zero_sml _, fun w => ?_, fun w => pstep_late k0 k1 R Q J a0 a1 a2 a3 a4 a5 b0 b1 b2 b3 b4 b5 x y l0 l1 w hk hr hs hl⟩, fun _ h => (hl h).elim⟩
  by_cases h0 : 0 ≤ l0 ∧ l0 ≤ J
  · exact step_late1 k0 k1 R Q J a0 a1 a2 a3 a4 a5 b0 b1 b2 b3 b4 b5 x y l0 l1 w hk hr hs h0 (by omega)
  · exact step_late0 k0 k1 R Q J a0 a1 a2 a3 a4 a5 b0 b1 b2 b3 b4 b5 x y l0 l1 w hk hr hs (by omega)
 obtain ⟨q0, q1, q2, q3⟩ := hl
 obtain ⟨f0, g0, h0, HK0, hof0⟩ := of_gen k0 hk.1 hk.2.1
 obtain ⟨f1, g1, h1, HK1, hof1⟩ := of_gen k1 hk.2.2.1 hk.2.2.2
 obtain ⟨_, _, hr0, hr1, hx, hy, hxy⟩ := id hs
 have hr' := hr
 unfold rangeOk at hr'
 obtain ⟨D, hD⟩ : ∃ D, (x + y) / R = D := ⟨_, rfl⟩
 have hD1 : 0 ≤ D := by rw [← hD]; exact Int.ediv_nonneg (by omega) (by omega)
 have hD2 : D ≤ 16 := by rw [← hD]; exact Int.le_trans (Int.ediv_le_self _ (by omega)) (by omega)
 obtain ⟨c0, c1, c2, c3, c4, c5, m0, n0, n1⟩ := HK0.out.2.2.2.2.2 a0 a1 a2 a3 a4 a5 (D + l0) hr0 (by omega) (by omega)
 obtain ⟨e0, e1, e2, e3, e4, e5, m1, o0, o1⟩ := HK1.out.2.2.2.2.2 b0 b1 b2 b3 b4 b5 (D + l1) hr1 (by omega) (by omega)
 have w0 := right_sml ⟨hk.1, hk.2.1⟩ hr0
 have w1 := right_sml ⟨hk.2.2.1, hk.2.2.2⟩ hr1
 have v0 := right_sml ⟨hk.1, hk.2.1⟩ m0
 have v1 := right_sml ⟨hk.2.2.1, hk.2.2.2⟩ m1
 obtain ⟨x0, x1, x2, x3, x4, x5, y0, y1, hsm, z0, z1, z2, zc, p1, p2⟩ := pass_both2 (R := R) (Q := Q) (a := x) (b := y) (c := a1) (d := b1) (by unfold LinkOk; omega)
 refine ⟨[c0, c1, c2, c3, c4, c5, e0, e1, e2, e3, e4, e5, y0, y1], [x0, x1, x2, x3, x4, x5], 0, ⟨rfl, rfl, ?_, ?_, fun w => ?_, fun w => ?_⟩, fun _ _ => ⟨rfl, ⟨hk, hr, m0, m1, z0, z1, z2⟩, ?_⟩⟩
 · have := hsm y0 (by simp); have := hsm y1 (by simp)
   unfold Sml at *
   intro z hz
   simp only [List.mem_cons, List.not_mem_nil, or_false] at hz
   omega
 · intro z hz
   have := hsm z (by simp only [List.mem_cons, List.not_mem_nil, or_false] at hz ⊢; omega)
   unfold Sml; omega
 · exact step_ok k0 k1 R Q J a0 a1 a2 a3 a4 a5 b0 b1 b2 b3 b4 b5 x y l0 l1 w hk hr hs q0 q1 q2 q3 f0 g0 h0 f1 g1 h1 D _ _ x0 x1 x2 x3 x4 x5 y0 y1 c0 c1 c2 c3 c4 c5 e0 e1 e2 e3 e4 e5 hD rfl rfl ⟨hD1, hD2⟩ hof0 hof1 (hide HK0.out.2.2.1) (hide HK1.out.2.2.1) n0 o0 p1
 · exact pstep_ok k0 k1 R Q J a0 a1 a2 a3 a4 a5 b0 b1 b2 b3 b4 b5 x y l0 l1 w hk hr hs q0 q1 q2 q3 D _ _ x0 x1 x2 x3 x4 x5 y0 y1 c0 c1 c2 c3 c4 c5 e0 e1 e2 e3 e4 e5 hD rfl rfl ⟨hD1, hD2⟩ n1 o1 p2
 · intro z hz
   exact zc z hz
end Go.Proofs.Ytagbikgfkakbfaa
namespace Go.Proofs.Ytagbikgfkakbfaa
open Go.RowKit
set_option linter.unusedSimpArgs false
set_option linter.unusedVariables false
structure GE where
 src : Int
 dst : Int
 wt : Int
def EdgesAt (w : World) (a : Option Addr) (n c : Nat) (es : List GE) : Prop :=
 es.length = n ∧ n ≤ c ∧ n ≤ 17592186044416 ∧ (0 < n → ∃ ad, a = some ad ∧ ad.block < w.heap.size ∧ ∀ (j : Nat) (e : GE), es[j]? = some e → w.cell? (ad.add (j * 3)) = some (.int .i64 e.src) ∧ w.cell? (ad.add (j * 3 + 1)) = some (.int .i64 e.dst) ∧ w.cell? (ad.add (j * 3 + 2)) = some (.int .i64 e.wt))
section
variable {w w' : World} {a : Option Addr} {n c : Nat} {es : List GE}
theorem EdgesAt.len (h : EdgesAt w a n c es) : es.length = n := h.1
theorem EdgesAt.cap (h : EdgesAt w a n c es) : n ≤ c := h.2.1
theorem EdgesAt.lim (h : EdgesAt w a n c es) : n ≤ 17592186044416 := h.2.2.1
theorem EdgesAt.below (h : EdgesAt w a n c es) (hb : Below w.heap.size w w') : EdgesAt w' a n c es :=
 ⟨h.1, h.2.1, h.2.2.1, fun hn => by
  obtain ⟨ad, e, hlt, hc⟩ := h.2.2.2 hn
  refine ⟨ad, e, Nat.lt_of_lt_of_le hlt hb.size, fun j x hx => ?_⟩
  obtain ⟨c0, c1, c2⟩ := hc j x hx
  exact ⟨(hb.cell (by rw [block_add]; exact hlt)).trans c0, (hb.cell (by rw [block_add]; exact hlt)).trans c1, (hb.cell (by rw [block_add]; exact hlt)).trans c2⟩⟩
theorem add_parts (ad : Addr) (m i : Nat) : ad.add (m + (i + 1)) = ⟨(ad.add m).block, (ad.add m).off + (i + 1), none⟩ := by
 unfold Addr.add; (repeat' split) <;> simp_all <;> omega
theorem EdgesAt.getB {k : Nat} (h : EdgesAt w a n c es) (hb : Below w.heap.size w w') (hk : k < n) : ∃ ad x y z, a = some ad ∧ (ad.add (k * 3)).block < w.heap.size ∧ Hid (es[k]? = some ⟨x, y, z⟩) ∧
 w'.cell? (ad.add (k * 3)) = some (.int .i64 x) ∧ w'.cell? ⟨(ad.add (k * 3)).block, (ad.add (k * 3)).off + 1, none⟩ = some (.int .i64 y) ∧ w'.cell? ⟨(ad.add (k * 3)).block, (ad.add (k * 3)).off + 2, none⟩ = some (.int .i64 z) := by
 obtain ⟨ad, e, hlt, hc⟩ := h.2.2.2 (by omega)
 have hl : k < es.length := by rw [h.1]; exact hk
 have hg : es[k]? = some es[k] := List.getElem?_eq_getElem hl
 obtain ⟨c0, c1, c2⟩ := hc k _ hg
 rw [show k * 3 + 1 = k * 3 + (0 + 1) by omega, add_parts] at c1
 rw [show k * 3 + 2 = k * 3 + (1 + 1) by omega, add_parts] at c2
 exact ⟨ad, es[k].src, es[k].dst, es[k].wt, e, by rw [block_add]; exact hlt, hg, (hb.cell (by rw [block_add]; exact hlt)).trans c0, (hb.cell (by simp only [block_add]; exact hlt)).trans c1, (hb.cell (by simp only [block_add]; exact hlt)).trans c2⟩
end
end Go.Proofs.Ytagbikgfkakbfaa
namespace Go.Proofs.Ytagbikgfkakbfaa
open Go.Joins Go.RowKit Go.ChangeShapes Go.WideShapes Go.Deep
set_option linter.unusedSimpArgs false
set_option linter.unusedVariables false
structure P2 where
 x : Int
 y : Int
def PairsAt (w : World) (a : Option Addr) (n c : Nat) (es : List P2) : Prop :=
 es.length = n ∧ n ≤ c ∧ n ≤ 17592186044416 ∧ (0 < n → ∃ ad, a = some ad ∧ ad.block < w.heap.size ∧ ∀ (j : Nat) (e : P2), es[j]? = some e → w.cell? (ad.add (j * 2)) = some (.int .i64 e.x) ∧ w.cell? (ad.add (j * 2 + 1)) = some (.int .i64 e.y))
structure R6 where
 x0 : Int
 x1 : Int
 x2 : Int
 x3 : Int
 x4 : Int
 x5 : Int
def R6.cells (r : R6) : List Value := [.int .i64 r.x0, .int .i64 r.x1, .int .i64 r.x2, .int .i64 r.x3, .int .i64 r.x4, .int .i64 r.x5]
def flat6 (l : List R6) : List Value := l.flatMap R6.cells
theorem flat6_len (l : List R6) : (flat6 l).length = l.length * 6 := by
 induction l with
 | nil => rfl
 | cons r l ih => simp only [flat6, List.flatMap_cons, List.length_append, List.length_cons] at ih ⊢; rw [ih]; simp [R6.cells]; omega
theorem flat6_snoc (l : List R6) (r : R6) : flat6 (l ++ [r]) = flat6 l ++ r.cells := by simp [flat6]
theorem flat6_get {l : List R6} {j : Nat} {r : R6} (h : l[j]? = some r) (i : Nat) (hi : i < 6) : (flat6 l)[j * 6 + i]? = r.cells[i]? := by
 induction l generalizing j with
 | nil => simp at h
 | cons s l ih =>
   have e : flat6 (s :: l) = s.cells ++ flat6 l := by simp [flat6]
   have hl : s.cells.length = 6 := rfl
   rw [e]
   cases j with
   | zero =>
     simp at h; subst h
     rw [List.getElem?_append_left (by omega)]; simp
   | succ j =>
     simp at h
     rw [List.getElem?_append_right (by omega), hl, show (j + 1) * 6 + i - 6 = j * 6 + i by omega]
     exact ih h
def RoundsAt (w : World) (a : Option Addr) (n c : Nat) (L : List R6) : Prop :=
 L.length = n ∧ n ≤ c ∧ n ≤ 17592186044416 ∧ (0 < n → ∃ ad, a = some ad ∧ ad.block < w.heap.size ∧ ∀ (j : Nat) (r : R6), L[j]? = some r → ∀ i v, i < 6 → r.cells[i]? = some v → w.cell? (ad.add (j * 6 + i)) = some v)
section
variable {w w' : World} {a : Option Addr} {n c : Nat} {es : List P2} {L : List R6}
theorem PairsAt.len (h : PairsAt w a n c es) : es.length = n := h.1
theorem PairsAt.lim (h : PairsAt w a n c es) : n ≤ 17592186044416 := h.2.2.1
theorem PairsAt.below (h : PairsAt w a n c es) (hb : Below w.heap.size w w') : PairsAt w' a n c es :=
 ⟨h.1, h.2.1, h.2.2.1, fun hn => by
  obtain ⟨ad, e, hlt, hc⟩ := h.2.2.2 hn
  refine ⟨ad, e, Nat.lt_of_lt_of_le hlt hb.size, fun j x hx => ?_⟩
  obtain ⟨c0, c1⟩ := hc j x hx
  exact ⟨(hb.cell (by rw [block_add]; exact hlt)).trans c0, (hb.cell (by rw [block_add]; exact hlt)).trans c1⟩⟩
theorem PairsAt.getB {k : Nat} (h : PairsAt w a n c es) (hb : Below w.heap.size w w') (hk : k < n) : ∃ ad x y, a = some ad ∧ (ad.add (k * 2)).block < w.heap.size ∧ Hid (es[k]? = some ⟨x, y⟩) ∧
 w'.cell? (ad.add (k * 2)) = some (.int .i64 x) ∧ w'.cell? ⟨(ad.add (k * 2)).block, (ad.add (k * 2)).off + 1, none⟩ = some (.int .i64 y) := by
 obtain ⟨ad, e, hlt, hc⟩ := h.2.2.2 (by omega)
 have hl : k < es.length := by rw [h.1]; exact hk
 have hg : es[k]? = some es[k] := List.getElem?_eq_getElem hl
 obtain ⟨c0, c1⟩ := hc k _ hg
 rw [show k * 2 + 1 = k * 2 + (0 + 1) by omega, add_parts] at c1
 exact ⟨ad, es[k].x, es[k].y, e, by rw [block_add]; exact hlt, hg, (hb.cell (by rw [block_add]; exact hlt)).trans c0, (hb.cell (by simp only [block_add]; exact hlt)).trans c1⟩
theorem RoundsAt.len (h : RoundsAt w a n c L) : L.length = n := h.1
theorem RoundsAt.lim (h : RoundsAt w a n c L) : n ≤ 17592186044416 := h.2.2.1
theorem RoundsAt.nil_ (w : World) : RoundsAt w none 0 0 [] := ⟨rfl, Nat.le_refl _, by omega, fun h => absurd h (by omega)⟩
theorem RoundsAt.below (h : RoundsAt w a n c L) (hb : Below w.heap.size w w') : RoundsAt w' a n c L :=
 ⟨h.1, h.2.1, h.2.2.1, fun hn => by
  obtain ⟨ad, e, hlt, hc⟩ := h.2.2.2 hn
  exact ⟨ad, e, Nat.lt_of_lt_of_le hlt hb.size, fun j r hr i v hi hv => (hb.cell (by rw [block_add]; exact hlt)).trans (hc j r hr i v hi hv)⟩⟩
theorem RoundsAt.getB {k : Nat} (h : RoundsAt w a n c L) (hb : Below w.heap.size w w') (hk : k < n) : ∃ ad, a = some ad ∧ (ad.add (k * 6)).block < w.heap.size ∧ ∃ r, L[k]? = some r ∧
 w'.cell? (ad.add (k * 6)) = some (.int .i64 r.x0) ∧ w'.cell? ⟨(ad.add (k * 6)).block, (ad.add (k * 6)).off + 1, none⟩ = some (.int .i64 r.x1) ∧ w'.cell? ⟨(ad.add (k * 6)).block, (ad.add (k * 6)).off + 2, none⟩ = some (.int .i64 r.x2) ∧ w'.cell? ⟨(ad.add (k * 6)).block, (ad.add (k * 6)).off + 3, none⟩ = some (.int .i64 r.x3) ∧ w'.cell? ⟨(ad.add (k * 6)).block, (ad.add (k * 6)).off + 4, none⟩ = some (.int .i64 r.x4) ∧ w'.cell? ⟨(ad.add (k * 6)).block, (ad.add (k * 6)).off + 5, none⟩ = some (.int .i64 r.x5) := by
 obtain ⟨ad, e, hlt, hc⟩ := h.2.2.2 (by omega)
 have hl : k < L.length := by rw [h.1]; exact hk
 have hg : L[k]? = some L[k] := List.getElem?_eq_getElem hl
 have h0 := hc k _ hg 0 _ (by omega) rfl
 rw [show k * 6 + 0 = k * 6 by omega] at h0
 have key : ∀ i v, i + 1 < 6 → L[k].cells[i + 1]? = some v → w'.cell? ⟨(ad.add (k * 6)).block, (ad.add (k * 6)).off + (i + 1), none⟩ = some v := fun i v hi hv => by
  have h1 := hc k _ hg (i + 1) v hi hv
  rw [add_parts] at h1
  exact (hb.cell (by simp only [block_add]; exact hlt)).trans h1
 exact ⟨ad, e, by rw [block_add]; exact hlt, L[k], hg, (hb.cell (by rw [block_add]; exact hlt)).trans h0, key 0 _ (by omega) rfl, key 1 _ (by omega) rfl, key 2 _ (by omega) rfl, key 3 _ (by omega) rfl, key 4 _ (by omega) rfl⟩
theorem RoundsAt.of_own {B : Nat} {e : TypeId} {v : Value} (h : w.ownsRow B e 6 v L.length (flat6 L)) (hl : L.length ≤ 17592186044416) :
 ∃ a c, v = .slice a L.length c ∧ RoundsAt w a L.length c L := by
 rcases h.2 with ⟨rfl, h0⟩ | ⟨g, cap, cur, rfl, _, hg, hn, _, hs, hx⟩
 · have : L = [] := List.eq_nil_of_length_eq_zero h0
   subst this
   exact ⟨none, 0, rfl, RoundsAt.nil_ w⟩
 · refine ⟨_, _, rfl, rfl, hn, hl, fun h0 => ⟨_, rfl, ?_, fun j r hj i v hi hv => ?_⟩⟩
   · rcases Nat.lt_or_ge g w.heap.size with h1 | h1
     · exact h1
     · rw [Array.getElem?_eq_none h1] at hg; cases hg
   · have hjl := (List.getElem?_eq_some_iff.1 hj).1
     have e1 : (⟨g, 0, none⟩ : Addr).add (j * 6 + i) = ⟨g, j * 6 + i, none⟩ := by unfold Addr.add; split <;> simp_all
     rw [e1]
     have e2 : w.cell? ⟨g, j * 6 + i, none⟩ = cur[j * 6 + i]? := by simp [World.cell?, hg]
     rw [e2]
     have e3 : (cur.toList.take (L.length * 6))[j * 6 + i]? = some v := by rw [hx, flat6_get hj i hi, hv]
     rw [List.getElem?_take, if_pos (by omega)] at e3
     simpa using e3
end
theorem own6_row {w : World} {B : Nat} {e : TypeId} {v : Value} {n : Nat} {xs : List Value} (h : w.ownsRow B e 6 v n xs) : ∀ k, v.ownBlock = some k → B ≤ k := by
 intro k hk
 rcases h.2 with ⟨rfl, _⟩ | ⟨g, cap, cur, rfl, hg, _⟩
 · simp [Value.ownBlock] at hk
 · simp [Value.ownBlock] at hk; omega
theorem own6_far {w : World} {B g : Nat} {e : TypeId} {v : Value} {n : Nat} {xs : List Value} (h : w.ownsRow B e 6 v n xs) (hg : g < B) : some g ≠ v.ownBlock := fun hk => by
 have := own6_row h g hk.symm; omega
def rdI (w : World) (p : Addr) : Int := match w.cell? p with | some (.int _ x) => x | _ => 0
section
variable {H : Type} {enc : TypeId × Value → H} {P : Program} {w : World} {base : Nat}
theorem pairs_of_slice {t te : TypeId} {k fuel : Nat} {v : Value} {x : DataW H × List MemPlace} (ht : P.underlying t = some (.slice te)) (hfl : flatI P k te = true) (hC : P.cellsOf te = 2)
 (h : DataW.trod enc P w base (fun _ => true) true fuel t [v] = some x) :
 ∃ a n c es, v = .slice a n c ∧ (n ≤ 17592186044416 → PairsAt w a n c es) ∧ (n = 0 ∨ ∃ el sp, x.1 = .slice el sp ∧ n ≤ el.length + sp.length) := by
 rcases open_slice ht h with ⟨hcs, hx⟩ | ⟨a, len, cap, m, n, D, Pl, hcs, hb, hl, hm, hmm, hx, hi⟩
 · obtain rfl : v = .slice none 0 0 := by simpa using hcs
   exact ⟨none, 0, 0, [], rfl, fun _ => ⟨rfl, Nat.le_refl _, Nat.zero_le _, fun h => absurd h (by omega)⟩, .inl rfl⟩
 · obtain rfl : v = .slice (some a) len cap := by simpa using hcs
   have hmm' : m = cap := by simpa using hmm
   subst hmm'
   rw [hC] at hi
   have hcell : ∀ i, i < len → ∃ x y : Int, w.cell? (a.add (i * 2)) = some (.int .i64 x) ∧ w.cell? (a.add (i * 2 + 1)) = some (.int .i64 y) := by
    intro i hil
    obtain ⟨cs', hc, ht'⟩ := hi i (by omega)
    obtain ⟨_, hcl, hat⟩ := World.cells?_some hc
    have key : ∀ j, j < 2 → ∃ x : Int, w.cell? (a.add (i * 2 + j)) = some (.int .i64 x) := by
     intro j hj
     obtain ⟨q, hq, _⟩ := flat_cells k te _ cs' _ hfl ht' j (cs'[j]'(by omega)) (List.getElem?_eq_getElem _)
     refine ⟨q, ?_⟩
     have hc1 := hat j (by omega)
     rw [Go.Deep.add_add] at hc1
     rw [hc1, List.getElem?_eq_getElem (by omega), hq]
    obtain ⟨x, hx⟩ := key 0 (by omega)
    obtain ⟨y, hy⟩ := key 1 (by omega)
    exact ⟨x, y, hx, hy⟩
   refine ⟨some a, len, m, (List.range len).map fun i => ⟨rdI w (a.add (i * 2)), rdI w (a.add (i * 2 + 1))⟩, rfl, fun hb => ⟨by simp, hl, hb, fun h0 => ⟨a, rfl, ?_, fun j e hj => ?_⟩⟩, .inr ⟨_, _, by rw [hx], by simp⟩⟩
   · obtain ⟨x, y, hx, _⟩ := hcell 0 h0
     have := World.block_lt_of_cell? w _ hx
     rwa [block_add] at this
   · have hjl : j < len := by
      have := (List.getElem?_eq_some_iff.1 hj).1
      simpa using this
     rw [List.getElem?_map, List.getElem?_range hjl] at hj
     simp only [Option.map_some, Option.some.injEq] at hj
     subst hj
     obtain ⟨x, y, hx, hy⟩ := hcell j hjl
     refine ⟨?_, ?_⟩
     · rw [show rdI w (a.add (j * 2)) = x by unfold rdI; rw [hx]]; exact hx
     · rw [show rdI w (a.add (j * 2 + 1)) = y by unfold rdI; rw [hy]]; exact hy
end
end Go.Proofs.Ytagbikgfkakbfaa
