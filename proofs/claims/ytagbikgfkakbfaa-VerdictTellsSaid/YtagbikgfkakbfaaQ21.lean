/-
  Lemmas and walks for the statement: LkBoth.
-/
import Derived.Test.YtagbikgfkakbfaaQ20
namespace Go.Proofs.Ytagbikgfkakbfaa
open Go.RowKit
set_option linter.unusedSimpArgs false
set_option linter.unusedVariables false
theorem tally_one {R Q : Nat} {pre : List Bool} {x : Bool} {p q r p' q' r' : Nat} (h : Tally R Q pre x p q r) (h' : Tally R Q pre x p' q' r') : p = p' ∧ q = q' ∧ r = r' := by
 unfold Tally at *; omega
theorem wf_le {x : Int} (h : (Lit.int .i64 x).wf = true) : x ≤ 9223372036854775807 := by
 simp only [Lit.wf, IntKind.min, IntKind.max, IntKind.signed, IntKind.bits, Bool.and_eq_true, decide_eq_true_eq, if_true] at h
 omega
theorem nat_wf (n : Nat) (h : n ≤ 1000000) : (Lit.int .i64 (n : Int)).wf = true := by
 simp only [Lit.wf, IntKind.min, IntKind.max, IntKind.signed, IntKind.bits, Bool.and_eq_true, decide_eq_true_eq, if_true]
 omega
theorem pass_detF {R Q a b c d : Nat} {e : Ending} {p0 p1 q0 q1 r0 r1 : Nat} (h0 : Tally R Q (rowB a b c d) false p0 q0 r0) (h1 : Tally R Q (rowB a b c d) true p1 q1 r1) (h : PassEnds R Q a b c d e) :
 e = .returned (.tuple #[.agg #[.int .i64 c, .int .i64 d, .int .i64 p0, .int .i64 p1, .int .i64 r0, .int .i64 r1], .agg #[.int .i64 q0, .int .i64 q1], .int .i64 0]) := by
 obtain ⟨p0', p1', q0', q1', r0', r1', he, k0, k1⟩ := h
 obtain ⟨rfl, rfl, rfl⟩ := tally_one h0 k0
 obtain ⟨rfl, rfl, rfl⟩ := tally_one h1 k1
 exact he
theorem tally_ex (R Q : Nat) (pre : List Bool) (x : Bool) : ∃ p q r, Tally R Q pre x p q r := by
 have l1 : List.count x (List.take R pre) ≤ List.count x (List.take (R + Q) pre) := by
  have e : List.take R pre = List.take R (List.take (R + Q) pre) := by rw [List.take_take, Nat.min_eq_left (by omega)]
  rw [e]; exact (List.take_sublist _ _).count_le x
 have l2 : List.count x (List.take (R + Q) pre) ≤ List.count x pre := (List.take_sublist _ _).count_le x
 exact ⟨List.count x (List.take R pre), List.count x (List.take (R + Q) pre) - List.count x (List.take R pre), List.count x pre - List.count x (List.take (R + Q) pre), rfl, by omega, by omega⟩
theorem pass_both {R Q a b c d : Int} (hok : LinkOk R Q a b c d) : ∃ x0 x1 x2 x3 x4 x5 y0 y1 : Int, (∀ x ∈ [x0, x1, x2, x3, x4, x5, y0, y1], 0 ≤ x ∧ x ≤ 1000) ∧ 0 ≤ y0 ∧ 0 ≤ y1 ∧
 (∀ w : World, Calls Try.prog 51 #[.int .i64 R, .int .i64 Q, .agg #[.int .i64 a, .int .i64 b], .agg #[.int .i64 c, .int .i64 d]] w fun e w' => e = .returned (.tuple #[.agg #[.int .i64 x0, .int .i64 x1, .int .i64 x2, .int .i64 x3, .int .i64 x4, .int .i64 x5], .agg #[.int .i64 y0, .int .i64 y1], .int .i64 0]) ∧ Below w.heap.size w w') ∧
 (∀ w : World, Calls Try.prog 35 #[.int .i64 R, .int .i64 Q, .agg #[.int .i64 a, .int .i64 b], .agg #[.int .i64 c, .int .i64 d]] w fun e w' => e = .returned (.tuple #[.agg #[.int .i64 x0, .int .i64 x1, .int .i64 x2, .int .i64 x3, .int .i64 x4, .int .i64 x5], .agg #[.int .i64 y0, .int .i64 y1], .int .i64 0]) ∧ Below w.heap.size w w') := by
 have hbd := hok
 unfold LinkOk at hbd
 obtain ⟨R, rfl⟩ : ∃ n : Nat, R = (n : Int) := ⟨R.toNat, by omega⟩
 obtain ⟨Q, rfl⟩ : ∃ n : Nat, Q = (n : Int) := ⟨Q.toNat, by omega⟩
 obtain ⟨a, rfl⟩ : ∃ n : Nat, a = (n : Int) := ⟨a.toNat, by omega⟩
 obtain ⟨b, rfl⟩ : ∃ n : Nat, b = (n : Int) := ⟨b.toNat, by omega⟩
 obtain ⟨c, rfl⟩ : ∃ n : Nat, c = (n : Int) := ⟨c.toNat, by omega⟩
 obtain ⟨d, rfl⟩ : ∃ n : Nat, d = (n : Int) := ⟨d.toNat, by omega⟩
 obtain ⟨p0, q0, r0, t0⟩ := tally_ex R Q (rowB a b c d) false
 obtain ⟨p1, q1, r1, t1⟩ := tally_ex R Q (rowB a b c d) true
 have s0 := tally_small t0
 have s1 := tally_small t1
 rw [row_len] at s0 s1
 exact ⟨c, d, p0, p1, r0, r1, q0, q1, by simp; omega, by omega, by omega, fun w => (lpass_ok R Q a b c d w hok).mono fun e w' ⟨h, hB⟩ => ⟨pass_detF t0 t1 h, hB⟩, fun w => (opass_ok R Q a b c d w hok).mono fun e w' ⟨h, hB⟩ => ⟨pass_detF t0 t1 h, hB⟩⟩
end Go.Proofs.Ytagbikgfkakbfaa
