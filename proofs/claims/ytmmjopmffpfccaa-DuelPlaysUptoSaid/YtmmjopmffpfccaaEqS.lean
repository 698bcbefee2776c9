/-
  LEMMA: a state of a duel is equal to itself.
-/
import Derived.Test.YtmmjopmffpfccaaEqD
namespace Go.Proofs.Ytmmjopmffpfccaa
open Go.RowKit
set_option linter.unusedSimpArgs false
set_option linter.unusedVariables false

theorem cellsCtl : Try.prog.cellsOf 26 = 6 := by kernel_rfl
theorem cellsCtl2 : Try.prog.cellsOf 27 = 12 := by kernel_rfl
theorem cellsState : Try.prog.cellsOf 29 = 14 := by kernel_rfl
theorem litsCtl {c0 c1 c2 c3 c4 c5 : Int} {D : Nat} (hc0 : (Lit.int .i64 c0).wf = true) (hc1 : (Lit.int .i64 c1).wf = true) (hc2 : (Lit.int .i64 c2).wf = true) (hc3 : (Lit.int .i64 c3).wf = true) (hc4 : (Lit.int .i64 c4).wf = true) (hc5 : (Lit.int .i64 c5).wf = true) : Try.prog.keyLits (D + 1 + 1) 26 [.int .i64 c0, .int .i64 c1, .int .i64 c2, .int .i64 c3, .int .i64 c4, .int .i64 c5] = some [.int .i64 c0, .int .i64 c1, .int .i64 c2, .int .i64 c3, .int .i64 c4, .int .i64 c5] := by
  unfold Program.keyLits
  simp only [Try.underlying26]
  simp [cellsInt, cellsCtl, litsInt hc0, litsInt hc1, litsInt hc2, litsInt hc3, litsInt hc4, litsInt hc5]
theorem litsCtl2 {s0 s1 s2 s3 s4 s5 s6 s7 s8 s9 s10 s11 : Int} {D : Nat} (hs0 : (Lit.int .i64 s0).wf = true) (hs1 : (Lit.int .i64 s1).wf = true) (hs2 : (Lit.int .i64 s2).wf = true) (hs3 : (Lit.int .i64 s3).wf = true) (hs4 : (Lit.int .i64 s4).wf = true) (hs5 : (Lit.int .i64 s5).wf = true) (hs6 : (Lit.int .i64 s6).wf = true) (hs7 : (Lit.int .i64 s7).wf = true) (hs8 : (Lit.int .i64 s8).wf = true) (hs9 : (Lit.int .i64 s9).wf = true) (hs10 : (Lit.int .i64 s10).wf = true) (hs11 : (Lit.int .i64 s11).wf = true) : Try.prog.keyLits (D + 1 + 1 + 1) 27 [.int .i64 s0, .int .i64 s1, .int .i64 s2, .int .i64 s3, .int .i64 s4, .int .i64 s5, .int .i64 s6, .int .i64 s7, .int .i64 s8, .int .i64 s9, .int .i64 s10, .int .i64 s11] = some [.int .i64 s0, .int .i64 s1, .int .i64 s2, .int .i64 s3, .int .i64 s4, .int .i64 s5, .int .i64 s6, .int .i64 s7, .int .i64 s8, .int .i64 s9, .int .i64 s10, .int .i64 s11] := by
  unfold Program.keyLits
  simp only [Try.underlying27]
  simp [cellsCtl, cellsCtl2, List.range_succ, litsCtl hs0 hs1 hs2 hs3 hs4 hs5, litsCtl hs6 hs7 hs8 hs9 hs10 hs11]
theorem litsState {s0 s1 s2 s3 s4 s5 s6 s7 s8 s9 s10 s11 s12 s13 : Int} {D : Nat} (hs0 : (Lit.int .i64 s0).wf = true) (hs1 : (Lit.int .i64 s1).wf = true) (hs2 : (Lit.int .i64 s2).wf = true) (hs3 : (Lit.int .i64 s3).wf = true) (hs4 : (Lit.int .i64 s4).wf = true) (hs5 : (Lit.int .i64 s5).wf = true) (hs6 : (Lit.int .i64 s6).wf = true) (hs7 : (Lit.int .i64 s7).wf = true) (hs8 : (Lit.int .i64 s8).wf = true) (hs9 : (Lit.int .i64 s9).wf = true) (hs10 : (Lit.int .i64 s10).wf = true) (hs11 : (Lit.int .i64 s11).wf = true) (hs12 : (Lit.int .i64 s12).wf = true) (hs13 : (Lit.int .i64 s13).wf = true) : Try.prog.keyLits (D + 1 + 1 + 1 + 1) 29 [.int .i64 s0, .int .i64 s1, .int .i64 s2, .int .i64 s3, .int .i64 s4, .int .i64 s5, .int .i64 s6, .int .i64 s7, .int .i64 s8, .int .i64 s9, .int .i64 s10, .int .i64 s11, .int .i64 s12, .int .i64 s13] = some [.int .i64 s0, .int .i64 s1, .int .i64 s2, .int .i64 s3, .int .i64 s4, .int .i64 s5, .int .i64 s6, .int .i64 s7, .int .i64 s8, .int .i64 s9, .int .i64 s10, .int .i64 s11, .int .i64 s12, .int .i64 s13] := by
  unfold Program.keyLits
  simp only [Try.underlying29]
  simp [cellsCtl2, cellsPair, cellsState, litsCtl2 hs0 hs1 hs2 hs3 hs4 hs5 hs6 hs7 hs8 hs9 hs10 hs11, litsPair (D := D + 1) hs12 hs13]
set_option maxRecDepth 100000 in
theorem eqState {s0 s1 s2 s3 s4 s5 s6 s7 s8 s9 s10 s11 s12 s13 : Int} (hs0 : (Lit.int .i64 s0).wf = true) (hs1 : (Lit.int .i64 s1).wf = true) (hs2 : (Lit.int .i64 s2).wf = true) (hs3 : (Lit.int .i64 s3).wf = true) (hs4 : (Lit.int .i64 s4).wf = true) (hs5 : (Lit.int .i64 s5).wf = true) (hs6 : (Lit.int .i64 s6).wf = true) (hs7 : (Lit.int .i64 s7).wf = true) (hs8 : (Lit.int .i64 s8).wf = true) (hs9 : (Lit.int .i64 s9).wf = true) (hs10 : (Lit.int .i64 s10).wf = true) (hs11 : (Lit.int .i64 s11).wf = true) (hs12 : (Lit.int .i64 s12).wf = true) (hs13 : (Lit.int .i64 s13).wf = true) (w : World) : (Op.equalIn 10000 29 (.agg #[.int .i64 s0, .int .i64 s1, .int .i64 s2, .int .i64 s3, .int .i64 s4, .int .i64 s5, .int .i64 s6, .int .i64 s7, .int .i64 s8, .int .i64 s9, .int .i64 s10, .int .i64 s11, .int .i64 s12, .int .i64 s13]) (.agg #[.int .i64 s0, .int .i64 s1, .int .i64 s2, .int .i64 s3, .int .i64 s4, .int .i64 s5, .int .i64 s6, .int .i64 s7, .int .i64 s8, .int .i64 s9, .int .i64 s10, .int .i64 s11, .int .i64 s12, .int .i64 s13])).run Try.prog w = .ok true w :=
  eqSelf (m := 5) (D := 3 + 1 + 1 + 1 + 1) (by omega) (by kernel_rfl) (by kernel_rfl) (litsState hs0 hs1 hs2 hs3 hs4 hs5 hs6 hs7 hs8 hs9 hs10 hs11 hs12 hs13) w

end Go.Proofs.Ytmmjopmffpfccaa
