/-
  Lemmas and walks for the statement: EqD, EqS, Ctl.
-/
import Derived.Test.YtkmodnggncadeaaQ01
import Derived.Test.YtkmodnggncadeaaChecked
import Derived.DeepKeys
import Derived.Laws.StructEq
import Derived.WalkKit
import Derived.WalkSpells
import Derived.WalkLawsBesides
namespace Go.Proofs.Ytkmodnggncadeaa
open Go.RowKit
set_option linter.unusedSimpArgs false
set_option linter.unusedVariables false
theorem eqSelf {m : Nat} {t : TypeId} {x : Value} {D : Nat} {l : List Lit} (hm : m ≤ 10000) (hk : Try.prog.keyTypeAt m t = true) (hf : x.formed Try.prog t = true) (hl : Try.prog.keyLits D t x.cells.toList = some l) (w : World) :
 (Op.equalIn 10000 t x x).run Try.prog w = .ok true w := by
 have := run_equalIn_deep (P := Try.prog) (10000 - m) m t hk w D D x x l l hf hf hl hl
 rw [show 10000 - m + m = 10000 by omega] at this
 obtain ⟨r, hr, hi⟩ := this
 rw [hr, hi.2 rfl]
theorem cellsInt : Try.prog.cellsOf 3 = 1 := by kernel_rfl
theorem cellsPair : Try.prog.cellsOf 22 = 2 := by kernel_rfl
theorem cellsRound : Try.prog.cellsOf 71 = 6 := by kernel_rfl
theorem litsInt {x : Int} {D : Nat} (h : (Lit.int .i64 x).wf = true) : Try.prog.keyLits (D + 1) 3 [.int .i64 x] = some [.int .i64 x] := by
 simp only [Program.keyLits, Try.underlying3, h, and_self, if_true]
theorem litsPair {x y : Int} {D : Nat} (h : (Lit.int .i64 x).wf = true) (h' : (Lit.int .i64 y).wf = true) : Try.prog.keyLits (D + 1 + 1) 22 [.int .i64 x, .int .i64 y] = some [.int .i64 x, .int .i64 y] := by
 unfold Program.keyLits
 simp only [Try.underlying22]
 simp [cellsInt, cellsPair, List.range_succ, litsInt h, litsInt h']
theorem litsRound {x0 x1 x2 x3 x4 x5 : Int} {D : Nat} (h0 : (Lit.int .i64 x0).wf = true) (h1 : (Lit.int .i64 x1).wf = true) (h2 : (Lit.int .i64 x2).wf = true) (h3 : (Lit.int .i64 x3).wf = true) (h4 : (Lit.int .i64 x4).wf = true) (h5 : (Lit.int .i64 x5).wf = true) :
 Try.prog.keyLits (D + 1 + 1 + 1) 71 [.int .i64 x0, .int .i64 x1, .int .i64 x2, .int .i64 x3, .int .i64 x4, .int .i64 x5] = some [.int .i64 x0, .int .i64 x1, .int .i64 x2, .int .i64 x3, .int .i64 x4, .int .i64 x5] := by
 unfold Program.keyLits
 simp only [Try.underlying71]
 simp [cellsPair, cellsRound, litsPair h0 h1, litsPair h2 h3, litsPair h4 h5]
set_option maxRecDepth 100000 in
theorem eqRound {x0 x1 x2 x3 x4 x5 : Int} (h0 : (Lit.int .i64 x0).wf = true) (h1 : (Lit.int .i64 x1).wf = true) (h2 : (Lit.int .i64 x2).wf = true) (h3 : (Lit.int .i64 x3).wf = true) (h4 : (Lit.int .i64 x4).wf = true) (h5 : (Lit.int .i64 x5).wf = true) (w : World) : (Op.equalIn 10000 71 (.agg #[.int .i64 x0, .int .i64 x1, .int .i64 x2, .int .i64 x3, .int .i64 x4, .int .i64 x5]) (.agg #[.int .i64 x0, .int .i64 x1, .int .i64 x2, .int .i64 x3, .int .i64 x4, .int .i64 x5])).run Try.prog w = .ok true w :=
 eqSelf (m := 4) (D := 3 + 1 + 1 + 1) (by omega) (by kernel_rfl) (by kernel_rfl) (litsRound h0 h1 h2 h3 h4 h5) w
set_option maxRecDepth 100000 in
theorem eqPair {y0 y1 : Int} (h0 : (Lit.int .i64 y0).wf = true) (h1 : (Lit.int .i64 y1).wf = true) (w : World) : (Op.equalIn 10000 22 (.agg #[.int .i64 y0, .int .i64 y1]) (.agg #[.int .i64 y0, .int .i64 y1])).run Try.prog w = .ok true w :=
 eqSelf (m := 4) (D := 3 + 1 + 1 + 1) (by omega) (by kernel_rfl) (by kernel_rfl) (litsPair h0 h1) w
end Go.Proofs.Ytkmodnggncadeaa
namespace Go.Proofs.Ytkmodnggncadeaa
open Go.RowKit
set_option linter.unusedSimpArgs false
set_option linter.unusedVariables false
theorem cellsCtl : Try.prog.cellsOf 38 = 6 := by kernel_rfl
theorem cellsCtl2 : Try.prog.cellsOf 39 = 12 := by kernel_rfl
theorem cellsState : Try.prog.cellsOf 41 = 14 := by kernel_rfl
theorem litsCtl {c0 c1 c2 c3 c4 c5 : Int} {D : Nat} (hc0 : (Lit.int .i64 c0).wf = true) (hc1 : (Lit.int .i64 c1).wf = true) (hc2 : (Lit.int .i64 c2).wf = true) (hc3 : (Lit.int .i64 c3).wf = true) (hc4 : (Lit.int .i64 c4).wf = true) (hc5 : (Lit.int .i64 c5).wf = true) : Try.prog.keyLits (D + 1 + 1) 38 [.int .i64 c0, .int .i64 c1, .int .i64 c2, .int .i64 c3, .int .i64 c4, .int .i64 c5] = some [.int .i64 c0, .int .i64 c1, .int .i64 c2, .int .i64 c3, .int .i64 c4, .int .i64 c5] := by
 unfold Program.keyLits
 simp only [Try.underlying38]
 simp [cellsInt, cellsCtl, litsInt hc0, litsInt hc1, litsInt hc2, litsInt hc3, litsInt hc4, litsInt hc5]
theorem litsCtl2 {s0 s1 s2 s3 s4 s5 s6 s7 s8 s9 s10 s11 : Int} {D : Nat} (hs0 : (Lit.int .i64 s0).wf = true) (hs1 : (Lit.int .i64 s1).wf = true) (hs2 : (Lit.int .i64 s2).wf = true) (hs3 : (Lit.int .i64 s3).wf = true) (hs4 : (Lit.int .i64 s4).wf = true) (hs5 : (Lit.int .i64 s5).wf = true) (hs6 : (Lit.int .i64 s6).wf = true) (hs7 : (Lit.int .i64 s7).wf = true) (hs8 : (Lit.int .i64 s8).wf = true) (hs9 : (Lit.int .i64 s9).wf = true) (hs10 : (Lit.int .i64 s10).wf = true) (hs11 : (Lit.int .i64 s11).wf = true) : Try.prog.keyLits (D + 1 + 1 + 1) 39 [.int .i64 s0, .int .i64 s1, .int .i64 s2, .int .i64 s3, .int .i64 s4, .int .i64 s5, .int .i64 s6, .int .i64 s7, .int .i64 s8, .int .i64 s9, .int .i64 s10, .int .i64 s11] = some [.int .i64 s0, .int .i64 s1, .int .i64 s2, .int .i64 s3, .int .i64 s4, .int .i64 s5, .int .i64 s6, .int .i64 s7, .int .i64 s8, .int .i64 s9, .int .i64 s10, .int .i64 s11] := by
 unfold Program.keyLits
 simp only [Try.underlying39]
 simp [cellsCtl, cellsCtl2, List.range_succ, litsCtl hs0 hs1 hs2 hs3 hs4 hs5, litsCtl hs6 hs7 hs8 hs9 hs10 hs11]
theorem litsState {s0 s1 s2 s3 s4 s5 s6 s7 s8 s9 s10 s11 s12 s13 : Int} {D : Nat} (hs0 : (Lit.int .i64 s0).wf = true) (hs1 : (Lit.int .i64 s1).wf = true) (hs2 : (Lit.int .i64 s2).wf = true) (hs3 : (Lit.int .i64 s3).wf = true) (hs4 : (Lit.int .i64 s4).wf = true) (hs5 : (Lit.int .i64 s5).wf = true) (hs6 : (Lit.int .i64 s6).wf = true) (hs7 : (Lit.int .i64 s7).wf = true) (hs8 : (Lit.int .i64 s8).wf = true) (hs9 : (Lit.int .i64 s9).wf = true) (hs10 : (Lit.int .i64 s10).wf = true) (hs11 : (Lit.int .i64 s11).wf = true) (hs12 : (Lit.int .i64 s12).wf = true) (hs13 : (Lit.int .i64 s13).wf = true) : Try.prog.keyLits (D + 1 + 1 + 1 + 1) 41 [.int .i64 s0, .int .i64 s1, .int .i64 s2, .int .i64 s3, .int .i64 s4, .int .i64 s5, .int .i64 s6, .int .i64 s7, .int .i64 s8, .int .i64 s9, .int .i64 s10, .int .i64 s11, .int .i64 s12, .int .i64 s13] = some [.int .i64 s0, .int .i64 s1, .int .i64 s2, .int .i64 s3, .int .i64 s4, .int .i64 s5, .int .i64 s6, .int .i64 s7, .int .i64 s8, .int .i64 s9, .int .i64 s10, .int .i64 s11, .int .i64 s12, .int .i64 s13] := by
 unfold Program.keyLits
 simp only [Try.underlying41]
 simp [cellsCtl2, cellsPair, cellsState, litsCtl2 hs0 hs1 hs2 hs3 hs4 hs5 hs6 hs7 hs8 hs9 hs10 hs11, litsPair (D := D + 1) hs12 hs13]
set_option maxRecDepth 100000 in
theorem eqState {s0 s1 s2 s3 s4 s5 s6 s7 s8 s9 s10 s11 s12 s13 : Int} (hs0 : (Lit.int .i64 s0).wf = true) (hs1 : (Lit.int .i64 s1).wf = true) (hs2 : (Lit.int .i64 s2).wf = true) (hs3 : (Lit.int .i64 s3).wf = true) (hs4 : (Lit.int .i64 s4).wf = true) (hs5 : (Lit.int .i64 s5).wf = true) (hs6 : (Lit.int .i64 s6).wf = true) (hs7 : (Lit.int .i64 s7).wf = true) (hs8 : (Lit.int .i64 s8).wf = true) (hs9 : (Lit.int .i64 s9).wf = true) (hs10 : (Lit.int .i64 s10).wf = true) (hs11 : (Lit.int .i64 s11).wf = true) (hs12 : (Lit.int .i64 s12).wf = true) (hs13 : (Lit.int .i64 s13).wf = true) (w : World) : (Op.equalIn 10000 41 (.agg #[.int .i64 s0, .int .i64 s1, .int .i64 s2, .int .i64 s3, .int .i64 s4, .int .i64 s5, .int .i64 s6, .int .i64 s7, .int .i64 s8, .int .i64 s9, .int .i64 s10, .int .i64 s11, .int .i64 s12, .int .i64 s13]) (.agg #[.int .i64 s0, .int .i64 s1, .int .i64 s2, .int .i64 s3, .int .i64 s4, .int .i64 s5, .int .i64 s6, .int .i64 s7, .int .i64 s8, .int .i64 s9, .int .i64 s10, .int .i64 s11, .int .i64 s12, .int .i64 s13])).run Try.prog w = .ok true w :=
 eqSelf (m := 5) (D := 3 + 1 + 1 + 1 + 1) (by omega) (by kernel_rfl) (by kernel_rfl) (litsState hs0 hs1 hs2 hs3 hs4 hs5 hs6 hs7 hs8 hs9 hs10 hs11 hs12 hs13) w
end Go.Proofs.Ytkmodnggncadeaa
namespace Go.Proofs.Ytkmodnggncadeaa
set_option linter.unusedSimpArgs false
set_option linter.unusedVariables false
structure Ctl where
 kind : Int
 win : Int
 base : Int
 way : Int
 spd : Int
 part : Int
def Ctl.v (c : Ctl) : Value := .agg #[.int .i64 c.kind, .int .i64 c.win, .int .i64 c.base, .int .i64 c.way, .int .i64 c.spd, .int .i64 c.part]
def Ctl.zero : Ctl := ⟨0, 0, 0, 0, 0, 0⟩
def clipW (n : Int) : Int := if n < 1 then 1 else if 12 < n then 12 else n
def ctlNew (kind n : Int) : Ctl := ⟨kind, clipW n, -1, 0, 0, 0⟩
def knownB (c : Ctl) : Bool := decide (1 ≤ c.win ∧ c.win ≤ 12 ∧ -1 ≤ c.base ∧ c.base ≤ 1099511627776)
def lowBase (b d : Int) : Int := if b < 0 then d else if d < b then d else b
def ledRight (c : Ctl) : Bool := decide (c.kind = 3 ∧ 1 ≤ c.win ∧ c.win ≤ 12 ∧ -1 ≤ c.base ∧ c.base ≤ 1099511627776 ∧ c.way = 0 ∧ c.spd = 0 ∧ 0 ≤ c.part ∧ c.part < 4 ∧ (c.part = 0 ∨ c.win < 12))
def ledAll (c : Ctl) (wait : Int) : Int :=
 let a := 4 * c.win + c.part + (if 2 - wait < -2 then -2 else 2 - wait)
 let b := if a < 4 then 4 else a
 if 48 < b then 48 else b
def ledNext (c : Ctl) (d : Int) : Ctl × Int :=
 if ledRight c = false then (Ctl.zero, 1)
 else if d < 0 ∨ 1099511627776 < d then (Ctl.zero, 2)
 else
  let b := lowBase c.base d
  (⟨c.kind, ledAll c (d - b) / 4, b, c.way, c.spd, ledAll c (d - b) % 4⟩, 0)
end Go.Proofs.Ytkmodnggncadeaa
