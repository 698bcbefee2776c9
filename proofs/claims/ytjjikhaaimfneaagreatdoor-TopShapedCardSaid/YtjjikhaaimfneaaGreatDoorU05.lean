/-
  Lemmas and walks for the statement: RegG2, RegIn, EqD, EqS, Ctl, Led, Veg.
-/
import Derived.Test.YtjjikhaaimfneaaGreatDoorU04
import Derived.OrdersIn
import Derived.TacticsIn
import Derived.RangeFuncCalls
import Derived.Test.YtjjikhaaimfneaaGreatDoorU01
import Derived.Test.YtjjikhaaimfneaaGreatDoorChecked
import Derived.DeepKeys
import Derived.Laws.StructEq
import Derived.WalkKit
import Derived.WalkSpells
import Derived.WalkLawsBesides
import Derived.Test.YtjjikhaaimfneaaGreatDoorProg
namespace Go.Proofs.YtjjikhaaimfneaaGreatDoor
open Go
set_option linter.unusedSimpArgs false
set_option linter.unusedVariables false
section
variable {P : Program} {ops : Array Oper} {Q : Exit → Act → World → Prop} {md : Region.Mode} {c : Nat} {F : World → Prop}
theorem wpAnyG_pure {i : Nat} {oi : Oper} {v : Value} {fuel : Nat} {listed : Array Bool} {a : Act} {w : World} (hi : ops[i]? = some oi)
 (hs : Region.noSelect ops = true) (hf : Region.free md ops listed i = true) (hr : (Region.ready md ops listed).contains i = true) (hB : closedB md ops listed = true) (hc : decide (i ≠ c) = true)
 (hQ : ∀ c a w, Q (.panic c) (a.put oi.dst v) w → Q (.panic c) a w) (hF : listed.getD c true = false → F w) (hy : YieldsIf P ops (fun _ => True) oi v a)
 (h : wpAnyG P md ops Q c F fuel (listed.setIfInBounds i true) (a.put oi.dst v) w) : wpAnyG P md ops Q c F (fuel + 1) listed a w :=
 wpAnyG_first hi (Region.noSelect_spec hs) (of_decide_eq_true hc) hQ (fun L w inv hL hS => trivial) fuel listed a w (closedB_spec hB) (Region.free_spec hi hf) (by simpa using hr) hy hF h
theorem wpAnyG_oneF {i : Nat} {o : Oper} {fuel : Nat} {listed : Array Bool} {a : Act} {w : World} (ho : ops[i]? = some o) (hr : Region.ready md ops listed = [i])
 (h : ∀ K' : Act → World → Prop, Shut (∀ a w, F w → wpAnyG P md ops Q c F fuel (listed.setIfInBounds i true) a w → K' a w) → if Region.wanted o (yielded ops a.tmps) = true then Oper.wp P o a w K' Q else K' (a.put o.dst undef) w) : wpAnyG P md ops Q c F (fuel + 1) listed a w := by
 refine ⟨fun h0 => (by rw [hr] at h0; cases h0), fun j hj => ?_⟩
 rw [hr] at hj
 obtain rfl : j = i := by simpa using hj
 exact wpOp_step ho (fun K' hK => h K' (fun a w hF hW => hK a w ⟨fun _ => hF, hW⟩))
theorem wpAnyG_twoF {i j : Nat} {oi oj : Oper} {fuel : Nat} {listed : Array Bool} {a : Act} {w : World} (hoi : ops[i]? = some oi) (hoj : ops[j]? = some oj) (hr : Region.ready md ops listed = [i, j])
 (hi : ∀ K' : Act → World → Prop, Shut (∀ a w, F w → wpAnyG P md ops Q c F fuel (listed.setIfInBounds i true) a w → K' a w) → if Region.wanted oi (yielded ops a.tmps) = true then Oper.wp P oi a w K' Q else K' (a.put oi.dst undef) w)
 (hj : ∀ K' : Act → World → Prop, Shut (∀ a w, F w → wpAnyG P md ops Q c F fuel (listed.setIfInBounds j true) a w → K' a w) → if Region.wanted oj (yielded ops a.tmps) = true then Oper.wp P oj a w K' Q else K' (a.put oj.dst undef) w) : wpAnyG P md ops Q c F (fuel + 1) listed a w := by
 refine ⟨fun h0 => (by rw [hr] at h0; cases h0), fun k hk => ?_⟩
 rw [hr] at hk
 rcases (show k = i ∨ k = j by simpa using hk) with rfl | rfl
 · exact wpOp_step hoi (fun K' hK => hi K' (fun a w hF hW => hK a w ⟨fun _ => hF, hW⟩))
 · exact wpOp_step hoj (fun K' hK => hj K' (fun a w hF hW => hK a w ⟨fun _ => hF, hW⟩))
theorem wB (i : Nat) {oi : Oper} {v : Value} {fuel : Nat} {listed : Array Bool} {a : Act} {w : World} (hi : ops[i]? = some oi)
 (hk : (Region.noSelect ops && Region.free md ops listed i && (Region.ready md ops listed).contains i && closedB md ops listed && pathB md ops 8 c i && decide (c < ops.size ∧ i ≠ c)) = true)
 (hQ : ∀ c a w, Q (.panic c) (a.put oi.dst v) w → Q (.panic c) a w) (hF : F w) (hy : YieldsIf P ops F oi v a)
 (h : wpAnyG P md ops Q c F fuel (listed.setIfInBounds i true) (a.put oi.dst v) w) : wpAnyG P md ops Q c F (fuel + 1) listed a w := by
 simp only [Bool.and_eq_true] at hk
 exact wpAnyG_before hi hk.1.1.1.1.1 hk.1.1.1.1.2 hk.1.1.1.2 hk.1.1.2 hk.1.2 hk.2 hQ hF hy h
theorem wC (i : Nat) {oi : Oper} {v : Value} {fuel : Nat} {listed : Array Bool} {a : Act} {w : World} (hi : ops[i]? = some oi)
 (hk : (Region.noSelect ops && Region.free md ops listed i && (Region.ready md ops listed).contains i && closedB md ops listed && decide (i ≠ c) && listed.getD c true) = true)
 (hQ : ∀ c a w, Q (.panic c) (a.put oi.dst v) w → Q (.panic c) a w) (hy : YieldsIf P ops (fun _ => True) oi v a)
 (h : wpAnyG P md ops Q c F fuel (listed.setIfInBounds i true) (a.put oi.dst v) w) : wpAnyG P md ops Q c F (fuel + 1) listed a w := by
 simp only [Bool.and_eq_true] at hk
 exact wpAnyG_behind hi hk.1.1.1.1.1 hk.1.1.1.1.2 hk.1.1.1.2 hk.1.1.2 hk.1.2 hk.2 hQ hy h
theorem wP (i : Nat) {oi : Oper} {v : Value} {fuel : Nat} {listed : Array Bool} {a : Act} {w : World} (hi : ops[i]? = some oi)
 (hk : (Region.noSelect ops && Region.free md ops listed i && (Region.ready md ops listed).contains i && closedB md ops listed && decide (i ≠ c)) = true)
 (hQ : ∀ c a w, Q (.panic c) (a.put oi.dst v) w → Q (.panic c) a w) (hF : F w) (hy : YieldsIf P ops (fun _ => True) oi v a)
 (h : wpAnyG P md ops Q c F fuel (listed.setIfInBounds i true) (a.put oi.dst v) w) : wpAnyG P md ops Q c F (fuel + 1) listed a w := by
 simp only [Bool.and_eq_true] at hk
 exact wpAnyG_pure hi hk.1.1.1.1 hk.1.1.1.2 hk.1.1.2 hk.1.2 hk.2 hQ (fun _ => hF) hy h
theorem kL {fuel : Nat} {listed L2 : Array Bool} {a a2 : Act} {w : World} (h : wpAnyG P md ops Q c F fuel L2 a2 w)
 (hl : listed = L2 := by (try simp only [List.setIfInBounds_toArray, List.set_cons_zero, List.set_cons_succ]) <;> rfl)
 (ha : a = a2 := by (try simp only [Act.put, List.setIfInBounds_toArray, List.set_cons_zero, List.set_cons_succ]) <;> rfl) : wpAnyG P md ops Q c F fuel listed a w := by
 subst hl; subst ha; exact h
theorem kB (i : Nat) {oi : Oper} {v : Value} {fuel : Nat} {listed L2 : Array Bool} {a a2 : Act} {w : World} (hF : F w) (h : wpAnyG P md ops Q c F fuel L2 a2 w)
 (hi : ops[i]? = some oi := by rfl)
 (hk : (Region.noSelect ops && Region.free md ops listed i && (Region.ready md ops listed).contains i && closedB md ops listed && pathB md ops 8 c i && decide (c < ops.size ∧ i ≠ c)) = true := by kernel_rfl)
 (hy : YieldsIf P ops F oi v a := by exact Or.inl ⟨by rfl, by (intro w h; (try dsimp only at h); go_split_ands; go_simp; all_goals (with_reducible rfl))⟩)
 (hQ : ∀ c a w, Q (.panic c) (a.put oi.dst v) w → Q (.panic c) a w := by exact fun _ _ _ h => h)
 (hl : listed.setIfInBounds i true = L2 := by (try simp only [List.setIfInBounds_toArray, List.set_cons_zero, List.set_cons_succ]) <;> rfl)
 (ha : a.put oi.dst v = a2 := by (try simp only [Act.put, List.setIfInBounds_toArray, List.set_cons_zero, List.set_cons_succ]) <;> rfl) : wpAnyG P md ops Q c F (fuel + 1) listed a w := by
 subst hl; subst ha; exact wB i hi hk hQ hF hy h
theorem kC (i : Nat) {oi : Oper} {v : Value} {fuel : Nat} {listed L2 : Array Bool} {a a2 : Act} {w : World} (h : wpAnyG P md ops Q c F fuel L2 a2 w)
 (hi : ops[i]? = some oi := by rfl)
 (hk : (Region.noSelect ops && Region.free md ops listed i && (Region.ready md ops listed).contains i && closedB md ops listed && decide (i ≠ c) && listed.getD c true) = true := by kernel_rfl)
 (hy : YieldsIf P ops (fun _ => True) oi v a := by exact Or.inl ⟨by rfl, by (intro w _; go_simp; all_goals (with_reducible rfl))⟩)
 (hQ : ∀ c a w, Q (.panic c) (a.put oi.dst v) w → Q (.panic c) a w := by exact fun _ _ _ h => h)
 (hl : listed.setIfInBounds i true = L2 := by (try simp only [List.setIfInBounds_toArray, List.set_cons_zero, List.set_cons_succ]) <;> rfl)
 (ha : a.put oi.dst v = a2 := by (try simp only [Act.put, List.setIfInBounds_toArray, List.set_cons_zero, List.set_cons_succ]) <;> rfl) : wpAnyG P md ops Q c F (fuel + 1) listed a w := by
 subst hl; subst ha; exact wC i hi hk hQ hy h
theorem kP (i : Nat) {oi : Oper} {v : Value} {fuel : Nat} {listed L2 : Array Bool} {a a2 : Act} {w : World} (hF : F w) (h : wpAnyG P md ops Q c F fuel L2 a2 w)
 (hi : ops[i]? = some oi := by rfl)
 (hk : (Region.noSelect ops && Region.free md ops listed i && (Region.ready md ops listed).contains i && closedB md ops listed && decide (i ≠ c)) = true := by kernel_rfl)
 (hy : YieldsIf P ops (fun _ => True) oi v a := by exact Or.inl ⟨by rfl, by (intro w _; go_simp; all_goals (with_reducible rfl))⟩)
 (hQ : ∀ c a w, Q (.panic c) (a.put oi.dst v) w → Q (.panic c) a w := by exact fun _ _ _ h => h)
 (hl : listed.setIfInBounds i true = L2 := by (try simp only [List.setIfInBounds_toArray, List.set_cons_zero, List.set_cons_succ]) <;> rfl)
 (ha : a.put oi.dst v = a2 := by (try simp only [Act.put, List.setIfInBounds_toArray, List.set_cons_zero, List.set_cons_succ]) <;> rfl) : wpAnyG P md ops Q c F (fuel + 1) listed a w := by
 subst hl; subst ha; exact wP i hi hk hQ hF hy h
end
end Go.Proofs.YtjjikhaaimfneaaGreatDoor
namespace Go.Proofs.YtjjikhaaimfneaaGreatDoor
open Go
set_option linter.unusedSimpArgs false
set_option linter.unusedVariables false
section
variable {P : Program} {ops : Array Oper} {Q : Exit → Act → World → Prop} {md : Region.Mode} {n l : Nat}
def noDefer (ops : Array Oper) : Bool := ops.all fun o => match o.op with | .defer _ => false | _ => true
theorem noDefer_spec {i : Nat} {o : Oper} (h : noDefer ops = true) (ho : ops[i]? = some o) : ∀ c, o.op ≠ .defer c := by
 intro c e
 have hi : i < ops.size := by
  rcases Nat.lt_or_ge i ops.size with h' | h'
  · exact h'
  · rw [Array.getElem?_eq_none h'] at ho; cases ho
 have h1 := Array.all_eq_true.1 h i hi
 rw [Array.getElem?_eq_getElem hi] at ho
 injection ho with ho
 rw [ho, e] at h1; cases h1
def noRow (P : Program) (o : Oper) (a : Act) (w : World) : Prop := ∀ row args w', (execOp a.eval o).run P w ≠ .ok (.row row args) w'
theorem rows_in {row : String} {args : Array Value} {w : World} {R : Value → World → Prop} {m : Nat} (h : Rows P row args w R) : RowsIn (Fence.wide.inRound l) m P row args w R := by
 intro c cs _
 obtain ⟨v, w', h1, h2⟩ := h c cs
 exact ⟨v, w', h1, (stepsIn_wide.2 h2 : StepsIn (Machine.fenced P Fence.wide) P _ _)⟩
theorem oper_in {o : Oper} {a : Act} {w : World} {K : Act → World → Prop} (hd : ∀ c, o.op ≠ .defer c) (h : o.wp P a w K Q) : o.wpIn (Fence.wide.inRound l) n P a w K Q := by
 unfold Oper.wpIn
 refine ⟨fun f _ => trivial, ?_⟩
 rw [Oper.semAt_eq _ _ _ hd]
 unfold Oper.wp at h
 generalize (execOp a.eval o).run P w = r at *
 cases r with
 | ok x w' =>
   cases x <;> simp only [Oper.upon, Oper.uponIn] at h ⊢ <;> first
    | exact h
    | exact ⟨(by intro h'; cases h'), (callsIn_wide.2 h).inRound l⟩
    | exact ⟨(by intro h'; cases h'), rows_in h⟩
 | halt x w' => cases x <;> simp only [Oper.upon, Oper.uponIn] at h ⊢ <;> exact h
theorem wpOp_in {i : Nat} {a : Act} {w : World} {K : Act → World → Prop} (hnd : noDefer ops = true) (hlo : ∀ a w, ¬ Q .outgrown a w) (h : wpOp P ops Q i K a w) : wpOpIn (Fence.wide.inRound l) n P ops Q i K a w := by
 unfold wpOp at h
 unfold wpOpIn
 cases ho : ops[i]? with
 | none => rw [ho] at h; exact h
 | some o =>
   rw [ho] at h
   dsimp only at h ⊢
   split
   · rename_i hw
     rw [if_pos hw] at h
     rcases h with h | ⟨_, a, w, h⟩
     · exact oper_in (noDefer_spec hnd ho) h
     · exact (hlo a w h).elim
   · rename_i hw
     rw [if_neg hw] at h
     exact ⟨fun f _ => trivial, h⟩
theorem wpAny_in (hnd : noDefer ops = true) (hlo : ∀ a w, ¬ Q .outgrown a w) : ∀ (fuel : Nat) (L : Array Bool) (a : Act) (w : World), wpAny P md ops Q fuel L a w → wpAnyIn (Fence.wide.inRound l) n P md ops Q fuel L a w
 | 0, _, _, _, h => h
 | fuel + 1, _, _, _, h => ⟨h.1, fun i hi => wpOpIn_mono (fun a' w' h' => wpAny_in hnd hlo fuel _ a' w' h') (wpOp_in hnd hlo (h.2 i hi))⟩
theorem wpIn_region_G {id : Nat} {a : Act} {w : World} (c : Nat) (F : World → Prop) (hm : P.follows .mixedOrders = true) (hnd : noDefer ops = true) (hlo : ∀ a w, ¬ Q .outgrown a w)
 (h : wpAnyG P .any ops Q c F ops.size (Array.replicate ops.size false) a w.drew) : (Code.region id ops true).wpIn (Fence.wide.inRound l) n P Q a w :=
 wpIn_region_any hm (wpAny_in hnd hlo _ _ _ _ (wpAny_of_G _ _ _ _ h))
end
end Go.Proofs.YtjjikhaaimfneaaGreatDoor
namespace Go.Proofs.YtjjikhaaimfneaaGreatDoor
open Go.RowKit
set_option linter.unusedSimpArgs false
set_option linter.unusedVariables false
theorem cellsInt : Tryz.prog.cellsOf 3 = 1 := by kernel_rfl
theorem cellsPair : Tryz.prog.cellsOf 47 = 2 := by kernel_rfl
theorem litsInt {x : Int} {D : Nat} (h : (Lit.int .i64 x).wf = true) : Tryz.prog.keyLits (D + 1) 3 [.int .i64 x] = some [.int .i64 x] := by
 simp only [Program.keyLits, Tryz.underlying3, h, and_self, if_true]
theorem litsPair {x y : Int} {D : Nat} (h : (Lit.int .i64 x).wf = true) (h' : (Lit.int .i64 y).wf = true) : Tryz.prog.keyLits (D + 1 + 1) 47 [.int .i64 x, .int .i64 y] = some [.int .i64 x, .int .i64 y] := by
 unfold Program.keyLits
 simp only [Tryz.underlying47]
 simp [cellsInt, cellsPair, List.range_succ, litsInt h, litsInt h']
end Go.Proofs.YtjjikhaaimfneaaGreatDoor
namespace Go.Proofs.YtjjikhaaimfneaaGreatDoor
open Go.RowKit
set_option linter.unusedSimpArgs false
set_option linter.unusedVariables false
theorem cellsCtl : Tryz.prog.cellsOf 36 = 6 := by kernel_rfl
theorem cellsCtl2 : Tryz.prog.cellsOf 131 = 12 := by kernel_rfl
theorem cellsState : Tryz.prog.cellsOf 133 = 14 := by kernel_rfl
theorem litsCtl {c0 c1 c2 c3 c4 c5 : Int} {D : Nat} (hc0 : (Lit.int .i64 c0).wf = true) (hc1 : (Lit.int .i64 c1).wf = true) (hc2 : (Lit.int .i64 c2).wf = true) (hc3 : (Lit.int .i64 c3).wf = true) (hc4 : (Lit.int .i64 c4).wf = true) (hc5 : (Lit.int .i64 c5).wf = true) : Tryz.prog.keyLits (D + 1 + 1) 36 [.int .i64 c0, .int .i64 c1, .int .i64 c2, .int .i64 c3, .int .i64 c4, .int .i64 c5] = some [.int .i64 c0, .int .i64 c1, .int .i64 c2, .int .i64 c3, .int .i64 c4, .int .i64 c5] := by
 unfold Program.keyLits
 simp only [Tryz.underlying36]
 simp [cellsInt, cellsCtl, litsInt hc0, litsInt hc1, litsInt hc2, litsInt hc3, litsInt hc4, litsInt hc5]
theorem litsCtl2 {s0 s1 s2 s3 s4 s5 s6 s7 s8 s9 s10 s11 : Int} {D : Nat} (hs0 : (Lit.int .i64 s0).wf = true) (hs1 : (Lit.int .i64 s1).wf = true) (hs2 : (Lit.int .i64 s2).wf = true) (hs3 : (Lit.int .i64 s3).wf = true) (hs4 : (Lit.int .i64 s4).wf = true) (hs5 : (Lit.int .i64 s5).wf = true) (hs6 : (Lit.int .i64 s6).wf = true) (hs7 : (Lit.int .i64 s7).wf = true) (hs8 : (Lit.int .i64 s8).wf = true) (hs9 : (Lit.int .i64 s9).wf = true) (hs10 : (Lit.int .i64 s10).wf = true) (hs11 : (Lit.int .i64 s11).wf = true) : Tryz.prog.keyLits (D + 1 + 1 + 1) 131 [.int .i64 s0, .int .i64 s1, .int .i64 s2, .int .i64 s3, .int .i64 s4, .int .i64 s5, .int .i64 s6, .int .i64 s7, .int .i64 s8, .int .i64 s9, .int .i64 s10, .int .i64 s11] = some [.int .i64 s0, .int .i64 s1, .int .i64 s2, .int .i64 s3, .int .i64 s4, .int .i64 s5, .int .i64 s6, .int .i64 s7, .int .i64 s8, .int .i64 s9, .int .i64 s10, .int .i64 s11] := by
 unfold Program.keyLits
 simp only [Tryz.underlying131]
 simp [cellsCtl, cellsCtl2, List.range_succ, litsCtl hs0 hs1 hs2 hs3 hs4 hs5, litsCtl hs6 hs7 hs8 hs9 hs10 hs11]
theorem litsState {s0 s1 s2 s3 s4 s5 s6 s7 s8 s9 s10 s11 s12 s13 : Int} {D : Nat} (hs0 : (Lit.int .i64 s0).wf = true) (hs1 : (Lit.int .i64 s1).wf = true) (hs2 : (Lit.int .i64 s2).wf = true) (hs3 : (Lit.int .i64 s3).wf = true) (hs4 : (Lit.int .i64 s4).wf = true) (hs5 : (Lit.int .i64 s5).wf = true) (hs6 : (Lit.int .i64 s6).wf = true) (hs7 : (Lit.int .i64 s7).wf = true) (hs8 : (Lit.int .i64 s8).wf = true) (hs9 : (Lit.int .i64 s9).wf = true) (hs10 : (Lit.int .i64 s10).wf = true) (hs11 : (Lit.int .i64 s11).wf = true) (hs12 : (Lit.int .i64 s12).wf = true) (hs13 : (Lit.int .i64 s13).wf = true) : Tryz.prog.keyLits (D + 1 + 1 + 1 + 1) 133 [.int .i64 s0, .int .i64 s1, .int .i64 s2, .int .i64 s3, .int .i64 s4, .int .i64 s5, .int .i64 s6, .int .i64 s7, .int .i64 s8, .int .i64 s9, .int .i64 s10, .int .i64 s11, .int .i64 s12, .int .i64 s13] = some [.int .i64 s0, .int .i64 s1, .int .i64 s2, .int .i64 s3, .int .i64 s4, .int .i64 s5, .int .i64 s6, .int .i64 s7, .int .i64 s8, .int .i64 s9, .int .i64 s10, .int .i64 s11, .int .i64 s12, .int .i64 s13] := by
 unfold Program.keyLits
 simp only [Tryz.underlying133]
 simp [cellsCtl2, cellsPair, cellsState, litsCtl2 hs0 hs1 hs2 hs3 hs4 hs5 hs6 hs7 hs8 hs9 hs10 hs11, litsPair (D := D + 1) hs12 hs13]
end Go.Proofs.YtjjikhaaimfneaaGreatDoor
namespace Go.Proofs.YtjjikhaaimfneaaGreatDoor
set_option linter.unusedSimpArgs false
set_option linter.unusedVariables false
structure Ctl where
 kind : Int
 win : Int
 base : Int
 way : Int
 spd : Int
 part : Int
def Ctl.v (c : Ctl) : Value := .agg #[.int .i64 c.kind, .int .i64 c.win, .int .i64 c.base, .int .i64 c.way, .int .i64 c.spd, .int .i64 c.part]
def Ctl.zero : Ctl := ⟨0, 0, 0, 0, 0, 0⟩
def clipW (n : Int) : Int := if n < 1 then 1 else if 12 < n then 12 else n
def ctlNew (kind n : Int) : Ctl := ⟨kind, clipW n, -1, 0, 0, 0⟩
def knownB (c : Ctl) : Bool := decide (1 ≤ c.win ∧ c.win ≤ 12 ∧ -1 ≤ c.base ∧ c.base ≤ 1099511627776)
def lowBase (b d : Int) : Int := if b < 0 then d else if d < b then d else b
def ledRight (c : Ctl) : Bool := decide (c.kind = 3 ∧ 1 ≤ c.win ∧ c.win ≤ 12 ∧ -1 ≤ c.base ∧ c.base ≤ 1099511627776 ∧ c.way = 0 ∧ c.spd = 0 ∧ 0 ≤ c.part ∧ c.part < 4 ∧ (c.part = 0 ∨ c.win < 12))
def ledAll (c : Ctl) (wait : Int) : Int :=
 let a := 4 * c.win + c.part + (if 2 - wait < -2 then -2 else 2 - wait)
 let b := if a < 4 then 4 else a
 if 48 < b then 48 else b
def ledNext (c : Ctl) (d : Int) : Ctl × Int :=
 if ledRight c = false then (Ctl.zero, 1)
 else if d < 0 ∨ 1099511627776 < d then (Ctl.zero, 2)
 else
  let b := lowBase c.base d
  (⟨c.kind, ledAll c (d - b) / 4, b, c.way, c.spd, ledAll c (d - b) % 4⟩, 0)
end Go.Proofs.YtjjikhaaimfneaaGreatDoor
namespace Go.Proofs.YtjjikhaaimfneaaGreatDoor
set_option linter.unusedSimpArgs false
set_option linter.unusedVariables false
open Go.RowKit
set_option maxHeartbeats 1000000 in
theorem ledRight_any (k n b y s p : Int) (w : World) :
 Calls Tryz.prog 33 #[.agg #[.int .i64 k, .int .i64 n, .int .i64 b, .int .i64 y, .int .i64 s, .int .i64 p]] w fun e w' => e = .returned (.bool (ledRight ⟨k, n, b, y, s, p⟩)) ∧ Below w.heap.size w w' := by
 go_enter Tryz.func33, Tryz.ntmps33
 go_wp2
 all_goals (go_ret; refine ⟨?_, (Below.refl _ _).alloc (Nat.le_refl _) _⟩)
 all_goals (refine congrArg (fun x : Bool => Ending.returned (Value.bool x)) ?_)
 all_goals (rw [Bool.eq_iff_iff]; simp only [ledRight]; simp)
 all_goals omega
theorem clip_any (n : Int) (w : World) :
 Calls Tryz.prog 158 #[.int .i64 n] w fun e w' => e = .returned (.int .i64 (clipW n)) ∧ w = w' := by
 go_enter Tryz.func158, Tryz.ntmps158
 go_wp2
 all_goals (go_ret; refine ⟨?_, rfl⟩)
 all_goals (refine congrArg (fun x : Int => Ending.returned (.int .i64 x)) ?_)
 all_goals (unfold clipW; split <;> (try split) <;> omega)
theorem clip_in (n : Int) (w : World) (h1 : 1 ≤ n) (h2 : n ≤ 12) : Calls Tryz.prog 158 #[.int .i64 n] w fun e w' => e = .returned (.int .i64 n) ∧ w = w' :=
 (clip_any n w).mono fun _ _ ⟨a, b⟩ => ⟨by rw [a]; unfold clipW; rw [if_neg (by omega), if_neg (by omega)], b⟩
theorem clip_lo (n : Int) (w : World) (h1 : n < 1) : Calls Tryz.prog 158 #[.int .i64 n] w fun e w' => e = .returned (.int .i64 1) ∧ w = w' :=
 (clip_any n w).mono fun _ _ ⟨a, b⟩ => ⟨by rw [a]; unfold clipW; rw [if_pos (by omega)], b⟩
theorem clip_hi (n : Int) (w : World) (h1 : 12 < n) : Calls Tryz.prog 158 #[.int .i64 n] w fun e w' => e = .returned (.int .i64 12) ∧ w = w' :=
 (clip_any n w).mono fun _ _ ⟨a, b⟩ => ⟨by rw [a]; unfold clipW; rw [if_neg (by omega), if_pos (by omega)], b⟩
set_option maxHeartbeats 1000000 in
theorem known_any (k n b y s p : Int) (w : World) :
 Calls Tryz.prog 164 #[.agg #[.int .i64 k, .int .i64 n, .int .i64 b, .int .i64 y, .int .i64 s, .int .i64 p]] w fun e w' => e = .returned (.bool (knownB ⟨k, n, b, y, s, p⟩)) ∧ Below w.heap.size w w' := by
 have hfin : ∀ v : Bool, (v = true ↔ (1 ≤ n ∧ n ≤ 12 ∧ -1 ≤ b ∧ b ≤ 1099511627776)) → knownB ⟨k, n, b, y, s, p⟩ = v := fun v hv => by rw [Bool.eq_iff_iff, hv]; simp [knownB]
 rcases (show n < 1 ∨ 12 < n ∨ (1 ≤ n ∧ n ≤ 12) by omega) with h1 | h1 | ⟨h1, h2⟩
 · have E := hide (hfin false (by simp; omega))
   clear hfin
   have hb : ((n : Int) == 1) = false := by simp; omega
   go_enter Tryz.func164, Tryz.ntmps164
   go_wp2
   go_quiet ((go_at_call 158; exact quietL (clip_lo _ _ h1)))
   go_wp2
   go_ret
   exact ⟨(by rw [E.out]; rfl), Below.drewN ((Below.refl _ _).alloc (Nat.le_refl _) _) _⟩
 · have E := hide (hfin false (by simp; omega))
   clear hfin
   have hb : ((n : Int) == 12) = false := by simp; omega
   go_enter Tryz.func164, Tryz.ntmps164
   go_wp2
   go_quiet ((go_at_call 158; exact quietL (clip_hi _ _ h1)))
   go_wp2
   go_ret
   exact ⟨(by rw [E.out]; rfl), Below.drewN ((Below.refl _ _).alloc (Nat.le_refl _) _) _⟩
 · rcases (show b < -1 ∨ 1099511627776 < b ∨ (-1 ≤ b ∧ b ≤ 1099511627776) by omega) with h3 | h3 | ⟨h3, h4⟩
   · have E := hide (hfin false (by simp; omega))
     clear hfin
     have hd : decide (-1 ≤ b) = false := by simp; omega
     go_enter Tryz.func164, Tryz.ntmps164
     go_wp2
     go_quiet ((go_at_call 158; exact quietL (clip_in _ _ h1 h2)))
     go_wp2
     go_ret
     exact ⟨(by rw [E.out]; rfl), Below.drewN ((Below.refl _ _).alloc (Nat.le_refl _) _) _⟩
   · have E := hide (hfin false (by simp; omega))
     clear hfin
     have hd : decide (b ≤ 1099511627776) = false := by simp; omega
     have hd0 : decide (-1 ≤ b) = true := by simp; omega
     go_enter Tryz.func164, Tryz.ntmps164
     go_wp2
     go_quiet ((go_at_call 158; exact quietL (clip_in _ _ h1 h2)))
     go_wp2
     go_ret
     exact ⟨(by rw [E.out]; rfl), Below.drewN ((Below.refl _ _).alloc (Nat.le_refl _) _) _⟩
   · have E := hide (hfin true (by simp; omega))
     clear hfin
     go_enter Tryz.func164, Tryz.ntmps164
     go_wp2
     go_quiet ((go_at_call 158; exact quietL (clip_in _ _ h1 h2)))
     go_wp2
     go_ret
     exact ⟨(by rw [E.out]; rfl), Below.drewN ((Below.refl _ _).alloc (Nat.le_refl _) _) _⟩
theorem known_yes (k n b y s p : Int) (w : World) (h1 : 1 ≤ n) (h2 : n ≤ 12) (h3 : -1 ≤ b) (h4 : b ≤ 1099511627776) :
 Calls Tryz.prog 164 #[.agg #[.int .i64 k, .int .i64 n, .int .i64 b, .int .i64 y, .int .i64 s, .int .i64 p]] w fun e w' => e = .returned (.bool true) ∧ Below w.heap.size w w' :=
 (known_any k n b y s p w).mono fun _ _ ⟨a, h⟩ => ⟨by rw [a]; exact retBI (by simp [knownB]; omega), h⟩
theorem known_no (k n b y s p : Int) (w : World) (h : n < 1 ∨ 12 < n ∨ b < -1 ∨ 1099511627776 < b) :
 Calls Tryz.prog 164 #[.agg #[.int .i64 k, .int .i64 n, .int .i64 b, .int .i64 y, .int .i64 s, .int .i64 p]] w fun e w' => e = .returned (.bool false) ∧ Below w.heap.size w w' :=
 (known_any k n b y s p w).mono fun _ _ ⟨a, h'⟩ => ⟨by rw [a]; exact retBI (by simp [knownB]; omega), h'⟩
set_option maxHeartbeats 1000000 in
theorem mRight_any (k n b y s p : Int) (w : World) :
 Calls Tryz.prog 160 #[.agg #[.int .i64 k, .int .i64 n, .int .i64 b, .int .i64 y, .int .i64 s, .int .i64 p]] w fun e w' => e = .returned (.bool (ledRight ⟨k, n, b, y, s, p⟩)) ∧ Below w.heap.size w w' := by
 by_cases hk : k = 3
 · subst hk
   by_cases hkn : n < 1 ∨ 12 < n ∨ b < -1 ∨ 1099511627776 < b
   · have E := hide (show ledRight ⟨3, n, b, y, s, p⟩ = false by simp [ledRight]; omega)
     have K := hide hkn
     clear hkn
     go_enter Tryz.func160, Tryz.ntmps160
     go_wp2_with (go_at_call 164; refine (known_no _ _ _ _ _ _ _ K.out).mono ?_; rintro e w1 ⟨rfl, hb⟩)
     go_ret
     exact ⟨(by rw [E.out]; rfl), ((Below.refl _ _).alloc (Nat.le_refl _) _).trans (hb.mono (by simp))⟩
   · have h1 : 1 ≤ n := by omega
     have h2 : n ≤ 12 := by omega
     have h3 : -1 ≤ b := by omega
     have h4 : b ≤ 1099511627776 := by omega
     clear hkn
     rcases (show n < 12 ∨ n = 12 by omega) with h5 | rfl
     · have h6 : n / 12 = 0 := by omega
       go_enter Tryz.func160, Tryz.ntmps160
       go_wp2_with (go_at_call 164; refine (known_yes _ _ _ _ _ _ _ h1 h2 h3 h4).mono ?_; rintro e w1 ⟨rfl, hb⟩; obtain ⟨hc, hf⟩ := bcell hb)
       all_goals (go_ret; refine ⟨?_, ((Below.refl _ _).alloc (Nat.le_refl _) _).trans (hb.mono (by simp))⟩)
       all_goals (refine congrArg (fun x : Bool => Ending.returned (Value.bool x)) ?_)
       all_goals (rw [Bool.eq_iff_iff]; simp only [ledRight]; simp)
       all_goals omega
     · go_enter Tryz.func160, Tryz.ntmps160
       go_wp2_with (go_at_call 164; refine (known_yes _ _ _ _ _ _ _ h1 h2 h3 h4).mono ?_; rintro e w1 ⟨rfl, hb⟩; obtain ⟨hc, hf⟩ := bcell hb)
       all_goals (go_ret; refine ⟨?_, ((Below.refl _ _).alloc (Nat.le_refl _) _).trans (hb.mono (by simp))⟩)
       all_goals (refine congrArg (fun x : Bool => Ending.returned (Value.bool x)) ?_)
       all_goals (rw [Bool.eq_iff_iff]; simp only [ledRight]; simp)
       all_goals omega
 · have E := hide (show ledRight ⟨k, n, b, y, s, p⟩ = false by simp [ledRight]; omega)
   have hk' : ((k : Int) == 3) = false := by simpa using hk
   clear hk
   go_enter Tryz.func160, Tryz.ntmps160
   go_wp2
   go_ret
   exact ⟨(by rw [E.out]; rfl), (Below.refl _ _).alloc (Nat.le_refl _) _⟩
theorem ledRight_t (k n b y s p : Int) (h : ledRight ⟨k, n, b, y, s, p⟩ = true) (w : World) :
 Calls Tryz.prog 33 #[.agg #[.int .i64 k, .int .i64 n, .int .i64 b, .int .i64 y, .int .i64 s, .int .i64 p]] w fun e w' => e = .returned (.bool true) ∧ Below w.heap.size w w' :=
 (ledRight_any k n b y s p w).mono fun _ _ ⟨a, h'⟩ => ⟨by rw [a, h], h'⟩
end Go.Proofs.YtjjikhaaimfneaaGreatDoor
namespace Go.Proofs.YtjjikhaaimfneaaGreatDoor
open Go.RowKit
set_option linter.unusedSimpArgs false
set_option linter.unusedVariables false
def vegRight (c : Ctl) : Bool := decide (c.kind = 1 ∧ 1 ≤ c.win ∧ c.win ≤ 12 ∧ -1 ≤ c.base ∧ c.base ≤ 1099511627776 ∧ c.way = 0 ∧ c.spd = 0 ∧ c.part = 0)
set_option maxHeartbeats 1000000 in
theorem vegRight_any (k n b y s p : Int) (w : World) :
 Calls Tryz.prog 113 #[.agg #[.int .i64 k, .int .i64 n, .int .i64 b, .int .i64 y, .int .i64 s, .int .i64 p]] w fun e w' => e = .returned (.bool (vegRight ⟨k, n, b, y, s, p⟩)) ∧ Below w.heap.size w w' := by
 go_enter Tryz.func113, Tryz.ntmps113
 go_wp2
 all_goals (go_ret; refine ⟨?_, (Below.refl _ _).alloc (Nat.le_refl _) _⟩)
 all_goals (refine congrArg (fun x : Bool => Ending.returned (Value.bool x)) ?_)
 all_goals (rw [Bool.eq_iff_iff]; simp only [vegRight]; simp)
 all_goals omega
set_option maxHeartbeats 2000000 in
theorem kRight_any (k n b y s p : Int) (w : World) :
 Calls Tryz.prog 156 #[.agg #[.int .i64 k, .int .i64 n, .int .i64 b, .int .i64 y, .int .i64 s, .int .i64 p]] w fun e w' => e = .returned (.bool (vegRight ⟨k, n, b, y, s, p⟩)) ∧ Below w.heap.size w w' := by
 by_cases hk : k = 1
 · subst hk
   by_cases hkn : n < 1 ∨ 12 < n ∨ b < -1 ∨ 1099511627776 < b
   · have E := hide (show vegRight ⟨1, n, b, y, s, p⟩ = false by simp [vegRight]; omega)
     have K := hide hkn
     clear hkn
     go_enter Tryz.func156, Tryz.ntmps156
     go_wp2_with (go_at_call 164; refine (known_no _ _ _ _ _ _ _ K.out).mono ?_; rintro e w1 ⟨rfl, hb⟩)
     go_ret
     exact ⟨(by rw [E.out]; rfl), ((Below.refl _ _).alloc (Nat.le_refl _) _).trans (hb.mono (by simp))⟩
   · have h1 : 1 ≤ n := by omega
     have h2 : n ≤ 12 := by omega
     have h3 : -1 ≤ b := by omega
     have h4 : b ≤ 1099511627776 := by omega
     clear hkn
     go_enter Tryz.func156, Tryz.ntmps156
     go_wp2_with (go_at_call 164; refine (known_yes _ _ _ _ _ _ _ h1 h2 h3 h4).mono ?_; rintro e w1 ⟨rfl, hb⟩; obtain ⟨hc, hf⟩ := bcell hb)
     all_goals (go_ret; refine ⟨?_, ((Below.refl _ _).alloc (Nat.le_refl _) _).trans (hb.mono (by simp))⟩)
     all_goals (refine congrArg (fun x : Bool => Ending.returned (Value.bool x)) ?_)
     all_goals (rw [Bool.eq_iff_iff]; simp only [vegRight]; simp)
     all_goals omega
 · have E := hide (show vegRight ⟨k, n, b, y, s, p⟩ = false by simp [vegRight]; omega)
   have hk' : ((k : Int) == 1) = false := by simpa using hk
   clear hk
   go_enter Tryz.func156, Tryz.ntmps156
   go_wp2
   go_ret
   exact ⟨(by rw [E.out]; rfl), (Below.refl _ _).alloc (Nat.le_refl _) _⟩
theorem vegRight_t (k n b y s p : Int) (h : vegRight ⟨k, n, b, y, s, p⟩ = true) (w : World) : Calls Tryz.prog 113 #[.agg #[.int .i64 k, .int .i64 n, .int .i64 b, .int .i64 y, .int .i64 s, .int .i64 p]] w fun e w' => e = .returned (.bool true) ∧ Below w.heap.size w w' :=
 (vegRight_any k n b y s p w).mono fun _ _ ⟨a, h'⟩ => ⟨by rw [a, h], h'⟩
theorem kRight_t (k n b y s p : Int) (h : vegRight ⟨k, n, b, y, s, p⟩ = true) (w : World) : Calls Tryz.prog 156 #[.agg #[.int .i64 k, .int .i64 n, .int .i64 b, .int .i64 y, .int .i64 s, .int .i64 p]] w fun e w' => e = .returned (.bool true) ∧ Below w.heap.size w w' :=
 (kRight_any k n b y s p w).mono fun _ _ ⟨a, h'⟩ => ⟨by rw [a, h], h'⟩
theorem kRight_f (k n b y s p : Int) (h : vegRight ⟨k, n, b, y, s, p⟩ = false) (w : World) : Calls Tryz.prog 156 #[.agg #[.int .i64 k, .int .i64 n, .int .i64 b, .int .i64 y, .int .i64 s, .int .i64 p]] w fun e w' => e = .returned (.bool false) ∧ Below w.heap.size w w' :=
 (kRight_any k n b y s p w).mono fun _ _ ⟨a, h'⟩ => ⟨by rw [a, h], h'⟩
set_option maxHeartbeats 1000000 in
theorem vegNew_any (n : Int) (w : World) :
 Calls Tryz.prog 112 #[.int .i64 n] w fun e w' => e = .returned (.agg #[.int .i64 1, .int .i64 (clipW n), .int .i64 (-1), .int .i64 0, .int .i64 0, .int .i64 0]) ∧ Below w.heap.size w w' := by
 go_enter Tryz.func112, Tryz.ntmps112
 go_wp2
 all_goals (refine bodyPost_ret (v := .agg #[.int .i64 1, .int .i64 (clipW n), .int .i64 (-1), .int .i64 0, .int .i64 0, .int .i64 0]) (by simp [results, Tryz.results112, go_sem]; unfold clipW; split <;> (try split) <;> omega) rfl ⟨rfl, ?_⟩)
 all_goals exact BL
end Go.Proofs.YtjjikhaaimfneaaGreatDoor
