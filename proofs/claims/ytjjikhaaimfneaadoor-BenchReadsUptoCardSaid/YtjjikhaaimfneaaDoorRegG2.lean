/-
  A REGION THAT DRAWS ITS ORDER: more moves: a pure operation, one that may come up, two. No program in sight.
-/
import Derived.Test.YtjjikhaaimfneaaDoorRegG
namespace Go.Proofs.YtjjikhaaimfneaaDoor
open Go
set_option linter.unusedSimpArgs false
set_option linter.unusedVariables false
section
variable {P : Program} {ops : Array Oper} {Q : Exit → Act → World → Prop} {md : Region.Mode} {c : Nat} {F : World → Prop}
/-- it yields in whatever world -/
theorem wpAnyG_pure {i : Nat} {oi : Oper} {v : Value} {fuel : Nat} {listed : Array Bool} {a : Act} {w : World} (hi : ops[i]? = some oi)
    (hs : Region.noSelect ops = true) (hf : Region.free md ops listed i = true) (hr : (Region.ready md ops listed).contains i = true) (hB : closedB md ops listed = true) (hc : decide (i ≠ c) = true)
    (hQ : ∀ c a w, Q (.panic c) (a.put oi.dst v) w → Q (.panic c) a w) (hF : listed.getD c true = false → F w) (hy : YieldsIf P ops (fun _ => True) oi v a)
    (h : wpAnyG P md ops Q c F fuel (listed.setIfInBounds i true) (a.put oi.dst v) w) : wpAnyG P md ops Q c F (fuel + 1) listed a w :=
  wpAnyG_first hi (Region.noSelect_spec hs) (of_decide_eq_true hc) hQ (fun L w inv hL hS => trivial) fuel listed a w (closedB_spec hB) (Region.free_spec hi hf) (by simpa using hr) hy hF h
theorem wpAnyG_oneF {i : Nat} {o : Oper} {fuel : Nat} {listed : Array Bool} {a : Act} {w : World} (ho : ops[i]? = some o) (hr : Region.ready md ops listed = [i])
    (h : ∀ K' : Act → World → Prop, Shut (∀ a w, F w → wpAnyG P md ops Q c F fuel (listed.setIfInBounds i true) a w → K' a w) → if Region.wanted o (yielded ops a.tmps) = true then Oper.wp P o a w K' Q else K' (a.put o.dst undef) w) : wpAnyG P md ops Q c F (fuel + 1) listed a w := by
  refine ⟨fun h0 => (by rw [hr] at h0; cases h0), fun j hj => ?_⟩
  rw [hr] at hj
  obtain rfl : j = i := by simpa using hj
  exact wpOp_step ho (fun K' hK => h K' (fun a w hF hW => hK a w ⟨fun _ => hF, hW⟩))
theorem wpAnyG_twoF {i j : Nat} {oi oj : Oper} {fuel : Nat} {listed : Array Bool} {a : Act} {w : World} (hoi : ops[i]? = some oi) (hoj : ops[j]? = some oj) (hr : Region.ready md ops listed = [i, j])
    (hi : ∀ K' : Act → World → Prop, Shut (∀ a w, F w → wpAnyG P md ops Q c F fuel (listed.setIfInBounds i true) a w → K' a w) → if Region.wanted oi (yielded ops a.tmps) = true then Oper.wp P oi a w K' Q else K' (a.put oi.dst undef) w)
    (hj : ∀ K' : Act → World → Prop, Shut (∀ a w, F w → wpAnyG P md ops Q c F fuel (listed.setIfInBounds j true) a w → K' a w) → if Region.wanted oj (yielded ops a.tmps) = true then Oper.wp P oj a w K' Q else K' (a.put oj.dst undef) w) : wpAnyG P md ops Q c F (fuel + 1) listed a w := by
  refine ⟨fun h0 => (by rw [hr] at h0; cases h0), fun k hk => ?_⟩
  rw [hr] at hk
  rcases (show k = i ∨ k = j by simpa using hk) with rfl | rfl
  · exact wpOp_step hoi (fun K' hK => hi K' (fun a w hF hW => hK a w ⟨fun _ => hF, hW⟩))
  · exact wpOp_step hoj (fun K' hK => hj K' (fun a w hF hW => hK a w ⟨fun _ => hF, hW⟩))
/-- the same three moves, their checks in one -/
theorem wB (i : Nat) {oi : Oper} {v : Value} {fuel : Nat} {listed : Array Bool} {a : Act} {w : World} (hi : ops[i]? = some oi)
    (hk : (Region.noSelect ops && Region.free md ops listed i && (Region.ready md ops listed).contains i && closedB md ops listed && pathB md ops 8 c i && decide (c < ops.size ∧ i ≠ c)) = true)
    (hQ : ∀ c a w, Q (.panic c) (a.put oi.dst v) w → Q (.panic c) a w) (hF : F w) (hy : YieldsIf P ops F oi v a)
    (h : wpAnyG P md ops Q c F fuel (listed.setIfInBounds i true) (a.put oi.dst v) w) : wpAnyG P md ops Q c F (fuel + 1) listed a w := by
  simp only [Bool.and_eq_true] at hk
  exact wpAnyG_before hi hk.1.1.1.1.1 hk.1.1.1.1.2 hk.1.1.1.2 hk.1.1.2 hk.1.2 hk.2 hQ hF hy h
theorem wC (i : Nat) {oi : Oper} {v : Value} {fuel : Nat} {listed : Array Bool} {a : Act} {w : World} (hi : ops[i]? = some oi)
    (hk : (Region.noSelect ops && Region.free md ops listed i && (Region.ready md ops listed).contains i && closedB md ops listed && decide (i ≠ c) && listed.getD c true) = true)
    (hQ : ∀ c a w, Q (.panic c) (a.put oi.dst v) w → Q (.panic c) a w) (hy : YieldsIf P ops (fun _ => True) oi v a)
    (h : wpAnyG P md ops Q c F fuel (listed.setIfInBounds i true) (a.put oi.dst v) w) : wpAnyG P md ops Q c F (fuel + 1) listed a w := by
  simp only [Bool.and_eq_true] at hk
  exact wpAnyG_behind hi hk.1.1.1.1.1 hk.1.1.1.1.2 hk.1.1.1.2 hk.1.1.2 hk.1.2 hk.2 hQ hy h
theorem wP (i : Nat) {oi : Oper} {v : Value} {fuel : Nat} {listed : Array Bool} {a : Act} {w : World} (hi : ops[i]? = some oi)
    (hk : (Region.noSelect ops && Region.free md ops listed i && (Region.ready md ops listed).contains i && closedB md ops listed && decide (i ≠ c)) = true)
    (hQ : ∀ c a w, Q (.panic c) (a.put oi.dst v) w → Q (.panic c) a w) (hF : F w) (hy : YieldsIf P ops (fun _ => True) oi v a)
    (h : wpAnyG P md ops Q c F fuel (listed.setIfInBounds i true) (a.put oi.dst v) w) : wpAnyG P md ops Q c F (fuel + 1) listed a w := by
  simp only [Bool.and_eq_true] at hk
  exact wpAnyG_pure hi hk.1.1.1.1 hk.1.1.1.2 hk.1.1.2 hk.1.2 hk.2 hQ (fun _ => hF) hy h
/-- the same moves, all that is alike left to autoParams -/
theorem kL {fuel : Nat} {listed L2 : Array Bool} {a a2 : Act} {w : World} (h : wpAnyG P md ops Q c F fuel L2 a2 w)
    (hl : listed = L2 := by (try simp only [List.setIfInBounds_toArray, List.set_cons_zero, List.set_cons_succ]) <;> rfl)
    (ha : a = a2 := by (try simp only [Act.put, List.setIfInBounds_toArray, List.set_cons_zero, List.set_cons_succ]) <;> rfl) : wpAnyG P md ops Q c F fuel listed a w := by
  subst hl; subst ha; exact h
theorem kB (i : Nat) {oi : Oper} {v : Value} {fuel : Nat} {listed L2 : Array Bool} {a a2 : Act} {w : World} (hF : F w) (h : wpAnyG P md ops Q c F fuel L2 a2 w)
    (hi : ops[i]? = some oi := by rfl)
    (hk : (Region.noSelect ops && Region.free md ops listed i && (Region.ready md ops listed).contains i && closedB md ops listed && pathB md ops 8 c i && decide (c < ops.size ∧ i ≠ c)) = true := by kernel_rfl)
    (hy : YieldsIf P ops F oi v a := by exact Or.inl ⟨by rfl, by (intro w h; (try dsimp only at h); go_split_ands; go_simp; all_goals (with_reducible rfl))⟩)
    (hQ : ∀ c a w, Q (.panic c) (a.put oi.dst v) w → Q (.panic c) a w := by exact fun _ _ _ h => h)
    (hl : listed.setIfInBounds i true = L2 := by (try simp only [List.setIfInBounds_toArray, List.set_cons_zero, List.set_cons_succ]) <;> rfl)
    (ha : a.put oi.dst v = a2 := by (try simp only [Act.put, List.setIfInBounds_toArray, List.set_cons_zero, List.set_cons_succ]) <;> rfl) : wpAnyG P md ops Q c F (fuel + 1) listed a w := by
  subst hl; subst ha; exact wB i hi hk hQ hF hy h
theorem kC (i : Nat) {oi : Oper} {v : Value} {fuel : Nat} {listed L2 : Array Bool} {a a2 : Act} {w : World} (h : wpAnyG P md ops Q c F fuel L2 a2 w)
    (hi : ops[i]? = some oi := by rfl)
    (hk : (Region.noSelect ops && Region.free md ops listed i && (Region.ready md ops listed).contains i && closedB md ops listed && decide (i ≠ c) && listed.getD c true) = true := by kernel_rfl)
    (hy : YieldsIf P ops (fun _ => True) oi v a := by exact Or.inl ⟨by rfl, by (intro w _; go_simp; all_goals (with_reducible rfl))⟩)
    (hQ : ∀ c a w, Q (.panic c) (a.put oi.dst v) w → Q (.panic c) a w := by exact fun _ _ _ h => h)
    (hl : listed.setIfInBounds i true = L2 := by (try simp only [List.setIfInBounds_toArray, List.set_cons_zero, List.set_cons_succ]) <;> rfl)
    (ha : a.put oi.dst v = a2 := by (try simp only [Act.put, List.setIfInBounds_toArray, List.set_cons_zero, List.set_cons_succ]) <;> rfl) : wpAnyG P md ops Q c F (fuel + 1) listed a w := by
  subst hl; subst ha; exact wC i hi hk hQ hy h
theorem kP (i : Nat) {oi : Oper} {v : Value} {fuel : Nat} {listed L2 : Array Bool} {a a2 : Act} {w : World} (hF : F w) (h : wpAnyG P md ops Q c F fuel L2 a2 w)
    (hi : ops[i]? = some oi := by rfl)
    (hk : (Region.noSelect ops && Region.free md ops listed i && (Region.ready md ops listed).contains i && closedB md ops listed && decide (i ≠ c)) = true := by kernel_rfl)
    (hy : YieldsIf P ops (fun _ => True) oi v a := by exact Or.inl ⟨by rfl, by (intro w _; go_simp; all_goals (with_reducible rfl))⟩)
    (hQ : ∀ c a w, Q (.panic c) (a.put oi.dst v) w → Q (.panic c) a w := by exact fun _ _ _ h => h)
    (hl : listed.setIfInBounds i true = L2 := by (try simp only [List.setIfInBounds_toArray, List.set_cons_zero, List.set_cons_succ]) <;> rfl)
    (ha : a.put oi.dst v = a2 := by (try simp only [Act.put, List.setIfInBounds_toArray, List.set_cons_zero, List.set_cons_succ]) <;> rfl) : wpAnyG P md ops Q c F (fuel + 1) listed a w := by
  subst hl; subst ha; exact wP i hi hk hQ hF hy h
end

end Go.Proofs.YtjjikhaaimfneaaDoor
