/-
  A REGION THAT DRAWS ITS ORDER: the condition on the world is asked until one operation, a call, has come up. No program in sight.
-/
import Derived.Deep.RegionHeld3
import Derived.BigRegion
import Derived.WalkKit
namespace Go.Proofs.YtjjikhaaimfneaaDoor
open Go
set_option linter.unusedSimpArgs false
set_option linter.unusedVariables false

section
variable {P : Program} {ops : Array Oper} {Q : Exit → Act → World → Prop} {md : Region.Mode} {c : Nat} {F : World → Prop}

/-- whatever comes up next; behind it F holds as long as operation c has not come up -/
def wpAnyG (P : Program) (md : Region.Mode) (ops : Array Oper) (Q : Exit → Act → World → Prop) (c : Nat) (F : World → Prop) : Nat → Array Bool → Act → World → Prop
  | 0, listed, a, w => Region.ready md ops listed = [] ∧ Q .normal a w
  | fuel + 1, listed, a, w =>
    (Region.ready md ops listed = [] → Q .normal a w) ∧
    ∀ i ∈ Region.ready md ops listed, wpOp P ops Q i (fun a' w' => ((listed.setIfInBounds i true).getD c true = false → F w') ∧ wpAnyG P md ops Q c F fuel (listed.setIfInBounds i true) a' w') a w

theorem wpAny_of_G : ∀ (fuel : Nat) (listed : Array Bool) (a : Act) (w : World), wpAnyG P md ops Q c F fuel listed a w → wpAny P md ops Q fuel listed a w
  | 0, _, _, _, h => h
  | fuel + 1, _, _, _, h => ⟨h.1, fun i hi => wpOp_mono (fun a' w' h' => wpAny_of_G fuel _ a' w' h'.2) (h.2 i hi)⟩

/-- what has come up, and all that it waits for -/
structure ClosedG (md : Region.Mode) (ops : Array Oper) (L : Array Bool) : Prop where
  size : L.size = ops.size
  closed : ∀ j oj, ops[j]? = some oj → L.getD j false = true → ∀ e ∈ oj.after, Region.binds md e = true → L.getD e.on false = true
def closedB (md : Region.Mode) (ops : Array Oper) (L : Array Bool) : Bool :=
  decide (L.size = ops.size) && (List.range ops.size).all fun j => match ops[j]? with
    | some oj => !(L.getD j false) || oj.after.all fun e => !(Region.binds md e) || L.getD e.on false
    | none => true
theorem closedB_spec {L : Array Bool} (h : closedB md ops L = true) : ClosedG md ops L := by
  simp only [closedB, Bool.and_eq_true, decide_eq_true_eq, List.all_eq_true, List.mem_range] at h
  refine ⟨h.1, fun j oj hj hl e he hb => ?_⟩
  have hlt : j < ops.size := by
    rcases Nat.lt_or_ge j ops.size with h' | h'
    · exact h'
    · rw [Array.getElem?_eq_none h'] at hj; cases hj
  have h1 := h.2 j hlt
  rw [hj] at h1
  simp only [hl, Bool.not_true, Bool.false_or] at h1
  obtain ⟨k, hk, rfl⟩ := Array.getElem_of_mem he
  have h2 := Array.all_eq_true.1 h1 k hk
  simpa [hb] using h2
theorem ClosedG.set {i : Nat} {L : Array Bool} (inv : ClosedG md ops L) (hi : i ∈ Region.ready md ops L) : ClosedG md ops (L.setIfInBounds i true) := by
  obtain ⟨_, oi, hoi, hall⟩ := mem_ready.1 hi
  refine ⟨by simp [inv.size], fun j oj hj hl e he hb => ?_⟩
  by_cases hij : i = j
  · subst hij
    have : oj = oi := Option.some.inj (hj.symm.trans hoi)
    subst this
    exact getD_set_true (hall e he hb)
  · rw [getD_set_ne false hij] at hl
    exact getD_set_true (inv.closed j oj hj hl e he hb)
/-- c waits for i, directly or not -/
def pathB (md : Region.Mode) (ops : Array Oper) : Nat → Nat → Nat → Bool
  | 0, _, _ => false
  | f + 1, j, i => match ops[j]? with
    | some oj => oj.after.any fun e => Region.binds md e && (e.on == i || pathB md ops f e.on i)
    | none => false
theorem path_listed {L : Array Bool} (inv : ClosedG md ops L) : ∀ (f j i : Nat), pathB md ops f j i = true → L.getD j false = true → L.getD i false = true
  | 0, _, _, h, _ => by cases h
  | f + 1, j, i, h, hj => by
    unfold pathB at h
    split at h
    · rename_i oj ho
      obtain ⟨e, he, hb⟩ := Array.any_eq_true'.1 h
      simp only [Bool.and_eq_true, Bool.or_eq_true, beq_iff_eq] at hb
      have h1 := inv.closed j oj ho hj e he hb.1
      rcases hb.2 with h2 | h2
      · rwa [h2] at h1
      · exact path_listed inv f e.on i h2 h1
    · cases h
theorem before_c {L : Array Bool} (inv : ClosedG md ops L) {f i : Nat} (hp : pathB md ops f c i = true) (hc : c < ops.size) (hi : L.getD i true = false) : L.getD c true = false := by
  cases h : L.getD c true with
  | false => rfl
  | true =>
    have h1 : L.getD c false = true := by
      have : c < L.size := by rw [inv.size]; exact hc
      simp [this] at h ⊢; exact h
    have h2 := path_listed inv f c i hp h1
    have h3 : L.getD i false = false := by
      rcases Nat.lt_or_ge i L.size with h' | h'
      · simp [h'] at hi ⊢; exact hi
      · simp [Array.getElem?_eq_none h'] at hi
    rw [h3] at h2; cases h2

theorem wpAnyG_first {i : Nat} {oi : Oper} {v : Value} {F' : World → Prop} (hi : ops[i]? = some oi) (hsel : ∀ (j : Nat) (o : Oper) cs b, ops[j]? = some o → o.op ≠ .select cs b) (hic : i ≠ c)
    (hQ : ∀ c a w, Q (.panic c) (a.put oi.dst v) w → Q (.panic c) a w)
    (hcl : ∀ (L : Array Bool) (w : World), ClosedG md ops L → L.getD i true = false → (L.getD c true = false → F w) → F' w) :
    ∀ (fuel : Nat) (listed : Array Bool) (a : Act) (w : World), ClosedG md ops listed →
      (∀ j oj, ops[j]? = some oj → j ≠ i → listed.getD j true = false → (∀ e ∈ oj.after, Region.binds md e = true → e.on ≠ i) → oi.apart ops oj = true) →
      i ∈ Region.ready md ops listed → YieldsIf P ops F' oi v a → (listed.getD c true = false → F w) →
      wpAnyG P md ops Q c F fuel (listed.setIfInBounds i true) (a.put oi.dst v) w → wpAnyG P md ops Q c F (fuel + 1) listed a w := by
  intro fuel
  induction fuel with
  | zero =>
    intro listed a w inv _ hr hy hS H
    have hF' := hcl listed w inv (mem_ready.1 hr).1 hS
    refine ⟨fun h => (by rw [h] at hr; cases hr), fun j hj => ?_⟩
    by_cases hji : j = i
    · subst hji
      exact hy.wpOp hi hF' ⟨fun h => hS (by rw [getD_set_ne true hic] at h; exact h), H⟩
    · have := ready_mono hj hji
      rw [H.1] at this
      cases this
  | succ fuel ih =>
    intro listed a w inv hfree hr hy hS H
    have hF' := hcl listed w inv (mem_ready.1 hr).1 hS
    refine ⟨fun h => (by rw [h] at hr; cases hr), fun j hj => ?_⟩
    by_cases hji : j = i
    · subst hji
      exact hy.wpOp hi hF' ⟨fun h => hS (by rw [getD_set_ne true hic] at h; exact h), H⟩
    · have h1 := H.2 j (ready_mono hj hji)
      obtain ⟨hjun, oj, hoj, hall⟩ := mem_ready.1 hj
      have hnot : ∀ e ∈ oj.after, Region.binds md e = true → e.on ≠ i := fun e he hb heq => by
        have h1 := hall e he hb
        have h0 := (mem_ready.1 hr).1
        rw [heq] at h1
        rcases Nat.lt_or_ge i listed.size with h' | h'
        · simp [h'] at h0 h1; rw [h0] at h1; cases h1
        · simp [Array.getElem?_eq_none h'] at h1
      have h2 := wpOp_putIf hoj (hfree j oj hoj hji hjun hnot) (fun cs b => hsel i oi cs b hi) (fun cs b => hsel j oj cs b hoj) hQ hy h1
      have hfree' : ∀ k ok, ops[k]? = some ok → k ≠ i → (listed.setIfInBounds j true).getD k true = false →
          (∀ e ∈ ok.after, Region.binds md e = true → e.on ≠ i) → oi.apart ops ok = true := fun k ok hk hki hun hno => by
        refine hfree k ok hk hki ?_ hno
        by_cases hjk : j = k
        · subst hjk; exact hjun
        · rw [getD_set_ne true hjk] at hun; exact hun
      have hS' : ∀ w' : World, (((listed.setIfInBounds i true).setIfInBounds j true).getD c true = false → F w') → ((listed.setIfInBounds j true).getD c true = false → F w') := fun w' h3 h4 => h3 (by
        rw [Array.setIfInBounds_comm _ _ (Ne.symm hji), getD_set_ne true hic]; exact h4)
      refine wpOp_mono (fun a' w' h3 => ⟨hS' w' h3.2.1, ih (listed.setIfInBounds j true) a' w' (inv.set hj) hfree' (ready_mono hr (Ne.symm hji)) h3.1 (hS' w' h3.2.1) ?_⟩) h2
      rw [Array.setIfInBounds_comm _ _ hji]
      exact h3.2.2

/-- ahead of c: it yields in every world that meets F, and c waits for it -/
theorem wpAnyG_before {i f : Nat} {oi : Oper} {v : Value} {fuel : Nat} {listed : Array Bool} {a : Act} {w : World} (hi : ops[i]? = some oi)
    (hs : Region.noSelect ops = true) (hf : Region.free md ops listed i = true) (hr : (Region.ready md ops listed).contains i = true) (hB : closedB md ops listed = true) (hp : pathB md ops f c i = true) (hc : decide (c < ops.size ∧ i ≠ c) = true)
    (hQ : ∀ c a w, Q (.panic c) (a.put oi.dst v) w → Q (.panic c) a w) (hF : F w) (hy : YieldsIf P ops F oi v a)
    (h : wpAnyG P md ops Q c F fuel (listed.setIfInBounds i true) (a.put oi.dst v) w) : wpAnyG P md ops Q c F (fuel + 1) listed a w :=
  wpAnyG_first hi (Region.noSelect_spec hs) (of_decide_eq_true hc).2 hQ (fun L w inv hL hS => hS (before_c inv hp (of_decide_eq_true hc).1 hL)) fuel listed a w (closedB_spec hB) (Region.free_spec hi hf) (by simpa using hr) hy (fun _ => hF) h
/-- behind c: it yields in whatever world -/
theorem wpAnyG_behind {i : Nat} {oi : Oper} {v : Value} {fuel : Nat} {listed : Array Bool} {a : Act} {w : World} (hi : ops[i]? = some oi)
    (hs : Region.noSelect ops = true) (hf : Region.free md ops listed i = true) (hr : (Region.ready md ops listed).contains i = true) (hB : closedB md ops listed = true) (hc : decide (i ≠ c) = true) (hl : listed.getD c true = true)
    (hQ : ∀ c a w, Q (.panic c) (a.put oi.dst v) w → Q (.panic c) a w) (hy : YieldsIf P ops (fun _ => True) oi v a)
    (h : wpAnyG P md ops Q c F fuel (listed.setIfInBounds i true) (a.put oi.dst v) w) : wpAnyG P md ops Q c F (fuel + 1) listed a w :=
  wpAnyG_first hi (Region.noSelect_spec hs) (of_decide_eq_true hc) hQ (fun L w inv hL hS => trivial) fuel listed a w (closedB_spec hB) (Region.free_spec hi hf) (by simpa using hr) hy (fun h => by rw [hl] at h; cases h) h
/-- one alone may come up, and c has come up behind it -/
theorem wpAnyG_one {i : Nat} {o : Oper} {fuel : Nat} {listed : Array Bool} {a : Act} {w : World} (ho : ops[i]? = some o) (hr : Region.ready md ops listed = [i]) (hl : (listed.setIfInBounds i true).getD c true = true)
    (h : ∀ K' : Act → World → Prop, Shut (∀ a w, wpAnyG P md ops Q c F fuel (listed.setIfInBounds i true) a w → K' a w) → if Region.wanted o (yielded ops a.tmps) = true then Oper.wp P o a w K' Q else K' (a.put o.dst undef) w) : wpAnyG P md ops Q c F (fuel + 1) listed a w := by
  refine ⟨fun h0 => (by rw [hr] at h0; cases h0), fun j hj => ?_⟩
  rw [hr] at hj
  obtain rfl : j = i := by simpa using hj
  exact wpOp_step ho (fun K' hK => h K' (fun a w hW => hK a w ⟨fun h => (by rw [hl] at h; cases h), hW⟩))
theorem wpAnyG_done {listed : Array Bool} {a : Act} {w : World} (hr : Region.ready md ops listed = []) (h : Q .normal a w) : ∀ fuel, wpAnyG P md ops Q c F fuel listed a w
  | 0 => ⟨hr, h⟩
  | _ + 1 => ⟨fun _ => h, by rw [hr]; simp⟩
theorem wp_region_G {id : Nat} {a : Act} {w : World} (c : Nat) (F : World → Prop) (hm : P.follows .mixedOrders = true)
    (h : wpAnyG P .any ops Q c F ops.size (Array.replicate ops.size false) a w.drew) : (Code.region id ops true).wp P Q a w :=
  wp_region_any hm (wpAny_of_G _ _ _ _ h)
end

end Go.Proofs.YtjjikhaaimfneaaDoor
