/-
  Lemmas and walks for the statement: RegG, RegG2, RegIn.
-/
import Derived.Deep.RegionHeld3
import Derived.BigRegion
import Derived.WalkKit
import Derived.OrdersIn
import Derived.TacticsIn
import Derived.RangeFuncCalls
namespace Go.Proofs.Ytkmodnggncadeaa
open Go
set_option linter.unusedSimpArgs false
set_option linter.unusedVariables false
section
variable {P : Program} {ops : Array Oper} {Q : Exit → Act → World → Prop} {md : Region.Mode} {c : Nat} {F : World → Prop}
def wpAnyG (P : Program) (md : Region.Mode) (ops : Array Oper) (Q : Exit → Act → World → Prop) (c : Nat) (F : World → Prop) : Nat → Array Bool → Act → World → Prop
 | 0, listed, a, w => Region.ready md ops listed = [] ∧ Q .normal a w
 | fuel + 1, listed, a, w =>
   (Region.ready md ops listed = [] → Q .normal a w) ∧
   ∀ i ∈ Region.ready md ops listed, wpOp P ops Q i (fun a' w' => ((listed.setIfInBounds i true).getD c true = false → F w') ∧ wpAnyG P md ops Q c F fuel (listed.setIfInBounds i true) a' w') a w
theorem wpAny_of_G : ∀ (fuel : Nat) (listed : Array Bool) (a : Act) (w : World), wpAnyG P md ops Q c F fuel listed a w → wpAny P md ops Q fuel listed a w
 | 0, _, _, _, h => h
 | fuel + 1, _, _, _, h => ⟨h.1, fun i hi => wpOp_mono (fun a' w' h' => wpAny_of_G fuel _ a' w' h'.2) (h.2 i hi)⟩
structure ClosedG (md : Region.Mode) (ops : Array Oper) (L : Array Bool) : Prop where
 size : L.size = ops.size
 closed : ∀ j oj, ops[j]? = some oj → L.getD j false = true → ∀ e ∈ oj.after, Region.binds md e = true → L.getD e.on false = true
def closedB (md : Region.Mode) (ops : Array Oper) (L : Array Bool) : Bool :=
 decide (L.size = ops.size) && (List.range ops.size).all fun j => match ops[j]? with
  | some oj => !(L.getD j false) || oj.after.all fun e => !(Region.binds md e) || L.getD e.on false
  | none => true
theorem closedB_spec {L : Array Bool} (h : closedB md ops L = true) : ClosedG md ops L := by
 simp only [closedB, Bool.and_eq_true, decide_eq_true_eq, List.all_eq_true, List.mem_range] at h
 refine ⟨h.1, fun j oj hj hl e he hb => ?_⟩
 have hlt : j < ops.size := by
  rcases Nat.lt_or_ge j ops.size with h' | h'
  · exact h'
  · rw [Array.getElem?_eq_none h'] at hj; cases hj
 have h1 := h.2 j hlt
 rw [hj] at h1
 simp only [hl, Bool.not_true, Bool.false_or] at h1
 obtain ⟨k, hk, rfl⟩ := Array.getElem_of_mem he
 have h2 := Array.all_eq_true.1 h1 k hk
 simpa [hb] using h2
theorem ClosedG.set {i : Nat} {L : Array Bool} (inv : ClosedG md ops L) (hi : i ∈ Region.ready md ops L) : ClosedG md ops (L.setIfInBounds i true) := by
 obtain ⟨_, oi, hoi, hall⟩ := mem_ready.1 hi
 refine ⟨by simp [inv.size], fun j oj hj hl e he hb => ?_⟩
 by_cases hij : i = j
 · subst hij
   have : oj = oi := Option.some.inj (hj.symm.trans hoi)
   subst this
   exact getD_set_true (hall e he hb)
 · rw [getD_set_ne false hij] at hl
   exact getD_set_true (inv.closed j oj hj hl e he hb)
def pathB (md : Region.Mode) (ops : Array Oper) : Nat → Nat → Nat → Bool
 | 0, _, _ => false
 | f + 1, j, i => match ops[j]? with
   | some oj => oj.after.any fun e => Region.binds md e && (e.on == i || pathB md ops f e.on i)
   | none => false
theorem path_listed {L : Array Bool} (inv : ClosedG md ops L) : ∀ (f j i : Nat), pathB md ops f j i = true → L.getD j false = true → L.getD i false = true
 | 0, _, _, h, _ => by cases h
 | f + 1, j, i, h, hj => by
   unfold pathB at h
   split at h
   · rename_i oj ho
     obtain ⟨e, he, hb⟩ := Array.any_eq_true'.1 h
     simp only [Bool.and_eq_true, Bool.or_eq_true, beq_iff_eq] at hb
     have h1 := inv.closed j oj ho hj e he hb.1
     rcases hb.2 with h2 | h2
     · rwa [h2] at h1
     · exact path_listed inv f e.on i h2 h1
   · cases h
theorem before_c {L : Array Bool} (inv : ClosedG md ops L) {f i : Nat} (hp : pathB md ops f c i = true) (hc : c < ops.size) (hi : L.getD i true = false) : L.getD c true = false := by
 cases h : L.getD c true with
 | false => rfl
 | true =>
   have h1 : L.getD c false = true := by
    have : c < L.size := by rw [inv.size]; exact hc
    simp [this] at h ⊢; exact h
   have h2 := path_listed inv f c i hp h1
   have h3 : L.getD i false = false := by
    rcases Nat.lt_or_ge i L.size with h' | h'
    · simp [h'] at hi ⊢; exact hi
    · simp [Array.getElem?_eq_none h'] at hi
   rw [h3] at h2; cases h2
theorem wpAnyG_first {i : Nat} {oi : Oper} {v : Value} {F' : World → Prop} (hi : ops[i]? = some oi) (hsel : ∀ (j : Nat) (o : Oper) cs b, ops[j]? = some o → o.op ≠ .select cs b) (hic : i ≠ c)
 (hQ : ∀ c a w, Q (.panic c) (a.put oi.dst v) w → Q (.panic c) a w)
 (hcl : ∀ (L : Array Bool) (w : World), ClosedG md ops L → L.getD i true = false → (L.getD c true = false → F w) → F' w) :
 ∀ (fuel : Nat) (listed : Array Bool) (a : Act) (w : World), ClosedG md ops listed →
  (∀ j oj, ops[j]? = some oj → j ≠ i → listed.getD j true = false → (∀ e ∈ oj.after, Region.binds md e = true → e.on ≠ i) → oi.apart ops oj = true) →
  i ∈ Region.ready md ops listed → YieldsIf P ops F' oi v a → (listed.getD c true = false → F w) →
  wpAnyG P md ops Q c F fuel (listed.setIfInBounds i true) (a.put oi.dst v) w → wpAnyG P md ops Q c F (fuel + 1) listed a w := by
 intro fuel
 induction fuel with
 | zero =>
   intro listed a w inv _ hr hy hS H
   have hF' := hcl listed w inv (mem_ready.1 hr).1 hS
   refine ⟨fun h => (by rw [h] at hr; cases hr), fun j hj => ?_⟩
   by_cases hji : j = i
   · subst hji
     exact hy.wpOp hi hF' ⟨fun h => hS (by rw [getD_set_ne true hic] at h; exact h), H⟩
   · have := ready_mono hj hji
     rw [H.1] at this
     cases this
 | succ fuel ih =>
   intro listed a w inv hfree hr hy hS H
   have hF' := hcl listed w inv (mem_ready.1 hr).1 hS
   refine ⟨fun h => (by rw [h] at hr; cases hr), fun j hj => ?_⟩
   by_cases hji : j = i
   · subst hji
     exact hy.wpOp hi hF' ⟨fun h => hS (by rw [getD_set_ne true hic] at h; exact h), H⟩
   · have h1 := H.2 j (ready_mono hj hji)
     obtain ⟨hjun, oj, hoj, hall⟩ := mem_ready.1 hj
     have hnot : ∀ e ∈ oj.after, Region.binds md e = true → e.on ≠ i := fun e he hb heq => by
      have h1 := hall e he hb
      have h0 := (mem_ready.1 hr).1
      rw [heq] at h1
      rcases Nat.lt_or_ge i listed.size with h' | h'
      · simp [h'] at h0 h1; rw [h0] at h1; cases h1
      · simp [Array.getElem?_eq_none h'] at h1
     have h2 := wpOp_putIf hoj (hfree j oj hoj hji hjun hnot) (fun cs b => hsel i oi cs b hi) (fun cs b => hsel j oj cs b hoj) hQ hy h1
     have hfree' : ∀ k ok, ops[k]? = some ok → k ≠ i → (listed.setIfInBounds j true).getD k true = false →
      (∀ e ∈ ok.after, Region.binds md e = true → e.on ≠ i) → oi.apart ops ok = true := fun k ok hk hki hun hno => by
      refine hfree k ok hk hki ?_ hno
      by_cases hjk : j = k
      · subst hjk; exact hjun
      · rw [getD_set_ne true hjk] at hun; exact hun
     have hS' : ∀ w' : World, (((listed.setIfInBounds i true).setIfInBounds j true).getD c true = false → F w') → ((listed.setIfInBounds j true).getD c true = false → F w') := fun w' h3 h4 => h3 (by
      rw [Array.setIfInBounds_comm _ _ (Ne.symm hji), getD_set_ne true hic]; exact h4)
     refine wpOp_mono (fun a' w' h3 => ⟨hS' w' h3.2.1, ih (listed.setIfInBounds j true) a' w' (inv.set hj) hfree' (ready_mono hr (Ne.symm hji)) h3.1 (hS' w' h3.2.1) ?_⟩) h2
     rw [Array.setIfInBounds_comm _ _ hji]
     exact h3.2.2
theorem wpAnyG_before {i f : Nat} {oi : Oper} {v : Value} {fuel : Nat} {listed : Array Bool} {a : Act} {w : World} (hi : ops[i]? = some oi)
 (hs : Region.noSelect ops = true) (hf : Region.free md ops listed i = true) (hr : (Region.ready md ops listed).contains i = true) (hB : closedB md ops listed = true) (hp : pathB md ops f c i = true) (hc : decide (c < ops.size ∧ i ≠ c) = true)
 (hQ : ∀ c a w, Q (.panic c) (a.put oi.dst v) w → Q (.panic c) a w) (hF : F w) (hy : YieldsIf P ops F oi v a)
 (h : wpAnyG P md ops Q c F fuel (listed.setIfInBounds i true) (a.put oi.dst v) w) : wpAnyG P md ops Q c F (fuel + 1) listed a w :=
 wpAnyG_first hi (Region.noSelect_spec hs) (of_decide_eq_true hc).2 hQ (fun L w inv hL hS => hS (before_c inv hp (of_decide_eq_true hc).1 hL)) fuel listed a w (closedB_spec hB) (Region.free_spec hi hf) (by simpa using hr) hy (fun _ => hF) h
theorem wpAnyG_behind {i : Nat} {oi : Oper} {v : Value} {fuel : Nat} {listed : Array Bool} {a : Act} {w : World} (hi : ops[i]? = some oi)
 (hs : Region.noSelect ops = true) (hf : Region.free md ops listed i = true) (hr : (Region.ready md ops listed).contains i = true) (hB : closedB md ops listed = true) (hc : decide (i ≠ c) = true) (hl : listed.getD c true = true)
 (hQ : ∀ c a w, Q (.panic c) (a.put oi.dst v) w → Q (.panic c) a w) (hy : YieldsIf P ops (fun _ => True) oi v a)
 (h : wpAnyG P md ops Q c F fuel (listed.setIfInBounds i true) (a.put oi.dst v) w) : wpAnyG P md ops Q c F (fuel + 1) listed a w :=
 wpAnyG_first hi (Region.noSelect_spec hs) (of_decide_eq_true hc) hQ (fun L w inv hL hS => trivial) fuel listed a w (closedB_spec hB) (Region.free_spec hi hf) (by simpa using hr) hy (fun h => by rw [hl] at h; cases h) h
theorem wpAnyG_one {i : Nat} {o : Oper} {fuel : Nat} {listed : Array Bool} {a : Act} {w : World} (ho : ops[i]? = some o) (hr : Region.ready md ops listed = [i]) (hl : (listed.setIfInBounds i true).getD c true = true)
 (h : ∀ K' : Act → World → Prop, Shut (∀ a w, wpAnyG P md ops Q c F fuel (listed.setIfInBounds i true) a w → K' a w) → if Region.wanted o (yielded ops a.tmps) = true then Oper.wp P o a w K' Q else K' (a.put o.dst undef) w) : wpAnyG P md ops Q c F (fuel + 1) listed a w := by
 refine ⟨fun h0 => (by rw [hr] at h0; cases h0), fun j hj => ?_⟩
 rw [hr] at hj
 obtain rfl : j = i := by simpa using hj
 exact wpOp_step ho (fun K' hK => h K' (fun a w hW => hK a w ⟨fun h => (by rw [hl] at h; cases h), hW⟩))
theorem wpAnyG_done {listed : Array Bool} {a : Act} {w : World} (hr : Region.ready md ops listed = []) (h : Q .normal a w) : ∀ fuel, wpAnyG P md ops Q c F fuel listed a w
 | 0 => ⟨hr, h⟩
 | _ + 1 => ⟨fun _ => h, by rw [hr]; simp⟩
theorem wp_region_G {id : Nat} {a : Act} {w : World} (c : Nat) (F : World → Prop) (hm : P.follows .mixedOrders = true)
 (h : wpAnyG P .any ops Q c F ops.size (Array.replicate ops.size false) a w.drew) : (Code.region id ops true).wp P Q a w :=
 wp_region_any hm (wpAny_of_G _ _ _ _ h)
end
end Go.Proofs.Ytkmodnggncadeaa
namespace Go.Proofs.Ytkmodnggncadeaa
open Go
set_option linter.unusedSimpArgs false
set_option linter.unusedVariables false
section
variable {P : Program} {ops : Array Oper} {Q : Exit → Act → World → Prop} {md : Region.Mode} {c : Nat} {F : World → Prop}
theorem wpAnyG_pure {i : Nat} {oi : Oper} {v : Value} {fuel : Nat} {listed : Array Bool} {a : Act} {w : World} (hi : ops[i]? = some oi)
 (hs : Region.noSelect ops = true) (hf : Region.free md ops listed i = true) (hr : (Region.ready md ops listed).contains i = true) (hB : closedB md ops listed = true) (hc : decide (i ≠ c) = true)
 (hQ : ∀ c a w, Q (.panic c) (a.put oi.dst v) w → Q (.panic c) a w) (hF : listed.getD c true = false → F w) (hy : YieldsIf P ops (fun _ => True) oi v a)
 (h : wpAnyG P md ops Q c F fuel (listed.setIfInBounds i true) (a.put oi.dst v) w) : wpAnyG P md ops Q c F (fuel + 1) listed a w :=
 wpAnyG_first hi (Region.noSelect_spec hs) (of_decide_eq_true hc) hQ (fun L w inv hL hS => trivial) fuel listed a w (closedB_spec hB) (Region.free_spec hi hf) (by simpa using hr) hy hF h
theorem wpAnyG_oneF {i : Nat} {o : Oper} {fuel : Nat} {listed : Array Bool} {a : Act} {w : World} (ho : ops[i]? = some o) (hr : Region.ready md ops listed = [i])
 (h : ∀ K' : Act → World → Prop, Shut (∀ a w, F w → wpAnyG P md ops Q c F fuel (listed.setIfInBounds i true) a w → K' a w) → if Region.wanted o (yielded ops a.tmps) = true then Oper.wp P o a w K' Q else K' (a.put o.dst undef) w) : wpAnyG P md ops Q c F (fuel + 1) listed a w := by
 refine ⟨fun h0 => (by rw [hr] at h0; cases h0), fun j hj => ?_⟩
 rw [hr] at hj
 obtain rfl : j = i := by simpa using hj
 exact wpOp_step ho (fun K' hK => h K' (fun a w hF hW => hK a w ⟨fun _ => hF, hW⟩))
theorem wpAnyG_twoF {i j : Nat} {oi oj : Oper} {fuel : Nat} {listed : Array Bool} {a : Act} {w : World} (hoi : ops[i]? = some oi) (hoj : ops[j]? = some oj) (hr : Region.ready md ops listed = [i, j])
 (hi : ∀ K' : Act → World → Prop, Shut (∀ a w, F w → wpAnyG P md ops Q c F fuel (listed.setIfInBounds i true) a w → K' a w) → if Region.wanted oi (yielded ops a.tmps) = true then Oper.wp P oi a w K' Q else K' (a.put oi.dst undef) w)
 (hj : ∀ K' : Act → World → Prop, Shut (∀ a w, F w → wpAnyG P md ops Q c F fuel (listed.setIfInBounds j true) a w → K' a w) → if Region.wanted oj (yielded ops a.tmps) = true then Oper.wp P oj a w K' Q else K' (a.put oj.dst undef) w) : wpAnyG P md ops Q c F (fuel + 1) listed a w := by
 refine ⟨fun h0 => (by rw [hr] at h0; cases h0), fun k hk => ?_⟩
 rw [hr] at hk
 rcases (show k = i ∨ k = j by simpa using hk) with rfl | rfl
 · exact wpOp_step hoi (fun K' hK => hi K' (fun a w hF hW => hK a w ⟨fun _ => hF, hW⟩))
 · exact wpOp_step hoj (fun K' hK => hj K' (fun a w hF hW => hK a w ⟨fun _ => hF, hW⟩))
theorem wB (i : Nat) {oi : Oper} {v : Value} {fuel : Nat} {listed : Array Bool} {a : Act} {w : World} (hi : ops[i]? = some oi)
 (hk : (Region.noSelect ops && Region.free md ops listed i && (Region.ready md ops listed).contains i && closedB md ops listed && pathB md ops 8 c i && decide (c < ops.size ∧ i ≠ c)) = true)
 (hQ : ∀ c a w, Q (.panic c) (a.put oi.dst v) w → Q (.panic c) a w) (hF : F w) (hy : YieldsIf P ops F oi v a)
 (h : wpAnyG P md ops Q c F fuel (listed.setIfInBounds i true) (a.put oi.dst v) w) : wpAnyG P md ops Q c F (fuel + 1) listed a w := by
 simp only [Bool.and_eq_true] at hk
 exact wpAnyG_before hi hk.1.1.1.1.1 hk.1.1.1.1.2 hk.1.1.1.2 hk.1.1.2 hk.1.2 hk.2 hQ hF hy h
theorem wC (i : Nat) {oi : Oper} {v : Value} {fuel : Nat} {listed : Array Bool} {a : Act} {w : World} (hi : ops[i]? = some oi)
 (hk : (Region.noSelect ops && Region.free md ops listed i && (Region.ready md ops listed).contains i && closedB md ops listed && decide (i ≠ c) && listed.getD c true) = true)
 (hQ : ∀ c a w, Q (.panic c) (a.put oi.dst v) w → Q (.panic c) a w) (hy : YieldsIf P ops (fun _ => True) oi v a)
 (h : wpAnyG P md ops Q c F fuel (listed.setIfInBounds i true) (a.put oi.dst v) w) : wpAnyG P md ops Q c F (fuel + 1) listed a w := by
 simp only [Bool.and_eq_true] at hk
 exact wpAnyG_behind hi hk.1.1.1.1.1 hk.1.1.1.1.2 hk.1.1.1.2 hk.1.1.2 hk.1.2 hk.2 hQ hy h
theorem wP (i : Nat) {oi : Oper} {v : Value} {fuel : Nat} {listed : Array Bool} {a : Act} {w : World} (hi : ops[i]? = some oi)
 (hk : (Region.noSelect ops && Region.free md ops listed i && (Region.ready md ops listed).contains i && closedB md ops listed && decide (i ≠ c)) = true)
 (hQ : ∀ c a w, Q (.panic c) (a.put oi.dst v) w → Q (.panic c) a w) (hF : F w) (hy : YieldsIf P ops (fun _ => True) oi v a)
 (h : wpAnyG P md ops Q c F fuel (listed.setIfInBounds i true) (a.put oi.dst v) w) : wpAnyG P md ops Q c F (fuel + 1) listed a w := by
 simp only [Bool.and_eq_true] at hk
 exact wpAnyG_pure hi hk.1.1.1.1 hk.1.1.1.2 hk.1.1.2 hk.1.2 hk.2 hQ (fun _ => hF) hy h
theorem kL {fuel : Nat} {listed L2 : Array Bool} {a a2 : Act} {w : World} (h : wpAnyG P md ops Q c F fuel L2 a2 w)
 (hl : listed = L2 := by (try simp only [List.setIfInBounds_toArray, List.set_cons_zero, List.set_cons_succ]) <;> rfl)
 (ha : a = a2 := by (try simp only [Act.put, List.setIfInBounds_toArray, List.set_cons_zero, List.set_cons_succ]) <;> rfl) : wpAnyG P md ops Q c F fuel listed a w := by
 subst hl; subst ha; exact h
theorem kB (i : Nat) {oi : Oper} {v : Value} {fuel : Nat} {listed L2 : Array Bool} {a a2 : Act} {w : World} (hF : F w) (h : wpAnyG P md ops Q c F fuel L2 a2 w)
 (hi : ops[i]? = some oi := by rfl)
 (hk : (Region.noSelect ops && Region.free md ops listed i && (Region.ready md ops listed).contains i && closedB md ops listed && pathB md ops 8 c i && decide (c < ops.size ∧ i ≠ c)) = true := by kernel_rfl)
 (hy : YieldsIf P ops F oi v a := by exact Or.inl ⟨by rfl, by (intro w h; (try dsimp only at h); go_split_ands; go_simp; all_goals (with_reducible rfl))⟩)
 (hQ : ∀ c a w, Q (.panic c) (a.put oi.dst v) w → Q (.panic c) a w := by exact fun _ _ _ h => h)
 (hl : listed.setIfInBounds i true = L2 := by (try simp only [List.setIfInBounds_toArray, List.set_cons_zero, List.set_cons_succ]) <;> rfl)
 (ha : a.put oi.dst v = a2 := by (try simp only [Act.put, List.setIfInBounds_toArray, List.set_cons_zero, List.set_cons_succ]) <;> rfl) : wpAnyG P md ops Q c F (fuel + 1) listed a w := by
 subst hl; subst ha; exact wB i hi hk hQ hF hy h
theorem kC (i : Nat) {oi : Oper} {v : Value} {fuel : Nat} {listed L2 : Array Bool} {a a2 : Act} {w : World} (h : wpAnyG P md ops Q c F fuel L2 a2 w)
 (hi : ops[i]? = some oi := by rfl)
 (hk : (Region.noSelect ops && Region.free md ops listed i && (Region.ready md ops listed).contains i && closedB md ops listed && decide (i ≠ c) && listed.getD c true) = true := by kernel_rfl)
 (hy : YieldsIf P ops (fun _ => True) oi v a := by exact Or.inl ⟨by rfl, by (intro w _; go_simp; all_goals (with_reducible rfl))⟩)
 (hQ : ∀ c a w, Q (.panic c) (a.put oi.dst v) w → Q (.panic c) a w := by exact fun _ _ _ h => h)
 (hl : listed.setIfInBounds i true = L2 := by (try simp only [List.setIfInBounds_toArray, List.set_cons_zero, List.set_cons_succ]) <;> rfl)
 (ha : a.put oi.dst v = a2 := by (try simp only [Act.put, List.setIfInBounds_toArray, List.set_cons_zero, List.set_cons_succ]) <;> rfl) : wpAnyG P md ops Q c F (fuel + 1) listed a w := by
 subst hl; subst ha; exact wC i hi hk hQ hy h
theorem kP (i : Nat) {oi : Oper} {v : Value} {fuel : Nat} {listed L2 : Array Bool} {a a2 : Act} {w : World} (hF : F w) (h : wpAnyG P md ops Q c F fuel L2 a2 w)
 (hi : ops[i]? = some oi := by rfl)
 (hk : (Region.noSelect ops && Region.free md ops listed i && (Region.ready md ops listed).contains i && closedB md ops listed && decide (i ≠ c)) = true := by kernel_rfl)
 (hy : YieldsIf P ops (fun _ => True) oi v a := by exact Or.inl ⟨by rfl, by (intro w _; go_simp; all_goals (with_reducible rfl))⟩)
 (hQ : ∀ c a w, Q (.panic c) (a.put oi.dst v) w → Q (.panic c) a w := by exact fun _ _ _ h => h)
 (hl : listed.setIfInBounds i true = L2 := by (try simp only [List.setIfInBounds_toArray, List.set_cons_zero, List.set_cons_succ]) <;> rfl)
 (ha : a.put oi.dst v = a2 := by (try simp only [Act.put, List.setIfInBounds_toArray, List.set_cons_zero, List.set_cons_succ]) <;> rfl) : wpAnyG P md ops Q c F (fuel + 1) listed a w := by
 subst hl; subst ha; exact wP i hi hk hQ hF hy h
end
end Go.Proofs.Ytkmodnggncadeaa
namespace Go.Proofs.Ytkmodnggncadeaa
open Go
set_option linter.unusedSimpArgs false
set_option linter.unusedVariables false
section
variable {P : Program} {ops : Array Oper} {Q : Exit → Act → World → Prop} {md : Region.Mode} {n l : Nat}
def noDefer (ops : Array Oper) : Bool := ops.all fun o => match o.op with | .defer _ => false | _ => true
theorem noDefer_spec {i : Nat} {o : Oper} (h : noDefer ops = true) (ho : ops[i]? = some o) : ∀ c, o.op ≠ .defer c := by
 intro c e
 have hi : i < ops.size := by
  rcases Nat.lt_or_ge i ops.size with h' | h'
  · exact h'
  · rw [Array.getElem?_eq_none h'] at ho; cases ho
 have h1 := Array.all_eq_true.1 h i hi
 rw [Array.getElem?_eq_getElem hi] at ho
 injection ho with ho
 rw [ho, e] at h1; cases h1
def noRow (P : Program) (o : Oper) (a : Act) (w : World) : Prop := ∀ row args w', (execOp a.eval o).run P w ≠ .ok (.row row args) w'
theorem rows_in {row : String} {args : Array Value} {w : World} {R : Value → World → Prop} {m : Nat} (h : Rows P row args w R) : RowsIn (Fence.wide.inRound l) m P row args w R := by
 intro c cs _
 obtain ⟨v, w', h1, h2⟩ := h c cs
 exact ⟨v, w', h1, (stepsIn_wide.2 h2 : StepsIn (Machine.fenced P Fence.wide) P _ _)⟩
theorem oper_in {o : Oper} {a : Act} {w : World} {K : Act → World → Prop} (hd : ∀ c, o.op ≠ .defer c) (h : o.wp P a w K Q) : o.wpIn (Fence.wide.inRound l) n P a w K Q := by
 unfold Oper.wpIn
 refine ⟨fun f _ => trivial, ?_⟩
 rw [Oper.semAt_eq _ _ _ hd]
 unfold Oper.wp at h
 generalize (execOp a.eval o).run P w = r at *
 cases r with
 | ok x w' =>
   cases x <;> simp only [Oper.upon, Oper.uponIn] at h ⊢ <;> first
    | exact h
    | exact ⟨(by intro h'; cases h'), (callsIn_wide.2 h).inRound l⟩
    | exact ⟨(by intro h'; cases h'), rows_in h⟩
 | halt x w' => cases x <;> simp only [Oper.upon, Oper.uponIn] at h ⊢ <;> exact h
theorem wpOp_in {i : Nat} {a : Act} {w : World} {K : Act → World → Prop} (hnd : noDefer ops = true) (hlo : ∀ a w, ¬ Q .outgrown a w) (h : wpOp P ops Q i K a w) : wpOpIn (Fence.wide.inRound l) n P ops Q i K a w := by
 unfold wpOp at h
 unfold wpOpIn
 cases ho : ops[i]? with
 | none => rw [ho] at h; exact h
 | some o =>
   rw [ho] at h
   dsimp only at h ⊢
   split
   · rename_i hw
     rw [if_pos hw] at h
     rcases h with h | ⟨_, a, w, h⟩
     · exact oper_in (noDefer_spec hnd ho) h
     · exact (hlo a w h).elim
   · rename_i hw
     rw [if_neg hw] at h
     exact ⟨fun f _ => trivial, h⟩
theorem wpAny_in (hnd : noDefer ops = true) (hlo : ∀ a w, ¬ Q .outgrown a w) : ∀ (fuel : Nat) (L : Array Bool) (a : Act) (w : World), wpAny P md ops Q fuel L a w → wpAnyIn (Fence.wide.inRound l) n P md ops Q fuel L a w
 | 0, _, _, _, h => h
 | fuel + 1, _, _, _, h => ⟨h.1, fun i hi => wpOpIn_mono (fun a' w' h' => wpAny_in hnd hlo fuel _ a' w' h') (wpOp_in hnd hlo (h.2 i hi))⟩
theorem wpIn_region_G {id : Nat} {a : Act} {w : World} (c : Nat) (F : World → Prop) (hm : P.follows .mixedOrders = true) (hnd : noDefer ops = true) (hlo : ∀ a w, ¬ Q .outgrown a w)
 (h : wpAnyG P .any ops Q c F ops.size (Array.replicate ops.size false) a w.drew) : (Code.region id ops true).wpIn (Fence.wide.inRound l) n P Q a w :=
 wpIn_region_any hm (wpAny_in hnd hlo _ _ _ _ (wpAny_of_G _ _ _ _ h))
end
end Go.Proofs.Ytkmodnggncadeaa
