/-
  LEMMAS: a block's cells. (For a seat that does not reach link.Pass: in the place of the text LkPass.)
-/
import Derived.Test.YtjjikhaaimfneaaDoorSl
import Derived.Test.YtjjikhaaimfneaaDoorMin
import Derived.Test.YtjjikhaaimfneaaDoorChecked
import Derived.RangeFuncNested
import Derived.RangeFuncBound
import Derived.RangeFuncCalls
import Derived.RangeFuncLeaves
import Derived.RangeFuncFrom
import Derived.BigRegionIn
import Derived.OwnWalkIn
import Derived.TacticsInMore
import Derived.LoopNIn
import Derived.LoopIn
import Derived.Shelf.Abstract
import Derived.Shelf.RegionOpen
namespace Go.Proofs.YtjjikhaaimfneaaDoor
open Go.RowKit Go.Shelf
set_option linter.unusedSimpArgs false
set_option linter.unusedVariables false

/-- a block's cells -/
def Blk (W : World) (b : Nat) (vs : List Value) : Prop := ∀ j v, vs[j]? = some v → W.cell? ⟨b, j, none⟩ = some v ∧ W.frozen? ⟨b, j, none⟩ = false
theorem Blk.new (w : World) (vs : List Value) (t : TypeId) : Blk (w.alloc (.cells vs.toArray t)) w.heap.size vs := fun j v hj => by
  have key : ∀ (W : World) (b : Nat), W.heap[b]? = some (.cells vs.toArray t (0, 0)) → W.cell? ⟨b, j, none⟩ = some v ∧ W.frozen? ⟨b, j, none⟩ = false := fun W b h => ⟨by simp [World.cell?, h, hj], by simp [World.frozen?, h]⟩
  exact key _ _ (World.alloc_heap_new w (.cells vs.toArray t))
theorem Blk.lt {W : World} {b : Nat} {v : Value} {vs : List Value} (h : Blk W b (v :: vs)) : b < W.heap.size := World.block_lt_of_cell? W _ (h 0 v rfl).1
theorem Blk.below {B : Nat} {W W' : World} {b : Nat} {vs : List Value} (h : Blk W b vs) (hb : Below B W W') (hlt : b < B) : Blk W' b vs := fun j v hj =>
  ⟨(hb.cell (p := ⟨b, j, none⟩) hlt).trans (h j v hj).1, (hb.frozen (p := ⟨b, j, none⟩) hlt).trans (h j v hj).2⟩
theorem Blk.alloc {W : World} {b : Nat} {vs : List Value} (h : Blk W b vs) (o : Obj) : Blk (W.alloc o) b vs := fun j v hj =>
  have hb := (Below.refl W.heap.size W).alloc (Nat.le_refl _) o
  have hl := World.block_lt_of_cell? W _ (h j v hj).1
  ⟨(hb.cell (p := ⟨b, j, none⟩) hl).trans (h j v hj).1, (hb.frozen (p := ⟨b, j, none⟩) hl).trans (h j v hj).2⟩
theorem Blk.set {W : World} {b j : Nat} {vs : List Value} (h : Blk W b vs) (hj : j < vs.length) (x : Value) : Blk (W.setCell ⟨b, j, none⟩ x) b (vs.set j x) := fun i v hi => by
  rw [World.frozen?_setCell]
  by_cases hij : i = j
  · subst hij
    rw [List.getElem?_set_self hj] at hi
    injection hi with hi; subst hi
    exact ⟨World.cell?_setCell_same' _ _ _ (by rw [(h i _ (List.getElem?_eq_getElem hj)).1]; rfl), (h i _ (List.getElem?_eq_getElem hj)).2⟩
  · rw [List.getElem?_set_ne (Ne.symm hij)] at hi
    exact ⟨by rw [World.cell?_setCell_other _ _ _ _ (fun e => by injection e with _ e; omega)]; exact (h i v hi).1, (h i v hi).2⟩
theorem Blk.other {W : World} {b : Nat} {vs : List Value} (h : Blk W b vs) (p : Addr) (x : Value) (hp : p.block ≠ b) : Blk (W.setCell p x) b vs := fun i v hi => by
  rw [World.frozen?_setCell]
  exact ⟨by rw [World.cell?_setCell_other _ _ _ _ (fun e => by subst e; exact hp rfl)]; exact (h i v hi).1, (h i v hi).2⟩
theorem Blk.drew {W : World} {b : Nat} {vs : List Value} (h : Blk W b vs) : Blk W.drew b vs := h
theorem Blk.kept {W W' : World} {row : Option Nat} {b : Nat} {vs : List Value} (h : Blk W b vs) (hg : W.grownBy W' row) (hrow : ∀ r, row = some r → ∃ o : Obj, W.heap[r]? = some o ∧ o.isCells = false) : Blk W' b vs := fun i v hi =>
  ⟨cell_kept (h i v hi).1 hg hrow, (frozen_kept (h i v hi).1 hg hrow).trans (h i v hi).2⟩


end Go.Proofs.YtjjikhaaimfneaaDoor
