/-
  SMALL LEMMAS on calls and worlds that the walks of this claim use. No program in sight.
-/
import Derived.WalkKit
import Derived.WalkSpells
import Derived.WalkLawsBesides
import Derived.Deep.QuietTactic
import Derived.BigQuiet
import Derived.Deep.RegionHeld3
import Derived.Deep.DeepMust
import Derived.Deep.DeepFit
import Derived.KernelRfl
namespace Go.Proofs.Ythjicnddfjpnjaa
set_option linter.unusedSimpArgs false
set_option linter.unusedVariables false
open Go.RowKit

theorem hide {p : Prop} (h : p) : Hid p := h

/-- a callee that only reckons, in a region that only reads -/
theorem quietL {P : Program} {f : FuncId} {args : Array Value} {w : World} {n : Nat} {v : Value}
    (h : Calls P f args (w.drewN n) fun e w' => e = .returned v ∧ w.drewN n = w') : Calls P f args (w.drewN n) fun e w'' => e = .returned v ∧ ∃ m, w'' = w.drewN m :=
  h.mono fun _ _ ⟨he, hm⟩ => ⟨he, n, hm.symm⟩

theorem retI {k : IntKind} {a b : Int} (h : a = b) : Ending.returned (.int k a) = .returned (.int k b) := by rw [h]
theorem retB {a b : Bool} (h : a = b) : Ending.returned (.bool a) = .returned (.bool b) := by rw [h]
theorem retBI {a b : Bool} (h : a = true ↔ b = true) : Ending.returned (.bool a) = .returned (.bool b) := by rw [Bool.eq_iff_iff.2 h]

/-- all that lay there reads as it did: the two rules for the walk -/
theorem bcell {W w1 : World} (hb : Below W.heap.size W w1) : (∀ b o, b < W.heap.size → w1.cell? ⟨b, o, none⟩ = W.cell? ⟨b, o, none⟩) ∧ (∀ b o, b < W.heap.size → w1.frozen? ⟨b, o, none⟩ = W.frozen? ⟨b, o, none⟩) :=
  ⟨fun b o h => hb.cell (p := ⟨b, o, none⟩) h, fun b o h => hb.frozen (p := ⟨b, o, none⟩) h⟩

theorem Below.drewN {B : Nat} {a w : World} (h : Below B a w) (n : Nat) : Below B a (w.drewN n) := below_drewN h n

/-- a world in which all that lay in w0 lies as it lay: THE CLASS for a region that draws its order, reads, and calls functions that make memory -/
structure Beyond (w0 : World) where
  w : World
  h : Below w0.heap.size w0 w

instance (w0 : World) : Inhabited (Beyond w0) := ⟨⟨w0, Below.refl _ _⟩⟩
theorem Beyond.cell {w0 : World} (p : Beyond w0) {a : Addr} {v : Value} (hb : a.block < w0.heap.size) (h : w0.cell? a = some v) : p.w.cell? a = some v := (p.h.cell hb).trans h

/-- such a region is walked once, in the order of the text -/
theorem wp_region_beyond {P : Program} {id : Nat} {Q : Exit → Act → World → Prop} {a : Act} {w : World} {l : List Oper} (hm : P.follows .mixedOrders = true) (hB : Region.lexB .any l.toArray = true)
    (h : wpQuiet P l.toArray (fun w' => ∃ p : Beyond w, w' = p.w) (fun a' => ∀ w', (∃ p : Beyond w, w' = p.w) → Q .normal a' w') l a) : (Code.region id l.toArray true).wp P Q a w :=
  wp_region_quiet (C := fun w' => ∃ p : Beyond w, w' = p.w) hm hB ⟨⟨_, (Below.refl w.heap.size w).drew⟩, rfl⟩ (by simpa using h)

theorem beyondCall {P : Program} {f : FuncId} {args : Array Value} {w0 : World} {p : Beyond w0} {v : Value}
    (h : Calls P f args p.w fun e w' => e = .returned v ∧ Below p.w.heap.size p.w w') : Calls P f args p.w fun e w'' => e = .returned v ∧ ∃ q : Beyond w0, w'' = q.w :=
  h.mono fun _ _ ⟨he, hb⟩ => ⟨he, ⟨_, p.h.trans (hb.mono p.h.size)⟩, rfl⟩
theorem beyondSame {P : Program} {f : FuncId} {args : Array Value} {w0 : World} {p : Beyond w0} {v : Value}
    (h : Calls P f args p.w fun e w' => e = .returned v ∧ p.w = w') : Calls P f args p.w fun e w'' => e = .returned v ∧ ∃ q : Beyond w0, w'' = q.w :=
  h.mono fun _ _ ⟨he, hb⟩ => ⟨he, p, hb.symm⟩

/-- two blocks of six, laid one behind the other, behind a call -/
theorem boxes26 {w w1 : World} {T : TypeId} {x0 x1 x2 x3 x4 x5 y0 y1 y2 y3 y4 y5 : Value} (hb : Below ((w.alloc (.cells #[x0, x1, x2, x3, x4, x5] T)).alloc (.cells #[y0, y1, y2, y3, y4, y5] T)).heap.size ((w.alloc (.cells #[x0, x1, x2, x3, x4, x5] T)).alloc (.cells #[y0, y1, y2, y3, y4, y5] T)) w1) :
    (∀ j, w1.frozen? ⟨w.heap.size + 1, j, none⟩ = false) ∧ (∀ j, w1.frozen? ⟨w.heap.size, j, none⟩ = false) ∧
    w1.cell? ⟨w.heap.size, 0, none⟩ = some x0 ∧ w1.cell? ⟨w.heap.size, 1, none⟩ = some x1 ∧ w1.cell? ⟨w.heap.size, 2, none⟩ = some x2 ∧ w1.cell? ⟨w.heap.size, 3, none⟩ = some x3 ∧ w1.cell? ⟨w.heap.size, 4, none⟩ = some x4 ∧ w1.cell? ⟨w.heap.size, 5, none⟩ = some x5 ∧
    w1.cell? ⟨w.heap.size + 1, 0, none⟩ = some y0 ∧ w1.cell? ⟨w.heap.size + 1, 1, none⟩ = some y1 ∧ w1.cell? ⟨w.heap.size + 1, 2, none⟩ = some y2 ∧ w1.cell? ⟨w.heap.size + 1, 3, none⟩ = some y3 ∧ w1.cell? ⟨w.heap.size + 1, 4, none⟩ = some y4 ∧ w1.cell? ⟨w.heap.size + 1, 5, none⟩ = some y5 := by
  refine ⟨fun j => ?_, fun j => ?_, ?_, ?_, ?_, ?_, ?_, ?_, ?_, ?_, ?_, ?_, ?_, ?_⟩
  · rw [hb.frozen (by simp)]; simp [go_sem]
  · rw [hb.frozen (by simp; omega)]; simp [go_sem]
  all_goals (rw [hb.cell (by simp <;> omega)]; simp [go_sem, World.cell?_alloc_past])

end Go.Proofs.Ythjicnddfjpnjaa
