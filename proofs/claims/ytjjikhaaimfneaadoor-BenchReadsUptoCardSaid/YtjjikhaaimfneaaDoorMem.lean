/-
  SMALL LEMMAS on calls and worlds that the walks of this claim use. No program in sight.
-/
import Derived.WalkKit
import Derived.WalkSpells
import Derived.WalkLawsBesides
import Derived.Deep.QuietTactic
import Derived.BigQuiet
import Derived.Deep.RegionHeld3
import Derived.Deep.DeepMust
import Derived.Deep.DeepFit
import Derived.KernelRfl
namespace Go.Proofs.YtjjikhaaimfneaaDoor
set_option linter.unusedSimpArgs false
set_option linter.unusedVariables false
open Go.RowKit

theorem hide {p : Prop} (h : p) : Hid p := h

/-- a callee that only reckons, in a region that only reads -/
theorem quietL {P : Program} {f : FuncId} {args : Array Value} {w : World} {n : Nat} {v : Value}
    (h : Calls P f args (w.drewN n) fun e w' => e = .returned v ∧ w.drewN n = w') : Calls P f args (w.drewN n) fun e w'' => e = .returned v ∧ ∃ m, w'' = w.drewN m :=
  h.mono fun _ _ ⟨he, hm⟩ => ⟨he, n, hm.symm⟩

theorem retI {k : IntKind} {a b : Int} (h : a = b) : Ending.returned (.int k a) = .returned (.int k b) := by rw [h]
theorem retB {a b : Bool} (h : a = b) : Ending.returned (.bool a) = .returned (.bool b) := by rw [h]
theorem retBI {a b : Bool} (h : a = true ↔ b = true) : Ending.returned (.bool a) = .returned (.bool b) := by rw [Bool.eq_iff_iff.2 h]

/-- all that lay there reads as it did: the two rules for the walk -/
theorem bcell {W w1 : World} (hb : Below W.heap.size W w1) : (∀ b o, b < W.heap.size → w1.cell? ⟨b, o, none⟩ = W.cell? ⟨b, o, none⟩) ∧ (∀ b o, b < W.heap.size → w1.frozen? ⟨b, o, none⟩ = W.frozen? ⟨b, o, none⟩) :=
  ⟨fun b o h => hb.cell (p := ⟨b, o, none⟩) h, fun b o h => hb.frozen (p := ⟨b, o, none⟩) h⟩

theorem Below.drewN {B : Nat} {a w : World} (h : Below B a w) (n : Nat) : Below B a (w.drewN n) := below_drewN h n

/-- a world in which all that lay in w0 lies as it lay: THE CLASS for a region that draws its order, reads, and calls functions that make memory -/
structure Beyond (w0 : World) where
  w : World
  h : Below w0.heap.size w0 w

instance (w0 : World) : Inhabited (Beyond w0) := ⟨⟨w0, Below.refl _ _⟩⟩
theorem Beyond.cell {w0 : World} (p : Beyond w0) {a : Addr} {v : Value} (hb : a.block < w0.heap.size) (h : w0.cell? a = some v) : p.w.cell? a = some v := (p.h.cell hb).trans h

/-- such a region is walked once, in the order of the text -/
theorem wp_region_beyond {P : Program} {id : Nat} {Q : Exit → Act → World → Prop} {a : Act} {w : World} {l : List Oper} (hm : P.follows .mixedOrders = true) (hB : Region.lexB .any l.toArray = true)
    (h : wpQuiet P l.toArray (fun w' => ∃ p : Beyond w, w' = p.w) (fun a' => ∀ w', (∃ p : Beyond w, w' = p.w) → Q .normal a' w') l a) : (Code.region id l.toArray true).wp P Q a w :=
  wp_region_quiet (C := fun w' => ∃ p : Beyond w, w' = p.w) hm hB ⟨⟨_, (Below.refl w.heap.size w).drew⟩, rfl⟩ (by simpa using h)

theorem beyondCall {P : Program} {f : FuncId} {args : Array Value} {w0 : World} {p : Beyond w0} {v : Value}
    (h : Calls P f args p.w fun e w' => e = .returned v ∧ Below p.w.heap.size p.w w') : Calls P f args p.w fun e w'' => e = .returned v ∧ ∃ q : Beyond w0, w'' = q.w :=
  h.mono fun _ _ ⟨he, hb⟩ => ⟨he, ⟨_, p.h.trans (hb.mono p.h.size)⟩, rfl⟩
theorem beyondSame {P : Program} {f : FuncId} {args : Array Value} {w0 : World} {p : Beyond w0} {v : Value}
    (h : Calls P f args p.w fun e w' => e = .returned v ∧ p.w = w') : Calls P f args p.w fun e w'' => e = .returned v ∧ ∃ q : Beyond w0, w'' = q.w :=
  h.mono fun _ _ ⟨he, hb⟩ => ⟨he, p, hb.symm⟩

/-- two blocks of six, laid one behind the other, behind a call -/
theorem BL {p : Prop} (h : p := by ((repeat' (first | (with_reducible exact Below.refl _ _) | (with_reducible refine Below.alloc ?_ ?_ _) | (with_reducible refine Below.setCell ?_ ?_ _) | (with_reducible refine Below.drewN ?_ _) | (with_reducible refine Below.drew ?_) | (with_reducible refine Below.trans ?_ (hb8.mono ?_)) | (with_reducible refine Below.trans ?_ (hb7.mono ?_)) | (with_reducible refine Below.trans ?_ (hb6.mono ?_)) | (with_reducible refine Below.trans ?_ (hb5.mono ?_)) | (with_reducible refine Below.trans ?_ (hb4.mono ?_)) | (with_reducible refine Below.trans ?_ (hb3.mono ?_)) | (with_reducible refine Below.trans ?_ (hb2.mono ?_)) | (with_reducible refine Below.trans ?_ (hb1.mono ?_)) | (with_reducible refine Below.trans ?_ (hb.mono ?_)) | omega | (simp; done) | (simp; omega))); first | done | fail "BL")) : p := h
theorem boxes26 {w w1 : World} {T : TypeId} {x0 x1 x2 x3 x4 x5 y0 y1 y2 y3 y4 y5 : Value} (hb : Below ((w.alloc (.cells #[x0, x1, x2, x3, x4, x5] T)).alloc (.cells #[y0, y1, y2, y3, y4, y5] T)).heap.size ((w.alloc (.cells #[x0, x1, x2, x3, x4, x5] T)).alloc (.cells #[y0, y1, y2, y3, y4, y5] T)) w1) :
    (∀ j, w1.frozen? ⟨w.heap.size + 1, j, none⟩ = false) ∧ (∀ j, w1.frozen? ⟨w.heap.size, j, none⟩ = false) ∧
    w1.cell? ⟨w.heap.size, 0, none⟩ = some x0 ∧ w1.cell? ⟨w.heap.size, 1, none⟩ = some x1 ∧ w1.cell? ⟨w.heap.size, 2, none⟩ = some x2 ∧ w1.cell? ⟨w.heap.size, 3, none⟩ = some x3 ∧ w1.cell? ⟨w.heap.size, 4, none⟩ = some x4 ∧ w1.cell? ⟨w.heap.size, 5, none⟩ = some x5 ∧
    w1.cell? ⟨w.heap.size + 1, 0, none⟩ = some y0 ∧ w1.cell? ⟨w.heap.size + 1, 1, none⟩ = some y1 ∧ w1.cell? ⟨w.heap.size + 1, 2, none⟩ = some y2 ∧ w1.cell? ⟨w.heap.size + 1, 3, none⟩ = some y3 ∧ w1.cell? ⟨w.heap.size + 1, 4, none⟩ = some y4 ∧ w1.cell? ⟨w.heap.size + 1, 5, none⟩ = some y5 := by
  refine ⟨fun j => ?_, fun j => ?_, ?_, ?_, ?_, ?_, ?_, ?_, ?_, ?_, ?_, ?_, ?_, ?_⟩
  · rw [hb.frozen (by simp)]; simp [go_sem]
  · rw [hb.frozen (by simp; omega)]; simp [go_sem]
  all_goals (rw [hb.cell (by simp <;> omega)]; simp [go_sem, World.cell?_alloc_past])
theorem keep26 {X w2 : World} {A : Nat} {x0 x1 x2 x3 x4 x5 y0 y1 y2 y3 y4 y5 : Value} (hb : Below X.heap.size X w2) (fz : ∀ j, X.frozen? ⟨A + 1, j, none⟩ = false) (c0 : X.cell? ⟨A, 0, none⟩ = some x0) (c1 : X.cell? ⟨A, 1, none⟩ = some x1) (c2 : X.cell? ⟨A, 2, none⟩ = some x2) (c3 : X.cell? ⟨A, 3, none⟩ = some x3) (c4 : X.cell? ⟨A, 4, none⟩ = some x4) (c5 : X.cell? ⟨A, 5, none⟩ = some x5) (z0 : X.cell? ⟨A + 1, 0, none⟩ = some y0) (z1 : X.cell? ⟨A + 1, 1, none⟩ = some y1) (z2 : X.cell? ⟨A + 1, 2, none⟩ = some y2) (z3 : X.cell? ⟨A + 1, 3, none⟩ = some y3) (z4 : X.cell? ⟨A + 1, 4, none⟩ = some y4) (z5 : X.cell? ⟨A + 1, 5, none⟩ = some y5) :
    (A + 1 < w2.heap.size ∧ ¬ A + 1 = w2.heap.size ∧ ¬ w2.heap.size = A + 1 ∧ A < w2.heap.size ∧ ¬ A = w2.heap.size ∧ ¬ w2.heap.size = A) ∧ (∀ j, w2.frozen? ⟨A + 1, j, none⟩ = false) ∧ w2.cell? ⟨A + 1, 0, none⟩ = some y0 ∧ w2.cell? ⟨A + 1, 1, none⟩ = some y1 ∧ w2.cell? ⟨A + 1, 2, none⟩ = some y2 ∧ w2.cell? ⟨A + 1, 3, none⟩ = some y3 ∧ w2.cell? ⟨A + 1, 4, none⟩ = some y4 ∧ w2.cell? ⟨A + 1, 5, none⟩ = some y5 ∧ w2.cell? ⟨A, 0, none⟩ = some x0 ∧ w2.cell? ⟨A, 1, none⟩ = some x1 ∧ w2.cell? ⟨A, 2, none⟩ = some x2 ∧ w2.cell? ⟨A, 3, none⟩ = some x3 ∧ w2.cell? ⟨A, 4, none⟩ = some x4 ∧ w2.cell? ⟨A, 5, none⟩ = some x5 := by
  have h0 := World.block_lt_of_cell? X _ z0
  have h1 := hb.size
  simp only at h0
  refine ⟨⟨by omega, by omega, by omega, by omega, by omega, by omega⟩, fun j => (hb.frozen (p := ⟨A + 1, j, none⟩) h0).trans (fz j), (hb.cell (World.block_lt_of_cell? X _ z0)).trans z0, (hb.cell (World.block_lt_of_cell? X _ z1)).trans z1, (hb.cell (World.block_lt_of_cell? X _ z2)).trans z2, (hb.cell (World.block_lt_of_cell? X _ z3)).trans z3, (hb.cell (World.block_lt_of_cell? X _ z4)).trans z4, (hb.cell (World.block_lt_of_cell? X _ z5)).trans z5, (hb.cell (World.block_lt_of_cell? X _ c0)).trans c0, (hb.cell (World.block_lt_of_cell? X _ c1)).trans c1, (hb.cell (World.block_lt_of_cell? X _ c2)).trans c2, (hb.cell (World.block_lt_of_cell? X _ c3)).trans c3, (hb.cell (World.block_lt_of_cell? X _ c4)).trans c4, (hb.cell (World.block_lt_of_cell? X _ c5)).trans c5⟩
theorem keepNew {X w3 : World} {A : Nat} {T : TypeId} {x0 x1 x2 x3 x4 x5 y0 y1 y2 y3 y4 y5 : Value} (hb : Below (X.alloc (.cells #[x0, x1, x2, x3, x4, x5] T)).heap.size (X.alloc (.cells #[x0, x1, x2, x3, x4, x5] T)) w3) (fz : ∀ j, X.frozen? ⟨A, j, none⟩ = false) (z0 : X.cell? ⟨A, 0, none⟩ = some y0) (z1 : X.cell? ⟨A, 1, none⟩ = some y1) (z2 : X.cell? ⟨A, 2, none⟩ = some y2) (z3 : X.cell? ⟨A, 3, none⟩ = some y3) (z4 : X.cell? ⟨A, 4, none⟩ = some y4) (z5 : X.cell? ⟨A, 5, none⟩ = some y5) :
    (∀ j, w3.frozen? ⟨X.heap.size, j, none⟩ = false) ∧ (∀ j, w3.frozen? ⟨A, j, none⟩ = false) ∧ w3.cell? ⟨X.heap.size, 0, none⟩ = some x0 ∧ w3.cell? ⟨X.heap.size, 1, none⟩ = some x1 ∧ w3.cell? ⟨X.heap.size, 2, none⟩ = some x2 ∧ w3.cell? ⟨X.heap.size, 3, none⟩ = some x3 ∧ w3.cell? ⟨X.heap.size, 4, none⟩ = some x4 ∧ w3.cell? ⟨X.heap.size, 5, none⟩ = some x5 ∧ w3.cell? ⟨A, 0, none⟩ = some y0 ∧ w3.cell? ⟨A, 1, none⟩ = some y1 ∧ w3.cell? ⟨A, 2, none⟩ = some y2 ∧ w3.cell? ⟨A, 3, none⟩ = some y3 ∧ w3.cell? ⟨A, 4, none⟩ = some y4 ∧ w3.cell? ⟨A, 5, none⟩ = some y5 := by
  have h0 := World.block_lt_of_cell? X _ z0
  simp only at h0
  refine ⟨fun j => ?_, fun j => ?_, ?_, ?_, ?_, ?_, ?_, ?_, ((((Below.refl X.heap.size X).alloc (Nat.le_refl _) _).trans (hb.mono (by simp))).cell (World.block_lt_of_cell? X _ z0)).trans z0, ((((Below.refl X.heap.size X).alloc (Nat.le_refl _) _).trans (hb.mono (by simp))).cell (World.block_lt_of_cell? X _ z1)).trans z1, ((((Below.refl X.heap.size X).alloc (Nat.le_refl _) _).trans (hb.mono (by simp))).cell (World.block_lt_of_cell? X _ z2)).trans z2, ((((Below.refl X.heap.size X).alloc (Nat.le_refl _) _).trans (hb.mono (by simp))).cell (World.block_lt_of_cell? X _ z3)).trans z3, ((((Below.refl X.heap.size X).alloc (Nat.le_refl _) _).trans (hb.mono (by simp))).cell (World.block_lt_of_cell? X _ z4)).trans z4, ((((Below.refl X.heap.size X).alloc (Nat.le_refl _) _).trans (hb.mono (by simp))).cell (World.block_lt_of_cell? X _ z5)).trans z5⟩
  · rw [hb.frozen (by simp)]; simp [go_sem]
  · rw [hb.frozen (by simp; omega), ((Below.refl X.heap.size X).alloc (Nat.le_refl _) _).frozen (p := ⟨A, j, none⟩) h0]; exact fz j
  all_goals (rw [hb.cell (by simp)]; simp [go_sem])
theorem keep2 {X w4 : World} {A B : Nat} {x0 x1 x2 x3 x4 x5 y0 y1 y2 y3 y4 y5 : Value} (hb : Below X.heap.size X w4) (fo : ∀ j, X.frozen? ⟨B, j, none⟩ = false) (fz : ∀ j, X.frozen? ⟨A, j, none⟩ = false) (c0 : X.cell? ⟨B, 0, none⟩ = some x0) (c1 : X.cell? ⟨B, 1, none⟩ = some x1) (c2 : X.cell? ⟨B, 2, none⟩ = some x2) (c3 : X.cell? ⟨B, 3, none⟩ = some x3) (c4 : X.cell? ⟨B, 4, none⟩ = some x4) (c5 : X.cell? ⟨B, 5, none⟩ = some x5) (z0 : X.cell? ⟨A, 0, none⟩ = some y0) (z1 : X.cell? ⟨A, 1, none⟩ = some y1) (z2 : X.cell? ⟨A, 2, none⟩ = some y2) (z3 : X.cell? ⟨A, 3, none⟩ = some y3) (z4 : X.cell? ⟨A, 4, none⟩ = some y4) (z5 : X.cell? ⟨A, 5, none⟩ = some y5) :
    (∀ j, w4.frozen? ⟨B, j, none⟩ = false) ∧ (∀ j, w4.frozen? ⟨A, j, none⟩ = false) ∧ w4.cell? ⟨B, 0, none⟩ = some x0 ∧ w4.cell? ⟨B, 1, none⟩ = some x1 ∧ w4.cell? ⟨B, 2, none⟩ = some x2 ∧ w4.cell? ⟨B, 3, none⟩ = some x3 ∧ w4.cell? ⟨B, 4, none⟩ = some x4 ∧ w4.cell? ⟨B, 5, none⟩ = some x5 ∧ w4.cell? ⟨A, 0, none⟩ = some y0 ∧ w4.cell? ⟨A, 1, none⟩ = some y1 ∧ w4.cell? ⟨A, 2, none⟩ = some y2 ∧ w4.cell? ⟨A, 3, none⟩ = some y3 ∧ w4.cell? ⟨A, 4, none⟩ = some y4 ∧ w4.cell? ⟨A, 5, none⟩ = some y5 :=
  ⟨fun j => (hb.frozen (p := ⟨B, j, none⟩) (show B < X.heap.size from World.block_lt_of_cell? X ⟨B, 0, none⟩ c0)).trans (fo j), fun j => (hb.frozen (p := ⟨A, j, none⟩) (show A < X.heap.size from World.block_lt_of_cell? X ⟨A, 0, none⟩ z0)).trans (fz j), (hb.cell (World.block_lt_of_cell? X _ c0)).trans c0, (hb.cell (World.block_lt_of_cell? X _ c1)).trans c1, (hb.cell (World.block_lt_of_cell? X _ c2)).trans c2, (hb.cell (World.block_lt_of_cell? X _ c3)).trans c3, (hb.cell (World.block_lt_of_cell? X _ c4)).trans c4, (hb.cell (World.block_lt_of_cell? X _ c5)).trans c5, (hb.cell (World.block_lt_of_cell? X _ z0)).trans z0, (hb.cell (World.block_lt_of_cell? X _ z1)).trans z1, (hb.cell (World.block_lt_of_cell? X _ z2)).trans z2, (hb.cell (World.block_lt_of_cell? X _ z3)).trans z3, (hb.cell (World.block_lt_of_cell? X _ z4)).trans z4, (hb.cell (World.block_lt_of_cell? X _ z5)).trans z5⟩

end Go.Proofs.YtjjikhaaimfneaaDoor
