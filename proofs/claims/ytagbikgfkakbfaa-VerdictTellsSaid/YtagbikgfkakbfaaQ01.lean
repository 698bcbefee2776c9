/-
  Lemmas and walks for the statement: Mem, Sl, Frame, RegG, RegG2, RegIn, EqD, EqS, Ctl, Led.
-/
import Derived.WalkKit
import Derived.WalkSpells
import Derived.WalkLawsBesides
import Derived.Deep.QuietTactic
import Derived.BigQuiet
import Derived.Deep.RegionHeld3
import Derived.Deep.DeepMust
import Derived.Deep.DeepFit
import Derived.KernelRfl
import Derived.Laws.OwnMore
import Derived.Maps.AppendAt
import Derived.StillTailTactics
import Derived.Deep.AppendLies
import Derived.ProofKit
import Derived.OpenShut
import Derived.ChangeOld
import Derived.SizedLaws
import Derived.Carry
import Derived.BigRegion
import Derived.OrdersIn
import Derived.TacticsIn
import Derived.RangeFuncCalls
import Derived.Test.YtagbikgfkakbfaaChecked
import Derived.DeepKeys
import Derived.Laws.StructEq
import Derived.Test.YtagbikgfkakbfaaProg
namespace Go.Proofs.Ytagbikgfkakbfaa
set_option linter.unusedSimpArgs false
set_option linter.unusedVariables false
open Go.RowKit
theorem hide {p : Prop} (h : p) : Hid p := h
theorem quietL {P : Program} {f : FuncId} {args : Array Value} {w : World} {n : Nat} {v : Value}
 (h : Calls P f args (w.drewN n) fun e w' => e = .returned v ∧ w.drewN n = w') : Calls P f args (w.drewN n) fun e w'' => e = .returned v ∧ ∃ m, w'' = w.drewN m :=
 h.mono fun _ _ ⟨he, hm⟩ => ⟨he, n, hm.symm⟩
theorem retI {k : IntKind} {a b : Int} (h : a = b) : Ending.returned (.int k a) = .returned (.int k b) := by rw [h]
theorem retB {a b : Bool} (h : a = b) : Ending.returned (.bool a) = .returned (.bool b) := by rw [h]
theorem retBI {a b : Bool} (h : a = true ↔ b = true) : Ending.returned (.bool a) = .returned (.bool b) := by rw [Bool.eq_iff_iff.2 h]
theorem bcell {W w1 : World} (hb : Below W.heap.size W w1) : (∀ b o, b < W.heap.size → w1.cell? ⟨b, o, none⟩ = W.cell? ⟨b, o, none⟩) ∧ (∀ b o, b < W.heap.size → w1.frozen? ⟨b, o, none⟩ = W.frozen? ⟨b, o, none⟩) :=
 ⟨fun b o h => hb.cell (p := ⟨b, o, none⟩) h, fun b o h => hb.frozen (p := ⟨b, o, none⟩) h⟩
theorem Below.drewN {B : Nat} {a w : World} (h : Below B a w) (n : Nat) : Below B a (w.drewN n) := below_drewN h n
structure Beyond (w0 : World) where
 w : World
 h : Below w0.heap.size w0 w
instance (w0 : World) : Inhabited (Beyond w0) := ⟨⟨w0, Below.refl _ _⟩⟩
theorem Beyond.cell {w0 : World} (p : Beyond w0) {a : Addr} {v : Value} (hb : a.block < w0.heap.size) (h : w0.cell? a = some v) : p.w.cell? a = some v := (p.h.cell hb).trans h
theorem wp_region_beyond {P : Program} {id : Nat} {Q : Exit → Act → World → Prop} {a : Act} {w : World} {l : List Oper} (hm : P.follows .mixedOrders = true) (hB : Region.lexB .any l.toArray = true)
 (h : wpQuiet P l.toArray (fun w' => ∃ p : Beyond w, w' = p.w) (fun a' => ∀ w', (∃ p : Beyond w, w' = p.w) → Q .normal a' w') l a) : (Code.region id l.toArray true).wp P Q a w :=
 wp_region_quiet (C := fun w' => ∃ p : Beyond w, w' = p.w) hm hB ⟨⟨_, (Below.refl w.heap.size w).drew⟩, rfl⟩ (by simpa using h)
theorem beyondCall {P : Program} {f : FuncId} {args : Array Value} {w0 : World} {p : Beyond w0} {v : Value}
 (h : Calls P f args p.w fun e w' => e = .returned v ∧ Below p.w.heap.size p.w w') : Calls P f args p.w fun e w'' => e = .returned v ∧ ∃ q : Beyond w0, w'' = q.w :=
 h.mono fun _ _ ⟨he, hb⟩ => ⟨he, ⟨_, p.h.trans (hb.mono p.h.size)⟩, rfl⟩
theorem beyondSame {P : Program} {f : FuncId} {args : Array Value} {w0 : World} {p : Beyond w0} {v : Value}
 (h : Calls P f args p.w fun e w' => e = .returned v ∧ p.w = w') : Calls P f args p.w fun e w'' => e = .returned v ∧ ∃ q : Beyond w0, w'' = q.w :=
 h.mono fun _ _ ⟨he, hb⟩ => ⟨he, p, hb.symm⟩
theorem BL {p : Prop} (h : p := by ((repeat' (first | (with_reducible exact Below.refl _ _) | (with_reducible refine Below.alloc ?_ ?_ _) | (with_reducible refine Below.setCell ?_ ?_ _) | (with_reducible refine Below.drewN ?_ _) | (with_reducible refine Below.drew ?_) | (with_reducible refine Below.trans ?_ (hb8.mono ?_)) | (with_reducible refine Below.trans ?_ (hb7.mono ?_)) | (with_reducible refine Below.trans ?_ (hb6.mono ?_)) | (with_reducible refine Below.trans ?_ (hb5.mono ?_)) | (with_reducible refine Below.trans ?_ (hb4.mono ?_)) | (with_reducible refine Below.trans ?_ (hb3.mono ?_)) | (with_reducible refine Below.trans ?_ (hb2.mono ?_)) | (with_reducible refine Below.trans ?_ (hb1.mono ?_)) | (with_reducible refine Below.trans ?_ (hb.mono ?_)) | omega | (simp; done) | (simp; omega))); first | done | fail "BL")) : p := h
theorem boxes26 {w w1 : World} {T : TypeId} {x0 x1 x2 x3 x4 x5 y0 y1 y2 y3 y4 y5 : Value} (hb : Below ((w.alloc (.cells #[x0, x1, x2, x3, x4, x5] T)).alloc (.cells #[y0, y1, y2, y3, y4, y5] T)).heap.size ((w.alloc (.cells #[x0, x1, x2, x3, x4, x5] T)).alloc (.cells #[y0, y1, y2, y3, y4, y5] T)) w1) :
 (∀ j, w1.frozen? ⟨w.heap.size + 1, j, none⟩ = false) ∧ (∀ j, w1.frozen? ⟨w.heap.size, j, none⟩ = false) ∧
 w1.cell? ⟨w.heap.size, 0, none⟩ = some x0 ∧ w1.cell? ⟨w.heap.size, 1, none⟩ = some x1 ∧ w1.cell? ⟨w.heap.size, 2, none⟩ = some x2 ∧ w1.cell? ⟨w.heap.size, 3, none⟩ = some x3 ∧ w1.cell? ⟨w.heap.size, 4, none⟩ = some x4 ∧ w1.cell? ⟨w.heap.size, 5, none⟩ = some x5 ∧
 w1.cell? ⟨w.heap.size + 1, 0, none⟩ = some y0 ∧ w1.cell? ⟨w.heap.size + 1, 1, none⟩ = some y1 ∧ w1.cell? ⟨w.heap.size + 1, 2, none⟩ = some y2 ∧ w1.cell? ⟨w.heap.size + 1, 3, none⟩ = some y3 ∧ w1.cell? ⟨w.heap.size + 1, 4, none⟩ = some y4 ∧ w1.cell? ⟨w.heap.size + 1, 5, none⟩ = some y5 := by
 refine ⟨fun j => ?_, fun j => ?_, ?_, ?_, ?_, ?_, ?_, ?_, ?_, ?_, ?_, ?_, ?_, ?_⟩
 · rw [hb.frozen (by simp)]; simp [go_sem]
 · rw [hb.frozen (by simp; omega)]; simp [go_sem]
 all_goals (rw [hb.cell (by simp <;> omega)]; simp [go_sem, World.cell?_alloc_past])
theorem keep26 {X w2 : World} {A : Nat} {x0 x1 x2 x3 x4 x5 y0 y1 y2 y3 y4 y5 : Value} (hb : Below X.heap.size X w2) (fz : ∀ j, X.frozen? ⟨A + 1, j, none⟩ = false) (c0 : X.cell? ⟨A, 0, none⟩ = some x0) (c1 : X.cell? ⟨A, 1, none⟩ = some x1) (c2 : X.cell? ⟨A, 2, none⟩ = some x2) (c3 : X.cell? ⟨A, 3, none⟩ = some x3) (c4 : X.cell? ⟨A, 4, none⟩ = some x4) (c5 : X.cell? ⟨A, 5, none⟩ = some x5) (z0 : X.cell? ⟨A + 1, 0, none⟩ = some y0) (z1 : X.cell? ⟨A + 1, 1, none⟩ = some y1) (z2 : X.cell? ⟨A + 1, 2, none⟩ = some y2) (z3 : X.cell? ⟨A + 1, 3, none⟩ = some y3) (z4 : X.cell? ⟨A + 1, 4, none⟩ = some y4) (z5 : X.cell? ⟨A + 1, 5, none⟩ = some y5) :
 (A + 1 < w2.heap.size ∧ ¬ A + 1 = w2.heap.size ∧ ¬ w2.heap.size = A + 1 ∧ A < w2.heap.size ∧ ¬ A = w2.heap.size ∧ ¬ w2.heap.size = A) ∧ (∀ j, w2.frozen? ⟨A + 1, j, none⟩ = false) ∧ w2.cell? ⟨A + 1, 0, none⟩ = some y0 ∧ w2.cell? ⟨A + 1, 1, none⟩ = some y1 ∧ w2.cell? ⟨A + 1, 2, none⟩ = some y2 ∧ w2.cell? ⟨A + 1, 3, none⟩ = some y3 ∧ w2.cell? ⟨A + 1, 4, none⟩ = some y4 ∧ w2.cell? ⟨A + 1, 5, none⟩ = some y5 ∧ w2.cell? ⟨A, 0, none⟩ = some x0 ∧ w2.cell? ⟨A, 1, none⟩ = some x1 ∧ w2.cell? ⟨A, 2, none⟩ = some x2 ∧ w2.cell? ⟨A, 3, none⟩ = some x3 ∧ w2.cell? ⟨A, 4, none⟩ = some x4 ∧ w2.cell? ⟨A, 5, none⟩ = some x5 := by
 have h0 := World.block_lt_of_cell? X _ z0
 have h1 := hb.size
 simp only at h0
 refine ⟨⟨by omega, by omega, by omega, by omega, by omega, by omega⟩, fun j => (hb.frozen (p := ⟨A + 1, j, none⟩) h0).trans (fz j), (hb.cell (World.block_lt_of_cell? X _ z0)).trans z0, (hb.cell (World.block_lt_of_cell? X _ z1)).trans z1, (hb.cell (World.block_lt_of_cell? X _ z2)).trans z2, (hb.cell (World.block_lt_of_cell? X _ z3)).trans z3, (hb.cell (World.block_lt_of_cell? X _ z4)).trans z4, (hb.cell (World.block_lt_of_cell? X _ z5)).trans z5, (hb.cell (World.block_lt_of_cell? X _ c0)).trans c0, (hb.cell (World.block_lt_of_cell? X _ c1)).trans c1, (hb.cell (World.block_lt_of_cell? X _ c2)).trans c2, (hb.cell (World.block_lt_of_cell? X _ c3)).trans c3, (hb.cell (World.block_lt_of_cell? X _ c4)).trans c4, (hb.cell (World.block_lt_of_cell? X _ c5)).trans c5⟩
theorem keepNew {X w3 : World} {A : Nat} {T : TypeId} {x0 x1 x2 x3 x4 x5 y0 y1 y2 y3 y4 y5 : Value} (hb : Below (X.alloc (.cells #[x0, x1, x2, x3, x4, x5] T)).heap.size (X.alloc (.cells #[x0, x1, x2, x3, x4, x5] T)) w3) (fz : ∀ j, X.frozen? ⟨A, j, none⟩ = false) (z0 : X.cell? ⟨A, 0, none⟩ = some y0) (z1 : X.cell? ⟨A, 1, none⟩ = some y1) (z2 : X.cell? ⟨A, 2, none⟩ = some y2) (z3 : X.cell? ⟨A, 3, none⟩ = some y3) (z4 : X.cell? ⟨A, 4, none⟩ = some y4) (z5 : X.cell? ⟨A, 5, none⟩ = some y5) :
 (∀ j, w3.frozen? ⟨X.heap.size, j, none⟩ = false) ∧ (∀ j, w3.frozen? ⟨A, j, none⟩ = false) ∧ w3.cell? ⟨X.heap.size, 0, none⟩ = some x0 ∧ w3.cell? ⟨X.heap.size, 1, none⟩ = some x1 ∧ w3.cell? ⟨X.heap.size, 2, none⟩ = some x2 ∧ w3.cell? ⟨X.heap.size, 3, none⟩ = some x3 ∧ w3.cell? ⟨X.heap.size, 4, none⟩ = some x4 ∧ w3.cell? ⟨X.heap.size, 5, none⟩ = some x5 ∧ w3.cell? ⟨A, 0, none⟩ = some y0 ∧ w3.cell? ⟨A, 1, none⟩ = some y1 ∧ w3.cell? ⟨A, 2, none⟩ = some y2 ∧ w3.cell? ⟨A, 3, none⟩ = some y3 ∧ w3.cell? ⟨A, 4, none⟩ = some y4 ∧ w3.cell? ⟨A, 5, none⟩ = some y5 := by
 have h0 := World.block_lt_of_cell? X _ z0
 simp only at h0
 refine ⟨fun j => ?_, fun j => ?_, ?_, ?_, ?_, ?_, ?_, ?_, ((((Below.refl X.heap.size X).alloc (Nat.le_refl _) _).trans (hb.mono (by simp))).cell (World.block_lt_of_cell? X _ z0)).trans z0, ((((Below.refl X.heap.size X).alloc (Nat.le_refl _) _).trans (hb.mono (by simp))).cell (World.block_lt_of_cell? X _ z1)).trans z1, ((((Below.refl X.heap.size X).alloc (Nat.le_refl _) _).trans (hb.mono (by simp))).cell (World.block_lt_of_cell? X _ z2)).trans z2, ((((Below.refl X.heap.size X).alloc (Nat.le_refl _) _).trans (hb.mono (by simp))).cell (World.block_lt_of_cell? X _ z3)).trans z3, ((((Below.refl X.heap.size X).alloc (Nat.le_refl _) _).trans (hb.mono (by simp))).cell (World.block_lt_of_cell? X _ z4)).trans z4, ((((Below.refl X.heap.size X).alloc (Nat.le_refl _) _).trans (hb.mono (by simp))).cell (World.block_lt_of_cell? X _ z5)).trans z5⟩
 · rw [hb.frozen (by simp)]; simp [go_sem]
 · rw [hb.frozen (by simp; omega), ((Below.refl X.heap.size X).alloc (Nat.le_refl _) _).frozen (p := ⟨A, j, none⟩) h0]; exact fz j
 all_goals (rw [hb.cell (by simp)]; simp [go_sem])
theorem keep2 {X w4 : World} {A B : Nat} {x0 x1 x2 x3 x4 x5 y0 y1 y2 y3 y4 y5 : Value} (hb : Below X.heap.size X w4) (fo : ∀ j, X.frozen? ⟨B, j, none⟩ = false) (fz : ∀ j, X.frozen? ⟨A, j, none⟩ = false) (c0 : X.cell? ⟨B, 0, none⟩ = some x0) (c1 : X.cell? ⟨B, 1, none⟩ = some x1) (c2 : X.cell? ⟨B, 2, none⟩ = some x2) (c3 : X.cell? ⟨B, 3, none⟩ = some x3) (c4 : X.cell? ⟨B, 4, none⟩ = some x4) (c5 : X.cell? ⟨B, 5, none⟩ = some x5) (z0 : X.cell? ⟨A, 0, none⟩ = some y0) (z1 : X.cell? ⟨A, 1, none⟩ = some y1) (z2 : X.cell? ⟨A, 2, none⟩ = some y2) (z3 : X.cell? ⟨A, 3, none⟩ = some y3) (z4 : X.cell? ⟨A, 4, none⟩ = some y4) (z5 : X.cell? ⟨A, 5, none⟩ = some y5) :
 (∀ j, w4.frozen? ⟨B, j, none⟩ = false) ∧ (∀ j, w4.frozen? ⟨A, j, none⟩ = false) ∧ w4.cell? ⟨B, 0, none⟩ = some x0 ∧ w4.cell? ⟨B, 1, none⟩ = some x1 ∧ w4.cell? ⟨B, 2, none⟩ = some x2 ∧ w4.cell? ⟨B, 3, none⟩ = some x3 ∧ w4.cell? ⟨B, 4, none⟩ = some x4 ∧ w4.cell? ⟨B, 5, none⟩ = some x5 ∧ w4.cell? ⟨A, 0, none⟩ = some y0 ∧ w4.cell? ⟨A, 1, none⟩ = some y1 ∧ w4.cell? ⟨A, 2, none⟩ = some y2 ∧ w4.cell? ⟨A, 3, none⟩ = some y3 ∧ w4.cell? ⟨A, 4, none⟩ = some y4 ∧ w4.cell? ⟨A, 5, none⟩ = some y5 :=
 ⟨fun j => (hb.frozen (p := ⟨B, j, none⟩) (show B < X.heap.size from World.block_lt_of_cell? X ⟨B, 0, none⟩ c0)).trans (fo j), fun j => (hb.frozen (p := ⟨A, j, none⟩) (show A < X.heap.size from World.block_lt_of_cell? X ⟨A, 0, none⟩ z0)).trans (fz j), (hb.cell (World.block_lt_of_cell? X _ c0)).trans c0, (hb.cell (World.block_lt_of_cell? X _ c1)).trans c1, (hb.cell (World.block_lt_of_cell? X _ c2)).trans c2, (hb.cell (World.block_lt_of_cell? X _ c3)).trans c3, (hb.cell (World.block_lt_of_cell? X _ c4)).trans c4, (hb.cell (World.block_lt_of_cell? X _ c5)).trans c5, (hb.cell (World.block_lt_of_cell? X _ z0)).trans z0, (hb.cell (World.block_lt_of_cell? X _ z1)).trans z1, (hb.cell (World.block_lt_of_cell? X _ z2)).trans z2, (hb.cell (World.block_lt_of_cell? X _ z3)).trans z3, (hb.cell (World.block_lt_of_cell? X _ z4)).trans z4, (hb.cell (World.block_lt_of_cell? X _ z5)).trans z5⟩
end Go.Proofs.Ytagbikgfkakbfaa
namespace Go.Proofs.Ytagbikgfkakbfaa
open Go.RowKit
set_option linter.unusedSimpArgs false
set_option linter.unusedVariables false
def IntsAt (w : World) (a : Option Addr) (n c : Nat) (xs : List Int) : Prop :=
 xs.length = n ∧ n ≤ c ∧ n ≤ 17592186044416 ∧ (0 < n → ∃ ad, a = some ad ∧ ad.block < w.heap.size ∧ ∀ (j : Nat) (x : Int), xs[j]? = some x → w.cell? (ad.add j) = some (.int .i64 x))
theorem block_add (a : Addr) (n : Nat) : (a.add n).block = a.block := by unfold Addr.add; split <;> rfl
section
variable {w w' : World} {a : Option Addr} {n c : Nat} {xs : List Int}
theorem IntsAt.len (h : IntsAt w a n c xs) : xs.length = n := h.1
theorem IntsAt.cap (h : IntsAt w a n c xs) : n ≤ c := h.2.1
theorem IntsAt.lim (h : IntsAt w a n c xs) : n ≤ 17592186044416 := h.2.2.1
theorem IntsAt.below (h : IntsAt w a n c xs) (hb : Below w.heap.size w w') : IntsAt w' a n c xs :=
 ⟨h.1, h.2.1, h.2.2.1, fun hn => by
  obtain ⟨ad, e, hlt, hc⟩ := h.2.2.2 hn
  exact ⟨ad, e, Nat.lt_of_lt_of_le hlt hb.size, fun j x hx => (hb.cell (by rw [block_add]; exact hlt)).trans (hc j x hx)⟩⟩
theorem IntsAt.at_ {k : Nat} (h : IntsAt w a n c xs) (hk : k < n) : ∃ ad, a = some ad ∧ ad.block < w.heap.size ∧ w.cell? (ad.add k) = some (.int .i64 (xs.getD k 0)) := by
 obtain ⟨ad, e, hlt, hc⟩ := h.2.2.2 (by omega)
 have hl : k < xs.length := by rw [h.1]; exact hk
 refine ⟨ad, e, hlt, hc k _ ?_⟩
 rw [List.getD_eq_getElem?_getD, List.getElem?_eq_getElem hl]; rfl
theorem IntsAt.get {k : Nat} (h : IntsAt w a n c xs) (hk : k < n) : ∃ ad x, a = some ad ∧ ad.block < w.heap.size ∧ w.cell? (ad.add k) = some (.int .i64 x) ∧ Hid (xs[k]? = some x) := by
 obtain ⟨ad, e, hlt, hc⟩ := h.2.2.2 (by omega)
 have hl : k < xs.length := by rw [h.1]; exact hk
 exact ⟨ad, xs[k], e, hlt, hc k _ (List.getElem?_eq_getElem hl), List.getElem?_eq_getElem hl⟩
theorem IntsAt.getB {k : Nat} (h : IntsAt w a n c xs) (hb : Below w.heap.size w w') (hk : k < n) : ∃ ad x, a = some ad ∧ (ad.add k).block < w.heap.size ∧ w'.cell? (ad.add k) = some (.int .i64 x) ∧ Hid (xs[k]? = some x) := by
 obtain ⟨ad, x, e, hlt, hc, hx⟩ := h.get hk
 exact ⟨ad, x, e, by rw [block_add]; exact hlt, (hb.cell (by rw [block_add]; exact hlt)).trans hc, hx⟩
theorem IntsAt.getS {k : Nat} (h : IntsAt w a n c xs) (hb : Below w.heap.size w w') (hk : k + 1 < n) : ∃ ad x, a = some ad ∧ ad.block < w.heap.size ∧ w'.cell? ⟨ad.block, ad.off + (k + 1), none⟩ = some (.int .i64 x) ∧ Hid (xs[k + 1]? = some x) := by
 obtain ⟨ad, x, e, hlt, hc, hx⟩ := h.get hk
 have e1 : ad.add (k + 1) = ⟨ad.block, ad.off + (k + 1), none⟩ := by unfold Addr.add; simp
 rw [e1] at hc
 exact ⟨ad, x, e, hlt, (hb.cell (by exact hlt)).trans hc, hx⟩
theorem IntsAt.get0 (h : IntsAt w a n c xs) (hb : Below w.heap.size w w') (hk : 0 < n) : ∃ ad x, a = some ad ∧ ad.block < w.heap.size ∧ w'.cell? ad = some (.int .i64 x) ∧ Hid (xs[0]? = some x) := by
 obtain ⟨ad, x, e, hlt, hc, hx⟩ := h.get hk
 have e1 : ad.add 0 = ad := by unfold Addr.add; simp
 rw [e1] at hc
 exact ⟨ad, x, e, hlt, (hb.cell hlt).trans hc, hx⟩
theorem IntsAt.nil_ (w : World) : IntsAt w none 0 0 [] := ⟨rfl, Nat.le_refl _, by omega, fun h => absurd h (by omega)⟩
theorem IntsAt.of_own {B : Nat} {e : TypeId} {v : Value} (h : w.ownsRow B e 1 v xs.length (xs.map (Value.int .i64))) (hl : xs.length ≤ 17592186044416) :
 ∃ a c, v = .slice a xs.length c ∧ IntsAt w a xs.length c xs := by
 rcases h.2 with ⟨rfl, h0⟩ | ⟨g, cap, cur, rfl, _, hg, hn, _, hs, hx⟩
 · have : xs = [] := List.eq_nil_of_length_eq_zero h0
   subst this
   exact ⟨none, 0, rfl, IntsAt.nil_ w⟩
 · refine ⟨_, _, rfl, rfl, hn, hl, fun h0 => ⟨_, rfl, ?_, fun j x hj => ?_⟩⟩
   · rcases Nat.lt_or_ge g w.heap.size with h1 | h1
     · exact h1
     · rw [Array.getElem?_eq_none h1] at hg; cases hg
   · have hjl := (List.getElem?_eq_some_iff.1 hj).1
     have e1 : (⟨g, 0, none⟩ : Addr).add j = ⟨g, j, none⟩ := by unfold Addr.add; split <;> simp_all
     rw [e1]
     have e2 : w.cell? ⟨g, j, none⟩ = cur[j]? := by simp [World.cell?, hg]
     rw [e2]
     have e3 : (cur.toList.take (xs.length * 1))[j]? = some (.int .i64 x) := by rw [hx, List.getElem?_map, hj]; rfl
     rw [List.getElem?_take, if_pos (by omega)] at e3
     simpa using e3
end
theorem own_next {w : World} {B : Nat} {e : TypeId} {v : Value} {ys : List Int} {k : Nat} {x : Int} (hk : k < ys.length) (hx : x = ys.getD k 0)
 (h : w.ownsRow B e 1 v (k + 1) ((ys.take k).map (Value.int .i64) ++ [.int .i64 x])) : w.ownsRow B e 1 v (k + 1) ((ys.take (k + 1)).map (Value.int .i64)) := by
 have : ys.take (k + 1) = ys.take k ++ [x] := by
  rw [List.take_succ_eq_append_getElem hk, hx, List.getD_eq_getElem?_getD, List.getElem?_eq_getElem hk]; rfl
 rw [this, List.map_append]
 exact h
theorem own_all {w : World} {B : Nat} {e : TypeId} {v : Value} {ys : List Int} {k : Nat} (hk : k = ys.length) (h : w.ownsRow B e 1 v k ((ys.take k).map (Value.int .i64))) : w.ownsRow B e 1 v ys.length (ys.map (Value.int .i64)) := by
 subst hk; rwa [List.take_length] at h
theorem own_start (w : World) (B : Nat) (e : TypeId) (ys : List Int) : w.ownsRow B e 1 (.slice none 0 0) 0 ((ys.take 0).map (Value.int .i64)) := ⟨by simp, .inl ⟨rfl, rfl⟩⟩
theorem own_row {w : World} {B : Nat} {e : TypeId} {v : Value} {n : Nat} {xs : List Value} (h : w.ownsRow B e 1 v n xs) : ∀ k, v.ownBlock = some k → B ≤ k := by
 intro k hk
 rcases h.2 with ⟨rfl, _⟩ | ⟨g, cap, cur, rfl, hg, _⟩
 · simp [Value.ownBlock] at hk
 · simp [Value.ownBlock] at hk; omega
theorem stillOf {P : Program} {f : FuncId} {args : Array Value} {w : World} {v : Value} (h : Calls P f args w fun e w' => e = .returned v ∧ w = w') : Calls P f args w fun e w' => e = .returned v ∧ w' = w :=
 h.mono fun _ _ ⟨he, hw⟩ => ⟨he, hw.symm⟩
theorem own_far {w : World} {B g : Nat} {e : TypeId} {v : Value} {n : Nat} {xs : List Value} (h : w.ownsRow B e 1 v n xs) (hg : g < B) : some g ≠ v.ownBlock := fun hk => by
 have := own_row h g hk.symm; omega
theorem grown_cell {w w0 w1 : World} {B : Nat} {e : TypeId} {v : Value} {n : Nat} {xs : List Value} {ad : Addr} {u : Value} (hg : w0.grownBy w1 v.ownBlock) (h : w.ownsRow B e 1 v n xs) (hb : ad.block < B) (hB : B ≤ w0.heap.size) (hc : w0.cell? ad = some u) : w1.cell? ad = some u :=
 (hg.cell_far _ (by omega) (own_far h hb)).trans hc
theorem own_form {w : World} {B : Nat} {e : TypeId} {v : Value} {k : Nat} {xs : List Value} (h : w.ownsRow B e 1 v (k + 1) xs) :
 ∃ g cap, v = .slice (some ⟨g, 0, none⟩) (k + 1) cap ∧ B ≤ g ∧ g < w.heap.size ∧ k + 1 ≤ cap ∧ (∀ j u, xs[j]? = some u → w.cell? ⟨g, j, none⟩ = some u) ∧ (∀ j, w.frozen? ⟨g, j, none⟩ = false) := by
 obtain ⟨hl, h⟩ := h
 rcases h with ⟨_, h⟩ | ⟨g, cap, cur, rfl, hg, hh, hn, _, hs, hx⟩
 · omega
 · refine ⟨g, cap, rfl, hg, ?_, hn, fun j u hj => ?_, fun j => by simp [World.frozen?, hh]⟩
   · rcases Nat.lt_or_ge g w.heap.size with h1 | h1
     · exact h1
     · rw [Array.getElem?_eq_none h1] at hh; cases hh
   · rw [← hx, List.getElem?_take] at hj
     split at hj
     · simp [World.cell?, hh]; simpa using hj
     · cases hj
theorem own_one (w : World) (B : Nat) (e : TypeId) (x : Int) (ys : List Int) (hy : 0 < ys.length) (hx : x = ys.getD 0 0) (hB : B ≤ w.heap.size) : (w.alloc (.cells #[.int .i64 x] e)).ownsRow B e 1 (.slice (some ⟨w.heap.size, 0, none⟩) 1 1) 1 ((ys.take 1).map (Value.int .i64)) := by
 have e1 : ys.take 1 = [x] := by
  cases ys with
  | nil => simp at hy
  | cons y ys => simp at hx; subst hx; rfl
 rw [e1]
 exact ⟨rfl, .inr ⟨w.heap.size, 1, #[.int .i64 x], rfl, hB, heap_alloc_new w _, Nat.le_refl _, by unfold maxLen; omega, rfl, rfl⟩⟩
theorem getD_of {xs : List Int} {k : Nat} {x : Int} (h : xs[k]? = some x) : xs.getD k 0 = x := by rw [List.getD_eq_getElem?_getD, h]; rfl
def IsB (P : Prop) (e : Ending) : Prop := ∃ r : Bool, (r = true ↔ P) ∧ e = .returned (.bool r)
theorem IsB.t {P : Prop} (h : P) : IsB P (.returned (.bool true)) := ⟨true, by simp [h], rfl⟩
theorem IsB.f {P : Prop} (h : ¬ P) : IsB P (.returned (.bool false)) := ⟨false, by simp [h], rfl⟩
theorem IsB.d {P : Prop} {b : Bool} (h : b = true ↔ P) : IsB P (.returned (.bool b)) := ⟨b, h, rfl⟩
theorem callT {P : Program} {f : FuncId} {args : Array Value} {w : World} {p : Prop} {Q : World → Prop} (h : Calls P f args w fun e w' => IsB p e ∧ Q w') (hp : p) : Calls P f args w fun e w' => e = .returned (.bool true) ∧ Q w' :=
 h.mono fun _ _ ⟨⟨r, hr, he⟩, hq⟩ => ⟨by rw [he]; exact retB (hr.2 hp), hq⟩
theorem callF {P : Program} {f : FuncId} {args : Array Value} {w : World} {p : Prop} {Q : World → Prop} (h : Calls P f args w fun e w' => IsB p e ∧ Q w') (hp : ¬ p) : Calls P f args w fun e w' => e = .returned (.bool false) ∧ Q w' :=
 h.mono fun _ _ ⟨⟨r, hr, he⟩, hq⟩ => ⟨by rw [he]; exact retB (by cases r; rfl; exact absurd (hr.1 rfl) hp), hq⟩
theorem IntsAt.beyond {W : World} {a : Option Addr} {n c : Nat} {xs : List Int} (h : IntsAt W a n c xs) (p : Beyond W) : IntsAt p.w a n c xs := h.below p.h
end Go.Proofs.Ytagbikgfkakbfaa
namespace Go.Proofs.Ytagbikgfkakbfaa
open Go.RowKit Go.ChangeShapes Go.WideShapes
set_option linter.unusedSimpArgs false
set_option linter.unusedVariables false
section
variable {H : Type} {enc : TypeId × Value → H} {P : Program} {w : World} {base : Nat} {spare : Nat → Bool} {held : Bool}
def flatI (P : Program) : Nat → TypeId → Bool
 | 0, _ => false
 | k + 1, t => match P.underlying t with
   | some (.int .i64) => true
   | some (.struct fs) =>
     ((List.range (P.cellsOf t)).all fun j => (List.range fs.size).any fun i => match fs[i]? with
       | some f => decide (f.offset ≤ j) && decide (j < f.offset + P.cellsOf f.type)
       | none => false) &&
     ((List.range fs.size).all fun i => match fs[i]? with
       | some f => flatI P k f.type
       | none => false)
   | some (.array n e) => flatI P k e && decide (0 < P.cellsOf e) && decide (P.cellsOf t = n * P.cellsOf e)
   | _ => false
theorem flat_cells : ∀ (k : Nat) (t : TypeId) (fuel : Nat) (cs : List Value) (x : DataW H × List MemPlace), flatI P k t = true → DataW.trod enc P w base spare held fuel t cs = some x →
 ∀ (j : Nat) (v : Value), cs[j]? = some v → ∃ n : Int, v = .int .i64 n ∧ (Lit.int .i64 n).wf = true := by
 intro k
 induction k with
 | zero => intro t fuel cs x h; simp [flatI] at h
 | succ k ih =>
   intro t fuel cs x h hr j v hj
   unfold flatI at h
   split at h
   · rename_i hu
     obtain ⟨n, rfl, _, hw⟩ := DataW.trod_int hu hr
     have hj0 : j = 0 := by
      rcases Nat.eq_zero_or_pos j with h0 | h0
      · exact h0
      · rw [List.getElem?_eq_none (by simp; omega)] at hj; cases hj
     subst hj0
     simp at hj
     exact ⟨n, hj.symm, hw⟩
   · rename_i fs hu
     obtain ⟨xs, n, _, _, hcl, hxl, hg⟩ := DataW.trod_struct hu hr
     have hjl : j < cs.length := (List.getElem?_eq_some_iff.1 hj).1
     simp only [Bool.and_eq_true, List.all_eq_true, List.any_eq_true, List.mem_range] at h
     obtain ⟨h1, h2⟩ := h
     obtain ⟨i, hi, hf⟩ := h1 j (by omega)
     have hfs : fs[i]? = some fs[i] := Array.getElem?_eq_getElem hi
     have h3 := h2 i hi
     rw [hfs] at hf h3
     simp only [Bool.and_eq_true, decide_eq_true_eq] at hf
     have hgi := hg i fs[i] hfs
     have hxi : xs[i]? = some (xs[i]'(by omega)) := List.getElem?_eq_getElem (by omega)
     rw [hxi] at hgi
     refine ih _ _ _ _ h3 hgi (j - fs[i].offset) v ?_
     rw [List.getElem?_take, if_pos (by omega), List.getElem?_drop, show fs[i].offset + (j - fs[i].offset) = j from by omega]
     exact hj
   · rename_i n e hu
     obtain ⟨xs, m, _, _, hcl, hxl, hg⟩ := DataW.trod_array hu hr
     have hjl : j < cs.length := (List.getElem?_eq_some_iff.1 hj).1
     simp only [Bool.and_eq_true, decide_eq_true_eq] at h
     obtain ⟨⟨h1, h2⟩, h3⟩ := h
     have hi : j / P.cellsOf e < n := by rw [Nat.div_lt_iff_lt_mul h2]; omega
     have hgi := hg _ hi
     have hxi : xs[j / P.cellsOf e]? = some (xs[j / P.cellsOf e]'(by omega)) := List.getElem?_eq_getElem (by omega)
     rw [hxi] at hgi
     have hm := Nat.div_add_mod j (P.cellsOf e)
     have hm' : P.cellsOf e * (j / P.cellsOf e) = j / P.cellsOf e * P.cellsOf e := Nat.mul_comm _ _
     refine ih _ _ _ _ h1 hgi (j % P.cellsOf e) v ?_
     rw [List.getElem?_take, if_pos (Nat.mod_lt _ h2), List.getElem?_drop, show j / P.cellsOf e * P.cellsOf e + j % P.cellsOf e = j from by omega]
     exact hj
   · cases h
theorem list_of_cells (cs : List Value) (h : ∀ (j : Nat) (v : Value), cs[j]? = some v → ∃ n : Int, v = .int .i64 n ∧ (Lit.int .i64 n).wf = true) :
 ∃ l : List Int, cs = l.map (Value.int .i64) ∧ ∀ x ∈ l, (Lit.int .i64 x).wf = true := by
 induction cs with
 | nil => exact ⟨[], rfl, by simp⟩
 | cons c cs ih =>
   obtain ⟨n, rfl, hn⟩ := h 0 c rfl
   obtain ⟨l, rfl, hl⟩ := ih (fun j v hj => h (j + 1) v (by simpa using hj))
   refine ⟨n :: l, rfl, fun x hx => ?_⟩
   rcases List.mem_cons.1 hx with rfl | hx
   · exact hn
   · exact hl x hx
theorem open_flat {r : Reach} {b0 : Nat} {t : TypeId} {k n : Nat} {v : Value} {d : DataW H} {p : List MemPlace} (hfl : flatI P k t = true) (hC : P.cellsOf t = n) (hag : (match P.underlying t with | some (.struct _) => true | some (.array _ _) => true | _ => false) = true)
 (hv : Value.okWide P w r b0 t v) (h : DataW.Trod enc P w base spare held t v d p) : ∃ l : List Int, l.length = n ∧ v = .agg (l.map (Value.int .i64)).toArray ∧ ∀ x ∈ l, (Lit.int .i64 x).wf = true := by
 have : ∃ cs : Array Value, v = .agg cs ∧ cs.size = P.cellsOf t := by
  unfold Value.okWide at hv
  split at hv
  · obtain ⟨cs, h1, h2, _⟩ := hv; exact ⟨cs, h1, h2⟩
  · obtain ⟨cs, h1, h2, _⟩ := hv; exact ⟨cs, h1, h2⟩
  · rename_i h1 h2
    split at hag
    · rename_i fs hu; exact absurd hu (h1 fs)
    · rename_i m e hu; exact absurd hu (h2 m e)
    · cases hag
 obtain ⟨⟨cs⟩, rfl, hsz⟩ := this
 obtain ⟨fuel, hf⟩ := h
 have hc : ∀ (j : Nat) (v : Value), cs[j]? = some v → ∃ n : Int, v = .int .i64 n ∧ (Lit.int .i64 n).wf = true := flat_cells k t fuel cs _ hfl hf
 obtain ⟨l, rfl, hl⟩ := list_of_cells cs hc
 exact ⟨l, by simpa [hC] using hsz, by simp, hl⟩
end
theorem len2 {l : List Int} (h : l.length = 2) : ∃ a b, l = [a, b] := by
 match l, h with
 | [a, b], _ => exact ⟨a, b, rfl⟩
theorem len5 {l : List Int} (h : l.length = 5) : ∃ a b c d e, l = [a, b, c, d, e] := by
 match l, h with
 | [a, b, c, d, e], _ => exact ⟨a, b, c, d, e, rfl⟩
theorem len6 {l : List Int} (h : l.length = 6) : ∃ a b c d e f, l = [a, b, c, d, e, f] := by
 match l, h with
 | [a, b, c, d, e, f], _ => exact ⟨a, b, c, d, e, f, rfl⟩
theorem len14 {l : List Int} (h : l.length = 14) : ∃ a0 a1 a2 a3 a4 a5 a6 a7 a8 a9 a10 a11 a12 a13, l = [a0, a1, a2, a3, a4, a5, a6, a7, a8, a9, a10, a11, a12, a13] := by
 match l, h with
 | [a0, a1, a2, a3, a4, a5, a6, a7, a8, a9, a10, a11, a12, a13], _ => exact ⟨a0, a1, a2, a3, a4, a5, a6, a7, a8, a9, a10, a11, a12, a13, rfl⟩
section
variable {H : Type} {enc : TypeId × Value → H} {P : Program} {w : World} {base : Nat} {spare : Nat → Bool}
open Go.ChangeShapes
theorem open_ints_at {t e : TypeId} {a : Option Addr} {n c : Nat} {d : DataW H} {p : List MemPlace} (ht : P.underlying t = some (.slice e)) (he : P.underlying e = some (.int .i64)) (hcell : P.cellsOf e = 1)
 (h : DataW.Trod enc P w base (fun _ => true) true t (.slice a n c) d p) : ∃ xs : List Int, xs.length = n ∧ n ≤ c ∧ (∀ x ∈ xs, (Lit.int .i64 x).wf = true) ∧ (0 < n → ∃ ad, a = some ad ∧ ad.block < w.heap.size ∧ ∀ (j : Nat) (x : Int), xs[j]? = some x → w.cell? (ad.add j) = some (.int .i64 x)) ∧
  ∃ es sp, d = .nil ∧ n = 0 ∨ d = .slice es sp ∧ es.length + sp.length = c := by
 obtain ⟨fuel, hf⟩ := h
 rcases open_ints ht he hcell hf with ⟨hcs, hx⟩ | ⟨x, l, c', zs, hcs, hbx, hl, hm, hz, hx, hc, hwz⟩
 · simp [Value.cells] at hcs hx
   obtain ⟨rfl, rfl, rfl⟩ := hcs
   exact ⟨[], rfl, Nat.le_refl _, by simp, fun h => absurd h (by omega), [], [], .inl ⟨hx.1, rfl⟩⟩
 · simp [Value.cells] at hcs
   obtain ⟨rfl, rfl, rfl⟩ := hcs
   simp at hz
   refine ⟨zs.take n, by simp; omega, hl, fun y hy => hwz y (List.mem_of_mem_take hy), fun hn => ⟨x, rfl, ?_, fun j y hj => ?_⟩, ?_⟩
   · have h0 := hc 0 (by omega)
     have := World.block_lt_of_cell? w _ h0
     rwa [block_add] at this
   · have hjn : j < n := by
      have := (List.getElem?_eq_some_iff.1 hj).1
      simp at this; omega
     rw [List.getElem?_take, if_pos hjn] at hj
     rw [hc j (by omega), List.getD_eq_getElem?_getD, hj]
     rfl
   · have hd := (Prod.mk.inj hx).1
     exact ⟨_, _, .inr ⟨hd, by simp [lits]; omega⟩⟩
end
end Go.Proofs.Ytagbikgfkakbfaa
namespace Go.Proofs.Ytagbikgfkakbfaa
open Go
set_option linter.unusedSimpArgs false
set_option linter.unusedVariables false
section
variable {P : Program} {ops : Array Oper} {Q : Exit → Act → World → Prop} {md : Region.Mode} {c : Nat} {F : World → Prop}
def wpAnyG (P : Program) (md : Region.Mode) (ops : Array Oper) (Q : Exit → Act → World → Prop) (c : Nat) (F : World → Prop) : Nat → Array Bool → Act → World → Prop
 | 0, listed, a, w => Region.ready md ops listed = [] ∧ Q .normal a w
 | fuel + 1, listed, a, w =>
   (Region.ready md ops listed = [] → Q .normal a w) ∧
   ∀ i ∈ Region.ready md ops listed, wpOp P ops Q i (fun a' w' => ((listed.setIfInBounds i true).getD c true = false → F w') ∧ wpAnyG P md ops Q c F fuel (listed.setIfInBounds i true) a' w') a w
theorem wpAny_of_G : ∀ (fuel : Nat) (listed : Array Bool) (a : Act) (w : World), wpAnyG P md ops Q c F fuel listed a w → wpAny P md ops Q fuel listed a w
 | 0, _, _, _, h => h
 | fuel + 1, _, _, _, h => ⟨h.1, fun i hi => wpOp_mono (fun a' w' h' => wpAny_of_G fuel _ a' w' h'.2) (h.2 i hi)⟩
structure ClosedG (md : Region.Mode) (ops : Array Oper) (L : Array Bool) : Prop where
 size : L.size = ops.size
 closed : ∀ j oj, ops[j]? = some oj → L.getD j false = true → ∀ e ∈ oj.after, Region.binds md e = true → L.getD e.on false = true
def closedB (md : Region.Mode) (ops : Array Oper) (L : Array Bool) : Bool :=
 decide (L.size = ops.size) && (List.range ops.size).all fun j => match ops[j]? with
  | some oj => !(L.getD j false) || oj.after.all fun e => !(Region.binds md e) || L.getD e.on false
  | none => true
theorem closedB_spec {L : Array Bool} (h : closedB md ops L = true) : ClosedG md ops L := by
 simp only [closedB, Bool.and_eq_true, decide_eq_true_eq, List.all_eq_true, List.mem_range] at h
 refine ⟨h.1, fun j oj hj hl e he hb => ?_⟩
 have hlt : j < ops.size := by
  rcases Nat.lt_or_ge j ops.size with h' | h'
  · exact h'
  · rw [Array.getElem?_eq_none h'] at hj; cases hj
 have h1 := h.2 j hlt
 rw [hj] at h1
 simp only [hl, Bool.not_true, Bool.false_or] at h1
 obtain ⟨k, hk, rfl⟩ := Array.getElem_of_mem he
 have h2 := Array.all_eq_true.1 h1 k hk
 simpa [hb] using h2
theorem ClosedG.set {i : Nat} {L : Array Bool} (inv : ClosedG md ops L) (hi : i ∈ Region.ready md ops L) : ClosedG md ops (L.setIfInBounds i true) := by
 obtain ⟨_, oi, hoi, hall⟩ := mem_ready.1 hi
 refine ⟨by simp [inv.size], fun j oj hj hl e he hb => ?_⟩
 by_cases hij : i = j
 · subst hij
   have : oj = oi := Option.some.inj (hj.symm.trans hoi)
   subst this
   exact getD_set_true (hall e he hb)
 · rw [getD_set_ne false hij] at hl
   exact getD_set_true (inv.closed j oj hj hl e he hb)
def pathB (md : Region.Mode) (ops : Array Oper) : Nat → Nat → Nat → Bool
 | 0, _, _ => false
 | f + 1, j, i => match ops[j]? with
   | some oj => oj.after.any fun e => Region.binds md e && (e.on == i || pathB md ops f e.on i)
   | none => false
theorem path_listed {L : Array Bool} (inv : ClosedG md ops L) : ∀ (f j i : Nat), pathB md ops f j i = true → L.getD j false = true → L.getD i false = true
 | 0, _, _, h, _ => by cases h
 | f + 1, j, i, h, hj => by
   unfold pathB at h
   split at h
   · rename_i oj ho
     obtain ⟨e, he, hb⟩ := Array.any_eq_true'.1 h
     simp only [Bool.and_eq_true, Bool.or_eq_true, beq_iff_eq] at hb
     have h1 := inv.closed j oj ho hj e he hb.1
     rcases hb.2 with h2 | h2
     · rwa [h2] at h1
     · exact path_listed inv f e.on i h2 h1
   · cases h
theorem before_c {L : Array Bool} (inv : ClosedG md ops L) {f i : Nat} (hp : pathB md ops f c i = true) (hc : c < ops.size) (hi : L.getD i true = false) : L.getD c true = false := by
 cases h : L.getD c true with
 | false => rfl
 | true =>
   have h1 : L.getD c false = true := by
    have : c < L.size := by rw [inv.size]; exact hc
    simp [this] at h ⊢; exact h
   have h2 := path_listed inv f c i hp h1
   have h3 : L.getD i false = false := by
    rcases Nat.lt_or_ge i L.size with h' | h'
    · simp [h'] at hi ⊢; exact hi
    · simp [Array.getElem?_eq_none h'] at hi
   rw [h3] at h2; cases h2
theorem wpAnyG_first {i : Nat} {oi : Oper} {v : Value} {F' : World → Prop} (hi : ops[i]? = some oi) (hsel : ∀ (j : Nat) (o : Oper) cs b, ops[j]? = some o → o.op ≠ .select cs b) (hic : i ≠ c)
 (hQ : ∀ c a w, Q (.panic c) (a.put oi.dst v) w → Q (.panic c) a w)
 (hcl : ∀ (L : Array Bool) (w : World), ClosedG md ops L → L.getD i true = false → (L.getD c true = false → F w) → F' w) :
 ∀ (fuel : Nat) (listed : Array Bool) (a : Act) (w : World), ClosedG md ops listed →
  (∀ j oj, ops[j]? = some oj → j ≠ i → listed.getD j true = false → (∀ e ∈ oj.after, Region.binds md e = true → e.on ≠ i) → oi.apart ops oj = true) →
  i ∈ Region.ready md ops listed → YieldsIf P ops F' oi v a → (listed.getD c true = false → F w) →
  wpAnyG P md ops Q c F fuel (listed.setIfInBounds i true) (a.put oi.dst v) w → wpAnyG P md ops Q c F (fuel + 1) listed a w := by
 intro fuel
 induction fuel with
 | zero =>
   intro listed a w inv _ hr hy hS H
   have hF' := hcl listed w inv (mem_ready.1 hr).1 hS
   refine ⟨fun h => (by rw [h] at hr; cases hr), fun j hj => ?_⟩
   by_cases hji : j = i
   · subst hji
     exact hy.wpOp hi hF' ⟨fun h => hS (by rw [getD_set_ne true hic] at h; exact h), H⟩
   · have := ready_mono hj hji
     rw [H.1] at this
     cases this
 | succ fuel ih =>
   intro listed a w inv hfree hr hy hS H
   have hF' := hcl listed w inv (mem_ready.1 hr).1 hS
   refine ⟨fun h => (by rw [h] at hr; cases hr), fun j hj => ?_⟩
   by_cases hji : j = i
   · subst hji
     exact hy.wpOp hi hF' ⟨fun h => hS (by rw [getD_set_ne true hic] at h; exact h), H⟩
   · have h1 := H.2 j (ready_mono hj hji)
     obtain ⟨hjun, oj, hoj, hall⟩ := mem_ready.1 hj
     have hnot : ∀ e ∈ oj.after, Region.binds md e = true → e.on ≠ i := fun e he hb heq => by
      have h1 := hall e he hb
      have h0 := (mem_ready.1 hr).1
      rw [heq] at h1
      rcases Nat.lt_or_ge i listed.size with h' | h'
      · simp [h'] at h0 h1; rw [h0] at h1; cases h1
      · simp [Array.getElem?_eq_none h'] at h1
     have h2 := wpOp_putIf hoj (hfree j oj hoj hji hjun hnot) (fun cs b => hsel i oi cs b hi) (fun cs b => hsel j oj cs b hoj) hQ hy h1
     have hfree' : ∀ k ok, ops[k]? = some ok → k ≠ i → (listed.setIfInBounds j true).getD k true = false →
      (∀ e ∈ ok.after, Region.binds md e = true → e.on ≠ i) → oi.apart ops ok = true := fun k ok hk hki hun hno => by
      refine hfree k ok hk hki ?_ hno
      by_cases hjk : j = k
      · subst hjk; exact hjun
      · rw [getD_set_ne true hjk] at hun; exact hun
     have hS' : ∀ w' : World, (((listed.setIfInBounds i true).setIfInBounds j true).getD c true = false → F w') → ((listed.setIfInBounds j true).getD c true = false → F w') := fun w' h3 h4 => h3 (by
      rw [Array.setIfInBounds_comm _ _ (Ne.symm hji), getD_set_ne true hic]; exact h4)
     refine wpOp_mono (fun a' w' h3 => ⟨hS' w' h3.2.1, ih (listed.setIfInBounds j true) a' w' (inv.set hj) hfree' (ready_mono hr (Ne.symm hji)) h3.1 (hS' w' h3.2.1) ?_⟩) h2
     rw [Array.setIfInBounds_comm _ _ hji]
     exact h3.2.2
theorem wpAnyG_before {i f : Nat} {oi : Oper} {v : Value} {fuel : Nat} {listed : Array Bool} {a : Act} {w : World} (hi : ops[i]? = some oi)
 (hs : Region.noSelect ops = true) (hf : Region.free md ops listed i = true) (hr : (Region.ready md ops listed).contains i = true) (hB : closedB md ops listed = true) (hp : pathB md ops f c i = true) (hc : decide (c < ops.size ∧ i ≠ c) = true)
 (hQ : ∀ c a w, Q (.panic c) (a.put oi.dst v) w → Q (.panic c) a w) (hF : F w) (hy : YieldsIf P ops F oi v a)
 (h : wpAnyG P md ops Q c F fuel (listed.setIfInBounds i true) (a.put oi.dst v) w) : wpAnyG P md ops Q c F (fuel + 1) listed a w :=
 wpAnyG_first hi (Region.noSelect_spec hs) (of_decide_eq_true hc).2 hQ (fun L w inv hL hS => hS (before_c inv hp (of_decide_eq_true hc).1 hL)) fuel listed a w (closedB_spec hB) (Region.free_spec hi hf) (by simpa using hr) hy (fun _ => hF) h
theorem wpAnyG_behind {i : Nat} {oi : Oper} {v : Value} {fuel : Nat} {listed : Array Bool} {a : Act} {w : World} (hi : ops[i]? = some oi)
 (hs : Region.noSelect ops = true) (hf : Region.free md ops listed i = true) (hr : (Region.ready md ops listed).contains i = true) (hB : closedB md ops listed = true) (hc : decide (i ≠ c) = true) (hl : listed.getD c true = true)
 (hQ : ∀ c a w, Q (.panic c) (a.put oi.dst v) w → Q (.panic c) a w) (hy : YieldsIf P ops (fun _ => True) oi v a)
 (h : wpAnyG P md ops Q c F fuel (listed.setIfInBounds i true) (a.put oi.dst v) w) : wpAnyG P md ops Q c F (fuel + 1) listed a w :=
 wpAnyG_first hi (Region.noSelect_spec hs) (of_decide_eq_true hc) hQ (fun L w inv hL hS => trivial) fuel listed a w (closedB_spec hB) (Region.free_spec hi hf) (by simpa using hr) hy (fun h => by rw [hl] at h; cases h) h
theorem wpAnyG_one {i : Nat} {o : Oper} {fuel : Nat} {listed : Array Bool} {a : Act} {w : World} (ho : ops[i]? = some o) (hr : Region.ready md ops listed = [i]) (hl : (listed.setIfInBounds i true).getD c true = true)
 (h : ∀ K' : Act → World → Prop, Shut (∀ a w, wpAnyG P md ops Q c F fuel (listed.setIfInBounds i true) a w → K' a w) → if Region.wanted o (yielded ops a.tmps) = true then Oper.wp P o a w K' Q else K' (a.put o.dst undef) w) : wpAnyG P md ops Q c F (fuel + 1) listed a w := by
 refine ⟨fun h0 => (by rw [hr] at h0; cases h0), fun j hj => ?_⟩
 rw [hr] at hj
 obtain rfl : j = i := by simpa using hj
 exact wpOp_step ho (fun K' hK => h K' (fun a w hW => hK a w ⟨fun h => (by rw [hl] at h; cases h), hW⟩))
theorem wpAnyG_done {listed : Array Bool} {a : Act} {w : World} (hr : Region.ready md ops listed = []) (h : Q .normal a w) : ∀ fuel, wpAnyG P md ops Q c F fuel listed a w
 | 0 => ⟨hr, h⟩
 | _ + 1 => ⟨fun _ => h, by rw [hr]; simp⟩
theorem wp_region_G {id : Nat} {a : Act} {w : World} (c : Nat) (F : World → Prop) (hm : P.follows .mixedOrders = true)
 (h : wpAnyG P .any ops Q c F ops.size (Array.replicate ops.size false) a w.drew) : (Code.region id ops true).wp P Q a w :=
 wp_region_any hm (wpAny_of_G _ _ _ _ h)
end
end Go.Proofs.Ytagbikgfkakbfaa
namespace Go.Proofs.Ytagbikgfkakbfaa
open Go
set_option linter.unusedSimpArgs false
set_option linter.unusedVariables false
section
variable {P : Program} {ops : Array Oper} {Q : Exit → Act → World → Prop} {md : Region.Mode} {c : Nat} {F : World → Prop}
theorem wpAnyG_pure {i : Nat} {oi : Oper} {v : Value} {fuel : Nat} {listed : Array Bool} {a : Act} {w : World} (hi : ops[i]? = some oi)
 (hs : Region.noSelect ops = true) (hf : Region.free md ops listed i = true) (hr : (Region.ready md ops listed).contains i = true) (hB : closedB md ops listed = true) (hc : decide (i ≠ c) = true)
 (hQ : ∀ c a w, Q (.panic c) (a.put oi.dst v) w → Q (.panic c) a w) (hF : listed.getD c true = false → F w) (hy : YieldsIf P ops (fun _ => True) oi v a)
 (h : wpAnyG P md ops Q c F fuel (listed.setIfInBounds i true) (a.put oi.dst v) w) : wpAnyG P md ops Q c F (fuel + 1) listed a w :=
 wpAnyG_first hi (Region.noSelect_spec hs) (of_decide_eq_true hc) hQ (fun L w inv hL hS => trivial) fuel listed a w (closedB_spec hB) (Region.free_spec hi hf) (by simpa using hr) hy hF h
theorem wpAnyG_oneF {i : Nat} {o : Oper} {fuel : Nat} {listed : Array Bool} {a : Act} {w : World} (ho : ops[i]? = some o) (hr : Region.ready md ops listed = [i])
 (h : ∀ K' : Act → World → Prop, Shut (∀ a w, F w → wpAnyG P md ops Q c F fuel (listed.setIfInBounds i true) a w → K' a w) → if Region.wanted o (yielded ops a.tmps) = true then Oper.wp P o a w K' Q else K' (a.put o.dst undef) w) : wpAnyG P md ops Q c F (fuel + 1) listed a w := by
 refine ⟨fun h0 => (by rw [hr] at h0; cases h0), fun j hj => ?_⟩
 rw [hr] at hj
 obtain rfl : j = i := by simpa using hj
 exact wpOp_step ho (fun K' hK => h K' (fun a w hF hW => hK a w ⟨fun _ => hF, hW⟩))
theorem wpAnyG_twoF {i j : Nat} {oi oj : Oper} {fuel : Nat} {listed : Array Bool} {a : Act} {w : World} (hoi : ops[i]? = some oi) (hoj : ops[j]? = some oj) (hr : Region.ready md ops listed = [i, j])
 (hi : ∀ K' : Act → World → Prop, Shut (∀ a w, F w → wpAnyG P md ops Q c F fuel (listed.setIfInBounds i true) a w → K' a w) → if Region.wanted oi (yielded ops a.tmps) = true then Oper.wp P oi a w K' Q else K' (a.put oi.dst undef) w)
 (hj : ∀ K' : Act → World → Prop, Shut (∀ a w, F w → wpAnyG P md ops Q c F fuel (listed.setIfInBounds j true) a w → K' a w) → if Region.wanted oj (yielded ops a.tmps) = true then Oper.wp P oj a w K' Q else K' (a.put oj.dst undef) w) : wpAnyG P md ops Q c F (fuel + 1) listed a w := by
 refine ⟨fun h0 => (by rw [hr] at h0; cases h0), fun k hk => ?_⟩
 rw [hr] at hk
 rcases (show k = i ∨ k = j by simpa using hk) with rfl | rfl
 · exact wpOp_step hoi (fun K' hK => hi K' (fun a w hF hW => hK a w ⟨fun _ => hF, hW⟩))
 · exact wpOp_step hoj (fun K' hK => hj K' (fun a w hF hW => hK a w ⟨fun _ => hF, hW⟩))
theorem wB (i : Nat) {oi : Oper} {v : Value} {fuel : Nat} {listed : Array Bool} {a : Act} {w : World} (hi : ops[i]? = some oi)
 (hk : (Region.noSelect ops && Region.free md ops listed i && (Region.ready md ops listed).contains i && closedB md ops listed && pathB md ops 8 c i && decide (c < ops.size ∧ i ≠ c)) = true)
 (hQ : ∀ c a w, Q (.panic c) (a.put oi.dst v) w → Q (.panic c) a w) (hF : F w) (hy : YieldsIf P ops F oi v a)
 (h : wpAnyG P md ops Q c F fuel (listed.setIfInBounds i true) (a.put oi.dst v) w) : wpAnyG P md ops Q c F (fuel + 1) listed a w := by
 simp only [Bool.and_eq_true] at hk
 exact wpAnyG_before hi hk.1.1.1.1.1 hk.1.1.1.1.2 hk.1.1.1.2 hk.1.1.2 hk.1.2 hk.2 hQ hF hy h
theorem wC (i : Nat) {oi : Oper} {v : Value} {fuel : Nat} {listed : Array Bool} {a : Act} {w : World} (hi : ops[i]? = some oi)
 (hk : (Region.noSelect ops && Region.free md ops listed i && (Region.ready md ops listed).contains i && closedB md ops listed && decide (i ≠ c) && listed.getD c true) = true)
 (hQ : ∀ c a w, Q (.panic c) (a.put oi.dst v) w → Q (.panic c) a w) (hy : YieldsIf P ops (fun _ => True) oi v a)
 (h : wpAnyG P md ops Q c F fuel (listed.setIfInBounds i true) (a.put oi.dst v) w) : wpAnyG P md ops Q c F (fuel + 1) listed a w := by
 simp only [Bool.and_eq_true] at hk
 exact wpAnyG_behind hi hk.1.1.1.1.1 hk.1.1.1.1.2 hk.1.1.1.2 hk.1.1.2 hk.1.2 hk.2 hQ hy h
theorem wP (i : Nat) {oi : Oper} {v : Value} {fuel : Nat} {listed : Array Bool} {a : Act} {w : World} (hi : ops[i]? = some oi)
 (hk : (Region.noSelect ops && Region.free md ops listed i && (Region.ready md ops listed).contains i && closedB md ops listed && decide (i ≠ c)) = true)
 (hQ : ∀ c a w, Q (.panic c) (a.put oi.dst v) w → Q (.panic c) a w) (hF : F w) (hy : YieldsIf P ops (fun _ => True) oi v a)
 (h : wpAnyG P md ops Q c F fuel (listed.setIfInBounds i true) (a.put oi.dst v) w) : wpAnyG P md ops Q c F (fuel + 1) listed a w := by
 simp only [Bool.and_eq_true] at hk
 exact wpAnyG_pure hi hk.1.1.1.1 hk.1.1.1.2 hk.1.1.2 hk.1.2 hk.2 hQ (fun _ => hF) hy h
theorem kL {fuel : Nat} {listed L2 : Array Bool} {a a2 : Act} {w : World} (h : wpAnyG P md ops Q c F fuel L2 a2 w)
 (hl : listed = L2 := by (try simp only [List.setIfInBounds_toArray, List.set_cons_zero, List.set_cons_succ]) <;> rfl)
 (ha : a = a2 := by (try simp only [Act.put, List.setIfInBounds_toArray, List.set_cons_zero, List.set_cons_succ]) <;> rfl) : wpAnyG P md ops Q c F fuel listed a w := by
 subst hl; subst ha; exact h
theorem kB (i : Nat) {oi : Oper} {v : Value} {fuel : Nat} {listed L2 : Array Bool} {a a2 : Act} {w : World} (hF : F w) (h : wpAnyG P md ops Q c F fuel L2 a2 w)
 (hi : ops[i]? = some oi := by rfl)
 (hk : (Region.noSelect ops && Region.free md ops listed i && (Region.ready md ops listed).contains i && closedB md ops listed && pathB md ops 8 c i && decide (c < ops.size ∧ i ≠ c)) = true := by kernel_rfl)
 (hy : YieldsIf P ops F oi v a := by exact Or.inl ⟨by rfl, by (intro w h; (try dsimp only at h); go_split_ands; go_simp; all_goals (with_reducible rfl))⟩)
 (hQ : ∀ c a w, Q (.panic c) (a.put oi.dst v) w → Q (.panic c) a w := by exact fun _ _ _ h => h)
 (hl : listed.setIfInBounds i true = L2 := by (try simp only [List.setIfInBounds_toArray, List.set_cons_zero, List.set_cons_succ]) <;> rfl)
 (ha : a.put oi.dst v = a2 := by (try simp only [Act.put, List.setIfInBounds_toArray, List.set_cons_zero, List.set_cons_succ]) <;> rfl) : wpAnyG P md ops Q c F (fuel + 1) listed a w := by
 subst hl; subst ha; exact wB i hi hk hQ hF hy h
theorem kC (i : Nat) {oi : Oper} {v : Value} {fuel : Nat} {listed L2 : Array Bool} {a a2 : Act} {w : World} (h : wpAnyG P md ops Q c F fuel L2 a2 w)
 (hi : ops[i]? = some oi := by rfl)
 (hk : (Region.noSelect ops && Region.free md ops listed i && (Region.ready md ops listed).contains i && closedB md ops listed && decide (i ≠ c) && listed.getD c true) = true := by kernel_rfl)
 (hy : YieldsIf P ops (fun _ => True) oi v a := by exact Or.inl ⟨by rfl, by (intro w _; go_simp; all_goals (with_reducible rfl))⟩)
 (hQ : ∀ c a w, Q (.panic c) (a.put oi.dst v) w → Q (.panic c) a w := by exact fun _ _ _ h => h)
 (hl : listed.setIfInBounds i true = L2 := by (try simp only [List.setIfInBounds_toArray, List.set_cons_zero, List.set_cons_succ]) <;> rfl)
 (ha : a.put oi.dst v = a2 := by (try simp only [Act.put, List.setIfInBounds_toArray, List.set_cons_zero, List.set_cons_succ]) <;> rfl) : wpAnyG P md ops Q c F (fuel + 1) listed a w := by
 subst hl; subst ha; exact wC i hi hk hQ hy h
theorem kP (i : Nat) {oi : Oper} {v : Value} {fuel : Nat} {listed L2 : Array Bool} {a a2 : Act} {w : World} (hF : F w) (h : wpAnyG P md ops Q c F fuel L2 a2 w)
 (hi : ops[i]? = some oi := by rfl)
 (hk : (Region.noSelect ops && Region.free md ops listed i && (Region.ready md ops listed).contains i && closedB md ops listed && decide (i ≠ c)) = true := by kernel_rfl)
 (hy : YieldsIf P ops (fun _ => True) oi v a := by exact Or.inl ⟨by rfl, by (intro w _; go_simp; all_goals (with_reducible rfl))⟩)
 (hQ : ∀ c a w, Q (.panic c) (a.put oi.dst v) w → Q (.panic c) a w := by exact fun _ _ _ h => h)
 (hl : listed.setIfInBounds i true = L2 := by (try simp only [List.setIfInBounds_toArray, List.set_cons_zero, List.set_cons_succ]) <;> rfl)
 (ha : a.put oi.dst v = a2 := by (try simp only [Act.put, List.setIfInBounds_toArray, List.set_cons_zero, List.set_cons_succ]) <;> rfl) : wpAnyG P md ops Q c F (fuel + 1) listed a w := by
 subst hl; subst ha; exact wP i hi hk hQ hF hy h
end
end Go.Proofs.Ytagbikgfkakbfaa
namespace Go.Proofs.Ytagbikgfkakbfaa
open Go
set_option linter.unusedSimpArgs false
set_option linter.unusedVariables false
section
variable {P : Program} {ops : Array Oper} {Q : Exit → Act → World → Prop} {md : Region.Mode} {n l : Nat}
def noDefer (ops : Array Oper) : Bool := ops.all fun o => match o.op with | .defer _ => false | _ => true
theorem noDefer_spec {i : Nat} {o : Oper} (h : noDefer ops = true) (ho : ops[i]? = some o) : ∀ c, o.op ≠ .defer c := by
 intro c e
 have hi : i < ops.size := by
  rcases Nat.lt_or_ge i ops.size with h' | h'
  · exact h'
  · rw [Array.getElem?_eq_none h'] at ho; cases ho
 have h1 := Array.all_eq_true.1 h i hi
 rw [Array.getElem?_eq_getElem hi] at ho
 injection ho with ho
 rw [ho, e] at h1; cases h1
def noRow (P : Program) (o : Oper) (a : Act) (w : World) : Prop := ∀ row args w', (execOp a.eval o).run P w ≠ .ok (.row row args) w'
theorem rows_in {row : String} {args : Array Value} {w : World} {R : Value → World → Prop} {m : Nat} (h : Rows P row args w R) : RowsIn (Fence.wide.inRound l) m P row args w R := by
 intro c cs _
 obtain ⟨v, w', h1, h2⟩ := h c cs
 exact ⟨v, w', h1, (stepsIn_wide.2 h2 : StepsIn (Machine.fenced P Fence.wide) P _ _)⟩
theorem oper_in {o : Oper} {a : Act} {w : World} {K : Act → World → Prop} (hd : ∀ c, o.op ≠ .defer c) (h : o.wp P a w K Q) : o.wpIn (Fence.wide.inRound l) n P a w K Q := by
 unfold Oper.wpIn
 refine ⟨fun f _ => trivial, ?_⟩
 rw [Oper.semAt_eq _ _ _ hd]
 unfold Oper.wp at h
 generalize (execOp a.eval o).run P w = r at *
 cases r with
 | ok x w' =>
   cases x <;> simp only [Oper.upon, Oper.uponIn] at h ⊢ <;> first
    | exact h
    | exact ⟨(by intro h'; cases h'), (callsIn_wide.2 h).inRound l⟩
    | exact ⟨(by intro h'; cases h'), rows_in h⟩
 | halt x w' => cases x <;> simp only [Oper.upon, Oper.uponIn] at h ⊢ <;> exact h
theorem wpOp_in {i : Nat} {a : Act} {w : World} {K : Act → World → Prop} (hnd : noDefer ops = true) (hlo : ∀ a w, ¬ Q .outgrown a w) (h : wpOp P ops Q i K a w) : wpOpIn (Fence.wide.inRound l) n P ops Q i K a w := by
 unfold wpOp at h
 unfold wpOpIn
 cases ho : ops[i]? with
 | none => rw [ho] at h; exact h
 | some o =>
   rw [ho] at h
   dsimp only at h ⊢
   split
   · rename_i hw
     rw [if_pos hw] at h
     rcases h with h | ⟨_, a, w, h⟩
     · exact oper_in (noDefer_spec hnd ho) h
     · exact (hlo a w h).elim
   · rename_i hw
     rw [if_neg hw] at h
     exact ⟨fun f _ => trivial, h⟩
theorem wpAny_in (hnd : noDefer ops = true) (hlo : ∀ a w, ¬ Q .outgrown a w) : ∀ (fuel : Nat) (L : Array Bool) (a : Act) (w : World), wpAny P md ops Q fuel L a w → wpAnyIn (Fence.wide.inRound l) n P md ops Q fuel L a w
 | 0, _, _, _, h => h
 | fuel + 1, _, _, _, h => ⟨h.1, fun i hi => wpOpIn_mono (fun a' w' h' => wpAny_in hnd hlo fuel _ a' w' h') (wpOp_in hnd hlo (h.2 i hi))⟩
theorem wpIn_region_G {id : Nat} {a : Act} {w : World} (c : Nat) (F : World → Prop) (hm : P.follows .mixedOrders = true) (hnd : noDefer ops = true) (hlo : ∀ a w, ¬ Q .outgrown a w)
 (h : wpAnyG P .any ops Q c F ops.size (Array.replicate ops.size false) a w.drew) : (Code.region id ops true).wpIn (Fence.wide.inRound l) n P Q a w :=
 wpIn_region_any hm (wpAny_in hnd hlo _ _ _ _ (wpAny_of_G _ _ _ _ h))
end
end Go.Proofs.Ytagbikgfkakbfaa
namespace Go.Proofs.Ytagbikgfkakbfaa
open Go.RowKit
set_option linter.unusedSimpArgs false
set_option linter.unusedVariables false
theorem eqSelf {m : Nat} {t : TypeId} {x : Value} {D : Nat} {l : List Lit} (hm : m ≤ 10000) (hk : Try.prog.keyTypeAt m t = true) (hf : x.formed Try.prog t = true) (hl : Try.prog.keyLits D t x.cells.toList = some l) (w : World) :
 (Op.equalIn 10000 t x x).run Try.prog w = .ok true w := by
 have := run_equalIn_deep (P := Try.prog) (10000 - m) m t hk w D D x x l l hf hf hl hl
 rw [show 10000 - m + m = 10000 by omega] at this
 obtain ⟨r, hr, hi⟩ := this
 rw [hr, hi.2 rfl]
theorem cellsInt : Try.prog.cellsOf 3 = 1 := by kernel_rfl
theorem cellsPair : Try.prog.cellsOf 22 = 2 := by kernel_rfl
theorem cellsRound : Try.prog.cellsOf 71 = 6 := by kernel_rfl
theorem litsInt {x : Int} {D : Nat} (h : (Lit.int .i64 x).wf = true) : Try.prog.keyLits (D + 1) 3 [.int .i64 x] = some [.int .i64 x] := by
 simp only [Program.keyLits, Try.underlying3, h, and_self, if_true]
theorem litsPair {x y : Int} {D : Nat} (h : (Lit.int .i64 x).wf = true) (h' : (Lit.int .i64 y).wf = true) : Try.prog.keyLits (D + 1 + 1) 22 [.int .i64 x, .int .i64 y] = some [.int .i64 x, .int .i64 y] := by
 unfold Program.keyLits
 simp only [Try.underlying22]
 simp [cellsInt, cellsPair, List.range_succ, litsInt h, litsInt h']
theorem litsRound {x0 x1 x2 x3 x4 x5 : Int} {D : Nat} (h0 : (Lit.int .i64 x0).wf = true) (h1 : (Lit.int .i64 x1).wf = true) (h2 : (Lit.int .i64 x2).wf = true) (h3 : (Lit.int .i64 x3).wf = true) (h4 : (Lit.int .i64 x4).wf = true) (h5 : (Lit.int .i64 x5).wf = true) :
 Try.prog.keyLits (D + 1 + 1 + 1) 71 [.int .i64 x0, .int .i64 x1, .int .i64 x2, .int .i64 x3, .int .i64 x4, .int .i64 x5] = some [.int .i64 x0, .int .i64 x1, .int .i64 x2, .int .i64 x3, .int .i64 x4, .int .i64 x5] := by
 unfold Program.keyLits
 simp only [Try.underlying71]
 simp [cellsPair, cellsRound, litsPair h0 h1, litsPair h2 h3, litsPair h4 h5]
set_option maxRecDepth 100000 in
theorem eqRound {x0 x1 x2 x3 x4 x5 : Int} (h0 : (Lit.int .i64 x0).wf = true) (h1 : (Lit.int .i64 x1).wf = true) (h2 : (Lit.int .i64 x2).wf = true) (h3 : (Lit.int .i64 x3).wf = true) (h4 : (Lit.int .i64 x4).wf = true) (h5 : (Lit.int .i64 x5).wf = true) (w : World) : (Op.equalIn 10000 71 (.agg #[.int .i64 x0, .int .i64 x1, .int .i64 x2, .int .i64 x3, .int .i64 x4, .int .i64 x5]) (.agg #[.int .i64 x0, .int .i64 x1, .int .i64 x2, .int .i64 x3, .int .i64 x4, .int .i64 x5])).run Try.prog w = .ok true w :=
 eqSelf (m := 4) (D := 3 + 1 + 1 + 1) (by omega) (by kernel_rfl) (by kernel_rfl) (litsRound h0 h1 h2 h3 h4 h5) w
set_option maxRecDepth 100000 in
theorem eqPair {y0 y1 : Int} (h0 : (Lit.int .i64 y0).wf = true) (h1 : (Lit.int .i64 y1).wf = true) (w : World) : (Op.equalIn 10000 22 (.agg #[.int .i64 y0, .int .i64 y1]) (.agg #[.int .i64 y0, .int .i64 y1])).run Try.prog w = .ok true w :=
 eqSelf (m := 4) (D := 3 + 1 + 1 + 1) (by omega) (by kernel_rfl) (by kernel_rfl) (litsPair h0 h1) w
end Go.Proofs.Ytagbikgfkakbfaa
namespace Go.Proofs.Ytagbikgfkakbfaa
open Go.RowKit
set_option linter.unusedSimpArgs false
set_option linter.unusedVariables false
theorem cellsCtl : Try.prog.cellsOf 38 = 6 := by kernel_rfl
theorem cellsCtl2 : Try.prog.cellsOf 39 = 12 := by kernel_rfl
theorem cellsState : Try.prog.cellsOf 41 = 14 := by kernel_rfl
theorem litsCtl {c0 c1 c2 c3 c4 c5 : Int} {D : Nat} (hc0 : (Lit.int .i64 c0).wf = true) (hc1 : (Lit.int .i64 c1).wf = true) (hc2 : (Lit.int .i64 c2).wf = true) (hc3 : (Lit.int .i64 c3).wf = true) (hc4 : (Lit.int .i64 c4).wf = true) (hc5 : (Lit.int .i64 c5).wf = true) : Try.prog.keyLits (D + 1 + 1) 38 [.int .i64 c0, .int .i64 c1, .int .i64 c2, .int .i64 c3, .int .i64 c4, .int .i64 c5] = some [.int .i64 c0, .int .i64 c1, .int .i64 c2, .int .i64 c3, .int .i64 c4, .int .i64 c5] := by
 unfold Program.keyLits
 simp only [Try.underlying38]
 simp [cellsInt, cellsCtl, litsInt hc0, litsInt hc1, litsInt hc2, litsInt hc3, litsInt hc4, litsInt hc5]
theorem litsCtl2 {s0 s1 s2 s3 s4 s5 s6 s7 s8 s9 s10 s11 : Int} {D : Nat} (hs0 : (Lit.int .i64 s0).wf = true) (hs1 : (Lit.int .i64 s1).wf = true) (hs2 : (Lit.int .i64 s2).wf = true) (hs3 : (Lit.int .i64 s3).wf = true) (hs4 : (Lit.int .i64 s4).wf = true) (hs5 : (Lit.int .i64 s5).wf = true) (hs6 : (Lit.int .i64 s6).wf = true) (hs7 : (Lit.int .i64 s7).wf = true) (hs8 : (Lit.int .i64 s8).wf = true) (hs9 : (Lit.int .i64 s9).wf = true) (hs10 : (Lit.int .i64 s10).wf = true) (hs11 : (Lit.int .i64 s11).wf = true) : Try.prog.keyLits (D + 1 + 1 + 1) 39 [.int .i64 s0, .int .i64 s1, .int .i64 s2, .int .i64 s3, .int .i64 s4, .int .i64 s5, .int .i64 s6, .int .i64 s7, .int .i64 s8, .int .i64 s9, .int .i64 s10, .int .i64 s11] = some [.int .i64 s0, .int .i64 s1, .int .i64 s2, .int .i64 s3, .int .i64 s4, .int .i64 s5, .int .i64 s6, .int .i64 s7, .int .i64 s8, .int .i64 s9, .int .i64 s10, .int .i64 s11] := by
 unfold Program.keyLits
 simp only [Try.underlying39]
 simp [cellsCtl, cellsCtl2, List.range_succ, litsCtl hs0 hs1 hs2 hs3 hs4 hs5, litsCtl hs6 hs7 hs8 hs9 hs10 hs11]
theorem litsState {s0 s1 s2 s3 s4 s5 s6 s7 s8 s9 s10 s11 s12 s13 : Int} {D : Nat} (hs0 : (Lit.int .i64 s0).wf = true) (hs1 : (Lit.int .i64 s1).wf = true) (hs2 : (Lit.int .i64 s2).wf = true) (hs3 : (Lit.int .i64 s3).wf = true) (hs4 : (Lit.int .i64 s4).wf = true) (hs5 : (Lit.int .i64 s5).wf = true) (hs6 : (Lit.int .i64 s6).wf = true) (hs7 : (Lit.int .i64 s7).wf = true) (hs8 : (Lit.int .i64 s8).wf = true) (hs9 : (Lit.int .i64 s9).wf = true) (hs10 : (Lit.int .i64 s10).wf = true) (hs11 : (Lit.int .i64 s11).wf = true) (hs12 : (Lit.int .i64 s12).wf = true) (hs13 : (Lit.int .i64 s13).wf = true) : Try.prog.keyLits (D + 1 + 1 + 1 + 1) 41 [.int .i64 s0, .int .i64 s1, .int .i64 s2, .int .i64 s3, .int .i64 s4, .int .i64 s5, .int .i64 s6, .int .i64 s7, .int .i64 s8, .int .i64 s9, .int .i64 s10, .int .i64 s11, .int .i64 s12, .int .i64 s13] = some [.int .i64 s0, .int .i64 s1, .int .i64 s2, .int .i64 s3, .int .i64 s4, .int .i64 s5, .int .i64 s6, .int .i64 s7, .int .i64 s8, .int .i64 s9, .int .i64 s10, .int .i64 s11, .int .i64 s12, .int .i64 s13] := by
 unfold Program.keyLits
 simp only [Try.underlying41]
 simp [cellsCtl2, cellsPair, cellsState, litsCtl2 hs0 hs1 hs2 hs3 hs4 hs5 hs6 hs7 hs8 hs9 hs10 hs11, litsPair (D := D + 1) hs12 hs13]
set_option maxRecDepth 100000 in
theorem eqState {s0 s1 s2 s3 s4 s5 s6 s7 s8 s9 s10 s11 s12 s13 : Int} (hs0 : (Lit.int .i64 s0).wf = true) (hs1 : (Lit.int .i64 s1).wf = true) (hs2 : (Lit.int .i64 s2).wf = true) (hs3 : (Lit.int .i64 s3).wf = true) (hs4 : (Lit.int .i64 s4).wf = true) (hs5 : (Lit.int .i64 s5).wf = true) (hs6 : (Lit.int .i64 s6).wf = true) (hs7 : (Lit.int .i64 s7).wf = true) (hs8 : (Lit.int .i64 s8).wf = true) (hs9 : (Lit.int .i64 s9).wf = true) (hs10 : (Lit.int .i64 s10).wf = true) (hs11 : (Lit.int .i64 s11).wf = true) (hs12 : (Lit.int .i64 s12).wf = true) (hs13 : (Lit.int .i64 s13).wf = true) (w : World) : (Op.equalIn 10000 41 (.agg #[.int .i64 s0, .int .i64 s1, .int .i64 s2, .int .i64 s3, .int .i64 s4, .int .i64 s5, .int .i64 s6, .int .i64 s7, .int .i64 s8, .int .i64 s9, .int .i64 s10, .int .i64 s11, .int .i64 s12, .int .i64 s13]) (.agg #[.int .i64 s0, .int .i64 s1, .int .i64 s2, .int .i64 s3, .int .i64 s4, .int .i64 s5, .int .i64 s6, .int .i64 s7, .int .i64 s8, .int .i64 s9, .int .i64 s10, .int .i64 s11, .int .i64 s12, .int .i64 s13])).run Try.prog w = .ok true w :=
 eqSelf (m := 5) (D := 3 + 1 + 1 + 1 + 1) (by omega) (by kernel_rfl) (by kernel_rfl) (litsState hs0 hs1 hs2 hs3 hs4 hs5 hs6 hs7 hs8 hs9 hs10 hs11 hs12 hs13) w
end Go.Proofs.Ytagbikgfkakbfaa
namespace Go.Proofs.Ytagbikgfkakbfaa
set_option linter.unusedSimpArgs false
set_option linter.unusedVariables false
structure Ctl where
 kind : Int
 win : Int
 base : Int
 way : Int
 spd : Int
 part : Int
def Ctl.v (c : Ctl) : Value := .agg #[.int .i64 c.kind, .int .i64 c.win, .int .i64 c.base, .int .i64 c.way, .int .i64 c.spd, .int .i64 c.part]
def Ctl.zero : Ctl := ⟨0, 0, 0, 0, 0, 0⟩
def clipW (n : Int) : Int := if n < 1 then 1 else if 12 < n then 12 else n
def ctlNew (kind n : Int) : Ctl := ⟨kind, clipW n, -1, 0, 0, 0⟩
def knownB (c : Ctl) : Bool := decide (1 ≤ c.win ∧ c.win ≤ 12 ∧ -1 ≤ c.base ∧ c.base ≤ 1099511627776)
def lowBase (b d : Int) : Int := if b < 0 then d else if d < b then d else b
def ledRight (c : Ctl) : Bool := decide (c.kind = 3 ∧ 1 ≤ c.win ∧ c.win ≤ 12 ∧ -1 ≤ c.base ∧ c.base ≤ 1099511627776 ∧ c.way = 0 ∧ c.spd = 0 ∧ 0 ≤ c.part ∧ c.part < 4 ∧ (c.part = 0 ∨ c.win < 12))
def ledAll (c : Ctl) (wait : Int) : Int :=
 let a := 4 * c.win + c.part + (if 2 - wait < -2 then -2 else 2 - wait)
 let b := if a < 4 then 4 else a
 if 48 < b then 48 else b
def ledNext (c : Ctl) (d : Int) : Ctl × Int :=
 if ledRight c = false then (Ctl.zero, 1)
 else if d < 0 ∨ 1099511627776 < d then (Ctl.zero, 2)
 else
  let b := lowBase c.base d
  (⟨c.kind, ledAll c (d - b) / 4, b, c.way, c.spd, ledAll c (d - b) % 4⟩, 0)
end Go.Proofs.Ytagbikgfkakbfaa
namespace Go.Proofs.Ytagbikgfkakbfaa
set_option linter.unusedSimpArgs false
set_option linter.unusedVariables false
open Go.RowKit
set_option maxHeartbeats 1000000 in
theorem ledRight_any (k n b y s p : Int) (w : World) :
 Calls Try.prog 66 #[.agg #[.int .i64 k, .int .i64 n, .int .i64 b, .int .i64 y, .int .i64 s, .int .i64 p]] w fun e w' => e = .returned (.bool (ledRight ⟨k, n, b, y, s, p⟩)) ∧ Below w.heap.size w w' := by
 go_enter Try.func66, Try.ntmps66
 go_wp2
 all_goals (go_ret; refine ⟨?_, (Below.refl _ _).alloc (Nat.le_refl _) _⟩)
 all_goals (refine congrArg (fun x : Bool => Ending.returned (Value.bool x)) ?_)
 all_goals (rw [Bool.eq_iff_iff]; simp only [ledRight]; simp)
 all_goals omega
theorem clip_any (n : Int) (w : World) :
 Calls Try.prog 55 #[.int .i64 n] w fun e w' => e = .returned (.int .i64 (clipW n)) ∧ w = w' := by
 go_enter Try.func55, Try.ntmps55
 go_wp2
 all_goals (go_ret; refine ⟨?_, rfl⟩)
 all_goals (refine congrArg (fun x : Int => Ending.returned (.int .i64 x)) ?_)
 all_goals (unfold clipW; split <;> (try split) <;> omega)
theorem clip_in (n : Int) (w : World) (h1 : 1 ≤ n) (h2 : n ≤ 12) : Calls Try.prog 55 #[.int .i64 n] w fun e w' => e = .returned (.int .i64 n) ∧ w = w' :=
 (clip_any n w).mono fun _ _ ⟨a, b⟩ => ⟨by rw [a]; unfold clipW; rw [if_neg (by omega), if_neg (by omega)], b⟩
theorem clip_lo (n : Int) (w : World) (h1 : n < 1) : Calls Try.prog 55 #[.int .i64 n] w fun e w' => e = .returned (.int .i64 1) ∧ w = w' :=
 (clip_any n w).mono fun _ _ ⟨a, b⟩ => ⟨by rw [a]; unfold clipW; rw [if_pos (by omega)], b⟩
theorem clip_hi (n : Int) (w : World) (h1 : 12 < n) : Calls Try.prog 55 #[.int .i64 n] w fun e w' => e = .returned (.int .i64 12) ∧ w = w' :=
 (clip_any n w).mono fun _ _ ⟨a, b⟩ => ⟨by rw [a]; unfold clipW; rw [if_neg (by omega), if_pos (by omega)], b⟩
set_option maxHeartbeats 1000000 in
theorem known_any (k n b y s p : Int) (w : World) :
 Calls Try.prog 72 #[.agg #[.int .i64 k, .int .i64 n, .int .i64 b, .int .i64 y, .int .i64 s, .int .i64 p]] w fun e w' => e = .returned (.bool (knownB ⟨k, n, b, y, s, p⟩)) ∧ Below w.heap.size w w' := by
 have hfin : ∀ v : Bool, (v = true ↔ (1 ≤ n ∧ n ≤ 12 ∧ -1 ≤ b ∧ b ≤ 1099511627776)) → knownB ⟨k, n, b, y, s, p⟩ = v := fun v hv => by rw [Bool.eq_iff_iff, hv]; simp [knownB]
 rcases (show n < 1 ∨ 12 < n ∨ (1 ≤ n ∧ n ≤ 12) by omega) with h1 | h1 | ⟨h1, h2⟩
 · have E := hide (hfin false (by simp; omega))
   clear hfin
   have hb : ((n : Int) == 1) = false := by simp; omega
   go_enter Try.func72, Try.ntmps72
   go_wp2
   go_quiet ((go_at_call 55; exact quietL (clip_lo _ _ h1)))
   go_wp2
   go_ret
   exact ⟨(by rw [E.out]; rfl), Below.drewN ((Below.refl _ _).alloc (Nat.le_refl _) _) _⟩
 · have E := hide (hfin false (by simp; omega))
   clear hfin
   have hb : ((n : Int) == 12) = false := by simp; omega
   go_enter Try.func72, Try.ntmps72
   go_wp2
   go_quiet ((go_at_call 55; exact quietL (clip_hi _ _ h1)))
   go_wp2
   go_ret
   exact ⟨(by rw [E.out]; rfl), Below.drewN ((Below.refl _ _).alloc (Nat.le_refl _) _) _⟩
 · rcases (show b < -1 ∨ 1099511627776 < b ∨ (-1 ≤ b ∧ b ≤ 1099511627776) by omega) with h3 | h3 | ⟨h3, h4⟩
   · have E := hide (hfin false (by simp; omega))
     clear hfin
     have hd : decide (-1 ≤ b) = false := by simp; omega
     go_enter Try.func72, Try.ntmps72
     go_wp2
     go_quiet ((go_at_call 55; exact quietL (clip_in _ _ h1 h2)))
     go_wp2
     go_ret
     exact ⟨(by rw [E.out]; rfl), Below.drewN ((Below.refl _ _).alloc (Nat.le_refl _) _) _⟩
   · have E := hide (hfin false (by simp; omega))
     clear hfin
     have hd : decide (b ≤ 1099511627776) = false := by simp; omega
     have hd0 : decide (-1 ≤ b) = true := by simp; omega
     go_enter Try.func72, Try.ntmps72
     go_wp2
     go_quiet ((go_at_call 55; exact quietL (clip_in _ _ h1 h2)))
     go_wp2
     go_ret
     exact ⟨(by rw [E.out]; rfl), Below.drewN ((Below.refl _ _).alloc (Nat.le_refl _) _) _⟩
   · have E := hide (hfin true (by simp; omega))
     clear hfin
     go_enter Try.func72, Try.ntmps72
     go_wp2
     go_quiet ((go_at_call 55; exact quietL (clip_in _ _ h1 h2)))
     go_wp2
     go_ret
     exact ⟨(by rw [E.out]; rfl), Below.drewN ((Below.refl _ _).alloc (Nat.le_refl _) _) _⟩
theorem known_yes (k n b y s p : Int) (w : World) (h1 : 1 ≤ n) (h2 : n ≤ 12) (h3 : -1 ≤ b) (h4 : b ≤ 1099511627776) :
 Calls Try.prog 72 #[.agg #[.int .i64 k, .int .i64 n, .int .i64 b, .int .i64 y, .int .i64 s, .int .i64 p]] w fun e w' => e = .returned (.bool true) ∧ Below w.heap.size w w' :=
 (known_any k n b y s p w).mono fun _ _ ⟨a, h⟩ => ⟨by rw [a]; exact retBI (by simp [knownB]; omega), h⟩
theorem known_no (k n b y s p : Int) (w : World) (h : n < 1 ∨ 12 < n ∨ b < -1 ∨ 1099511627776 < b) :
 Calls Try.prog 72 #[.agg #[.int .i64 k, .int .i64 n, .int .i64 b, .int .i64 y, .int .i64 s, .int .i64 p]] w fun e w' => e = .returned (.bool false) ∧ Below w.heap.size w w' :=
 (known_any k n b y s p w).mono fun _ _ ⟨a, h'⟩ => ⟨by rw [a]; exact retBI (by simp [knownB]; omega), h'⟩
set_option maxHeartbeats 1000000 in
theorem mRight_any (k n b y s p : Int) (w : World) :
 Calls Try.prog 57 #[.agg #[.int .i64 k, .int .i64 n, .int .i64 b, .int .i64 y, .int .i64 s, .int .i64 p]] w fun e w' => e = .returned (.bool (ledRight ⟨k, n, b, y, s, p⟩)) ∧ Below w.heap.size w w' := by
 by_cases hk : k = 3
 · subst hk
   by_cases hkn : n < 1 ∨ 12 < n ∨ b < -1 ∨ 1099511627776 < b
   · have E := hide (show ledRight ⟨3, n, b, y, s, p⟩ = false by simp [ledRight]; omega)
     have K := hide hkn
     clear hkn
     go_enter Try.func57, Try.ntmps57
     go_wp2_with (go_at_call 72; refine (known_no _ _ _ _ _ _ _ K.out).mono ?_; rintro e w1 ⟨rfl, hb⟩)
     go_ret
     exact ⟨(by rw [E.out]; rfl), ((Below.refl _ _).alloc (Nat.le_refl _) _).trans (hb.mono (by simp))⟩
   · have h1 : 1 ≤ n := by omega
     have h2 : n ≤ 12 := by omega
     have h3 : -1 ≤ b := by omega
     have h4 : b ≤ 1099511627776 := by omega
     clear hkn
     rcases (show n < 12 ∨ n = 12 by omega) with h5 | rfl
     · have h6 : n / 12 = 0 := by omega
       go_enter Try.func57, Try.ntmps57
       go_wp2_with (go_at_call 72; refine (known_yes _ _ _ _ _ _ _ h1 h2 h3 h4).mono ?_; rintro e w1 ⟨rfl, hb⟩; obtain ⟨hc, hf⟩ := bcell hb)
       all_goals (go_ret; refine ⟨?_, ((Below.refl _ _).alloc (Nat.le_refl _) _).trans (hb.mono (by simp))⟩)
       all_goals (refine congrArg (fun x : Bool => Ending.returned (Value.bool x)) ?_)
       all_goals (rw [Bool.eq_iff_iff]; simp only [ledRight]; simp)
       all_goals omega
     · go_enter Try.func57, Try.ntmps57
       go_wp2_with (go_at_call 72; refine (known_yes _ _ _ _ _ _ _ h1 h2 h3 h4).mono ?_; rintro e w1 ⟨rfl, hb⟩; obtain ⟨hc, hf⟩ := bcell hb)
       all_goals (go_ret; refine ⟨?_, ((Below.refl _ _).alloc (Nat.le_refl _) _).trans (hb.mono (by simp))⟩)
       all_goals (refine congrArg (fun x : Bool => Ending.returned (Value.bool x)) ?_)
       all_goals (rw [Bool.eq_iff_iff]; simp only [ledRight]; simp)
       all_goals omega
 · have E := hide (show ledRight ⟨k, n, b, y, s, p⟩ = false by simp [ledRight]; omega)
   have hk' : ((k : Int) == 3) = false := by simpa using hk
   clear hk
   go_enter Try.func57, Try.ntmps57
   go_wp2
   go_ret
   exact ⟨(by rw [E.out]; rfl), (Below.refl _ _).alloc (Nat.le_refl _) _⟩
theorem ledRight_t (k n b y s p : Int) (h : ledRight ⟨k, n, b, y, s, p⟩ = true) (w : World) :
 Calls Try.prog 66 #[.agg #[.int .i64 k, .int .i64 n, .int .i64 b, .int .i64 y, .int .i64 s, .int .i64 p]] w fun e w' => e = .returned (.bool true) ∧ Below w.heap.size w w' :=
 (ledRight_any k n b y s p w).mono fun _ _ ⟨a, h'⟩ => ⟨by rw [a, h], h'⟩
theorem ledRight_f (k n b y s p : Int) (h : ledRight ⟨k, n, b, y, s, p⟩ = false) (w : World) :
 Calls Try.prog 66 #[.agg #[.int .i64 k, .int .i64 n, .int .i64 b, .int .i64 y, .int .i64 s, .int .i64 p]] w fun e w' => e = .returned (.bool false) ∧ Below w.heap.size w w' :=
 (ledRight_any k n b y s p w).mono fun _ _ ⟨a, h'⟩ => ⟨by rw [a, h], h'⟩
end Go.Proofs.Ytagbikgfkakbfaa
