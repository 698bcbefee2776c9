/-
  Lemmas and walks for the statement: Mem, Sl, Frame, BP.
-/
import Derived.WalkKit
import Derived.WalkSpells
import Derived.WalkLawsBesides
import Derived.Deep.QuietTactic
import Derived.BigQuiet
import Derived.Deep.RegionHeld3
import Derived.Deep.DeepMust
import Derived.Deep.DeepFit
import Derived.KernelRfl
import Derived.Laws.OwnMore
import Derived.Maps.AppendAt
import Derived.StillTailTactics
import Derived.Deep.AppendLies
import Derived.ProofKit
import Derived.OpenShut
import Derived.ChangeOld
import Derived.SizedLaws
import Derived.Carry
import Derived.Lib.Split
import Derived.Lib.SplitLaws
import Derived.Lib.Join
import Derived.Lib.Fields
import Derived.Lib.AtoiAll
import Derived.Lib.ItoaNum
namespace Go.Proofs.YtjjikhaaimfneaaGreatDoor
set_option linter.unusedSimpArgs false
set_option linter.unusedVariables false
open Go.RowKit
theorem hide {p : Prop} (h : p) : Hid p := h
theorem quietL {P : Program} {f : FuncId} {args : Array Value} {w : World} {n : Nat} {v : Value}
 (h : Calls P f args (w.drewN n) fun e w' => e = .returned v ∧ w.drewN n = w') : Calls P f args (w.drewN n) fun e w'' => e = .returned v ∧ ∃ m, w'' = w.drewN m :=
 h.mono fun _ _ ⟨he, hm⟩ => ⟨he, n, hm.symm⟩
theorem retI {k : IntKind} {a b : Int} (h : a = b) : Ending.returned (.int k a) = .returned (.int k b) := by rw [h]
theorem retB {a b : Bool} (h : a = b) : Ending.returned (.bool a) = .returned (.bool b) := by rw [h]
theorem retBI {a b : Bool} (h : a = true ↔ b = true) : Ending.returned (.bool a) = .returned (.bool b) := by rw [Bool.eq_iff_iff.2 h]
theorem bcell {W w1 : World} (hb : Below W.heap.size W w1) : (∀ b o, b < W.heap.size → w1.cell? ⟨b, o, none⟩ = W.cell? ⟨b, o, none⟩) ∧ (∀ b o, b < W.heap.size → w1.frozen? ⟨b, o, none⟩ = W.frozen? ⟨b, o, none⟩) :=
 ⟨fun b o h => hb.cell (p := ⟨b, o, none⟩) h, fun b o h => hb.frozen (p := ⟨b, o, none⟩) h⟩
theorem Below.drewN {B : Nat} {a w : World} (h : Below B a w) (n : Nat) : Below B a (w.drewN n) := Go.below_drewN h n
structure Beyond (w0 : World) where
 w : World
 h : Below w0.heap.size w0 w
instance (w0 : World) : Inhabited (Beyond w0) := ⟨⟨w0, Below.refl _ _⟩⟩
theorem Beyond.cell {w0 : World} (p : Beyond w0) {a : Addr} {v : Value} (hb : a.block < w0.heap.size) (h : w0.cell? a = some v) : p.w.cell? a = some v := (p.h.cell hb).trans h
theorem wp_region_beyond {P : Program} {id : Nat} {Q : Exit → Act → World → Prop} {a : Act} {w : World} {l : List Oper} (hm : P.follows .mixedOrders = true) (hB : Region.lexB .any l.toArray = true)
 (h : wpQuiet P l.toArray (fun w' => ∃ p : Beyond w, w' = p.w) (fun a' => ∀ w', (∃ p : Beyond w, w' = p.w) → Q .normal a' w') l a) : (Code.region id l.toArray true).wp P Q a w :=
 wp_region_quiet (C := fun w' => ∃ p : Beyond w, w' = p.w) hm hB ⟨⟨_, (Below.refl w.heap.size w).drew⟩, rfl⟩ (by simpa using h)
theorem beyondCall {P : Program} {f : FuncId} {args : Array Value} {w0 : World} {p : Beyond w0} {v : Value}
 (h : Calls P f args p.w fun e w' => e = .returned v ∧ Below p.w.heap.size p.w w') : Calls P f args p.w fun e w'' => e = .returned v ∧ ∃ q : Beyond w0, w'' = q.w :=
 h.mono fun _ _ ⟨he, hb⟩ => ⟨he, ⟨_, p.h.trans (hb.mono p.h.size)⟩, rfl⟩
theorem BL {p : Prop} (h : p := by ((repeat' (first | (with_reducible exact Below.refl _ _) | (with_reducible refine Below.alloc ?_ ?_ _) | (with_reducible refine Below.setCell ?_ ?_ _) | (with_reducible refine Below.drewN ?_ _) | (with_reducible refine Below.drew ?_) | (with_reducible refine Below.trans ?_ (hb8.mono ?_)) | (with_reducible refine Below.trans ?_ (hb7.mono ?_)) | (with_reducible refine Below.trans ?_ (hb6.mono ?_)) | (with_reducible refine Below.trans ?_ (hb5.mono ?_)) | (with_reducible refine Below.trans ?_ (hb4.mono ?_)) | (with_reducible refine Below.trans ?_ (hb3.mono ?_)) | (with_reducible refine Below.trans ?_ (hb2.mono ?_)) | (with_reducible refine Below.trans ?_ (hb1.mono ?_)) | (with_reducible refine Below.trans ?_ (hb.mono ?_)) | omega | (simp; done) | (simp; omega))); first | done | fail "BL")) : p := h
theorem boxes26 {w w1 : World} {T : TypeId} {x0 x1 x2 x3 x4 x5 y0 y1 y2 y3 y4 y5 : Value} (hb : Below ((w.alloc (.cells #[x0, x1, x2, x3, x4, x5] T)).alloc (.cells #[y0, y1, y2, y3, y4, y5] T)).heap.size ((w.alloc (.cells #[x0, x1, x2, x3, x4, x5] T)).alloc (.cells #[y0, y1, y2, y3, y4, y5] T)) w1) :
 (∀ j, w1.frozen? ⟨w.heap.size + 1, j, none⟩ = false) ∧ (∀ j, w1.frozen? ⟨w.heap.size, j, none⟩ = false) ∧
 w1.cell? ⟨w.heap.size, 0, none⟩ = some x0 ∧ w1.cell? ⟨w.heap.size, 1, none⟩ = some x1 ∧ w1.cell? ⟨w.heap.size, 2, none⟩ = some x2 ∧ w1.cell? ⟨w.heap.size, 3, none⟩ = some x3 ∧ w1.cell? ⟨w.heap.size, 4, none⟩ = some x4 ∧ w1.cell? ⟨w.heap.size, 5, none⟩ = some x5 ∧
 w1.cell? ⟨w.heap.size + 1, 0, none⟩ = some y0 ∧ w1.cell? ⟨w.heap.size + 1, 1, none⟩ = some y1 ∧ w1.cell? ⟨w.heap.size + 1, 2, none⟩ = some y2 ∧ w1.cell? ⟨w.heap.size + 1, 3, none⟩ = some y3 ∧ w1.cell? ⟨w.heap.size + 1, 4, none⟩ = some y4 ∧ w1.cell? ⟨w.heap.size + 1, 5, none⟩ = some y5 := by
 refine ⟨fun j => ?_, fun j => ?_, ?_, ?_, ?_, ?_, ?_, ?_, ?_, ?_, ?_, ?_, ?_, ?_⟩
 · rw [hb.frozen (by simp)]; simp [go_sem]
 · rw [hb.frozen (by simp; omega)]; simp [go_sem]
 all_goals (rw [hb.cell (by simp <;> omega)]; simp [go_sem, World.cell?_alloc_past])
theorem keep26 {X w2 : World} {A : Nat} {x0 x1 x2 x3 x4 x5 y0 y1 y2 y3 y4 y5 : Value} (hb : Below X.heap.size X w2) (fz : ∀ j, X.frozen? ⟨A + 1, j, none⟩ = false) (c0 : X.cell? ⟨A, 0, none⟩ = some x0) (c1 : X.cell? ⟨A, 1, none⟩ = some x1) (c2 : X.cell? ⟨A, 2, none⟩ = some x2) (c3 : X.cell? ⟨A, 3, none⟩ = some x3) (c4 : X.cell? ⟨A, 4, none⟩ = some x4) (c5 : X.cell? ⟨A, 5, none⟩ = some x5) (z0 : X.cell? ⟨A + 1, 0, none⟩ = some y0) (z1 : X.cell? ⟨A + 1, 1, none⟩ = some y1) (z2 : X.cell? ⟨A + 1, 2, none⟩ = some y2) (z3 : X.cell? ⟨A + 1, 3, none⟩ = some y3) (z4 : X.cell? ⟨A + 1, 4, none⟩ = some y4) (z5 : X.cell? ⟨A + 1, 5, none⟩ = some y5) :
 (A + 1 < w2.heap.size ∧ ¬ A + 1 = w2.heap.size ∧ ¬ w2.heap.size = A + 1 ∧ A < w2.heap.size ∧ ¬ A = w2.heap.size ∧ ¬ w2.heap.size = A) ∧ (∀ j, w2.frozen? ⟨A + 1, j, none⟩ = false) ∧ w2.cell? ⟨A + 1, 0, none⟩ = some y0 ∧ w2.cell? ⟨A + 1, 1, none⟩ = some y1 ∧ w2.cell? ⟨A + 1, 2, none⟩ = some y2 ∧ w2.cell? ⟨A + 1, 3, none⟩ = some y3 ∧ w2.cell? ⟨A + 1, 4, none⟩ = some y4 ∧ w2.cell? ⟨A + 1, 5, none⟩ = some y5 ∧ w2.cell? ⟨A, 0, none⟩ = some x0 ∧ w2.cell? ⟨A, 1, none⟩ = some x1 ∧ w2.cell? ⟨A, 2, none⟩ = some x2 ∧ w2.cell? ⟨A, 3, none⟩ = some x3 ∧ w2.cell? ⟨A, 4, none⟩ = some x4 ∧ w2.cell? ⟨A, 5, none⟩ = some x5 := by
 have h0 := World.block_lt_of_cell? X _ z0
 have h1 := hb.size
 simp only at h0
 refine ⟨⟨by omega, by omega, by omega, by omega, by omega, by omega⟩, fun j => (hb.frozen (p := ⟨A + 1, j, none⟩) h0).trans (fz j), (hb.cell (World.block_lt_of_cell? X _ z0)).trans z0, (hb.cell (World.block_lt_of_cell? X _ z1)).trans z1, (hb.cell (World.block_lt_of_cell? X _ z2)).trans z2, (hb.cell (World.block_lt_of_cell? X _ z3)).trans z3, (hb.cell (World.block_lt_of_cell? X _ z4)).trans z4, (hb.cell (World.block_lt_of_cell? X _ z5)).trans z5, (hb.cell (World.block_lt_of_cell? X _ c0)).trans c0, (hb.cell (World.block_lt_of_cell? X _ c1)).trans c1, (hb.cell (World.block_lt_of_cell? X _ c2)).trans c2, (hb.cell (World.block_lt_of_cell? X _ c3)).trans c3, (hb.cell (World.block_lt_of_cell? X _ c4)).trans c4, (hb.cell (World.block_lt_of_cell? X _ c5)).trans c5⟩
theorem keepNew {X w3 : World} {A : Nat} {T : TypeId} {x0 x1 x2 x3 x4 x5 y0 y1 y2 y3 y4 y5 : Value} (hb : Below (X.alloc (.cells #[x0, x1, x2, x3, x4, x5] T)).heap.size (X.alloc (.cells #[x0, x1, x2, x3, x4, x5] T)) w3) (fz : ∀ j, X.frozen? ⟨A, j, none⟩ = false) (z0 : X.cell? ⟨A, 0, none⟩ = some y0) (z1 : X.cell? ⟨A, 1, none⟩ = some y1) (z2 : X.cell? ⟨A, 2, none⟩ = some y2) (z3 : X.cell? ⟨A, 3, none⟩ = some y3) (z4 : X.cell? ⟨A, 4, none⟩ = some y4) (z5 : X.cell? ⟨A, 5, none⟩ = some y5) :
 (∀ j, w3.frozen? ⟨X.heap.size, j, none⟩ = false) ∧ (∀ j, w3.frozen? ⟨A, j, none⟩ = false) ∧ w3.cell? ⟨X.heap.size, 0, none⟩ = some x0 ∧ w3.cell? ⟨X.heap.size, 1, none⟩ = some x1 ∧ w3.cell? ⟨X.heap.size, 2, none⟩ = some x2 ∧ w3.cell? ⟨X.heap.size, 3, none⟩ = some x3 ∧ w3.cell? ⟨X.heap.size, 4, none⟩ = some x4 ∧ w3.cell? ⟨X.heap.size, 5, none⟩ = some x5 ∧ w3.cell? ⟨A, 0, none⟩ = some y0 ∧ w3.cell? ⟨A, 1, none⟩ = some y1 ∧ w3.cell? ⟨A, 2, none⟩ = some y2 ∧ w3.cell? ⟨A, 3, none⟩ = some y3 ∧ w3.cell? ⟨A, 4, none⟩ = some y4 ∧ w3.cell? ⟨A, 5, none⟩ = some y5 := by
 have h0 := World.block_lt_of_cell? X _ z0
 simp only at h0
 refine ⟨fun j => ?_, fun j => ?_, ?_, ?_, ?_, ?_, ?_, ?_, ((((Below.refl X.heap.size X).alloc (Nat.le_refl _) _).trans (hb.mono (by simp))).cell (World.block_lt_of_cell? X _ z0)).trans z0, ((((Below.refl X.heap.size X).alloc (Nat.le_refl _) _).trans (hb.mono (by simp))).cell (World.block_lt_of_cell? X _ z1)).trans z1, ((((Below.refl X.heap.size X).alloc (Nat.le_refl _) _).trans (hb.mono (by simp))).cell (World.block_lt_of_cell? X _ z2)).trans z2, ((((Below.refl X.heap.size X).alloc (Nat.le_refl _) _).trans (hb.mono (by simp))).cell (World.block_lt_of_cell? X _ z3)).trans z3, ((((Below.refl X.heap.size X).alloc (Nat.le_refl _) _).trans (hb.mono (by simp))).cell (World.block_lt_of_cell? X _ z4)).trans z4, ((((Below.refl X.heap.size X).alloc (Nat.le_refl _) _).trans (hb.mono (by simp))).cell (World.block_lt_of_cell? X _ z5)).trans z5⟩
 · rw [hb.frozen (by simp)]; simp [go_sem]
 · rw [hb.frozen (by simp; omega), ((Below.refl X.heap.size X).alloc (Nat.le_refl _) _).frozen (p := ⟨A, j, none⟩) h0]; exact fz j
 all_goals (rw [hb.cell (by simp)]; simp [go_sem])
theorem keep2 {X w4 : World} {A B : Nat} {x0 x1 x2 x3 x4 x5 y0 y1 y2 y3 y4 y5 : Value} (hb : Below X.heap.size X w4) (fo : ∀ j, X.frozen? ⟨B, j, none⟩ = false) (fz : ∀ j, X.frozen? ⟨A, j, none⟩ = false) (c0 : X.cell? ⟨B, 0, none⟩ = some x0) (c1 : X.cell? ⟨B, 1, none⟩ = some x1) (c2 : X.cell? ⟨B, 2, none⟩ = some x2) (c3 : X.cell? ⟨B, 3, none⟩ = some x3) (c4 : X.cell? ⟨B, 4, none⟩ = some x4) (c5 : X.cell? ⟨B, 5, none⟩ = some x5) (z0 : X.cell? ⟨A, 0, none⟩ = some y0) (z1 : X.cell? ⟨A, 1, none⟩ = some y1) (z2 : X.cell? ⟨A, 2, none⟩ = some y2) (z3 : X.cell? ⟨A, 3, none⟩ = some y3) (z4 : X.cell? ⟨A, 4, none⟩ = some y4) (z5 : X.cell? ⟨A, 5, none⟩ = some y5) :
 (∀ j, w4.frozen? ⟨B, j, none⟩ = false) ∧ (∀ j, w4.frozen? ⟨A, j, none⟩ = false) ∧ w4.cell? ⟨B, 0, none⟩ = some x0 ∧ w4.cell? ⟨B, 1, none⟩ = some x1 ∧ w4.cell? ⟨B, 2, none⟩ = some x2 ∧ w4.cell? ⟨B, 3, none⟩ = some x3 ∧ w4.cell? ⟨B, 4, none⟩ = some x4 ∧ w4.cell? ⟨B, 5, none⟩ = some x5 ∧ w4.cell? ⟨A, 0, none⟩ = some y0 ∧ w4.cell? ⟨A, 1, none⟩ = some y1 ∧ w4.cell? ⟨A, 2, none⟩ = some y2 ∧ w4.cell? ⟨A, 3, none⟩ = some y3 ∧ w4.cell? ⟨A, 4, none⟩ = some y4 ∧ w4.cell? ⟨A, 5, none⟩ = some y5 :=
 ⟨fun j => (hb.frozen (p := ⟨B, j, none⟩) (show B < X.heap.size from World.block_lt_of_cell? X ⟨B, 0, none⟩ c0)).trans (fo j), fun j => (hb.frozen (p := ⟨A, j, none⟩) (show A < X.heap.size from World.block_lt_of_cell? X ⟨A, 0, none⟩ z0)).trans (fz j), (hb.cell (World.block_lt_of_cell? X _ c0)).trans c0, (hb.cell (World.block_lt_of_cell? X _ c1)).trans c1, (hb.cell (World.block_lt_of_cell? X _ c2)).trans c2, (hb.cell (World.block_lt_of_cell? X _ c3)).trans c3, (hb.cell (World.block_lt_of_cell? X _ c4)).trans c4, (hb.cell (World.block_lt_of_cell? X _ c5)).trans c5, (hb.cell (World.block_lt_of_cell? X _ z0)).trans z0, (hb.cell (World.block_lt_of_cell? X _ z1)).trans z1, (hb.cell (World.block_lt_of_cell? X _ z2)).trans z2, (hb.cell (World.block_lt_of_cell? X _ z3)).trans z3, (hb.cell (World.block_lt_of_cell? X _ z4)).trans z4, (hb.cell (World.block_lt_of_cell? X _ z5)).trans z5⟩
end Go.Proofs.YtjjikhaaimfneaaGreatDoor
namespace Go.Proofs.YtjjikhaaimfneaaGreatDoor
open Go.RowKit
set_option linter.unusedSimpArgs false
set_option linter.unusedVariables false
def IntsAt (w : World) (a : Option Addr) (n c : Nat) (xs : List Int) : Prop :=
 xs.length = n ∧ n ≤ c ∧ n ≤ 17592186044416 ∧ (0 < n → ∃ ad, a = some ad ∧ ad.block < w.heap.size ∧ ∀ (j : Nat) (x : Int), xs[j]? = some x → w.cell? (ad.add j) = some (.int .i64 x))
theorem block_add (a : Addr) (n : Nat) : (a.add n).block = a.block := by unfold Addr.add; split <;> rfl
section
variable {w w' : World} {a : Option Addr} {n c : Nat} {xs : List Int}
theorem IntsAt.len (h : IntsAt w a n c xs) : xs.length = n := h.1
theorem IntsAt.cap (h : IntsAt w a n c xs) : n ≤ c := h.2.1
theorem IntsAt.lim (h : IntsAt w a n c xs) : n ≤ 17592186044416 := h.2.2.1
theorem IntsAt.below (h : IntsAt w a n c xs) (hb : Below w.heap.size w w') : IntsAt w' a n c xs :=
 ⟨h.1, h.2.1, h.2.2.1, fun hn => by
  obtain ⟨ad, e, hlt, hc⟩ := h.2.2.2 hn
  exact ⟨ad, e, Nat.lt_of_lt_of_le hlt hb.size, fun j x hx => (hb.cell (by rw [block_add]; exact hlt)).trans (hc j x hx)⟩⟩
theorem IntsAt.at_ {k : Nat} (h : IntsAt w a n c xs) (hk : k < n) : ∃ ad, a = some ad ∧ ad.block < w.heap.size ∧ w.cell? (ad.add k) = some (.int .i64 (xs.getD k 0)) := by
 obtain ⟨ad, e, hlt, hc⟩ := h.2.2.2 (by omega)
 have hl : k < xs.length := by rw [h.1]; exact hk
 refine ⟨ad, e, hlt, hc k _ ?_⟩
 rw [List.getD_eq_getElem?_getD, List.getElem?_eq_getElem hl]; rfl
theorem IntsAt.get {k : Nat} (h : IntsAt w a n c xs) (hk : k < n) : ∃ ad x, a = some ad ∧ ad.block < w.heap.size ∧ w.cell? (ad.add k) = some (.int .i64 x) ∧ Hid (xs[k]? = some x) := by
 obtain ⟨ad, e, hlt, hc⟩ := h.2.2.2 (by omega)
 have hl : k < xs.length := by rw [h.1]; exact hk
 exact ⟨ad, xs[k], e, hlt, hc k _ (List.getElem?_eq_getElem hl), List.getElem?_eq_getElem hl⟩
theorem IntsAt.getB {k : Nat} (h : IntsAt w a n c xs) (hb : Below w.heap.size w w') (hk : k < n) : ∃ ad x, a = some ad ∧ (ad.add k).block < w.heap.size ∧ w'.cell? (ad.add k) = some (.int .i64 x) ∧ Hid (xs[k]? = some x) := by
 obtain ⟨ad, x, e, hlt, hc, hx⟩ := h.get hk
 exact ⟨ad, x, e, by rw [block_add]; exact hlt, (hb.cell (by rw [block_add]; exact hlt)).trans hc, hx⟩
theorem IntsAt.getS {k : Nat} (h : IntsAt w a n c xs) (hb : Below w.heap.size w w') (hk : k + 1 < n) : ∃ ad x, a = some ad ∧ ad.block < w.heap.size ∧ w'.cell? ⟨ad.block, ad.off + (k + 1), none⟩ = some (.int .i64 x) ∧ Hid (xs[k + 1]? = some x) := by
 obtain ⟨ad, x, e, hlt, hc, hx⟩ := h.get hk
 have e1 : ad.add (k + 1) = ⟨ad.block, ad.off + (k + 1), none⟩ := by unfold Addr.add; simp
 rw [e1] at hc
 exact ⟨ad, x, e, hlt, (hb.cell (by exact hlt)).trans hc, hx⟩
theorem IntsAt.get0 (h : IntsAt w a n c xs) (hb : Below w.heap.size w w') (hk : 0 < n) : ∃ ad x, a = some ad ∧ ad.block < w.heap.size ∧ w'.cell? ad = some (.int .i64 x) ∧ Hid (xs[0]? = some x) := by
 obtain ⟨ad, x, e, hlt, hc, hx⟩ := h.get hk
 have e1 : ad.add 0 = ad := by unfold Addr.add; simp
 rw [e1] at hc
 exact ⟨ad, x, e, hlt, (hb.cell hlt).trans hc, hx⟩
theorem IntsAt.nil_ (w : World) : IntsAt w none 0 0 [] := ⟨rfl, Nat.le_refl _, by omega, fun h => absurd h (by omega)⟩
theorem IntsAt.of_own {B : Nat} {e : TypeId} {v : Value} (h : w.ownsRow B e 1 v xs.length (xs.map (Value.int .i64))) (hl : xs.length ≤ 17592186044416) :
 ∃ a c, v = .slice a xs.length c ∧ IntsAt w a xs.length c xs := by
 rcases h.2 with ⟨rfl, h0⟩ | ⟨g, cap, cur, rfl, _, hg, hn, _, hs, hx⟩
 · have : xs = [] := List.eq_nil_of_length_eq_zero h0
   subst this
   exact ⟨none, 0, rfl, IntsAt.nil_ w⟩
 · refine ⟨_, _, rfl, rfl, hn, hl, fun h0 => ⟨_, rfl, ?_, fun j x hj => ?_⟩⟩
   · rcases Nat.lt_or_ge g w.heap.size with h1 | h1
     · exact h1
     · rw [Array.getElem?_eq_none h1] at hg; cases hg
   · have hjl := (List.getElem?_eq_some_iff.1 hj).1
     have e1 : (⟨g, 0, none⟩ : Addr).add j = ⟨g, j, none⟩ := by unfold Addr.add; split <;> simp_all
     rw [e1]
     have e2 : w.cell? ⟨g, j, none⟩ = cur[j]? := by simp [World.cell?, hg]
     rw [e2]
     have e3 : (cur.toList.take (xs.length * 1))[j]? = some (.int .i64 x) := by rw [hx, List.getElem?_map, hj]; rfl
     rw [List.getElem?_take, if_pos (by omega)] at e3
     simpa using e3
end
theorem own_next {w : World} {B : Nat} {e : TypeId} {v : Value} {ys : List Int} {k : Nat} {x : Int} (hk : k < ys.length) (hx : x = ys.getD k 0)
 (h : w.ownsRow B e 1 v (k + 1) ((ys.take k).map (Value.int .i64) ++ [.int .i64 x])) : w.ownsRow B e 1 v (k + 1) ((ys.take (k + 1)).map (Value.int .i64)) := by
 have : ys.take (k + 1) = ys.take k ++ [x] := by
  rw [List.take_succ_eq_append_getElem hk, hx, List.getD_eq_getElem?_getD, List.getElem?_eq_getElem hk]; rfl
 rw [this, List.map_append]
 exact h
theorem own_all {w : World} {B : Nat} {e : TypeId} {v : Value} {ys : List Int} {k : Nat} (hk : k = ys.length) (h : w.ownsRow B e 1 v k ((ys.take k).map (Value.int .i64))) : w.ownsRow B e 1 v ys.length (ys.map (Value.int .i64)) := by
 subst hk; rwa [List.take_length] at h
theorem own_start (w : World) (B : Nat) (e : TypeId) (ys : List Int) : w.ownsRow B e 1 (.slice none 0 0) 0 ((ys.take 0).map (Value.int .i64)) := ⟨by simp, .inl ⟨rfl, rfl⟩⟩
theorem own_row {w : World} {B : Nat} {e : TypeId} {v : Value} {n : Nat} {xs : List Value} (h : w.ownsRow B e 1 v n xs) : ∀ k, v.ownBlock = some k → B ≤ k := by
 intro k hk
 rcases h.2 with ⟨rfl, _⟩ | ⟨g, cap, cur, rfl, hg, _⟩
 · simp [Value.ownBlock] at hk
 · simp [Value.ownBlock] at hk; omega
theorem own_far {w : World} {B g : Nat} {e : TypeId} {v : Value} {n : Nat} {xs : List Value} (h : w.ownsRow B e 1 v n xs) (hg : g < B) : some g ≠ v.ownBlock := fun hk => by
 have := own_row h g hk.symm; omega
theorem grown_cell {w w0 w1 : World} {B : Nat} {e : TypeId} {v : Value} {n : Nat} {xs : List Value} {ad : Addr} {u : Value} (hg : w0.grownBy w1 v.ownBlock) (h : w.ownsRow B e 1 v n xs) (hb : ad.block < B) (hB : B ≤ w0.heap.size) (hc : w0.cell? ad = some u) : w1.cell? ad = some u :=
 (hg.cell_far _ (by omega) (own_far h hb)).trans hc
theorem own_form {w : World} {B : Nat} {e : TypeId} {v : Value} {k : Nat} {xs : List Value} (h : w.ownsRow B e 1 v (k + 1) xs) :
 ∃ g cap, v = .slice (some ⟨g, 0, none⟩) (k + 1) cap ∧ B ≤ g ∧ g < w.heap.size ∧ k + 1 ≤ cap ∧ (∀ j u, xs[j]? = some u → w.cell? ⟨g, j, none⟩ = some u) ∧ (∀ j, w.frozen? ⟨g, j, none⟩ = false) := by
 obtain ⟨hl, h⟩ := h
 rcases h with ⟨_, h⟩ | ⟨g, cap, cur, rfl, hg, hh, hn, _, hs, hx⟩
 · omega
 · refine ⟨g, cap, rfl, hg, ?_, hn, fun j u hj => ?_, fun j => by simp [World.frozen?, hh]⟩
   · rcases Nat.lt_or_ge g w.heap.size with h1 | h1
     · exact h1
     · rw [Array.getElem?_eq_none h1] at hh; cases hh
   · rw [← hx, List.getElem?_take] at hj
     split at hj
     · simp [World.cell?, hh]; simpa using hj
     · cases hj
theorem own_one (w : World) (B : Nat) (e : TypeId) (x : Int) (ys : List Int) (hy : 0 < ys.length) (hx : x = ys.getD 0 0) (hB : B ≤ w.heap.size) : (w.alloc (.cells #[.int .i64 x] e)).ownsRow B e 1 (.slice (some ⟨w.heap.size, 0, none⟩) 1 1) 1 ((ys.take 1).map (Value.int .i64)) := by
 have e1 : ys.take 1 = [x] := by
  cases ys with
  | nil => simp at hy
  | cons y ys => simp at hx; subst hx; rfl
 rw [e1]
 exact ⟨rfl, .inr ⟨w.heap.size, 1, #[.int .i64 x], rfl, hB, heap_alloc_new w _, Nat.le_refl _, by unfold maxLen; omega, rfl, rfl⟩⟩
theorem getD_of {xs : List Int} {k : Nat} {x : Int} (h : xs[k]? = some x) : xs.getD k 0 = x := by rw [List.getD_eq_getElem?_getD, h]; rfl
def IsB (P : Prop) (e : Ending) : Prop := ∃ r : Bool, (r = true ↔ P) ∧ e = .returned (.bool r)
theorem IsB.t {P : Prop} (h : P) : IsB P (.returned (.bool true)) := ⟨true, by simp [h], rfl⟩
theorem IsB.f {P : Prop} (h : ¬ P) : IsB P (.returned (.bool false)) := ⟨false, by simp [h], rfl⟩
theorem IsB.d {P : Prop} {b : Bool} (h : b = true ↔ P) : IsB P (.returned (.bool b)) := ⟨b, h, rfl⟩
theorem callT {P : Program} {f : FuncId} {args : Array Value} {w : World} {p : Prop} {Q : World → Prop} (h : Calls P f args w fun e w' => IsB p e ∧ Q w') (hp : p) : Calls P f args w fun e w' => e = .returned (.bool true) ∧ Q w' :=
 h.mono fun _ _ ⟨⟨r, hr, he⟩, hq⟩ => ⟨by rw [he]; exact retB (hr.2 hp), hq⟩
theorem callF {P : Program} {f : FuncId} {args : Array Value} {w : World} {p : Prop} {Q : World → Prop} (h : Calls P f args w fun e w' => IsB p e ∧ Q w') (hp : ¬ p) : Calls P f args w fun e w' => e = .returned (.bool false) ∧ Q w' :=
 h.mono fun _ _ ⟨⟨r, hr, he⟩, hq⟩ => ⟨by rw [he]; exact retB (by cases r; rfl; exact absurd (hr.1 rfl) hp), hq⟩
end Go.Proofs.YtjjikhaaimfneaaGreatDoor
namespace Go.Proofs.YtjjikhaaimfneaaGreatDoor
open Go.RowKit Go.ChangeShapes Go.WideShapes
set_option linter.unusedSimpArgs false
set_option linter.unusedVariables false
section
variable {H : Type} {enc : TypeId × Value → H} {P : Program} {w : World} {base : Nat} {spare : Nat → Bool} {held : Bool}
def flatI (P : Program) : Nat → TypeId → Bool
 | 0, _ => false
 | k + 1, t => match P.underlying t with
   | some (.int .i64) => true
   | some (.struct fs) =>
     ((List.range (P.cellsOf t)).all fun j => (List.range fs.size).any fun i => match fs[i]? with
       | some f => decide (f.offset ≤ j) && decide (j < f.offset + P.cellsOf f.type)
       | none => false) &&
     ((List.range fs.size).all fun i => match fs[i]? with
       | some f => flatI P k f.type
       | none => false)
   | some (.array n e) => flatI P k e && decide (0 < P.cellsOf e) && decide (P.cellsOf t = n * P.cellsOf e)
   | _ => false
theorem flat_cells : ∀ (k : Nat) (t : TypeId) (fuel : Nat) (cs : List Value) (x : DataW H × List MemPlace), flatI P k t = true → DataW.trod enc P w base spare held fuel t cs = some x →
 ∀ (j : Nat) (v : Value), cs[j]? = some v → ∃ n : Int, v = .int .i64 n ∧ (Lit.int .i64 n).wf = true := by
 intro k
 induction k with
 | zero => intro t fuel cs x h; simp [flatI] at h
 | succ k ih =>
   intro t fuel cs x h hr j v hj
   unfold flatI at h
   split at h
   · rename_i hu
     obtain ⟨n, rfl, _, hw⟩ := DataW.trod_int hu hr
     have hj0 : j = 0 := by
      rcases Nat.eq_zero_or_pos j with h0 | h0
      · exact h0
      · rw [List.getElem?_eq_none (by simp; omega)] at hj; cases hj
     subst hj0
     simp at hj
     exact ⟨n, hj.symm, hw⟩
   · rename_i fs hu
     obtain ⟨xs, n, _, _, hcl, hxl, hg⟩ := DataW.trod_struct hu hr
     have hjl : j < cs.length := (List.getElem?_eq_some_iff.1 hj).1
     simp only [Bool.and_eq_true, List.all_eq_true, List.any_eq_true, List.mem_range] at h
     obtain ⟨h1, h2⟩ := h
     obtain ⟨i, hi, hf⟩ := h1 j (by omega)
     have hfs : fs[i]? = some fs[i] := Array.getElem?_eq_getElem hi
     have h3 := h2 i hi
     rw [hfs] at hf h3
     simp only [Bool.and_eq_true, decide_eq_true_eq] at hf
     have hgi := hg i fs[i] hfs
     have hxi : xs[i]? = some (xs[i]'(by omega)) := List.getElem?_eq_getElem (by omega)
     rw [hxi] at hgi
     refine ih _ _ _ _ h3 hgi (j - fs[i].offset) v ?_
     rw [List.getElem?_take, if_pos (by omega), List.getElem?_drop, show fs[i].offset + (j - fs[i].offset) = j from by omega]
     exact hj
   · rename_i n e hu
     obtain ⟨xs, m, _, _, hcl, hxl, hg⟩ := DataW.trod_array hu hr
     have hjl : j < cs.length := (List.getElem?_eq_some_iff.1 hj).1
     simp only [Bool.and_eq_true, decide_eq_true_eq] at h
     obtain ⟨⟨h1, h2⟩, h3⟩ := h
     have hi : j / P.cellsOf e < n := by rw [Nat.div_lt_iff_lt_mul h2]; omega
     have hgi := hg _ hi
     have hxi : xs[j / P.cellsOf e]? = some (xs[j / P.cellsOf e]'(by omega)) := List.getElem?_eq_getElem (by omega)
     rw [hxi] at hgi
     have hm := Nat.div_add_mod j (P.cellsOf e)
     have hm' : P.cellsOf e * (j / P.cellsOf e) = j / P.cellsOf e * P.cellsOf e := Nat.mul_comm _ _
     refine ih _ _ _ _ h1 hgi (j % P.cellsOf e) v ?_
     rw [List.getElem?_take, if_pos (Nat.mod_lt _ h2), List.getElem?_drop, show j / P.cellsOf e * P.cellsOf e + j % P.cellsOf e = j from by omega]
     exact hj
   · cases h
theorem list_of_cells (cs : List Value) (h : ∀ (j : Nat) (v : Value), cs[j]? = some v → ∃ n : Int, v = .int .i64 n ∧ (Lit.int .i64 n).wf = true) :
 ∃ l : List Int, cs = l.map (Value.int .i64) ∧ ∀ x ∈ l, (Lit.int .i64 x).wf = true := by
 induction cs with
 | nil => exact ⟨[], rfl, by simp⟩
 | cons c cs ih =>
   obtain ⟨n, rfl, hn⟩ := h 0 c rfl
   obtain ⟨l, rfl, hl⟩ := ih (fun j v hj => h (j + 1) v (by simpa using hj))
   refine ⟨n :: l, rfl, fun x hx => ?_⟩
   rcases List.mem_cons.1 hx with rfl | hx
   · exact hn
   · exact hl x hx
theorem open_flat {r : Reach} {b0 : Nat} {t : TypeId} {k n : Nat} {v : Value} {d : DataW H} {p : List MemPlace} (hfl : flatI P k t = true) (hC : P.cellsOf t = n) (hag : (match P.underlying t with | some (.struct _) => true | some (.array _ _) => true | _ => false) = true)
 (hv : Value.okWide P w r b0 t v) (h : DataW.Trod enc P w base spare held t v d p) : ∃ l : List Int, l.length = n ∧ v = .agg (l.map (Value.int .i64)).toArray ∧ ∀ x ∈ l, (Lit.int .i64 x).wf = true := by
 have : ∃ cs : Array Value, v = .agg cs ∧ cs.size = P.cellsOf t := by
  unfold Value.okWide at hv
  split at hv
  · obtain ⟨cs, h1, h2, _⟩ := hv; exact ⟨cs, h1, h2⟩
  · obtain ⟨cs, h1, h2, _⟩ := hv; exact ⟨cs, h1, h2⟩
  · rename_i h1 h2
    split at hag
    · rename_i fs hu; exact absurd hu (h1 fs)
    · rename_i m e hu; exact absurd hu (h2 m e)
    · cases hag
 obtain ⟨⟨cs⟩, rfl, hsz⟩ := this
 obtain ⟨fuel, hf⟩ := h
 have hc : ∀ (j : Nat) (v : Value), cs[j]? = some v → ∃ n : Int, v = .int .i64 n ∧ (Lit.int .i64 n).wf = true := flat_cells k t fuel cs _ hfl hf
 obtain ⟨l, rfl, hl⟩ := list_of_cells cs hc
 exact ⟨l, by simpa [hC] using hsz, by simp, hl⟩
end
theorem len2 {l : List Int} (h : l.length = 2) : ∃ a b, l = [a, b] := by
 match l, h with
 | [a, b], _ => exact ⟨a, b, rfl⟩
theorem len5 {l : List Int} (h : l.length = 5) : ∃ a b c d e, l = [a, b, c, d, e] := by
 match l, h with
 | [a, b, c, d, e], _ => exact ⟨a, b, c, d, e, rfl⟩
theorem len6 {l : List Int} (h : l.length = 6) : ∃ a b c d e f, l = [a, b, c, d, e, f] := by
 match l, h with
 | [a, b, c, d, e, f], _ => exact ⟨a, b, c, d, e, f, rfl⟩
theorem len14 {l : List Int} (h : l.length = 14) : ∃ a0 a1 a2 a3 a4 a5 a6 a7 a8 a9 a10 a11 a12 a13, l = [a0, a1, a2, a3, a4, a5, a6, a7, a8, a9, a10, a11, a12, a13] := by
 match l, h with
 | [a0, a1, a2, a3, a4, a5, a6, a7, a8, a9, a10, a11, a12, a13], _ => exact ⟨a0, a1, a2, a3, a4, a5, a6, a7, a8, a9, a10, a11, a12, a13, rfl⟩
section
variable {H : Type} {enc : TypeId × Value → H} {P : Program} {w : World} {base : Nat} {spare : Nat → Bool}
open Go.ChangeShapes
theorem open_ints_at {t e : TypeId} {a : Option Addr} {n c : Nat} {d : DataW H} {p : List MemPlace} (ht : P.underlying t = some (.slice e)) (he : P.underlying e = some (.int .i64)) (hcell : P.cellsOf e = 1)
 (h : DataW.Trod enc P w base (fun _ => true) true t (.slice a n c) d p) : ∃ xs : List Int, xs.length = n ∧ n ≤ c ∧ (∀ x ∈ xs, (Lit.int .i64 x).wf = true) ∧ (0 < n → ∃ ad, a = some ad ∧ ad.block < w.heap.size ∧ ∀ (j : Nat) (x : Int), xs[j]? = some x → w.cell? (ad.add j) = some (.int .i64 x)) ∧
  ∃ es sp, d = .nil ∧ n = 0 ∨ d = .slice es sp ∧ es.length + sp.length = c := by
 obtain ⟨fuel, hf⟩ := h
 rcases open_ints ht he hcell hf with ⟨hcs, hx⟩ | ⟨x, l, c', zs, hcs, hbx, hl, hm, hz, hx, hc, hwz⟩
 · simp [Value.cells] at hcs hx
   obtain ⟨rfl, rfl, rfl⟩ := hcs
   exact ⟨[], rfl, Nat.le_refl _, by simp, fun h => absurd h (by omega), [], [], .inl ⟨hx.1, rfl⟩⟩
 · simp [Value.cells] at hcs
   obtain ⟨rfl, rfl, rfl⟩ := hcs
   simp at hz
   refine ⟨zs.take n, by simp; omega, hl, fun y hy => hwz y (List.mem_of_mem_take hy), fun hn => ⟨x, rfl, ?_, fun j y hj => ?_⟩, ?_⟩
   · have h0 := hc 0 (by omega)
     have := World.block_lt_of_cell? w _ h0
     rwa [block_add] at this
   · have hjn : j < n := by
      have := (List.getElem?_eq_some_iff.1 hj).1
      simp at this; omega
     rw [List.getElem?_take, if_pos hjn] at hj
     rw [hc j (by omega), List.getD_eq_getElem?_getD, hj]
     rfl
   · have hd := (Prod.mk.inj hx).1
     exact ⟨_, _, .inr ⟨hd, by simp [lits]; omega⟩⟩
end
end Go.Proofs.YtjjikhaaimfneaaGreatDoor
namespace Go.Proofs.YtjjikhaaimfneaaGreatDoor
set_option linter.unusedSimpArgs false
set_option linter.unusedVariables false
theorem index_sp (b : List UInt8) : ∀ a : List UInt8, 32 ∉ a → Lib.index (a ++ 32 :: b) [32] = a.length
 | [], _ => by simp [Lib.index]
 | x :: a, h => by
   have h1 : x ≠ 32 := fun e => h (by rw [e]; simp)
   have ih := index_sp b a (fun e => h (List.mem_cons_of_mem _ e))
   have hx : (32 == x) = false := by simp; exact fun e => h1 e.symm
   rw [List.cons_append, Lib.index]
   simp only [List.isPrefixOf, hx, Bool.false_and]
   rw [ih, if_neg (by simp), if_neg (by simp)]
   simp
theorem index_no : ∀ a : List UInt8, 32 ∉ a → Lib.index a [32] = -1
 | [], _ => by simp [Lib.index]
 | x :: a, h => by
   have h1 : x ≠ 32 := fun e => h (by rw [e]; simp)
   have ih := index_no a (fun e => h (List.mem_cons_of_mem _ e))
   have hx : (32 == x) = false := by simp; exact fun e => h1 e.symm
   rw [Lib.index]
   simp only [List.isPrefixOf, hx, Bool.false_and]
   rw [ih, if_neg (by simp), if_pos (by simp)]
theorem splitK_sp {a b : List UInt8} {k : Nat} (h : 32 ∉ a) : Lib.splitK [32] 0 (k + 1) (a ++ 32 :: b) = a :: Lib.splitK [32] 0 k b := by
 have e := index_sp b a h
 rw [Lib.splitK, e, if_neg (by simp)]
 have hd : List.drop (a.length + 1) a = [] := List.drop_eq_nil_of_le (by omega)
 simp [List.drop_append, hd]
theorem splitK_one {a : List UInt8} (k : Nat) (h : 32 ∉ a) : Lib.splitK [32] 0 k a = [a] := by
 cases k with
 | zero => rfl
 | succ k => rw [Lib.splitK, index_no a h, if_pos (by simp)]
def join5 (a b c d e : List UInt8) : List UInt8 := a ++ 32 :: (b ++ 32 :: (c ++ 32 :: (d ++ 32 :: e)))
theorem join5_is (a b c d e : List UInt8) : Lib.join [a, b, c, d, e] [32] = join5 a b c d e := by
 simp [Lib.join, List.intercalate, join5]
theorem join5_split {a b c d e : List UInt8} (ha : 32 ∉ a) (hb : 32 ∉ b) (hc : 32 ∉ c) (hd : 32 ∉ d) (he : 32 ∉ e) : Lib.splitK [32] 0 4 (join5 a b c d e) = [a, b, c, d, e] := by
 unfold join5
 rw [splitK_sp ha, splitK_sp hb, splitK_sp hc, splitK_sp hd, splitK_one _ he]
theorem join5_count {a b c d e : List UInt8} (ha : 32 ∉ a) (hb : 32 ∉ b) (hc : 32 ∉ c) (hd : 32 ∉ d) (he : 32 ∉ e) : (join5 a b c d e).count 32 = 4 := by
 unfold join5
 simp [List.count_append, List.count_eq_zero.2 ha, List.count_eq_zero.2 hb, List.count_eq_zero.2 hc, List.count_eq_zero.2 hd, List.count_eq_zero.2 he]
def veL : List UInt8 := [118, 101, 103, 97, 115]
def coL : List UInt8 := [99, 111, 112, 97]
def leL : List UInt8 := [108, 101, 100, 98, 97, 116]
def nameL (k : Int) : List UInt8 := if k = 1 then veL else if k = 2 then coL else leL
def digL (n : Nat) : List UInt8 := if n < 10 then [UInt8.ofNat (48 + n)] else [UInt8.ofNat (48 + n / 10), UInt8.ofNat (48 + n % 10)]
theorem itoa_dig {n : Nat} (h : n < 100) : Lib.itoa (n : Int) = digL n := by
 unfold Lib.itoa digL
 rw [if_neg (by omega)]
 by_cases h1 : n < 10
 · rw [if_pos h1]; simpa using Lib.decDigits_one h1
 · rw [if_neg h1]; simpa using Lib.decDigits_two h1 h
theorem dig_fin : ∀ n : Fin 17, 32 ∉ digL n.val ∧ Lib.atoiAll (digL n.val) = .ok (n.val : Int) := by decide +kernel
theorem itoa_no {n : Int} (h0 : 0 ≤ n) (h1 : n ≤ 16) : 32 ∉ Lib.itoa n := by
 obtain ⟨m, rfl⟩ : ∃ m : Nat, n = (m : Int) := ⟨n.toNat, by omega⟩
 rw [itoa_dig (by omega)]; exact (dig_fin ⟨m, by omega⟩).1
theorem atoi_itoa {n : Int} (h0 : 0 ≤ n) (h1 : n ≤ 16) : Lib.atoiAll (Lib.itoa n) = .ok n := by
 obtain ⟨m, rfl⟩ : ∃ m : Nat, n = (m : Int) := ⟨n.toNat, by omega⟩
 rw [itoa_dig (by omega)]; exact (dig_fin ⟨m, by omega⟩).2
theorem name_no {k : Int} : 32 ∉ nameL k := by
 unfold nameL; split
 · decide
 · split <;> decide
def kindL (p : List UInt8) : Int := if p = leL then 3 else if p = coL then 2 else if p = veL then 1 else 0
theorem kind_name {k : Int} (h : 1 ≤ k ∧ k ≤ 3) : kindL (nameL k) = k := by
 rcases (show k = 1 ∨ k = 2 ∨ k = 3 by omega) with rfl | rfl | rfl <;> decide
def numL (l : List UInt8) : Int := match Lib.atoiAll l with
 | .ok v => v
 | .range => Lib.atoiSat l
 | _ => 0
theorem num_itoa {n : Int} (h0 : 0 ≤ n) (h1 : n ≤ 16) : numL (Lib.itoa n) = n := by unfold numL; rw [atoi_itoa h0 h1]
def ROk (k0 k1 R Q J : Int) : Prop := (1 ≤ k0 ∧ k0 ≤ 3) ∧ (1 ≤ k1 ∧ k1 ≤ 3) ∧ (1 ≤ R ∧ R ≤ 12) ∧ (0 ≤ Q ∧ Q ≤ 16) ∧ 0 ≤ J ∧ J ≤ 3
def textL (k0 k1 R Q J : Int) : List UInt8 := join5 (nameL k0) (nameL k1) (Lib.itoa R) (Lib.itoa Q) (Lib.itoa J)
def piecesL (s : List UInt8) : List (List UInt8) := Lib.splitK [32] 0 (s.count 32) s
theorem text_pieces {k0 k1 R Q J : Int} (h : ROk k0 k1 R Q J) : piecesL (textL k0 k1 R Q J) = [nameL k0, nameL k1, Lib.itoa R, Lib.itoa Q, Lib.itoa J] := by
 obtain ⟨h0, h1, h2, h3, h4⟩ := h
 unfold piecesL textL
 rw [join5_count name_no name_no (itoa_no (by omega) (by omega)) (itoa_no (by omega) (by omega)) (itoa_no (by omega) (by omega))]
 exact join5_split name_no name_no (itoa_no (by omega) (by omega)) (itoa_no (by omega) (by omega)) (itoa_no (by omega) (by omega))
theorem text_one {k0 k1 R Q J k0' k1' R' Q' J' : Int} (h : ROk k0 k1 R Q J) (h' : ROk k0' k1' R' Q' J') (e : textL k0 k1 R Q J = textL k0' k1' R' Q' J') : k0 = k0' ∧ k1 = k1' ∧ R = R' ∧ Q = Q' ∧ J = J' := by
 have e1 := text_pieces h
 rw [e, text_pieces h'] at e1
 simp only [List.cons.injEq, and_true] at e1
 obtain ⟨a, b, c, d, f⟩ := e1
 obtain ⟨h0, h1, h2, h3, h4⟩ := h
 obtain ⟨h0', h1', h2', h3', h4'⟩ := h'
 have a' := congrArg kindL a
 have b' := congrArg kindL b
 have c' := congrArg numL c
 have d' := congrArg numL d
 have f' := congrArg numL f
 rw [kind_name h0, kind_name h0'] at a'
 rw [kind_name h1, kind_name h1'] at b'
 rw [num_itoa (by omega) (by omega), num_itoa (by omega) (by omega)] at c' d' f'
 exact ⟨a'.symm, b'.symm, c'.symm, d'.symm, f'.symm⟩
def PSays (s : List UInt8) (k0 k1 R Q J e : Int) : Prop :=
 (ROk k0 k1 R Q J ∧ s = textL k0 k1 R Q J ∧ e = 0) ∨ ((∀ k0 k1 R Q J, ROk k0 k1 R Q J → s ≠ textL k0 k1 R Q J) ∧ k0 = 0 ∧ k1 = 0 ∧ R = 0 ∧ Q = 0 ∧ J = 0 ∧ e = 1)
theorem psays_one {s : List UInt8} {k0 k1 R Q J e k0' k1' R' Q' J' e' : Int} (h : PSays s k0 k1 R Q J e) (h' : PSays s k0' k1' R' Q' J' e') : k0 = k0' ∧ k1 = k1' ∧ R = R' ∧ Q = Q' ∧ J = J' ∧ e = e' := by
 rcases h with ⟨h1, h2, h3⟩ | ⟨h1, rfl, rfl, rfl, rfl, rfl, rfl⟩ <;> rcases h' with ⟨h1', h2', h3'⟩ | ⟨h1', rfl, rfl, rfl, rfl, rfl, rfl⟩
 · obtain ⟨a, b, c, d, f⟩ := text_one h1 h1' (by rw [← h2, ← h2'])
   exact ⟨a, b, c, d, f, by rw [h3, h3']⟩
 · exact absurd h2 (h1' _ _ _ _ _ h1)
 · exact absurd h2' (h1 _ _ _ _ _ h1')
 · exact ⟨rfl, rfl, rfl, rfl, rfl, rfl⟩
theorem psays_len {s : List UInt8} (h : s.count 32 ≠ 4) : PSays s 0 0 0 0 0 1 := .inr ⟨fun k0 k1 R Q J ho he => h (by
 obtain ⟨h0, h1, h2, h3, h4⟩ := ho
 rw [he]; unfold textL
 exact join5_count name_no name_no (itoa_no (by omega) (by omega)) (itoa_no (by omega) (by omega)) (itoa_no (by omega) (by omega))), rfl, rfl, rfl, rfl, rfl, rfl⟩
theorem psays_yes {s : List UInt8} {k0 k1 R Q J : Int} (h : ROk k0 k1 R Q J) (e : s = textL k0 k1 R Q J) : PSays s k0 k1 R Q J 0 := .inl ⟨h, e, rfl⟩
theorem psays_no {s p0 p1 p2 p3 p4 : List UInt8} (hp : piecesL s = [p0, p1, p2, p3, p4]) (h : ¬ (ROk (kindL p0) (kindL p1) (numL p2) (numL p3) (numL p4) ∧ s = textL (kindL p0) (kindL p1) (numL p2) (numL p3) (numL p4))) : PSays s 0 0 0 0 0 1 := .inr ⟨fun k0 k1 R Q J ho he => h (by
 rw [he, text_pieces ho] at hp
 simp only [List.cons.injEq, and_true] at hp
 obtain ⟨rfl, rfl, rfl, rfl, rfl⟩ := hp
 have ho' := ho
 obtain ⟨h0, h1, h2, h3, h4⟩ := ho'
 rw [kind_name h0, kind_name h1, num_itoa (by omega) (by omega), num_itoa (by omega) (by omega), num_itoa (by omega) (by omega)]
 exact ⟨ho, he⟩), rfl, rfl, rfl, rfl, rfl, rfl⟩
theorem split_is (s : ByteArray) : (Lib.splitB ⟨#[32]⟩ 0 (Lib.countB s ⟨#[32]⟩) s).map (·.data.toList) = piecesL s.data.toList := by
 rw [Lib.splitB_data]
 unfold piecesL
 rw [← Lib.count_one]
theorem fields_names : Lib.fields (veL ++ 32 :: (coL ++ 32 :: leL)) = [veL, coL, leL] := by decide +kernel
end Go.Proofs.YtjjikhaaimfneaaGreatDoor
