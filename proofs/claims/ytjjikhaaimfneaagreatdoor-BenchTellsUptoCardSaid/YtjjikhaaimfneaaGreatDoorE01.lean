/-
  Lemmas and walks for the statement: Mem, Sl, Frame.
-/
import Derived.WalkKit
import Derived.WalkSpells
import Derived.WalkLawsBesides
import Derived.Deep.QuietTactic
import Derived.BigQuiet
import Derived.Deep.RegionHeld3
import Derived.Deep.DeepMust
import Derived.Deep.DeepFit
import Derived.KernelRfl
import Derived.Laws.OwnMore
import Derived.Maps.AppendAt
import Derived.StillTailTactics
import Derived.Deep.AppendLies
import Derived.ProofKit
import Derived.OpenShut
import Derived.ChangeOld
import Derived.SizedLaws
import Derived.Carry
namespace Go.Proofs.YtjjikhaaimfneaaGreatDoor
set_option linter.unusedSimpArgs false
set_option linter.unusedVariables false
open Go.RowKit
theorem hide {p : Prop} (h : p) : Hid p := h
theorem quietL {P : Program} {f : FuncId} {args : Array Value} {w : World} {n : Nat} {v : Value}
 (h : Calls P f args (w.drewN n) fun e w' => e = .returned v ∧ w.drewN n = w') : Calls P f args (w.drewN n) fun e w'' => e = .returned v ∧ ∃ m, w'' = w.drewN m :=
 h.mono fun _ _ ⟨he, hm⟩ => ⟨he, n, hm.symm⟩
theorem retI {k : IntKind} {a b : Int} (h : a = b) : Ending.returned (.int k a) = .returned (.int k b) := by rw [h]
theorem retB {a b : Bool} (h : a = b) : Ending.returned (.bool a) = .returned (.bool b) := by rw [h]
theorem retBI {a b : Bool} (h : a = true ↔ b = true) : Ending.returned (.bool a) = .returned (.bool b) := by rw [Bool.eq_iff_iff.2 h]
theorem bcell {W w1 : World} (hb : Below W.heap.size W w1) : (∀ b o, b < W.heap.size → w1.cell? ⟨b, o, none⟩ = W.cell? ⟨b, o, none⟩) ∧ (∀ b o, b < W.heap.size → w1.frozen? ⟨b, o, none⟩ = W.frozen? ⟨b, o, none⟩) :=
 ⟨fun b o h => hb.cell (p := ⟨b, o, none⟩) h, fun b o h => hb.frozen (p := ⟨b, o, none⟩) h⟩
theorem Below.drewN {B : Nat} {a w : World} (h : Below B a w) (n : Nat) : Below B a (w.drewN n) := Go.below_drewN h n
structure Beyond (w0 : World) where
 w : World
 h : Below w0.heap.size w0 w
instance (w0 : World) : Inhabited (Beyond w0) := ⟨⟨w0, Below.refl _ _⟩⟩
theorem Beyond.cell {w0 : World} (p : Beyond w0) {a : Addr} {v : Value} (hb : a.block < w0.heap.size) (h : w0.cell? a = some v) : p.w.cell? a = some v := (p.h.cell hb).trans h
theorem wp_region_beyond {P : Program} {id : Nat} {Q : Exit → Act → World → Prop} {a : Act} {w : World} {l : List Oper} (hm : P.follows .mixedOrders = true) (hB : Region.lexB .any l.toArray = true)
 (h : wpQuiet P l.toArray (fun w' => ∃ p : Beyond w, w' = p.w) (fun a' => ∀ w', (∃ p : Beyond w, w' = p.w) → Q .normal a' w') l a) : (Code.region id l.toArray true).wp P Q a w :=
 wp_region_quiet (C := fun w' => ∃ p : Beyond w, w' = p.w) hm hB ⟨⟨_, (Below.refl w.heap.size w).drew⟩, rfl⟩ (by simpa using h)
theorem beyondCall {P : Program} {f : FuncId} {args : Array Value} {w0 : World} {p : Beyond w0} {v : Value}
 (h : Calls P f args p.w fun e w' => e = .returned v ∧ Below p.w.heap.size p.w w') : Calls P f args p.w fun e w'' => e = .returned v ∧ ∃ q : Beyond w0, w'' = q.w :=
 h.mono fun _ _ ⟨he, hb⟩ => ⟨he, ⟨_, p.h.trans (hb.mono p.h.size)⟩, rfl⟩
theorem BL {p : Prop} (h : p := by ((repeat' (first | (with_reducible exact Below.refl _ _) | (with_reducible refine Below.alloc ?_ ?_ _) | (with_reducible refine Below.setCell ?_ ?_ _) | (with_reducible refine Below.drewN ?_ _) | (with_reducible refine Below.drew ?_) | (with_reducible refine Below.trans ?_ (hb8.mono ?_)) | (with_reducible refine Below.trans ?_ (hb7.mono ?_)) | (with_reducible refine Below.trans ?_ (hb6.mono ?_)) | (with_reducible refine Below.trans ?_ (hb5.mono ?_)) | (with_reducible refine Below.trans ?_ (hb4.mono ?_)) | (with_reducible refine Below.trans ?_ (hb3.mono ?_)) | (with_reducible refine Below.trans ?_ (hb2.mono ?_)) | (with_reducible refine Below.trans ?_ (hb1.mono ?_)) | (with_reducible refine Below.trans ?_ (hb.mono ?_)) | omega | (simp; done) | (simp; omega))); first | done | fail "BL")) : p := h
theorem boxes26 {w w1 : World} {T : TypeId} {x0 x1 x2 x3 x4 x5 y0 y1 y2 y3 y4 y5 : Value} (hb : Below ((w.alloc (.cells #[x0, x1, x2, x3, x4, x5] T)).alloc (.cells #[y0, y1, y2, y3, y4, y5] T)).heap.size ((w.alloc (.cells #[x0, x1, x2, x3, x4, x5] T)).alloc (.cells #[y0, y1, y2, y3, y4, y5] T)) w1) :
 (∀ j, w1.frozen? ⟨w.heap.size + 1, j, none⟩ = false) ∧ (∀ j, w1.frozen? ⟨w.heap.size, j, none⟩ = false) ∧
 w1.cell? ⟨w.heap.size, 0, none⟩ = some x0 ∧ w1.cell? ⟨w.heap.size, 1, none⟩ = some x1 ∧ w1.cell? ⟨w.heap.size, 2, none⟩ = some x2 ∧ w1.cell? ⟨w.heap.size, 3, none⟩ = some x3 ∧ w1.cell? ⟨w.heap.size, 4, none⟩ = some x4 ∧ w1.cell? ⟨w.heap.size, 5, none⟩ = some x5 ∧
 w1.cell? ⟨w.heap.size + 1, 0, none⟩ = some y0 ∧ w1.cell? ⟨w.heap.size + 1, 1, none⟩ = some y1 ∧ w1.cell? ⟨w.heap.size + 1, 2, none⟩ = some y2 ∧ w1.cell? ⟨w.heap.size + 1, 3, none⟩ = some y3 ∧ w1.cell? ⟨w.heap.size + 1, 4, none⟩ = some y4 ∧ w1.cell? ⟨w.heap.size + 1, 5, none⟩ = some y5 := by
 refine ⟨fun j => ?_, fun j => ?_, ?_, ?_, ?_, ?_, ?_, ?_, ?_, ?_, ?_, ?_, ?_, ?_⟩
 · rw [hb.frozen (by simp)]; simp [go_sem]
 · rw [hb.frozen (by simp; omega)]; simp [go_sem]
 all_goals (rw [hb.cell (by simp <;> omega)]; simp [go_sem, World.cell?_alloc_past])
theorem keep26 {X w2 : World} {A : Nat} {x0 x1 x2 x3 x4 x5 y0 y1 y2 y3 y4 y5 : Value} (hb : Below X.heap.size X w2) (fz : ∀ j, X.frozen? ⟨A + 1, j, none⟩ = false) (c0 : X.cell? ⟨A, 0, none⟩ = some x0) (c1 : X.cell? ⟨A, 1, none⟩ = some x1) (c2 : X.cell? ⟨A, 2, none⟩ = some x2) (c3 : X.cell? ⟨A, 3, none⟩ = some x3) (c4 : X.cell? ⟨A, 4, none⟩ = some x4) (c5 : X.cell? ⟨A, 5, none⟩ = some x5) (z0 : X.cell? ⟨A + 1, 0, none⟩ = some y0) (z1 : X.cell? ⟨A + 1, 1, none⟩ = some y1) (z2 : X.cell? ⟨A + 1, 2, none⟩ = some y2) (z3 : X.cell? ⟨A + 1, 3, none⟩ = some y3) (z4 : X.cell? ⟨A + 1, 4, none⟩ = some y4) (z5 : X.cell? ⟨A + 1, 5, none⟩ = some y5) :
 (A + 1 < w2.heap.size ∧ ¬ A + 1 = w2.heap.size ∧ ¬ w2.heap.size = A + 1 ∧ A < w2.heap.size ∧ ¬ A = w2.heap.size ∧ ¬ w2.heap.size = A) ∧ (∀ j, w2.frozen? ⟨A + 1, j, none⟩ = false) ∧ w2.cell? ⟨A + 1, 0, none⟩ = some y0 ∧ w2.cell? ⟨A + 1, 1, none⟩ = some y1 ∧ w2.cell? ⟨A + 1, 2, none⟩ = some y2 ∧ w2.cell? ⟨A + 1, 3, none⟩ = some y3 ∧ w2.cell? ⟨A + 1, 4, none⟩ = some y4 ∧ w2.cell? ⟨A + 1, 5, none⟩ = some y5 ∧ w2.cell? ⟨A, 0, none⟩ = some x0 ∧ w2.cell? ⟨A, 1, none⟩ = some x1 ∧ w2.cell? ⟨A, 2, none⟩ = some x2 ∧ w2.cell? ⟨A, 3, none⟩ = some x3 ∧ w2.cell? ⟨A, 4, none⟩ = some x4 ∧ w2.cell? ⟨A, 5, none⟩ = some x5 := by
 have h0 := World.block_lt_of_cell? X _ z0
 have h1 := hb.size
 simp only at h0
 refine ⟨⟨by omega, by omega, by omega, by omega, by omega, by omega⟩, fun j => (hb.frozen (p := ⟨A + 1, j, none⟩) h0).trans (fz j), (hb.cell (World.block_lt_of_cell? X _ z0)).trans z0, (hb.cell (World.block_lt_of_cell? X _ z1)).trans z1, (hb.cell (World.block_lt_of_cell? X _ z2)).trans z2, (hb.cell (World.block_lt_of_cell? X _ z3)).trans z3, (hb.cell (World.block_lt_of_cell? X _ z4)).trans z4, (hb.cell (World.block_lt_of_cell? X _ z5)).trans z5, (hb.cell (World.block_lt_of_cell? X _ c0)).trans c0, (hb.cell (World.block_lt_of_cell? X _ c1)).trans c1, (hb.cell (World.block_lt_of_cell? X _ c2)).trans c2, (hb.cell (World.block_lt_of_cell? X _ c3)).trans c3, (hb.cell (World.block_lt_of_cell? X _ c4)).trans c4, (hb.cell (World.block_lt_of_cell? X _ c5)).trans c5⟩
theorem keepNew {X w3 : World} {A : Nat} {T : TypeId} {x0 x1 x2 x3 x4 x5 y0 y1 y2 y3 y4 y5 : Value} (hb : Below (X.alloc (.cells #[x0, x1, x2, x3, x4, x5] T)).heap.size (X.alloc (.cells #[x0, x1, x2, x3, x4, x5] T)) w3) (fz : ∀ j, X.frozen? ⟨A, j, none⟩ = false) (z0 : X.cell? ⟨A, 0, none⟩ = some y0) (z1 : X.cell? ⟨A, 1, none⟩ = some y1) (z2 : X.cell? ⟨A, 2, none⟩ = some y2) (z3 : X.cell? ⟨A, 3, none⟩ = some y3) (z4 : X.cell? ⟨A, 4, none⟩ = some y4) (z5 : X.cell? ⟨A, 5, none⟩ = some y5) :
 (∀ j, w3.frozen? ⟨X.heap.size, j, none⟩ = false) ∧ (∀ j, w3.frozen? ⟨A, j, none⟩ = false) ∧ w3.cell? ⟨X.heap.size, 0, none⟩ = some x0 ∧ w3.cell? ⟨X.heap.size, 1, none⟩ = some x1 ∧ w3.cell? ⟨X.heap.size, 2, none⟩ = some x2 ∧ w3.cell? ⟨X.heap.size, 3, none⟩ = some x3 ∧ w3.cell? ⟨X.heap.size, 4, none⟩ = some x4 ∧ w3.cell? ⟨X.heap.size, 5, none⟩ = some x5 ∧ w3.cell? ⟨A, 0, none⟩ = some y0 ∧ w3.cell? ⟨A, 1, none⟩ = some y1 ∧ w3.cell? ⟨A, 2, none⟩ = some y2 ∧ w3.cell? ⟨A, 3, none⟩ = some y3 ∧ w3.cell? ⟨A, 4, none⟩ = some y4 ∧ w3.cell? ⟨A, 5, none⟩ = some y5 := by
 have h0 := World.block_lt_of_cell? X _ z0
 simp only at h0
 refine ⟨fun j => ?_, fun j => ?_, ?_, ?_, ?_, ?_, ?_, ?_, ((((Below.refl X.heap.size X).alloc (Nat.le_refl _) _).trans (hb.mono (by simp))).cell (World.block_lt_of_cell? X _ z0)).trans z0, ((((Below.refl X.heap.size X).alloc (Nat.le_refl _) _).trans (hb.mono (by simp))).cell (World.block_lt_of_cell? X _ z1)).trans z1, ((((Below.refl X.heap.size X).alloc (Nat.le_refl _) _).trans (hb.mono (by simp))).cell (World.block_lt_of_cell? X _ z2)).trans z2, ((((Below.refl X.heap.size X).alloc (Nat.le_refl _) _).trans (hb.mono (by simp))).cell (World.block_lt_of_cell? X _ z3)).trans z3, ((((Below.refl X.heap.size X).alloc (Nat.le_refl _) _).trans (hb.mono (by simp))).cell (World.block_lt_of_cell? X _ z4)).trans z4, ((((Below.refl X.heap.size X).alloc (Nat.le_refl _) _).trans (hb.mono (by simp))).cell (World.block_lt_of_cell? X _ z5)).trans z5⟩
 · rw [hb.frozen (by simp)]; simp [go_sem]
 · rw [hb.frozen (by simp; omega), ((Below.refl X.heap.size X).alloc (Nat.le_refl _) _).frozen (p := ⟨A, j, none⟩) h0]; exact fz j
 all_goals (rw [hb.cell (by simp)]; simp [go_sem])
theorem keep2 {X w4 : World} {A B : Nat} {x0 x1 x2 x3 x4 x5 y0 y1 y2 y3 y4 y5 : Value} (hb : Below X.heap.size X w4) (fo : ∀ j, X.frozen? ⟨B, j, none⟩ = false) (fz : ∀ j, X.frozen? ⟨A, j, none⟩ = false) (c0 : X.cell? ⟨B, 0, none⟩ = some x0) (c1 : X.cell? ⟨B, 1, none⟩ = some x1) (c2 : X.cell? ⟨B, 2, none⟩ = some x2) (c3 : X.cell? ⟨B, 3, none⟩ = some x3) (c4 : X.cell? ⟨B, 4, none⟩ = some x4) (c5 : X.cell? ⟨B, 5, none⟩ = some x5) (z0 : X.cell? ⟨A, 0, none⟩ = some y0) (z1 : X.cell? ⟨A, 1, none⟩ = some y1) (z2 : X.cell? ⟨A, 2, none⟩ = some y2) (z3 : X.cell? ⟨A, 3, none⟩ = some y3) (z4 : X.cell? ⟨A, 4, none⟩ = some y4) (z5 : X.cell? ⟨A, 5, none⟩ = some y5) :
 (∀ j, w4.frozen? ⟨B, j, none⟩ = false) ∧ (∀ j, w4.frozen? ⟨A, j, none⟩ = false) ∧ w4.cell? ⟨B, 0, none⟩ = some x0 ∧ w4.cell? ⟨B, 1, none⟩ = some x1 ∧ w4.cell? ⟨B, 2, none⟩ = some x2 ∧ w4.cell? ⟨B, 3, none⟩ = some x3 ∧ w4.cell? ⟨B, 4, none⟩ = some x4 ∧ w4.cell? ⟨B, 5, none⟩ = some x5 ∧ w4.cell? ⟨A, 0, none⟩ = some y0 ∧ w4.cell? ⟨A, 1, none⟩ = some y1 ∧ w4.cell? ⟨A, 2, none⟩ = some y2 ∧ w4.cell? ⟨A, 3, none⟩ = some y3 ∧ w4.cell? ⟨A, 4, none⟩ = some y4 ∧ w4.cell? ⟨A, 5, none⟩ = some y5 :=
 ⟨fun j => (hb.frozen (p := ⟨B, j, none⟩) (show B < X.heap.size from World.block_lt_of_cell? X ⟨B, 0, none⟩ c0)).trans (fo j), fun j => (hb.frozen (p := ⟨A, j, none⟩) (show A < X.heap.size from World.block_lt_of_cell? X ⟨A, 0, none⟩ z0)).trans (fz j), (hb.cell (World.block_lt_of_cell? X _ c0)).trans c0, (hb.cell (World.block_lt_of_cell? X _ c1)).trans c1, (hb.cell (World.block_lt_of_cell? X _ c2)).trans c2, (hb.cell (World.block_lt_of_cell? X _ c3)).trans c3, (hb.cell (World.block_lt_of_cell? X _ c4)).trans c4, (hb.cell (World.block_lt_of_cell? X _ c5)).trans c5, (hb.cell (World.block_lt_of_cell? X _ z0)).trans z0, (hb.cell (World.block_lt_of_cell? X _ z1)).trans z1, (hb.cell (World.block_lt_of_cell? X _ z2)).trans z2, (hb.cell (World.block_lt_of_cell? X _ z3)).trans z3, (hb.cell (World.block_lt_of_cell? X _ z4)).trans z4, (hb.cell (World.block_lt_of_cell? X _ z5)).trans z5⟩
end Go.Proofs.YtjjikhaaimfneaaGreatDoor
namespace Go.Proofs.YtjjikhaaimfneaaGreatDoor
open Go.RowKit
set_option linter.unusedSimpArgs false
set_option linter.unusedVariables false
def IntsAt (w : World) (a : Option Addr) (n c : Nat) (xs : List Int) : Prop :=
 xs.length = n ∧ n ≤ c ∧ n ≤ 17592186044416 ∧ (0 < n → ∃ ad, a = some ad ∧ ad.block < w.heap.size ∧ ∀ (j : Nat) (x : Int), xs[j]? = some x → w.cell? (ad.add j) = some (.int .i64 x))
theorem block_add (a : Addr) (n : Nat) : (a.add n).block = a.block := by unfold Addr.add; split <;> rfl
section
variable {w w' : World} {a : Option Addr} {n c : Nat} {xs : List Int}
theorem IntsAt.len (h : IntsAt w a n c xs) : xs.length = n := h.1
theorem IntsAt.cap (h : IntsAt w a n c xs) : n ≤ c := h.2.1
theorem IntsAt.lim (h : IntsAt w a n c xs) : n ≤ 17592186044416 := h.2.2.1
theorem IntsAt.below (h : IntsAt w a n c xs) (hb : Below w.heap.size w w') : IntsAt w' a n c xs :=
 ⟨h.1, h.2.1, h.2.2.1, fun hn => by
  obtain ⟨ad, e, hlt, hc⟩ := h.2.2.2 hn
  exact ⟨ad, e, Nat.lt_of_lt_of_le hlt hb.size, fun j x hx => (hb.cell (by rw [block_add]; exact hlt)).trans (hc j x hx)⟩⟩
theorem IntsAt.get {k : Nat} (h : IntsAt w a n c xs) (hk : k < n) : ∃ ad x, a = some ad ∧ ad.block < w.heap.size ∧ w.cell? (ad.add k) = some (.int .i64 x) ∧ Hid (xs[k]? = some x) := by
 obtain ⟨ad, e, hlt, hc⟩ := h.2.2.2 (by omega)
 have hl : k < xs.length := by rw [h.1]; exact hk
 exact ⟨ad, xs[k], e, hlt, hc k _ (List.getElem?_eq_getElem hl), List.getElem?_eq_getElem hl⟩
theorem IntsAt.getB {k : Nat} (h : IntsAt w a n c xs) (hb : Below w.heap.size w w') (hk : k < n) : ∃ ad x, a = some ad ∧ (ad.add k).block < w.heap.size ∧ w'.cell? (ad.add k) = some (.int .i64 x) ∧ Hid (xs[k]? = some x) := by
 obtain ⟨ad, x, e, hlt, hc, hx⟩ := h.get hk
 exact ⟨ad, x, e, by rw [block_add]; exact hlt, (hb.cell (by rw [block_add]; exact hlt)).trans hc, hx⟩
theorem IntsAt.get0 (h : IntsAt w a n c xs) (hb : Below w.heap.size w w') (hk : 0 < n) : ∃ ad x, a = some ad ∧ ad.block < w.heap.size ∧ w'.cell? ad = some (.int .i64 x) ∧ Hid (xs[0]? = some x) := by
 obtain ⟨ad, x, e, hlt, hc, hx⟩ := h.get hk
 have e1 : ad.add 0 = ad := by unfold Addr.add; simp
 rw [e1] at hc
 exact ⟨ad, x, e, hlt, (hb.cell hlt).trans hc, hx⟩
end
theorem own_next {w : World} {B : Nat} {e : TypeId} {v : Value} {ys : List Int} {k : Nat} {x : Int} (hk : k < ys.length) (hx : x = ys.getD k 0)
 (h : w.ownsRow B e 1 v (k + 1) ((ys.take k).map (Value.int .i64) ++ [.int .i64 x])) : w.ownsRow B e 1 v (k + 1) ((ys.take (k + 1)).map (Value.int .i64)) := by
 have : ys.take (k + 1) = ys.take k ++ [x] := by
  rw [List.take_succ_eq_append_getElem hk, hx, List.getD_eq_getElem?_getD, List.getElem?_eq_getElem hk]; rfl
 rw [this, List.map_append]
 exact h
theorem own_start (w : World) (B : Nat) (e : TypeId) (ys : List Int) : w.ownsRow B e 1 (.slice none 0 0) 0 ((ys.take 0).map (Value.int .i64)) := ⟨by simp, .inl ⟨rfl, rfl⟩⟩
theorem own_row {w : World} {B : Nat} {e : TypeId} {v : Value} {n : Nat} {xs : List Value} (h : w.ownsRow B e 1 v n xs) : ∀ k, v.ownBlock = some k → B ≤ k := by
 intro k hk
 rcases h.2 with ⟨rfl, _⟩ | ⟨g, cap, cur, rfl, hg, _⟩
 · simp [Value.ownBlock] at hk
 · simp [Value.ownBlock] at hk; omega
theorem own_form {w : World} {B : Nat} {e : TypeId} {v : Value} {k : Nat} {xs : List Value} (h : w.ownsRow B e 1 v (k + 1) xs) :
 ∃ g cap, v = .slice (some ⟨g, 0, none⟩) (k + 1) cap ∧ B ≤ g ∧ g < w.heap.size ∧ k + 1 ≤ cap ∧ (∀ j u, xs[j]? = some u → w.cell? ⟨g, j, none⟩ = some u) ∧ (∀ j, w.frozen? ⟨g, j, none⟩ = false) := by
 obtain ⟨hl, h⟩ := h
 rcases h with ⟨_, h⟩ | ⟨g, cap, cur, rfl, hg, hh, hn, _, hs, hx⟩
 · omega
 · refine ⟨g, cap, rfl, hg, ?_, hn, fun j u hj => ?_, fun j => by simp [World.frozen?, hh]⟩
   · rcases Nat.lt_or_ge g w.heap.size with h1 | h1
     · exact h1
     · rw [Array.getElem?_eq_none h1] at hh; cases hh
   · rw [← hx, List.getElem?_take] at hj
     split at hj
     · simp [World.cell?, hh]; simpa using hj
     · cases hj
theorem getD_of {xs : List Int} {k : Nat} {x : Int} (h : xs[k]? = some x) : xs.getD k 0 = x := by rw [List.getD_eq_getElem?_getD, h]; rfl
def IsB (P : Prop) (e : Ending) : Prop := ∃ r : Bool, (r = true ↔ P) ∧ e = .returned (.bool r)
theorem IsB.t {P : Prop} (h : P) : IsB P (.returned (.bool true)) := ⟨true, by simp [h], rfl⟩
theorem IsB.f {P : Prop} (h : ¬ P) : IsB P (.returned (.bool false)) := ⟨false, by simp [h], rfl⟩
theorem IsB.d {P : Prop} {b : Bool} (h : b = true ↔ P) : IsB P (.returned (.bool b)) := ⟨b, h, rfl⟩
theorem callT {P : Program} {f : FuncId} {args : Array Value} {w : World} {p : Prop} {Q : World → Prop} (h : Calls P f args w fun e w' => IsB p e ∧ Q w') (hp : p) : Calls P f args w fun e w' => e = .returned (.bool true) ∧ Q w' :=
 h.mono fun _ _ ⟨⟨r, hr, he⟩, hq⟩ => ⟨by rw [he]; exact retB (hr.2 hp), hq⟩
theorem callF {P : Program} {f : FuncId} {args : Array Value} {w : World} {p : Prop} {Q : World → Prop} (h : Calls P f args w fun e w' => IsB p e ∧ Q w') (hp : ¬ p) : Calls P f args w fun e w' => e = .returned (.bool false) ∧ Q w' :=
 h.mono fun _ _ ⟨⟨r, hr, he⟩, hq⟩ => ⟨by rw [he]; exact retB (by cases r; rfl; exact absurd (hr.1 rfl) hp), hq⟩
end Go.Proofs.YtjjikhaaimfneaaGreatDoor
namespace Go.Proofs.YtjjikhaaimfneaaGreatDoor
open Go.RowKit Go.ChangeShapes Go.WideShapes
set_option linter.unusedSimpArgs false
set_option linter.unusedVariables false
section
variable {H : Type} {enc : TypeId × Value → H} {P : Program} {w : World} {base : Nat} {spare : Nat → Bool} {held : Bool}
def flatI (P : Program) : Nat → TypeId → Bool
 | 0, _ => false
 | k + 1, t => match P.underlying t with
   | some (.int .i64) => true
   | some (.struct fs) =>
     ((List.range (P.cellsOf t)).all fun j => (List.range fs.size).any fun i => match fs[i]? with
       | some f => decide (f.offset ≤ j) && decide (j < f.offset + P.cellsOf f.type)
       | none => false) &&
     ((List.range fs.size).all fun i => match fs[i]? with
       | some f => flatI P k f.type
       | none => false)
   | some (.array n e) => flatI P k e && decide (0 < P.cellsOf e) && decide (P.cellsOf t = n * P.cellsOf e)
   | _ => false
end
theorem len6 {l : List Int} (h : l.length = 6) : ∃ a b c d e f, l = [a, b, c, d, e, f] := by
 match l, h with
 | [a, b, c, d, e, f], _ => exact ⟨a, b, c, d, e, f, rfl⟩
theorem len14 {l : List Int} (h : l.length = 14) : ∃ a0 a1 a2 a3 a4 a5 a6 a7 a8 a9 a10 a11 a12 a13, l = [a0, a1, a2, a3, a4, a5, a6, a7, a8, a9, a10, a11, a12, a13] := by
 match l, h with
 | [a0, a1, a2, a3, a4, a5, a6, a7, a8, a9, a10, a11, a12, a13], _ => exact ⟨a0, a1, a2, a3, a4, a5, a6, a7, a8, a9, a10, a11, a12, a13, rfl⟩
section
variable {H : Type} {enc : TypeId × Value → H} {P : Program} {w : World} {base : Nat} {spare : Nat → Bool}
open Go.ChangeShapes
end
end Go.Proofs.YtjjikhaaimfneaaGreatDoor
