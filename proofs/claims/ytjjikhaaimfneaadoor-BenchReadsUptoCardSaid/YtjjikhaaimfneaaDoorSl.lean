/-
  SLICES OF INTS in memory: what came in, what the call gathers. No program in sight.
-/
import Derived.Test.YtjjikhaaimfneaaDoorMem
import Derived.Laws.OwnMore
import Derived.Maps.AppendAt
import Derived.StillTailTactics
import Derived.Deep.AppendLies
namespace Go.Proofs.YtjjikhaaimfneaaDoor
open Go.RowKit
set_option linter.unusedSimpArgs false
set_option linter.unusedVariables false

/-- a slice of ints: nil, or empty, or its cells lie in memory -/
def IntsAt (w : World) (a : Option Addr) (n c : Nat) (xs : List Int) : Prop :=
  xs.length = n ∧ n ≤ c ∧ n ≤ 17592186044416 ∧ (0 < n → ∃ ad, a = some ad ∧ ad.block < w.heap.size ∧ ∀ (j : Nat) (x : Int), xs[j]? = some x → w.cell? (ad.add j) = some (.int .i64 x))

theorem block_add (a : Addr) (n : Nat) : (a.add n).block = a.block := by unfold Addr.add; split <;> rfl

section
variable {w w' : World} {a : Option Addr} {n c : Nat} {xs : List Int}
theorem IntsAt.len (h : IntsAt w a n c xs) : xs.length = n := h.1
theorem IntsAt.cap (h : IntsAt w a n c xs) : n ≤ c := h.2.1
theorem IntsAt.lim (h : IntsAt w a n c xs) : n ≤ 17592186044416 := h.2.2.1
theorem IntsAt.below (h : IntsAt w a n c xs) (hb : Below w.heap.size w w') : IntsAt w' a n c xs :=
  ⟨h.1, h.2.1, h.2.2.1, fun hn => by
    obtain ⟨ad, e, hlt, hc⟩ := h.2.2.2 hn
    exact ⟨ad, e, Nat.lt_of_lt_of_le hlt hb.size, fun j x hx => (hb.cell (by rw [block_add]; exact hlt)).trans (hc j x hx)⟩⟩
/-- its k-th cell -/
theorem IntsAt.at_ {k : Nat} (h : IntsAt w a n c xs) (hk : k < n) : ∃ ad, a = some ad ∧ ad.block < w.heap.size ∧ w.cell? (ad.add k) = some (.int .i64 (xs.getD k 0)) := by
  obtain ⟨ad, e, hlt, hc⟩ := h.2.2.2 (by omega)
  have hl : k < xs.length := by rw [h.1]; exact hk
  refine ⟨ad, e, hlt, hc k _ ?_⟩
  rw [List.getD_eq_getElem?_getD, List.getElem?_eq_getElem hl]; rfl
theorem IntsAt.get {k : Nat} (h : IntsAt w a n c xs) (hk : k < n) : ∃ ad x, a = some ad ∧ ad.block < w.heap.size ∧ w.cell? (ad.add k) = some (.int .i64 x) ∧ Hid (xs[k]? = some x) := by
  obtain ⟨ad, e, hlt, hc⟩ := h.2.2.2 (by omega)
  have hl : k < xs.length := by rw [h.1]; exact hk
  exact ⟨ad, xs[k], e, hlt, hc k _ (List.getElem?_eq_getElem hl), List.getElem?_eq_getElem hl⟩
theorem IntsAt.getB {k : Nat} (h : IntsAt w a n c xs) (hb : Below w.heap.size w w') (hk : k < n) : ∃ ad x, a = some ad ∧ (ad.add k).block < w.heap.size ∧ w'.cell? (ad.add k) = some (.int .i64 x) ∧ Hid (xs[k]? = some x) := by
  obtain ⟨ad, x, e, hlt, hc, hx⟩ := h.get hk
  exact ⟨ad, x, e, by rw [block_add]; exact hlt, (hb.cell (by rw [block_add]; exact hlt)).trans hc, hx⟩
/-- the same at a number that isn't 0, as the walk spells the address; and at 0 -/
theorem IntsAt.getS {k : Nat} (h : IntsAt w a n c xs) (hb : Below w.heap.size w w') (hk : k + 1 < n) : ∃ ad x, a = some ad ∧ ad.block < w.heap.size ∧ w'.cell? ⟨ad.block, ad.off + (k + 1), none⟩ = some (.int .i64 x) ∧ Hid (xs[k + 1]? = some x) := by
  obtain ⟨ad, x, e, hlt, hc, hx⟩ := h.get hk
  have e1 : ad.add (k + 1) = ⟨ad.block, ad.off + (k + 1), none⟩ := by unfold Addr.add; simp
  rw [e1] at hc
  exact ⟨ad, x, e, hlt, (hb.cell (by exact hlt)).trans hc, hx⟩
theorem IntsAt.get0 (h : IntsAt w a n c xs) (hb : Below w.heap.size w w') (hk : 0 < n) : ∃ ad x, a = some ad ∧ ad.block < w.heap.size ∧ w'.cell? ad = some (.int .i64 x) ∧ Hid (xs[0]? = some x) := by
  obtain ⟨ad, x, e, hlt, hc, hx⟩ := h.get hk
  have e1 : ad.add 0 = ad := by unfold Addr.add; simp
  rw [e1] at hc
  exact ⟨ad, x, e, hlt, (hb.cell hlt).trans hc, hx⟩
theorem IntsAt.nil_ (w : World) : IntsAt w none 0 0 [] := ⟨rfl, Nat.le_refl _, by omega, fun h => absurd h (by omega)⟩
/-- what the call has gathered -/
theorem IntsAt.of_own {B : Nat} {e : TypeId} {v : Value} (h : w.ownsRow B e 1 v xs.length (xs.map (Value.int .i64))) (hl : xs.length ≤ 17592186044416) :
    ∃ a c, v = .slice a xs.length c ∧ IntsAt w a xs.length c xs := by
  rcases h.2 with ⟨rfl, h0⟩ | ⟨g, cap, cur, rfl, _, hg, hn, _, hs, hx⟩
  · have : xs = [] := List.eq_nil_of_length_eq_zero h0
    subst this
    exact ⟨none, 0, rfl, IntsAt.nil_ w⟩
  · refine ⟨_, _, rfl, rfl, hn, hl, fun h0 => ⟨_, rfl, ?_, fun j x hj => ?_⟩⟩
    · rcases Nat.lt_or_ge g w.heap.size with h1 | h1
      · exact h1
      · rw [Array.getElem?_eq_none h1] at hg; cases hg
    · have hjl := (List.getElem?_eq_some_iff.1 hj).1
      have e1 : (⟨g, 0, none⟩ : Addr).add j = ⟨g, j, none⟩ := by unfold Addr.add; split <;> simp_all
      rw [e1]
      have e2 : w.cell? ⟨g, j, none⟩ = cur[j]? := by simp [World.cell?, hg]
      rw [e2]
      have e3 : (cur.toList.take (xs.length * 1))[j]? = some (.int .i64 x) := by rw [hx, List.getElem?_map, hj]; rfl
      rw [List.getElem?_take, if_pos (by omega)] at e3
      simpa using e3
end

/-- one more gathered: the row is the list's next beginning -/
theorem own_next {w : World} {B : Nat} {e : TypeId} {v : Value} {ys : List Int} {k : Nat} {x : Int} (hk : k < ys.length) (hx : x = ys.getD k 0)
    (h : w.ownsRow B e 1 v (k + 1) ((ys.take k).map (Value.int .i64) ++ [.int .i64 x])) : w.ownsRow B e 1 v (k + 1) ((ys.take (k + 1)).map (Value.int .i64)) := by
  have : ys.take (k + 1) = ys.take k ++ [x] := by
    rw [List.take_succ_eq_append_getElem hk, hx, List.getD_eq_getElem?_getD, List.getElem?_eq_getElem hk]; rfl
  rw [this, List.map_append]
  exact h
theorem own_all {w : World} {B : Nat} {e : TypeId} {v : Value} {ys : List Int} {k : Nat} (hk : k = ys.length) (h : w.ownsRow B e 1 v k ((ys.take k).map (Value.int .i64))) : w.ownsRow B e 1 v ys.length (ys.map (Value.int .i64)) := by
  subst hk; rwa [List.take_length] at h
theorem own_start (w : World) (B : Nat) (e : TypeId) (ys : List Int) : w.ownsRow B e 1 (.slice none 0 0) 0 ((ys.take 0).map (Value.int .i64)) := ⟨by simp, .inl ⟨rfl, rfl⟩⟩
/-- the row that is written by an append lies in the call's own memory -/
theorem own_row {w : World} {B : Nat} {e : TypeId} {v : Value} {n : Nat} {xs : List Value} (h : w.ownsRow B e 1 v n xs) : ∀ k, v.ownBlock = some k → B ≤ k := by
  intro k hk
  rcases h.2 with ⟨rfl, _⟩ | ⟨g, cap, cur, rfl, hg, _⟩
  · simp [Value.ownBlock] at hk
  · simp [Value.ownBlock] at hk; omega
/-- a callee that only reckons, in a region whose tail makes memory -/
theorem stillOf {P : Program} {f : FuncId} {args : Array Value} {w : World} {v : Value} (h : Calls P f args w fun e w' => e = .returned v ∧ w = w') : Calls P f args w fun e w' => e = .returned v ∧ w' = w :=
  h.mono fun _ _ ⟨he, hw⟩ => ⟨he, hw.symm⟩
/-- what lay below the call's own memory isn't the row that is written -/
theorem own_far {w : World} {B g : Nat} {e : TypeId} {v : Value} {n : Nat} {xs : List Value} (h : w.ownsRow B e 1 v n xs) (hg : g < B) : some g ≠ v.ownBlock := fun hk => by
  have := own_row h g hk.symm; omega
theorem grown_cell {w w0 w1 : World} {B : Nat} {e : TypeId} {v : Value} {n : Nat} {xs : List Value} {ad : Addr} {u : Value} (hg : w0.grownBy w1 v.ownBlock) (h : w.ownsRow B e 1 v n xs) (hb : ad.block < B) (hB : B ≤ w0.heap.size) (hc : w0.cell? ad = some u) : w1.cell? ad = some u :=
  (hg.cell_far _ (by omega) (own_far h hb)).trans hc
/-- a row that owns something: where it lies, what its cells hold -/
theorem own_form {w : World} {B : Nat} {e : TypeId} {v : Value} {k : Nat} {xs : List Value} (h : w.ownsRow B e 1 v (k + 1) xs) :
    ∃ g cap, v = .slice (some ⟨g, 0, none⟩) (k + 1) cap ∧ B ≤ g ∧ g < w.heap.size ∧ k + 1 ≤ cap ∧ (∀ j u, xs[j]? = some u → w.cell? ⟨g, j, none⟩ = some u) ∧ (∀ j, w.frozen? ⟨g, j, none⟩ = false) := by
  obtain ⟨hl, h⟩ := h
  rcases h with ⟨_, h⟩ | ⟨g, cap, cur, rfl, hg, hh, hn, _, hs, hx⟩
  · omega
  · refine ⟨g, cap, rfl, hg, ?_, hn, fun j u hj => ?_, fun j => by simp [World.frozen?, hh]⟩
    · rcases Nat.lt_or_ge g w.heap.size with h1 | h1
      · exact h1
      · rw [Array.getElem?_eq_none h1] at hh; cases hh
    · rw [← hx, List.getElem?_take] at hj
      split at hj
      · simp [World.cell?, hh]; simpa using hj
      · cases hj
theorem own_one (w : World) (B : Nat) (e : TypeId) (x : Int) (ys : List Int) (hy : 0 < ys.length) (hx : x = ys.getD 0 0) (hB : B ≤ w.heap.size) : (w.alloc (.cells #[.int .i64 x] e)).ownsRow B e 1 (.slice (some ⟨w.heap.size, 0, none⟩) 1 1) 1 ((ys.take 1).map (Value.int .i64)) := by
  have e1 : ys.take 1 = [x] := by
    cases ys with
    | nil => simp at hy
    | cons y ys => simp at hx; subst hx; rfl
  rw [e1]
  exact ⟨rfl, .inr ⟨w.heap.size, 1, #[.int .i64 x], rfl, hB, heap_alloc_new w _, Nat.le_refl _, by unfold maxLen; omega, rfl, rfl⟩⟩
theorem getD_of {xs : List Int} {k : Nat} {x : Int} (h : xs[k]? = some x) : xs.getD k 0 = x := by rw [List.getD_eq_getElem?_getD, h]; rfl
/-- a bool is handed back: it tells whether P -/
def IsB (P : Prop) (e : Ending) : Prop := ∃ r : Bool, (r = true ↔ P) ∧ e = .returned (.bool r)
theorem IsB.t {P : Prop} (h : P) : IsB P (.returned (.bool true)) := ⟨true, by simp [h], rfl⟩
theorem IsB.f {P : Prop} (h : ¬ P) : IsB P (.returned (.bool false)) := ⟨false, by simp [h], rfl⟩
theorem IsB.d {P : Prop} {b : Bool} (h : b = true ↔ P) : IsB P (.returned (.bool b)) := ⟨b, h, rfl⟩
theorem callT {P : Program} {f : FuncId} {args : Array Value} {w : World} {p : Prop} {Q : World → Prop} (h : Calls P f args w fun e w' => IsB p e ∧ Q w') (hp : p) : Calls P f args w fun e w' => e = .returned (.bool true) ∧ Q w' :=
  h.mono fun _ _ ⟨⟨r, hr, he⟩, hq⟩ => ⟨by rw [he]; exact retB (hr.2 hp), hq⟩
theorem callF {P : Program} {f : FuncId} {args : Array Value} {w : World} {p : Prop} {Q : World → Prop} (h : Calls P f args w fun e w' => IsB p e ∧ Q w') (hp : ¬ p) : Calls P f args w fun e w' => e = .returned (.bool false) ∧ Q w' :=
  h.mono fun _ _ ⟨⟨r, hr, he⟩, hq⟩ => ⟨by rw [he]; exact retB (by cases r; rfl; exact absurd (hr.1 rfl) hp), hq⟩
/-- the class of worlds beyond W: a slice that lay there -/
theorem IntsAt.beyond {W : World} {a : Option Addr} {n c : Nat} {xs : List Int} (h : IntsAt W a n c xs) (p : Beyond W) : IntsAt p.w a n c xs := h.below p.h

end Go.Proofs.YtjjikhaaimfneaaDoor
