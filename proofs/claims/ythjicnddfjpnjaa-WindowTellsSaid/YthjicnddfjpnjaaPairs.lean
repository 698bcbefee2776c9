/-
  LEMMAS: slices of pairs, slices of rounds in memory; a slice of pairs among the arguments.
-/
import Derived.Test.YthjicnddfjpnjaaEdge
import Derived.Test.YthjicnddfjpnjaaFrame
import Derived.Lib.SmallJoins
import Derived.Deep.Slices
import Derived.Deep.Fields
import Derived.ChangeSame
namespace Go.Proofs.Ythjicnddfjpnjaa
open Go.Joins Go.RowKit Go.ChangeShapes Go.WideShapes Go.Deep
set_option linter.unusedSimpArgs false
set_option linter.unusedVariables false

structure P2 where
  x : Int
  y : Int
/-- a slice of pairs of ints: nil, or empty, or its cells lie in memory -/
def PairsAt (w : World) (a : Option Addr) (n c : Nat) (es : List P2) : Prop :=
  es.length = n ∧ n ≤ c ∧ n ≤ 17592186044416 ∧ (0 < n → ∃ ad, a = some ad ∧ ad.block < w.heap.size ∧ ∀ (j : Nat) (e : P2), es[j]? = some e → w.cell? (ad.add (j * 2)) = some (.int .i64 e.x) ∧ w.cell? (ad.add (j * 2 + 1)) = some (.int .i64 e.y))
structure R6 where
  x0 : Int
  x1 : Int
  x2 : Int
  x3 : Int
  x4 : Int
  x5 : Int
def R6.cells (r : R6) : List Value := [.int .i64 r.x0, .int .i64 r.x1, .int .i64 r.x2, .int .i64 r.x3, .int .i64 r.x4, .int .i64 r.x5]
def flat6 (l : List R6) : List Value := l.flatMap R6.cells
theorem flat6_len (l : List R6) : (flat6 l).length = l.length * 6 := by
  induction l with
  | nil => rfl
  | cons r l ih => simp only [flat6, List.flatMap_cons, List.length_append, List.length_cons] at ih ⊢; rw [ih]; simp [R6.cells]; omega
theorem flat6_snoc (l : List R6) (r : R6) : flat6 (l ++ [r]) = flat6 l ++ r.cells := by simp [flat6]
theorem flat6_get {l : List R6} {j : Nat} {r : R6} (h : l[j]? = some r) (i : Nat) (hi : i < 6) : (flat6 l)[j * 6 + i]? = r.cells[i]? := by
  induction l generalizing j with
  | nil => simp at h
  | cons s l ih =>
    have e : flat6 (s :: l) = s.cells ++ flat6 l := by simp [flat6]
    have hl : s.cells.length = 6 := rfl
    rw [e]
    cases j with
    | zero =>
      simp at h; subst h
      rw [List.getElem?_append_left (by omega)]; simp
    | succ j =>
      simp at h
      rw [List.getElem?_append_right (by omega), hl, show (j + 1) * 6 + i - 6 = j * 6 + i by omega]
      exact ih h
def RoundsAt (w : World) (a : Option Addr) (n c : Nat) (L : List R6) : Prop :=
  L.length = n ∧ n ≤ c ∧ n ≤ 17592186044416 ∧ (0 < n → ∃ ad, a = some ad ∧ ad.block < w.heap.size ∧ ∀ (j : Nat) (r : R6), L[j]? = some r → ∀ i v, i < 6 → r.cells[i]? = some v → w.cell? (ad.add (j * 6 + i)) = some v)
section
variable {w w' : World} {a : Option Addr} {n c : Nat} {es : List P2} {L : List R6}
theorem PairsAt.len (h : PairsAt w a n c es) : es.length = n := h.1
theorem PairsAt.lim (h : PairsAt w a n c es) : n ≤ 17592186044416 := h.2.2.1
theorem PairsAt.below (h : PairsAt w a n c es) (hb : Below w.heap.size w w') : PairsAt w' a n c es :=
  ⟨h.1, h.2.1, h.2.2.1, fun hn => by
    obtain ⟨ad, e, hlt, hc⟩ := h.2.2.2 hn
    refine ⟨ad, e, Nat.lt_of_lt_of_le hlt hb.size, fun j x hx => ?_⟩
    obtain ⟨c0, c1⟩ := hc j x hx
    exact ⟨(hb.cell (by rw [block_add]; exact hlt)).trans c0, (hb.cell (by rw [block_add]; exact hlt)).trans c1⟩⟩
theorem PairsAt.getB {k : Nat} (h : PairsAt w a n c es) (hb : Below w.heap.size w w') (hk : k < n) : ∃ ad x y, a = some ad ∧ (ad.add (k * 2)).block < w.heap.size ∧ Hid (es[k]? = some ⟨x, y⟩) ∧
    w'.cell? (ad.add (k * 2)) = some (.int .i64 x) ∧ w'.cell? ⟨(ad.add (k * 2)).block, (ad.add (k * 2)).off + 1, none⟩ = some (.int .i64 y) := by
  obtain ⟨ad, e, hlt, hc⟩ := h.2.2.2 (by omega)
  have hl : k < es.length := by rw [h.1]; exact hk
  have hg : es[k]? = some es[k] := List.getElem?_eq_getElem hl
  obtain ⟨c0, c1⟩ := hc k _ hg
  rw [show k * 2 + 1 = k * 2 + (0 + 1) by omega, add_parts] at c1
  exact ⟨ad, es[k].x, es[k].y, e, by rw [block_add]; exact hlt, hg, (hb.cell (by rw [block_add]; exact hlt)).trans c0, (hb.cell (by simp only [block_add]; exact hlt)).trans c1⟩
theorem RoundsAt.len (h : RoundsAt w a n c L) : L.length = n := h.1
theorem RoundsAt.lim (h : RoundsAt w a n c L) : n ≤ 17592186044416 := h.2.2.1
theorem RoundsAt.nil_ (w : World) : RoundsAt w none 0 0 [] := ⟨rfl, Nat.le_refl _, by omega, fun h => absurd h (by omega)⟩
theorem RoundsAt.below (h : RoundsAt w a n c L) (hb : Below w.heap.size w w') : RoundsAt w' a n c L :=
  ⟨h.1, h.2.1, h.2.2.1, fun hn => by
    obtain ⟨ad, e, hlt, hc⟩ := h.2.2.2 hn
    exact ⟨ad, e, Nat.lt_of_lt_of_le hlt hb.size, fun j r hr i v hi hv => (hb.cell (by rw [block_add]; exact hlt)).trans (hc j r hr i v hi hv)⟩⟩
theorem RoundsAt.getB {k : Nat} (h : RoundsAt w a n c L) (hb : Below w.heap.size w w') (hk : k < n) : ∃ ad, a = some ad ∧ (ad.add (k * 6)).block < w.heap.size ∧ ∃ r, L[k]? = some r ∧
    w'.cell? (ad.add (k * 6)) = some (.int .i64 r.x0) ∧ w'.cell? ⟨(ad.add (k * 6)).block, (ad.add (k * 6)).off + 1, none⟩ = some (.int .i64 r.x1) ∧ w'.cell? ⟨(ad.add (k * 6)).block, (ad.add (k * 6)).off + 2, none⟩ = some (.int .i64 r.x2) ∧ w'.cell? ⟨(ad.add (k * 6)).block, (ad.add (k * 6)).off + 3, none⟩ = some (.int .i64 r.x3) ∧ w'.cell? ⟨(ad.add (k * 6)).block, (ad.add (k * 6)).off + 4, none⟩ = some (.int .i64 r.x4) ∧ w'.cell? ⟨(ad.add (k * 6)).block, (ad.add (k * 6)).off + 5, none⟩ = some (.int .i64 r.x5) := by
  obtain ⟨ad, e, hlt, hc⟩ := h.2.2.2 (by omega)
  have hl : k < L.length := by rw [h.1]; exact hk
  have hg : L[k]? = some L[k] := List.getElem?_eq_getElem hl
  have h0 := hc k _ hg 0 _ (by omega) rfl
  rw [show k * 6 + 0 = k * 6 by omega] at h0
  have key : ∀ i v, i + 1 < 6 → L[k].cells[i + 1]? = some v → w'.cell? ⟨(ad.add (k * 6)).block, (ad.add (k * 6)).off + (i + 1), none⟩ = some v := fun i v hi hv => by
    have h1 := hc k _ hg (i + 1) v hi hv
    rw [add_parts] at h1
    exact (hb.cell (by simp only [block_add]; exact hlt)).trans h1
  exact ⟨ad, e, by rw [block_add]; exact hlt, L[k], hg, (hb.cell (by rw [block_add]; exact hlt)).trans h0, key 0 _ (by omega) rfl, key 1 _ (by omega) rfl, key 2 _ (by omega) rfl, key 3 _ (by omega) rfl, key 4 _ (by omega) rfl⟩
theorem RoundsAt.of_own {B : Nat} {e : TypeId} {v : Value} (h : w.ownsRow B e 6 v L.length (flat6 L)) (hl : L.length ≤ 17592186044416) :
    ∃ a c, v = .slice a L.length c ∧ RoundsAt w a L.length c L := by
  rcases h.2 with ⟨rfl, h0⟩ | ⟨g, cap, cur, rfl, _, hg, hn, _, hs, hx⟩
  · have : L = [] := List.eq_nil_of_length_eq_zero h0
    subst this
    exact ⟨none, 0, rfl, RoundsAt.nil_ w⟩
  · refine ⟨_, _, rfl, rfl, hn, hl, fun h0 => ⟨_, rfl, ?_, fun j r hj i v hi hv => ?_⟩⟩
    · rcases Nat.lt_or_ge g w.heap.size with h1 | h1
      · exact h1
      · rw [Array.getElem?_eq_none h1] at hg; cases hg
    · have hjl := (List.getElem?_eq_some_iff.1 hj).1
      have e1 : (⟨g, 0, none⟩ : Addr).add (j * 6 + i) = ⟨g, j * 6 + i, none⟩ := by unfold Addr.add; split <;> simp_all
      rw [e1]
      have e2 : w.cell? ⟨g, j * 6 + i, none⟩ = cur[j * 6 + i]? := by simp [World.cell?, hg]
      rw [e2]
      have e3 : (cur.toList.take (L.length * 6))[j * 6 + i]? = some v := by rw [hx, flat6_get hj i hi, hv]
      rw [List.getElem?_take, if_pos (by omega)] at e3
      simpa using e3
end
theorem own6_row {w : World} {B : Nat} {e : TypeId} {v : Value} {n : Nat} {xs : List Value} (h : w.ownsRow B e 6 v n xs) : ∀ k, v.ownBlock = some k → B ≤ k := by
  intro k hk
  rcases h.2 with ⟨rfl, _⟩ | ⟨g, cap, cur, rfl, hg, _⟩
  · simp [Value.ownBlock] at hk
  · simp [Value.ownBlock] at hk; omega
theorem own6_far {w : World} {B g : Nat} {e : TypeId} {v : Value} {n : Nat} {xs : List Value} (h : w.ownsRow B e 6 v n xs) (hg : g < B) : some g ≠ v.ownBlock := fun hk => by
  have := own6_row h g hk.symm; omega

/-- the int that a cell holds -/
def rdI (w : World) (p : Addr) : Int := match w.cell? p with | some (.int _ x) => x | _ => 0
section
variable {H : Type} {enc : TypeId × Value → H} {P : Program} {w : World} {base : Nat}
theorem pairs_of_slice {t te : TypeId} {k fuel : Nat} {v : Value} {x : DataW H × List MemPlace} (ht : P.underlying t = some (.slice te)) (hfl : flatI P k te = true) (hC : P.cellsOf te = 2)
    (h : DataW.trod enc P w base (fun _ => true) true fuel t [v] = some x) :
    ∃ a n c es, v = .slice a n c ∧ (n ≤ 17592186044416 → PairsAt w a n c es) ∧ (n = 0 ∨ ∃ el sp, x.1 = .slice el sp ∧ n ≤ el.length + sp.length) := by
  rcases open_slice ht h with ⟨hcs, hx⟩ | ⟨a, len, cap, m, n, D, Pl, hcs, hb, hl, hm, hmm, hx, hi⟩
  · obtain rfl : v = .slice none 0 0 := by simpa using hcs
    exact ⟨none, 0, 0, [], rfl, fun _ => ⟨rfl, Nat.le_refl _, Nat.zero_le _, fun h => absurd h (by omega)⟩, .inl rfl⟩
  · obtain rfl : v = .slice (some a) len cap := by simpa using hcs
    have hmm' : m = cap := by simpa using hmm
    subst hmm'
    rw [hC] at hi
    have hcell : ∀ i, i < len → ∃ x y : Int, w.cell? (a.add (i * 2)) = some (.int .i64 x) ∧ w.cell? (a.add (i * 2 + 1)) = some (.int .i64 y) := by
      intro i hil
      obtain ⟨cs', hc, ht'⟩ := hi i (by omega)
      obtain ⟨_, hcl, hat⟩ := World.cells?_some hc
      have key : ∀ j, j < 2 → ∃ x : Int, w.cell? (a.add (i * 2 + j)) = some (.int .i64 x) := by
        intro j hj
        obtain ⟨q, hq, _⟩ := flat_cells k te _ cs' _ hfl ht' j (cs'[j]'(by omega)) (List.getElem?_eq_getElem _)
        refine ⟨q, ?_⟩
        have hc1 := hat j (by omega)
        rw [Go.Deep.add_add] at hc1
        rw [hc1, List.getElem?_eq_getElem (by omega), hq]
      obtain ⟨x, hx⟩ := key 0 (by omega)
      obtain ⟨y, hy⟩ := key 1 (by omega)
      exact ⟨x, y, hx, hy⟩
    refine ⟨some a, len, m, (List.range len).map fun i => ⟨rdI w (a.add (i * 2)), rdI w (a.add (i * 2 + 1))⟩, rfl, fun hb => ⟨by simp, hl, hb, fun h0 => ⟨a, rfl, ?_, fun j e hj => ?_⟩⟩, .inr ⟨_, _, by rw [hx], by simp⟩⟩
    · obtain ⟨x, y, hx, _⟩ := hcell 0 h0
      have := World.block_lt_of_cell? w _ hx
      rwa [block_add] at this
    · have hjl : j < len := by
        have := (List.getElem?_eq_some_iff.1 hj).1
        simpa using this
      rw [List.getElem?_map, List.getElem?_range hjl] at hj
      simp only [Option.map_some, Option.some.injEq] at hj
      subst hj
      obtain ⟨x, y, hx, hy⟩ := hcell j hjl
      refine ⟨?_, ?_⟩
      · rw [show rdI w (a.add (j * 2)) = x by unfold rdI; rw [hx]]; exact hx
      · rw [show rdI w (a.add (j * 2 + 1)) = y by unfold rdI; rw [hy]]; exact hy
end

end Go.Proofs.Ythjicnddfjpnjaa
