/-
  SLICES OF EDGES in memory. No program in sight.
-/
import Derived.Test.YthjicnddfjpnjaaSl
namespace Go.Proofs.Ythjicnddfjpnjaa
open Go.RowKit
set_option linter.unusedSimpArgs false
set_option linter.unusedVariables false

structure GE where
  src : Int
  dst : Int
  wt : Int
/-- a slice of edges, three ints each: nil, or empty, or its cells lie in memory -/
def EdgesAt (w : World) (a : Option Addr) (n c : Nat) (es : List GE) : Prop :=
  es.length = n ∧ n ≤ c ∧ n ≤ 17592186044416 ∧ (0 < n → ∃ ad, a = some ad ∧ ad.block < w.heap.size ∧ ∀ (j : Nat) (e : GE), es[j]? = some e → w.cell? (ad.add (j * 3)) = some (.int .i64 e.src) ∧ w.cell? (ad.add (j * 3 + 1)) = some (.int .i64 e.dst) ∧ w.cell? (ad.add (j * 3 + 2)) = some (.int .i64 e.wt))
section
variable {w w' : World} {a : Option Addr} {n c : Nat} {es : List GE}
theorem EdgesAt.len (h : EdgesAt w a n c es) : es.length = n := h.1
theorem EdgesAt.cap (h : EdgesAt w a n c es) : n ≤ c := h.2.1
theorem EdgesAt.lim (h : EdgesAt w a n c es) : n ≤ 17592186044416 := h.2.2.1
theorem EdgesAt.below (h : EdgesAt w a n c es) (hb : Below w.heap.size w w') : EdgesAt w' a n c es :=
  ⟨h.1, h.2.1, h.2.2.1, fun hn => by
    obtain ⟨ad, e, hlt, hc⟩ := h.2.2.2 hn
    refine ⟨ad, e, Nat.lt_of_lt_of_le hlt hb.size, fun j x hx => ?_⟩
    obtain ⟨c0, c1, c2⟩ := hc j x hx
    exact ⟨(hb.cell (by rw [block_add]; exact hlt)).trans c0, (hb.cell (by rw [block_add]; exact hlt)).trans c1, (hb.cell (by rw [block_add]; exact hlt)).trans c2⟩⟩
theorem add_parts (ad : Addr) (m i : Nat) : ad.add (m + (i + 1)) = ⟨(ad.add m).block, (ad.add m).off + (i + 1), none⟩ := by
  unfold Addr.add; (repeat' split) <;> simp_all <;> omega
/-- the k-th edge's cells, as the walk spells their addresses -/
theorem EdgesAt.getB {k : Nat} (h : EdgesAt w a n c es) (hb : Below w.heap.size w w') (hk : k < n) : ∃ ad x y z, a = some ad ∧ (ad.add (k * 3)).block < w.heap.size ∧ Hid (es[k]? = some ⟨x, y, z⟩) ∧
    w'.cell? (ad.add (k * 3)) = some (.int .i64 x) ∧ w'.cell? ⟨(ad.add (k * 3)).block, (ad.add (k * 3)).off + 1, none⟩ = some (.int .i64 y) ∧ w'.cell? ⟨(ad.add (k * 3)).block, (ad.add (k * 3)).off + 2, none⟩ = some (.int .i64 z) := by
  obtain ⟨ad, e, hlt, hc⟩ := h.2.2.2 (by omega)
  have hl : k < es.length := by rw [h.1]; exact hk
  have hg : es[k]? = some es[k] := List.getElem?_eq_getElem hl
  obtain ⟨c0, c1, c2⟩ := hc k _ hg
  rw [show k * 3 + 1 = k * 3 + (0 + 1) by omega, add_parts] at c1
  rw [show k * 3 + 2 = k * 3 + (1 + 1) by omega, add_parts] at c2
  exact ⟨ad, es[k].src, es[k].dst, es[k].wt, e, by rw [block_add]; exact hlt, hg, (hb.cell (by rw [block_add]; exact hlt)).trans c0, (hb.cell (by simp only [block_add]; exact hlt)).trans c1, (hb.cell (by simp only [block_add]; exact hlt)).trans c2⟩
end

end Go.Proofs.Ythjicnddfjpnjaa
