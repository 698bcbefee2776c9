/-
  LEMMAS: a graph among the arguments.
-/
import Derived.Test.YthjicnddfjpnjaaEdge
import Derived.Test.YthjicnddfjpnjaaFrame
import Derived.Lib.SmallJoins
import Derived.Deep.Slices
import Derived.Deep.Fields
import Derived.ChangeSame
namespace Go.Proofs.Ythjicnddfjpnjaa
open Go.Joins Go.RowKit Go.ChangeShapes Go.WideShapes Go.Deep
set_option linter.unusedSimpArgs false
set_option linter.unusedVariables false

/-- the int that a cell holds -/
def rdI (w : World) (p : Addr) : Int := match w.cell? p with | some (.int _ x) => x | _ => 0
section
variable {H : Type} {enc : TypeId × Value → H} {P : Program} {w : World} {base : Nat}
theorem edges_of_slice {t te : TypeId} {g0 g1 g2 : Field} {fuel : Nat} {v : Value} {x : DataW H × List MemPlace} (ht : P.underlying t = some (.slice te)) (he : P.underlying te = some (.struct #[g0, g1, g2])) (hC : P.cellsOf te = 3)
    (o0 : g0.offset = 0 ∧ P.cellsOf g0.type = 1 ∧ P.underlying g0.type = some (.int .i64)) (o1 : g1.offset = 1 ∧ P.cellsOf g1.type = 1 ∧ P.underlying g1.type = some (.int .i64)) (o2 : g2.offset = 2 ∧ P.cellsOf g2.type = 1 ∧ P.underlying g2.type = some (.int .i64))
    (h : DataW.trod enc P w base (fun _ => true) true fuel t [v] = some x) :
    ∃ a n c es, v = .slice a n c ∧ (n ≤ 17592186044416 → EdgesAt w a n c es) ∧ (n = 0 ∨ ∃ el sp, x.1 = .slice el sp ∧ n ≤ el.length + sp.length) := by
  rcases open_slice ht h with ⟨hcs, hx⟩ | ⟨a, len, cap, m, n, D, Pl, hcs, hb, hl, hm, hmm, hx, hi⟩
  · obtain rfl : v = .slice none 0 0 := by simpa using hcs
    exact ⟨none, 0, 0, [], rfl, fun _ => ⟨rfl, Nat.le_refl _, Nat.zero_le _, fun h => absurd h (by omega)⟩, .inl rfl⟩
  · obtain rfl : v = .slice (some a) len cap := by simpa using hcs
    have hmm' : m = cap := by simpa using hmm
    subst hmm'
    rw [hC] at hi
    have hcell : ∀ i, i < len → ∃ x y z : Int, w.cell? (a.add (i * 3)) = some (.int .i64 x) ∧ w.cell? (a.add (i * 3 + 1)) = some (.int .i64 y) ∧ w.cell? (a.add (i * 3 + 2)) = some (.int .i64 z) := by
      intro i hil
      obtain ⟨cs', hc, ht'⟩ := hi i (by omega)
      obtain ⟨ys, n', hn', hy, hlen, hyl, hf⟩ := DataW.trod_struct he ht'
      obtain ⟨_, hcl, hat⟩ := World.cells?_some hc
      have key : ∀ (j : Nat) (g : Field), j < 3 → #[g0, g1, g2][j]? = some g → g.offset = j → P.cellsOf g.type = 1 → P.underlying g.type = some (.int .i64) → ∃ x : Int, w.cell? (a.add (i * 3 + j)) = some (.int .i64 x) := by
        intro j g hj hg ho hk hu
        have h1 := hf j g hg
        rw [ho, hk] at h1
        have hone' : (cs'.drop j).take 1 = [cs'[j]'(by omega)] := by
          rw [List.drop_eq_getElem_cons (by omega)]
          rfl
        rw [hone'] at h1
        have hys : ys[j]? = some (ys[j]'(by rw [hyl]; exact hj)) := List.getElem?_eq_getElem _
        rw [hys] at h1
        obtain ⟨q, hq, _, _⟩ := DataW.trod_int hu h1
        refine ⟨q, ?_⟩
        have hc1 := hat j (by omega)
        rw [Go.Deep.add_add] at hc1
        rw [hc1, List.getElem?_eq_getElem (by omega)]
        simpa using hq
      obtain ⟨x, hx⟩ := key 0 g0 (by omega) rfl o0.1 o0.2.1 o0.2.2
      obtain ⟨y, hy⟩ := key 1 g1 (by omega) rfl o1.1 o1.2.1 o1.2.2
      obtain ⟨z, hz⟩ := key 2 g2 (by omega) rfl o2.1 o2.2.1 o2.2.2
      exact ⟨x, y, z, hx, hy, hz⟩
    refine ⟨some a, len, m, (List.range len).map fun i => ⟨rdI w (a.add (i * 3)), rdI w (a.add (i * 3 + 1)), rdI w (a.add (i * 3 + 2))⟩, rfl, fun hb => ⟨by simp, hl, hb, fun h0 => ⟨a, rfl, ?_, fun j e hj => ?_⟩⟩, .inr ⟨_, _, by rw [hx], by simp⟩⟩
    · obtain ⟨x, y, z, hx, _⟩ := hcell 0 h0
      have := World.block_lt_of_cell? w _ hx
      rwa [block_add] at this
    · have hjl : j < len := by
        have := (List.getElem?_eq_some_iff.1 hj).1
        simpa using this
      rw [List.getElem?_map, List.getElem?_range hjl] at hj
      simp only [Option.map_some, Option.some.injEq] at hj
      subst hj
      obtain ⟨x, y, z, hx, hy, hz⟩ := hcell j hjl
      refine ⟨?_, ?_, ?_⟩
      · rw [show rdI w (a.add (j * 3)) = x by unfold rdI; rw [hx]]; exact hx
      · rw [show rdI w (a.add (j * 3 + 1)) = y by unfold rdI; rw [hy]]; exact hy
      · rw [show rdI w (a.add (j * 3 + 2)) = z by unfold rdI; rw [hz]]; exact hz
theorem open_graph {r : Reach} {b0 : Nat} {tg te : TypeId} {f0 f1 g0 g1 g2 : Field} {v : Value} {d : DataW H} {p : List MemPlace} {ts : List TypeId} {ds : List (DataW H)} {j : Nat}
    (hs : P.underlying tg = some (.struct #[f0, f1])) (hone : oneCellFields P #[f0, f1] = true) (hCg : P.cellsOf tg = 2) (h0 : P.underlying f0.type = some (.int .i64)) (h1 : P.underlying f1.type = some (.slice te))
    (he : P.underlying te = some (.struct #[g0, g1, g2])) (hC : P.cellsOf te = 3) (hby : P.bytesOf te = 24)
    (o0 : g0.offset = 0 ∧ P.cellsOf g0.type = 1 ∧ P.underlying g0.type = some (.int .i64)) (o1 : g1.offset = 1 ∧ P.cellsOf g1.type = 1 ∧ P.underlying g1.type = some (.int .i64)) (o2 : g2.offset = 2 ∧ P.cellsOf g2.type = 1 ∧ P.underlying g2.type = some (.int .i64))
    (hz : (DataW.weightsEach P ts ds).all (· ≤ reachBytes) = true) (htj : ts[j]? = some tg) (hdj : ds[j]? = some d)
    (hv : Value.okWide P w r b0 tg v) (h : DataW.Trod enc P w base (fun _ => true) true tg v d p) :
    ∃ N a n c es, v = .agg #[.int .i64 N, .slice a n c] ∧ EdgesAt w a n c es ∧ (Lit.int .i64 N).wf = true := by
  obtain ⟨v0, v1, y0, y1, n, rfl, rfl, rfl, t0, t1⟩ := open_agg2 hs hone hCg hv h
  obtain ⟨N, hN, _, hw⟩ := DataW.trod_int h0 t0
  obtain rfl : v0 = .int .i64 N := by simpa using hN
  obtain ⟨a, n', c, es, rfl, hE, hn⟩ := edges_of_slice h1 he hC o0 o1 o2 t1
  refine ⟨N, a, n', c, es, rfl, hE ?_, hw⟩
  rcases hn with rfl | ⟨el, sp, hx, hn⟩
  · omega
  · have h5 := of_decide_eq_true (List.all_eq_true.1 hz _ (DataW.weights_mem_each htj hdj ((el.length + sp.length) * P.bytesOf te) (by
      simp only [DataW.weights, hs]
      refine DataW.weights_mem_each (j := 1) (t := f1.type) (d := y1.1) rfl rfl _ ?_
      rw [hx]
      simp [DataW.weights, h1])))
    rw [hby, show reachBytes = 140737488351232 from rfl] at h5
    omega
end

end Go.Proofs.Ythjicnddfjpnjaa
