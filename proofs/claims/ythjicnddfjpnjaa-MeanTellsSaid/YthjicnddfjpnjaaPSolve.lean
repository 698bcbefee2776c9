/-
  PLAIN: the in-place rounds, step by step; two blocks that are written.
-/
import Derived.Test.YthjicnddfjpnjaaPMost
import Derived.Test.YthjicnddfjpnjaaR3
namespace Go.Proofs.Ythjicnddfjpnjaa
open Go.RowKit
set_option linter.unusedSimpArgs false
set_option linter.unusedVariables false

theorem prun_snoc : ∀ (l : List PE) (k : Nat) (s : PS) (e : PE), prun (l ++ [e]) k s = pstep (prun l k s) (k + l.length) e
  | [], k, s, e => rfl
  | d :: l, k, s, e => by
    show prun (l ++ [e]) (k + 1) (pstep s k d) = _
    rw [prun_snoc l (k + 1) (pstep s k d) e, List.length_cons, show k + 1 + l.length = k + (l.length + 1) by omega]
    rfl
theorem prun_take {es : List PE} {k : Nat} {e : PE} (h : es[k]? = some e) (s : PS) : prun (es.take (k + 1)) 0 s = pstep (prun (es.take k) 0 s) k e := by
  have hk := (List.getElem?_eq_some_iff.1 h).1
  have e1 : es.take (k + 1) = es.take k ++ [e] := by
    rw [List.take_succ_eq_append_getElem hk]
    rw [List.getElem?_eq_getElem hk] at h; injection h with h; rw [h]
  rw [e1, prun_snoc, List.length_take, show 0 + min k es.length = k by omega]
theorem pstep_b {s : PS} {k : Nat} {e : PE} {M : Int} (hw : e.wt ≤ 1048576) (hs : ∀ v, 0 ≤ s.m v ∧ s.m v ≤ M) : ∀ v, 0 ≤ (pstep s k e).m v ∧ (pstep s k e).m v ≤ M + 1048576 := by
  intro v
  have h1 := hs v
  have h2 := hs e.src
  have h3 := hs e.dst
  unfold pstep
  split
  · simp only [upd]; split <;> omega
  · omega
theorem prun_b {N : Int} {es : List GE} (hg : GraphOk N es) {s : PS} {M : Int} (hs : ∀ v, 0 ≤ s.m v ∧ s.m v ≤ M) : ∀ k, k ≤ es.length → ∀ v, 0 ≤ (prun ((pes es).take k) 0 s).m v ∧ (prun ((pes es).take k) 0 s).m v ≤ M + k * 1048576
  | 0, _, v => by have := hs v; simp [prun]; omega
  | k + 1, hk, v => by
    have ih := prun_b hg hs k (by omega)
    have he : es[k]? = some (es[k]'(by omega)) := List.getElem?_eq_getElem (by omega)
    rw [prun_take (pes_get he)]
    have hok := hg.2 _ (List.getElem_mem (show k < es.length by omega))
    unfold EdgeOk at hok
    have := pstep_b (k := k) (e := peOf (es[k]'(by omega))) (by simp only [peOf]; omega) ih v
    omega
/-- but for two blocks all that lay there reads as it did -/
structure Two (w w' : World) (g1 g2 : Nat) : Prop where
  os : w'.os = w.os
  tape : w'.tape = w.tape
  output : w'.output = w.output
  size : w.heap.size ≤ w'.heap.size
  block : ∀ k, k < w.heap.size → k ≠ g1 → k ≠ g2 → w'.heap[k]? = w.heap[k]?
section
variable {w w' w'' : World} {g1 g2 : Nat}
theorem Two.refl (w : World) (g1 g2 : Nat) : Two w w g1 g2 := ⟨rfl, rfl, rfl, Nat.le_refl _, fun _ _ _ _ => rfl⟩
theorem Two.trans (h : Two w w' g1 g2) (h' : Two w' w'' g1 g2) : Two w w'' g1 g2 :=
  ⟨h'.os.trans h.os, h'.tape.trans h.tape, h'.output.trans h.output, Nat.le_trans h.size h'.size, fun k hk h1 h2 => (h'.block k (Nat.lt_of_lt_of_le hk h.size) h1 h2).trans (h.block k hk h1 h2)⟩
theorem Two.of_below (h : Below w.heap.size w w') : Two w w' g1 g2 := ⟨h.os, h.tape, h.output, h.size, fun k hk _ _ => h.block k hk⟩
theorem Two.alloc (h : Two w w' g1 g2) (o : Obj) : Two w (w'.alloc o) g1 g2 := h.trans (Two.of_below ((Below.refl _ _).alloc (Nat.le_refl _) o))
theorem Two.drewN (h : Two w w' g1 g2) (m : Nat) : Two w (w'.drewN m) g1 g2 := h.trans (Two.of_below (below_drewN (Below.refl _ _) m))
theorem Two.drew (h : Two w w' g1 g2) : Two w w'.drew g1 g2 := h.trans (Two.of_below (Below.refl _ _).drew)
theorem Two.set1 (h : Two w w' g1 g2) (j : Nat) (u : Value) : Two w (w'.setCell ⟨g1, j, none⟩ u) g1 g2 :=
  h.trans ⟨rfl, rfl, rfl, by simp [World.setCell], fun k _ h1 _ => by (have hne : ¬ g1 = k := (fun e => h1 e.symm)); simp [World.setCell, Array.getElem?_modify, hne]⟩
theorem Two.set2 (h : Two w w' g1 g2) (j : Nat) (u : Value) : Two w (w'.setCell ⟨g2, j, none⟩ u) g1 g2 :=
  h.trans ⟨rfl, rfl, rfl, by simp [World.setCell], fun k _ _ h2 => by (have hne : ¬ g2 = k := (fun e => h2 e.symm)); simp [World.setCell, Array.getElem?_modify, hne]⟩
theorem Two.cell (h : Two w w' g1 g2) {p : Addr} {v : Value} (h1 : p.block ≠ g1) (h2 : p.block ≠ g2) (hc : w.cell? p = some v) : w'.cell? p = some v := by
  have hb := World.block_lt_of_cell? w _ hc
  have := h.block p.block hb h1 h2
  rw [← hc]; simp [World.cell?, this]
theorem Two.below (h : Two w w' g1 g2) {B : Nat} (hB : B ≤ w.heap.size) (h1 : B ≤ g1) (h2 : B ≤ g2) : Below B w w' :=
  ⟨h.os, h.tape, h.output, h.size, fun k hk => h.block k (Nat.lt_of_lt_of_le hk hB) (by omega) (by omega)⟩
end

end Go.Proofs.Ythjicnddfjpnjaa
