/-
  Lemmas and walks for the statement: SteadyR.
-/
import Derived.Test.YtmmjopmffpfccaaQ46
namespace Go.Proofs.Ytmmjopmffpfccaa
open Go.RowKit
set_option linter.unusedSimpArgs false
set_option linter.unusedVariables false
structure Rows5 (B N m : Nat) (X : Sx) (v0 v1 v2 v3 v4 : Value) (u : World) : Prop where
 r0 : u.ownsRow B 29 14 v0 N (flatS X.states)
 r1 : u.ownsRow B 3 1 v1 m ((fromsE X.edges).map (Value.int .i64))
 r2 : u.ownsRow B 3 1 v2 m ((tosE X.edges).map (Value.int .i64))
 r3 : u.ownsRow B 22 2 v3 m (flat2 (latesE X.edges))
 r4 : u.ownsRow B 34 6 v4 m (flatU X.edges)
theorem Rows5.below {B N m : Nat} {X : Sx} {v0 v1 v2 v3 v4 : Value} {u u' : World} (h : Rows5 B N m X v0 v1 v2 v3 v4 u) (hb : Below u.heap.size u u') : Rows5 B N m X v0 v1 v2 v3 v4 u' :=
 ⟨rows_below h.r0 hb, rows_below h.r1 hb, rows_below h.r2 hb, rows_below h.r3 hb, rows_below h.r4 hb⟩
theorem pequal_2 (B B' : Nat) (v v' : Value) (l : List P2) (w : World) (hn3 : l.length ≤ 4800) (h : w.ownsRow B 22 2 v l.length (flat2 l)) (h' : w.ownsRow B' 22 2 v' l.length (flat2 l)) (hg : ∀ p ∈ l, 0 ≤ p.x ∧ p.x ≤ 3 ∧ 0 ≤ p.y ∧ p.y ≤ 3) :
 Calls Try.prog 22 #[v, v'] w fun e w' => e = .returned (.bool true) ∧ Below w.heap.size w w' := by
 rw [flat2_S] at h h'
 refine pequal_any B B' v v' (l.map fun p => [p.x, p.y]) l.length w (by simp) hn3 h h' (fun t ht => ?_)
 obtain ⟨p, hp, rfl⟩ := List.mem_map.1 ht
 have := hg p hp
 refine ⟨rfl, fun z hz => ?_⟩
 rcases (show z = p.x ∨ z = p.y by simpa using hz) with rfl | rfl <;> exact sm_wf ⟨by omega, by omega⟩
theorem eequal_3 (who ratio : Int) (hw : who = 0 ∨ who = 1) (hr : 1 ≤ ratio ∧ ratio ≤ 100) (B B' : Nat) (v v' : Value) (es : List Edg) (m : Nat) (w : World) (hm : es.length = m) (hn3 : m ≤ 4800) (h : w.ownsRow B 67 3 v m (flatE who ratio es)) (h' : w.ownsRow B' 67 3 v' m (flatE who ratio es)) (hU : ∀ E ∈ es, E.t ≤ 300 ∧ E.f ≤ 300 ∧ UU E.us) :
 Calls Try.prog 25 #[v, v'] w fun e w' => e = .returned (.bool true) ∧ Below w.heap.size w w' := by
 rw [flatE_S] at h h'
 refine eequal_any B B' v v' (es.map fun E => [(E.f : Int), (E.t : Int), wtE who ratio E.us]) m w (by simpa using hm) hn3 h h' (fun t ht => ?_)
 obtain ⟨E, hE, rfl⟩ := List.mem_map.1 ht
 obtain ⟨h1, h2, h3⟩ := hU E hE
 have h4 := wtE_sml h3 hw hr
 refine ⟨rfl, fun z hz => ?_⟩
 rcases (show z = (E.f : Int) ∨ z = (E.t : Int) ∨ z = wtE who ratio E.us by simpa using hz) with rfl | rfl | rfl <;> exact sm_wf ⟨by omega, by omega⟩
end Go.Proofs.Ytmmjopmffpfccaa
