/-
  AN APPEND TO A ROW OF THE CALL'S OWN: the old row's cells read on. No program in sight.
-/
import Derived.Test.YthokolfgagkmiaaSl
namespace Go.Proofs.Ythokolfgagkmiaa
open Go.RowKit
set_option linter.unusedSimpArgs false
set_option linter.unusedVariables false

theorem append_keeps {P : Program} {w : World} (t ty : TypeId) (base : Nat) (e : TypeId) (i : TypeInfo) (z : Value) (bytes : Nat) (ht : P.underlying t = some (.slice e)) (hi : P.info? e = some i) (hz : i.zero = some z)
    (hsize : i.size = 1) (hby : i.bytes = bytes) (hzs : z.cells.size = 1) (g n cap : Nat) (xs : List Value) (hn0 : 0 < n) (hown : w.ownsRow base e 1 (.slice (some ⟨g, 0, none⟩) n cap) n xs)
    (ad : Addr) (m c : Nat) (news : List Value) (hl : news.length = m * 1) (hnews : ∀ j u, news[j]? = some u → w.cell? (ad.add j) = some u) (h1 : ∀ u ∈ news, u.oneCell' = true)
    (hm : 0 < m) (h63 : n + m ≤ maxLen) (hbytes : (n + m) * bytes ≤ 140737488355328) (hbase : base ≤ w.heap.size) :
    ∃ g' cap' w', (Builtin.append_ #[t, t] ty #[.slice (some ⟨g, 0, none⟩) n cap, .slice (some ad) m c]).run P w = .ok (.slice (some ⟨g', 0, none⟩) (n + m) cap') w' ∧
      w'.ownsRow base e 1 (.slice (some ⟨g', 0, none⟩) (n + m) cap') (n + m) (xs ++ news) ∧ w.grownBy w' (some g) ∧ g' < w'.heap.size ∧ ∀ j u, xs[j]? = some u → w'.cell? ⟨g, j, none⟩ = some u := by
  obtain ⟨g', cap', w', hr, h2, h3, h4, h5⟩ := run_append_lies (P := P) (w := w) t ty base e i z 1 bytes ht hi hz hsize hby hzs (by decide) _ n xs hown ad m c news hl hnews h1 hm h63 hbytes hbase w.heap.size rfl
  have hold : ∀ j u, xs[j]? = some u → w.cell? ⟨g, j, none⟩ = some u := by
    intro j u hj
    have := hown.cells (g := g) rfl j u hj
    rwa [show (⟨g, 0, none⟩ : Addr).add j = ⟨g, j, none⟩ by unfold Addr.add; split <;> simp_all] at this
  refine ⟨g', cap', w', hr, h2, h3, h5, fun j u hj => ?_⟩
  by_cases hge : cap < n + m
  · have hr' := run_append_grow (P := P) (w := w) t ty e i z ht hi hz ⟨g, 0, none⟩ n cap xs (by rw [hsize]; exact hown.1) (fun j u hj => by
      rw [show (⟨g, 0, none⟩ : Addr).add j = ⟨g, j, none⟩ by unfold Addr.add; split <;> simp_all]; exact hold j u hj) ad m c news (by rw [hsize]; exact hl) hnews hge (by unfold maxLen at h63; omega) (growslice_fits hge (by rw [hby]; exact hbytes))
    rw [hr] at hr'
    injection hr' with _ hw
    subst hw
    have hg : g < w.heap.size := World.block_lt_of_cell? w _ (hold j u hj)
    exact ((((Below.refl w.heap.size w).drew).alloc (by simp) _).cell (by exact hg)).trans (hold j u hj)
  · rcases hown.2 with ⟨hc, _⟩ | ⟨g0, cap0, cur, hv, _, hgg, hnc, _, hcs, htk⟩
    · cases hc
    · injection hv with e1 e2 e3
      injection e1 with e1
      injection e1 with e1
      subst e1; subst e3
      have hr' := run_append_room (P := P) w t ty e i ht hi g n cap cur hgg ad m c news (by rw [hsize]; exact hl) hnews h1 (by omega) (by rw [hsize, hl, hcs]; omega)
      rw [hr] at hr'
      injection hr' with hv' _
      injection hv' with e1 _ _
      injection e1 with e1
      injection e1 with e1
      subst e1
      obtain ⟨k, hk⟩ : ∃ k, n + m = k + 1 := ⟨n + m - 1, by omega⟩
      rw [hk] at h2
      obtain ⟨g1, c1, hv1, _, _, _, hcl, _⟩ := own_form h2
      injection hv1 with e1 _ _
      injection e1 with e1
      injection e1 with e1
      subst e1
      have hjl := (List.getElem?_eq_some_iff.1 hj).1
      exact hcl j u (by rw [List.getElem?_append_left hjl]; exact hj)
theorem step_append_keeps {P : Program} {w : World} {ops : Array Oper} {o : Oper} {a : Act} {K : Act → World → Prop} {Q : Exit → Act → World → Prop} {E : Prop} (hgd : o.guard = none) (s x : Operand) (t : TypeId)
    (ho : o.op = .call { callee := .builtin .append, args := #[s, x], argTypes := #[t, t] })
    (base : Nat) (e : TypeId) (i : TypeInfo) (z : Value) (bytes : Nat) (ht : P.underlying t = some (.slice e)) (hi : P.info? e = some i) (hz : i.zero = some z)
    (hsize : i.size = 1) (hby : i.bytes = bytes) (hzs : z.cells.size = 1) (g n cap : Nat) (xs : List Value) (hs : a.eval s = .slice (some ⟨g, 0, none⟩) n cap) (hn0 : 0 < n) (hown : w.ownsRow base e 1 (.slice (some ⟨g, 0, none⟩) n cap) n xs)
    (ad : Addr) (m c : Nat) (news : List Value) (hx : a.eval x = .slice (some ad) m c) (hl : news.length = m * 1) (hnews : ∀ j u, news[j]? = some u → w.cell? (ad.add j) = some u) (h1 : ∀ u ∈ news, u.oneCell' = true)
    (hm : 0 < m) (h63 : n + m ≤ maxLen) (hbytes : (n + m) * bytes ≤ 140737488355328) (hbase : base ≤ w.heap.size)
    (h : ∀ g' cap' w', w'.ownsRow base e 1 (.slice (some ⟨g', 0, none⟩) (n + m) cap') (n + m) (xs ++ news) → w.grownBy w' (some g) → g' < w'.heap.size → (∀ j u, xs[j]? = some u → w'.cell? ⟨g, j, none⟩ = some u) → K (a.put o.dst (.slice (some ⟨g', 0, none⟩) (n + m) cap')) w') :
    if Region.wanted o (yielded ops a.tmps) = true then Oper.wp P o a w K Q else E := by
  have hw : Region.wanted o (yielded ops a.tmps) = true := by simp [Region.wanted, hgd]
  rw [if_pos hw]
  obtain ⟨g', cap', w', hr, h2, h3, h4, h5⟩ := append_keeps (P := P) (w := w) t o.type base e i z bytes ht hi hz hsize hby hzs g n cap xs hn0 hown ad m c news hl hnews h1 hm h63 hbytes hbase
  unfold Oper.wp execOp
  simp only [ho, resolve, invoke, builtin, Sem.run_bind, Sem.run_pure, Result.andThen_ok, List.map_toArray, List.map_cons, List.map_nil, hs, hx, hr]
  exact h g' cap' w' h2 h3 h4 h5


end Go.Proofs.Ythokolfgagkmiaa
