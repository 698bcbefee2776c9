/-
  PLAIN: what Best's rounds and its search come to.
-/
import Derived.Test.YthjicnddfjpnjaaMVisP
namespace Go.Proofs.Ythjicnddfjpnjaa
open Go.RowKit
set_option linter.unusedSimpArgs false
set_option linter.unusedVariables false

theorem pstep_m (s : PS) (k : Nat) (e : PE) (t : Nat) : (pstep s k e).m t = upd s.m e.dst (max (s.m e.dst) (s.m e.src + e.wt)) t := by
  unfold pstep
  split
  · simp only [upd]; split <;> omega
  · simp only [upd]; split
    · rename_i h1 h2; subst h2; omega
    · rfl
theorem pstep_bW {s : PS} {k : Nat} {e : PE} {M : Int} (hw : e.wt ≤ 1099511627776) (hs : ∀ v, 0 ≤ s.m v ∧ s.m v ≤ M) : ∀ v, 0 ≤ (pstep s k e).m v ∧ (pstep s k e).m v ≤ M + 1099511627776 := by
  intro v
  have h1 := hs v
  have h2 := hs e.src
  have h3 := hs e.dst
  unfold pstep
  split
  · simp only [upd]; split <;> omega
  · omega
theorem prun_bW {N : Int} {es : List GE} (hg : GraphOkW N es) {s : PS} {M : Int} (hs : ∀ v, 0 ≤ s.m v ∧ s.m v ≤ M) : ∀ k, k ≤ es.length → ∀ v, 0 ≤ (prun ((pes es).take k) 0 s).m v ∧ (prun ((pes es).take k) 0 s).m v ≤ M + k * 1099511627776
  | 0, _, v => by have := hs v; simp [prun]; omega
  | k + 1, hk, v => by
    have ih := prun_bW hg hs k (by omega)
    have he : es[k]? = some (es[k]'(by omega)) := List.getElem?_eq_getElem (by omega)
    rw [prun_take (pes_get he)]
    have hok := hg.2 _ (List.getElem_mem (show k < es.length by omega))
    unfold EdgeOkW at hok
    have := pstep_bW (k := k) (e := peOf (es[k]'(by omega))) (by simp only [peOf]; omega) ih v
    omega
theorem piter_bW {N : Int} {es : List GE} (hg : GraphOkW N es) : ∀ r v, 0 ≤ (piter (pes es) r).m v ∧ (piter (pes es) r).m v ≤ r * 5277655813324800
  | 0, v => by simp [piter, pzero]
  | r + 1, v => by
    have ih := piter_bW hg r
    have h1 := prun_bW hg (s := { piter (pes es) r with last := -1 }) ih es.length (Nat.le_refl _) v
    have e1 : (pes es).take es.length = pes es := List.take_of_length_le (by rw [pes_len]; exact Nat.le_refl _)
    rw [e1] at h1
    have h2 : (piter (pes es) (r + 1)).m v = (prun (pes es) 0 { piter (pes es) r with last := -1 }).m v := rfl
    have h3 := hg.1.2.2
    rw [h2]
    omega
/-- what the answer 'x by y' brings -/
theorem great_facts {N : Nat} {es : List GE} {x y : Int} (h : GreatSays (N : Int) es x y 0) : GraphOk (N : Int) es ∧ 0 < y ∧ y ≤ 300 ∧ (-1000000000 ≤ x ∧ x ≤ 1000000000) ∧ HasPot (sclG es x y) ∧ ∃ u c, IsWalk (pes (sclG es x y)) u c u ∧ 0 < c.length ∧ wsum c = 0 := by
  rcases h with ⟨_, _, _, h3⟩ | ⟨_, _, _, _, h3⟩ | ⟨hg, _, p, q, hm, rfl, rfl⟩
  · cases h3
  · cases h3
  · obtain ⟨p', q', hq', hm'⟩ := mean_of hg hm.cyc
    have h1 := hm.one hm'
    have hp := hm.pos
    have hp' := hm'.pos
    obtain ⟨e1, e2⟩ := reduce_eq (a := p) (b := q) (c := p') (d := q') (by omega) (by omega) h1
    rw [e1, e2]
    clear e1 e2 h1
    obtain ⟨g, hgd⟩ : ∃ g : Nat, Int.gcd p' q' = g := ⟨_, rfl⟩
    rw [hgd]
    have g0 : 0 < g := by rw [← hgd]; exact gcd_pos_right (by omega)
    obtain ⟨a, ha⟩ : (g : Int) ∣ p' := by rw [← hgd]; exact Int.gcd_dvd_left ..
    obtain ⟨b, hb⟩ : (g : Int) ∣ (q' : Int) := by rw [← hgd]; exact Int.gcd_dvd_right ..
    have ex : p' / (g : Int) = a := by rw [ha]; exact Int.mul_ediv_cancel_left _ (by omega)
    have ey : (q' : Int) / (g : Int) = b := by rw [hb]; exact Int.mul_ediv_cancel_left _ (by omega)
    rw [ex, ey]
    have hN : N ≤ 300 := by have := hg.1.2.1; omega
    have b0 : 0 < b := by
      have : 0 < (g : Int) * b := by rw [← hb]; omega
      exact Int.pos_of_mul_pos_right this (by omega)
    have b1 : b ≤ q' := by
      have : 1 * b ≤ (g : Int) * b := Int.mul_le_mul_of_nonneg_right (by omega) (by omega)
      rw [← hb] at this; omega
    have hbd := mean_b hg hm'
    have hab : -1000000000 ≤ a ∧ a ≤ 1000000000 := by
      have k1 : -314572800 ≤ p' ∧ p' ≤ 314572800 := by omega
      rcases Int.le_total 0 a with h0 | h0
      · have : 1 * a ≤ (g : Int) * a := Int.mul_le_mul_of_nonneg_right (by omega) h0
        rw [← ha] at this; omega
      · have : (g : Int) * a ≤ 1 * a := Int.mul_le_mul_of_nonpos_right (by omega) h0
        rw [← ha] at this; omega
    have hc : a * q' = p' * b := by rw [ha, hb, Int.mul_left_comm, Int.mul_assoc]
    have hpot : HasPot (sclG es a b) := by
      have h1 : ¬ Above (pes es) a b := by rw [above_iff (pes_in hg) hm' b0]; omega
      rw [above_of] at h1
      exact Classical.not_not.1 h1
    obtain ⟨u, c, h1, h2, h3⟩ := hm'.is
    refine ⟨hg, b0, by omega, hab, hpot, u, sclW c a b, by rw [sclG_pes]; exact sclW_walk h1, by rw [sclW_len, h2]; exact hp', ?_⟩
    rw [sclW_sum, h2, h3, ← hc, Int.mul_comm]; omega
/-- the answer's edges -/
structure BestL (N : Nat) (es : List GE) (ns : List Int) (x y : Int) : Prop where
  pos : 0 < ns.length
  le : ns.length ≤ N
  walk : ∃ (u : Nat) (l : List PE), IsWalk (pes es) u l u ∧ l.length = ns.length ∧ (∀ (i : Nat) (e : PE), l[i]? = some e → ∃ k : Nat, ns[i]? = some (k : Int) ∧ (pes es)[k]? = some e) ∧ wsum l * y = ns.length * x
theorem best_of {N : Nat} {es : List GE} {x y : Int} {hi : Nat → Int} {ns : List Int} (hy : 0 < y) (h : FoundC (pes (sclG es x y)) N hi ns) : BestL N es ns x y := by
  obtain ⟨u, l, h1, h2, h3, h4⟩ := h.walk
  have hs := tight_sum h1 h2
  rw [sclG_pes] at h1
  obtain ⟨l', h5, h6⟩ := unscl_walk h1
  subst h6
  rw [sclW_len] at h3
  rw [sclW_sum, h3] at hs
  refine ⟨h.pos, h.le, u, l', h5, h3, fun i e hi => ?_, by omega⟩
  obtain ⟨k, q1, q2⟩ := h4 i ⟨e.src, e.dst, e.wt * y - x⟩ (by simp [sclW, hi])
  refine ⟨k, q1, ?_⟩
  rw [sclG_pes] at q2
  unfold scl at q2
  rw [List.getElem?_map] at q2
  obtain ⟨d, hd1, hd2⟩ := Option.map_eq_some_iff.1 q2
  rw [hd1]
  cases d; cases e
  simp only [PE.mk.injEq] at hd2 ⊢
  obtain ⟨e1, e2, e3⟩ := hd2
  refine congrArg some ?_
  subst e1 e2
  have e4 := congrArg (· + x) e3
  simp only [Int.sub_add_cancel] at e4
  rw [Int.eq_of_mul_eq_mul_right (show y ≠ 0 by omega) e4]
/-- the search finds one -/
theorem best_search {N : Nat} {es : List GE} {x y : Int} (h : GreatSays (N : Int) es x y 0) {S : DS} (hd : DInv (pes (sclG es x y)) N (piter (pes (sclG es x y)) N).m S []) (hall : ∀ v, v < N → S.st v = 2) : False := by
  obtain ⟨hg, hy, hy2, hx, ⟨p, hp⟩, u, c, h1, h2, h3⟩ := great_facts h
  have hin : Inside N (pes (sclG es x y)) := by rw [sclG_pes]; exact scl_inside (pes_in hg)
  have hs := siter_fix (siter_still (k := N) hin (by omega) hp)
  have hpp : ∀ e ∈ pes (sclG es x y), (piter (pes (sclG es x y)) N).m e.src + e.wt ≤ (piter (pes (sclG es x y)) N).m e.dst := fun e he => by
    rw [piter_eq hin (by omega) hp, piter_eq hin (by omega) hp]; exact hs.2 e he
  exact hd.none hin hall h1 h2 (tight_of hpp h1 (by omega))
theorem best_hi {N : Nat} {es : List GE} {x y : Int} (h : GreatSays (N : Int) es x y 0) (v : Nat) : 0 ≤ (piter (pes (sclG es x y)) N).m v ∧ (piter (pes (sclG es x y)) N).m v ≤ 4000000000000000 := by
  obtain ⟨hg, hy, hy2, hx, ⟨p, hp⟩, _⟩ := great_facts h
  have hin : Inside N (pes (sclG es x y)) := by rw [sclG_pes]; exact scl_inside (pes_in hg)
  rw [piter_eq hin (by omega) hp]
  have := siter_bW (sclG_ok hg ⟨by omega, hy2⟩ hx) N v
  have hN : N ≤ 300 := by have := hg.1.2.1; omega
  omega

end Go.Proofs.Ythjicnddfjpnjaa
