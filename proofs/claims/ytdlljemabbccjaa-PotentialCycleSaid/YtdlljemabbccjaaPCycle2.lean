/-
  PLAIN: what Cycle answers.
-/
import Derived.Test.YtdlljemabbccjaaPCycle
import Derived.Test.YtdlljemabbccjaaPMost
import Derived.Test.YtdlljemabbccjaaPWeigh
namespace Go.Proofs.Ytdlljemabbccjaa
open Go.RowKit
set_option linter.unusedSimpArgs false
set_option linter.unusedVariables false

theorem wrap_small {x : Int} (h1 : -9223372036854775808 ≤ x) (h2 : x ≤ 9223372036854775807) : IntKind.i64.wrap x = x := by
  rw [IntWalk.i64_left]; unfold wrap64; omega

/-- the edges, from the last found to the first -/
def bRow (es : List PE) (s : PS) (u p : Nat) : List Int := (List.range p).map fun k => s.b (prevN es s k u)
theorem bRow_len (es : List PE) (s : PS) (u p : Nat) : (bRow es s u p).length = p := by simp [bRow]
theorem bRow_at {es : List PE} {s : PS} {u p k : Nat} (hk : k < p) : (bRow es s u p)[k]? = some (s.b (prevN es s k u)) := by
  unfold bRow; rw [List.getElem?_map, List.getElem?_range hk]; rfl
theorem bRow_succ (es : List PE) (s : PS) (u p : Nat) : bRow es s u (p + 1) = bRow es s u p ++ [s.b (prevN es s p u)] := by
  unfold bRow; rw [List.range_succ, List.map_append]; rfl
/-- a way round that weighs more than nothing -/
structure CycSays (N : Nat) (es : List GE) (ns : List Int) : Prop where
  pos : 0 < ns.length
  le : ns.length ≤ N
  ok : ∀ k, k < ns.length → StepOk es ns k
  more : 0 < wI es ns ns.length
  ends : ∃ (m m' : Nat) (e e' : GE), ns[0]? = some (m : Int) ∧ es[m]? = some e ∧ ns[ns.length - 1]? = some (m' : Int) ∧ es[m']? = some e' ∧ e.src = e'.dst
theorem cyc_says {N : Nat} {es : List GE} {s : PS} {v p : Nat} (hg : GraphOk (N : Int) es) (hf : Found (pes es) N s v p) : CycSays N es (bRow (pes es) s (prevN (pes es) s N v) p).reverse := by
  obtain ⟨u, hu⟩ : ∃ u, prevN (pes es) s N v = u := ⟨_, rfl⟩
  have key : ∀ k, ∃ (m : Nat) (g : GE), s.b (prevN (pes es) s k u) = (m : Int) ∧ es[m]? = some g ∧ g.src = (prevN (pes es) s (k + 1) u : Nat) ∧ g.dst = (prevN (pes es) s k u : Nat) ∧ g.wt = (eby (pes es) s (prevN (pes es) s k u)).wt ∧ -1048576 ≤ g.wt ∧ g.wt ≤ 1048576 := by
    intro k
    have h1 := hf.on (N + k)
    rw [prevN_add, hu] at h1
    obtain ⟨_, h2, h3, h4, h5⟩ := h1
    have e1 : prevN (pes es) s (k + 1) u = (eby (pes es) s (prevN (pes es) s k u)).src := rfl
    rw [e1]
    generalize prevN (pes es) s k u = c at *
    generalize eby (pes es) s c = q at *
    rw [pes, List.getElem?_map] at h3
    obtain ⟨g, hg1, hg2⟩ := Option.map_eq_some_iff.1 h3
    have hok := hg.2 _ (List.mem_of_getElem? hg1)
    unfold EdgeOk at hok
    subst hg2
    simp only [peOf] at h5 ⊢
    exact ⟨(s.b c).toNat, g, by omega, hg1, by omega, by omega, rfl, by omega, by omega⟩
  rw [hu]
  have hlen : (bRow (pes es) s u p).reverse.length = p := by rw [List.length_reverse, bRow_len]
  have at' : ∀ k, k < p → (bRow (pes es) s u p).reverse[k]? = some (s.b (prevN (pes es) s (p - 1 - k) u)) := by
    intro k hk
    rw [List.getElem?_reverse (by rw [bRow_len]; exact hk), bRow_len]
    exact bRow_at (by omega)
  have hN : N ≤ 300 := by have := hg.1.2.1; omega
  have hw : ∀ k, k ≤ p → wI es (bRow (pes es) s u p).reverse k = backW (pes es) s u p - backW (pes es) s u (p - k) ∧ -(k * 1048576 : Int) ≤ wI es (bRow (pes es) s u p).reverse k ∧ wI es (bRow (pes es) s u p).reverse k ≤ k * 1048576 := by
    intro k
    induction k with
    | zero => intro _; simp [wI]
    | succ k ih =>
      intro hk
      obtain ⟨i1, i2, i3⟩ := ih (by omega)
      obtain ⟨m, g, g1, g2, g3, g4, g5, g6, g7⟩ := key (p - 1 - k)
      have hn := at' k (by omega)
      rw [g1] at hn
      have hpl := hf.le
      rw [wI_succ hn g2, wrap_small (by omega) (by omega)]
      have e2 : backW (pes es) s u (p - k) = backW (pes es) s u (p - 1 - k) + (eby (pes es) s (prevN (pes es) s (p - 1 - k) u)).wt := by
        rw [show p - k = p - 1 - k + 1 by omega]; rfl
      rw [show p - (k + 1) = p - 1 - k by omega]
      refine ⟨by omega, by omega, by omega⟩
  refine ⟨by rw [hlen]; exact hf.pos, by rw [hlen]; exact hf.le, fun k hk => ?_, ?_, ?_⟩
  · rw [hlen] at hk
    obtain ⟨m, g, g1, g2, g3, g4, _⟩ := key (p - 1 - k)
    have hn := at' k hk
    rw [g1] at hn
    refine ⟨m, g, hn, g2, ?_⟩
    rcases Nat.eq_zero_or_pos k with h0 | h0
    · exact .inl h0
    · right
      obtain ⟨m', g', f1, f2, f3, f4, _⟩ := key (p - 1 - (k - 1))
      have hn' := at' (k - 1) (by omega)
      rw [f1] at hn'
      refine ⟨m', g', hn', f2, ?_⟩
      rw [g3, f4, show p - 1 - (k - 1) = p - 1 - k + 1 by omega]
  · rw [hlen]
    have := (hw p (Nat.le_refl _)).1
    rw [this, Nat.sub_self]
    have h9 := hf.more
    rw [hu] at h9
    simp only [backW]
    omega
  · rw [hlen]
    have hpp := hf.pos
    obtain ⟨m, g, g1, g2, g3, g4, _⟩ := key (p - 1)
    obtain ⟨m', g', f1, f2, f3, f4, _⟩ := key 0
    have hn := at' 0 hpp
    have hn' := at' (p - 1) (by omega)
    rw [show p - 1 - 0 = p - 1 by omega, g1] at hn
    rw [show p - 1 - (p - 1) = 0 by omega, f1] at hn'
    refine ⟨m, m', g, g', hn, g2, hn', f2, ?_⟩
    have hb := hf.back
    rw [hu] at hb
    rw [g3, f4, show p - 1 + 1 = p by omega, hb]; rfl

end Go.Proofs.Ytdlljemabbccjaa
