/-
  PLAIN: the rounds of the reference's QMost.
-/
import Derived.Test.YthjicnddfjpnjaaPPot
import Derived.Test.YthjicnddfjpnjaaTab
namespace Go.Proofs.Ythjicnddfjpnjaa
open Go.RowKit
set_option linter.unusedSimpArgs false
set_option linter.unusedVariables false

def peOf (e : GE) : PE := ⟨e.src.toNat, e.dst.toNat, e.wt⟩
def pes (es : List GE) : List PE := es.map peOf
theorem pes_len (es : List GE) : (pes es).length = es.length := by simp [pes]
theorem pes_get {es : List GE} {k : Nat} {e : GE} (h : es[k]? = some e) : (pes es)[k]? = some (peOf e) := by simp [pes, h]
theorem pes_in {N : Nat} {es : List GE} (h : GraphOk (N : Int) es) : Inside N (pes es) := by
  intro e he
  obtain ⟨d, hd, rfl⟩ := List.mem_map.1 he
  have := h.2 d hd
  unfold EdgeOk at this
  simp only [peOf]; omega
theorem wsum_b {es : List GE} {N : Int} (h : GraphOk N es) : ∀ {l : List PE} {u v : Nat}, IsWalk (pes es) u l v → -(l.length * 1048576 : Int) ≤ wsum l ∧ wsum l ≤ l.length * 1048576
  | [], _, _, _ => by simp [wsum]
  | e :: l, u, v, ⟨he, _, hw⟩ => by
    have ih := wsum_b h hw
    obtain ⟨d, hd, rfl⟩ := List.mem_map.1 he
    have hd := h.2 d hd
    unfold EdgeOk at hd
    rw [wsum_cons, List.length_cons]
    simp only [peOf] at *
    omega
theorem siter_b {es : List GE} {N : Int} (h : GraphOk N es) (k v : Nat) : 0 ≤ siter (pes es) k v ∧ siter (pes es) k v ≤ k * 1048576 := by
  have h0 := siter_le (pes es) 0 k (by omega) v
  obtain ⟨u, l, hw, hl, he⟩ := siter_walk (pes es) k v
  have := (wsum_b h hw).2
  have h1 : siter (pes es) 0 v = 0 := rfl
  refine ⟨by omega, ?_⟩
  rw [he]; omega
theorem sfold_snoc (m nx : Nat → Int) (l : List PE) (e : PE) : sfold (l ++ [e]) m nx = upd (sfold l m nx) e.dst (max (sfold l m nx e.dst) (m e.src + e.wt)) := by
  unfold sfold; rw [List.foldl_append]; rfl
theorem sfold_take {es : List PE} {k : Nat} {e : PE} (h : es[k]? = some e) (m nx : Nat → Int) : sfold (es.take (k + 1)) m nx = upd (sfold (es.take k) m nx) e.dst (max (sfold (es.take k) m nx e.dst) (m e.src + e.wt)) := by
  have hk := (List.getElem?_eq_some_iff.1 h).1
  have e1 : es.take (k + 1) = es.take k ++ [e] := by
    rw [List.take_succ_eq_append_getElem hk]
    rw [List.getElem?_eq_getElem hk] at h; injection h with h; rw [h]
  rw [e1, sfold_snoc]
/-- nothing more from round r on -/
theorem siter_stay {es : List PE} {r : Nat} (h : ∀ v, siter es (r + 1) v = siter es r v) : ∀ k, r ≤ k → ∀ v, siter es k v = siter es r v := by
  intro k hk
  induction k with
  | zero => intro v; rw [show r = 0 by omega]
  | succ k ih =>
    intro v
    rcases (show r = k + 1 ∨ r ≤ k by omega) with h1 | h1
    · rw [h1]
    · have e : siter es k = siter es r := funext (ih h1)
      show sround es (siter es k) v = _
      rw [e]; exact h v
theorem siter_out {es : List PE} {N : Nat} (hin : Inside N es) : ∀ k v, N ≤ v → siter es k v = 0
  | 0, _, _ => rfl
  | k + 1, v, hv => by
    rcases sfold_from (siter es k) es (siter es k) v with h | ⟨e, he, hd, _⟩
    · show sfold es (siter es k) (siter es k) v = 0
      rw [h]; exact siter_out hin k v hv
    · have := (hin e he).2; omega
theorem tab_inj {N : Nat} {p q : Nat → Int} (h : tabI N p = tabI N q) : ∀ t, t < N → p t = q t := by
  intro t ht
  have h1 := tab_at (p := p) ht
  rw [h, tab_at ht] at h1
  injection h1 with h1; exact h1.symm
/-- the greatest weights of walks that end at each node, if there are such -/
def HasPot (es : List GE) : Prop := ∃ p, Pot (pes es) p
theorem hasPot_of {es : List GE} {N r : Nat} (hg : GraphOk (N : Int) es) (h : tabI N (siter (pes es) (r + 1)) = tabI N (siter (pes es) r)) : HasPot es ∧ ∀ k, r ≤ k → ∀ v, siter (pes es) k v = siter (pes es) r v := by
  have hv : ∀ v, siter (pes es) (r + 1) v = siter (pes es) r v := fun v => by
    rcases Nat.lt_or_ge v N with h1 | h1
    · exact tab_inj h v h1
    · rw [siter_out (pes_in hg) _ _ h1, siter_out (pes_in hg) _ _ h1]
  exact ⟨⟨_, siter_fix hv⟩, siter_stay hv⟩
theorem same_of {es : List GE} {N k : Nat} (hg : GraphOk (N : Int) es) (hp : HasPot es) (hN : N ≤ k + 1) : tabI N (siter (pes es) (k + 1)) = tabI N (siter (pes es) k) := by
  obtain ⟨p, hp⟩ := hp
  exact tab_eq fun t _ => siter_still (pes_in hg) hN hp t
/-- what QMost answers -/
def QMostEnds (N : Nat) (es : List GE) (e : Ending) (w' : World) : Prop :=
  (HasPot es ∧ ∃ b d, e = .returned (.tuple #[.slice b N d, .bool true]) ∧ IntsAt w' b N d (tabI N (siter (pes es) N))) ∨ (¬ HasPot es ∧ e = .returned (.tuple #[.slice none 0 0, .bool false]))

end Go.Proofs.Ythjicnddfjpnjaa
