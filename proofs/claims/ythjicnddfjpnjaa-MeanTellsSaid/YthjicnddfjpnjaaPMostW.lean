/-
  PLAIN: the rounds of QMost, where the weights are greater.
-/
import Derived.Test.YthjicnddfjpnjaaPMost
namespace Go.Proofs.Ythjicnddfjpnjaa
open Go.RowKit
set_option linter.unusedSimpArgs false
set_option linter.unusedVariables false
def EdgeOkW (N : Int) (e : GE) : Prop := 0 ≤ e.src ∧ e.src < N ∧ 0 ≤ e.dst ∧ e.dst < N ∧ -1099511627776 ≤ e.wt ∧ e.wt ≤ 1099511627776
def GraphOkW (N : Int) (es : List GE) : Prop := (0 ≤ N ∧ N ≤ 300 ∧ es.length ≤ 4800) ∧ ∀ e ∈ es, EdgeOkW N e


theorem pes_inW {N : Nat} {es : List GE} (h : GraphOkW (N : Int) es) : Inside N (pes es) := by
  intro e he
  obtain ⟨d, hd, rfl⟩ := List.mem_map.1 he
  have := h.2 d hd
  unfold EdgeOkW at this
  simp only [peOf]; omega
theorem wsum_bW {es : List GE} {N : Int} (h : GraphOkW N es) : ∀ {l : List PE} {u v : Nat}, IsWalk (pes es) u l v → -(l.length * 1099511627776 : Int) ≤ wsum l ∧ wsum l ≤ l.length * 1099511627776
  | [], _, _, _ => by simp [wsum]
  | e :: l, u, v, ⟨he, _, hw⟩ => by
    have ih := wsum_bW h hw
    obtain ⟨d, hd, rfl⟩ := List.mem_map.1 he
    have hd := h.2 d hd
    unfold EdgeOkW at hd
    rw [wsum_cons, List.length_cons]
    simp only [peOf] at *
    omega
theorem siter_bW {es : List GE} {N : Int} (h : GraphOkW N es) (k v : Nat) : 0 ≤ siter (pes es) k v ∧ siter (pes es) k v ≤ k * 1099511627776 := by
  have h0 := siter_le (pes es) 0 k (by omega) v
  obtain ⟨u, l, hw, hl, he⟩ := siter_walk (pes es) k v
  have := (wsum_bW h hw).2
  have h1 : siter (pes es) 0 v = 0 := rfl
  refine ⟨by omega, ?_⟩
  rw [he]; omega
theorem hasPot_ofW {es : List GE} {N r : Nat} (hg : GraphOkW (N : Int) es) (h : tabI N (siter (pes es) (r + 1)) = tabI N (siter (pes es) r)) : HasPot es ∧ ∀ k, r ≤ k → ∀ v, siter (pes es) k v = siter (pes es) r v := by
  have hv : ∀ v, siter (pes es) (r + 1) v = siter (pes es) r v := fun v => by
    rcases Nat.lt_or_ge v N with h1 | h1
    · exact tab_inj h v h1
    · rw [siter_out (pes_inW hg) _ _ h1, siter_out (pes_inW hg) _ _ h1]
  exact ⟨⟨_, siter_fix hv⟩, siter_stay hv⟩
theorem same_ofW {es : List GE} {N k : Nat} (hg : GraphOkW (N : Int) es) (hp : HasPot es) (hN : N ≤ k + 1) : tabI N (siter (pes es) (k + 1)) = tabI N (siter (pes es) k) := by
  obtain ⟨p, hp⟩ := hp
  exact tab_eq fun t _ => siter_still (pes_inW hg) hN hp t
def QMostEndsW (N : Nat) (es : List GE) (e : Ending) (w' : World) : Prop :=
  (HasPot es ∧ ∃ b d, e = .returned (.tuple #[.slice b N d, .bool true]) ∧ IntsAt w' b N d (tabI N (siter (pes es) N))) ∨ (¬ HasPot es ∧ e = .returned (.tuple #[.slice none 0 0, .bool false]))


end Go.Proofs.Ythjicnddfjpnjaa
