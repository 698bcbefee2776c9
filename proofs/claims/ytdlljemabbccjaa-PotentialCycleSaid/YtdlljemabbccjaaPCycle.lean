/-
  PLAIN: the walk back finds a way round that weighs more than nothing.
-/
import Derived.Test.YtdlljemabbccjaaPPot
namespace Go.Proofs.Ytdlljemabbccjaa
open Go.RowKit
set_option linter.unusedSimpArgs false
set_option linter.unusedVariables false

theorem prevN_add (es : List PE) (s : PS) (a v : Nat) : ∀ b, prevN es s (a + b) v = prevN es s b (prevN es s a v)
  | 0 => rfl
  | b + 1 => by show prev es s (prevN es s (a + b) v) = prev es s (prevN es s b (prevN es s a v)); rw [prevN_add es s a v b]
/-- a node that got more: by which edge -/
def TInv (es : List PE) (s : PS) (T : Nat → Nat) : Prop := ∀ v, 0 < T v → ∃ (j : Nat) (e : PE), es[j]? = some e ∧ s.b v = (j : Int) ∧ e.dst = v ∧ s.m v ≤ s.m e.src + e.wt ∧ (T v ≤ T e.src → s.m v < s.m e.src + e.wt) ∧ T v ≤ T e.src + es.length
theorem TInv.back {es : List PE} {s : PS} {T : Nat → Nat} {N v : Nat} (h : TInv es s T) (hin : Inside N es) (hv : 0 < T v) : Back es N s T v ∧ T v ≤ T (prev es s v) + es.length := by
  obtain ⟨j, e, hj, hb, hd, h1, h2, h3⟩ := h v hv
  have hl : v < N := by have := (hin e (List.mem_of_getElem? hj)).2; omega
  have e1 : (s.b v).toNat = j := by rw [hb]; simp
  have e2 : eby es s v = e := by unfold eby; rw [e1, hj]; rfl
  exact ⟨⟨hl, j, e, hj, hb, hd, h1, h2⟩, by unfold prev; rw [e2]; exact h3⟩
theorem TInv.far {es : List PE} {s : PS} {T : Nat → Nat} {N v : Nat} (h : TInv es s T) (hin : Inside N es) (hv : N * es.length < T v) : ∀ i, i ≤ N → (N - i) * es.length < T (prevN es s i v)
  | 0, _ => by show (N - 0) * es.length < T v; simpa using hv
  | i + 1, hi => by
    have ih := TInv.far h hin hv i (by omega)
    have h1 := (h.back hin (show 0 < T (prevN es s i v) by omega)).2
    have h2 : (N - i) * es.length = (N - (i + 1)) * es.length + es.length := by
      rw [show N - i = (N - (i + 1)) + 1 by omega, Nat.add_mul, Nat.one_mul]
    show _ < T (prev es s (prevN es s i v))
    omega
/-- the weight of the first k edges on the way back from u -/
def backW (es : List PE) (s : PS) (u : Nat) : Nat → Int
  | 0 => 0
  | k + 1 => backW es s u k + (eby es s (prevN es s k u)).wt
theorem backW_ge {es : List PE} {N : Nat} {s : PS} {T : Nat → Nat} {u : Nat} (h : ∀ k, Back es N s T (prevN es s k u)) : ∀ k, s.m u ≤ s.m (prevN es s k u) + backW es s u k ∧ (s.m u < s.m (prevN es s k u) + backW es s u k ∨ T (prevN es s k u) + k ≤ T u)
  | 0 => ⟨by simp [backW, prevN], .inr (Nat.le_refl _)⟩
  | k + 1 => by
    obtain ⟨h1, h2⟩ := backW_ge h k
    obtain ⟨_, _, _, _, _, h3, h4⟩ := (h k).info
    have e1 : prevN es s (k + 1) u = prev es s (prevN es s k u) := rfl
    have e2 : backW es s u (k + 1) = backW es s u k + (eby es s (prevN es s k u)).wt := rfl
    rw [e1, e2]
    refine ⟨by omega, ?_⟩
    by_cases hT : T (prevN es s k u) ≤ T (prev es s (prevN es s k u))
    · have := h4 hT; left; omega
    · rcases h2 with h2 | h2
      · left; omega
      · right; omega
theorem least_pos {P : Nat → Prop} : ∀ p, 0 < p → P p → ∃ q, 0 < q ∧ q ≤ p ∧ P q ∧ ∀ k, 0 < k → k < q → ¬ P k := by
  intro p
  induction p using Nat.strongRecOn with
  | ind p ih =>
    intro hp h
    by_cases hx : ∃ k, 0 < k ∧ k < p ∧ P k
    · obtain ⟨k, h1, h2, h3⟩ := hx
      obtain ⟨q, q1, q2, q3, q4⟩ := ih k h2 h1 h3
      exact ⟨q, q1, by omega, q3, q4⟩
    · exact ⟨p, hp, Nat.le_refl _, h, fun k h1 h2 h3 => hx ⟨k, h1, h2, h3⟩⟩
/-- what the walk back finds -/
structure Found (es : List PE) (N : Nat) (s : PS) (v p : Nat) : Prop where
  last : s.last = (v : Int)
  on : ∀ k, prevN es s k v < N ∧ 0 ≤ s.b (prevN es s k v) ∧ es[(s.b (prevN es s k v)).toNat]? = some (eby es s (prevN es s k v)) ∧ (s.b (prevN es s k v)).toNat < es.length ∧ (eby es s (prevN es s k v)).dst = prevN es s k v
  pos : 0 < p
  le : p ≤ N
  back : prevN es s p (prevN es s N v) = prevN es s N v
  first : ∀ k, 0 < k → k < p → prevN es s k (prevN es s N v) ≠ prevN es s N v
  more : 0 < backW es s (prevN es s N v) p
theorem found {es : List PE} {N : Nat} (hin : Inside N es) (hl : 0 ≤ (piter es (N + 1)).last) : ∃ v p, Found es N (piter es (N + 1)) v p := by
  obtain ⟨T, _, h2, _, h4⟩ := PInv.iter es N
  generalize piter es (N + 1) = s at *
  have hT : TInv es s T := fun v hv => by
    rcases h2 v with ⟨h, _⟩ | ⟨_, h⟩
    · omega
    · exact h
  rcases h4 with h4 | ⟨v, hv, h4⟩
  · omega
  have far := hT.far hin h4
  have bk : ∀ i, i ≤ N → Back es N s T (prevN es s i v) := fun i hi => (hT.back hin (by have := far i hi; omega)).1
  obtain ⟨i, j, hij, hjN, he⟩ := pigeon N (fun i => prevN es s i v) (fun i hi => (bk i hi).lt)
  have he : prevN es s i v = prevN es s j v := he
  have per : ∀ d, prevN es s (i + d) v = prevN es s (j + d) v := fun d => by rw [prevN_add, prevN_add, he]
  have all : ∀ k, Back es N s T (prevN es s k v) := by
    intro k
    induction k using Nat.strongRecOn with
    | ind k ih =>
      by_cases hk : k ≤ N
      · exact bk k hk
      · have h5 := per (k - j)
        rw [show j + (k - j) = k by omega] at h5
        rw [← h5]
        exact ih _ (by omega)
  have hp : prevN es s (j - i) (prevN es s N v) = prevN es s N v := by
    have h5 := per (N - i)
    rw [show i + (N - i) = N by omega, show j + (N - i) = N + (j - i) by omega, prevN_add] at h5
    exact h5.symm
  obtain ⟨p, p1, p2, p3, p4⟩ := least_pos (P := fun k => prevN es s k (prevN es s N v) = prevN es s N v) (j - i) (by omega) hp
  have p3 : prevN es s p (prevN es s N v) = prevN es s N v := p3
  refine ⟨v, p, hv, fun k => ?_, p1, by omega, p3, p4, ?_⟩
  · obtain ⟨_, a2, a3, a4, a5, _, _⟩ := (all k).info
    exact ⟨(all k).lt, a3, a2, a4, a5⟩
  · obtain ⟨g1, g2⟩ := backW_ge (es := es) (N := N) (s := s) (T := T) (u := prevN es s N v) (fun k => by rw [← prevN_add]; exact all _) p
    rw [p3] at g1 g2
    omega

end Go.Proofs.Ytdlljemabbccjaa
