/-
  PLAIN: what can't be more (chapter 8).
-/
import Derived.Test.YthokolfgagkmiaaPNum
import Derived.Test.YthokolfgagkmiaaSl
namespace Go.Proofs.Ythokolfgagkmiaa
open Go.RowKit
set_option linter.unusedSimpArgs false
set_option linter.unusedVariables false

def at0 (xs : List Int) (k : Nat) : Int := xs.getD k 0
/-- the most by which xs is above ys, up to tick k -/
def hiI (xs ys : List Int) : Nat → Int
  | 0 => 0
  | k + 1 => max (hiI xs ys k) (lessI (xs.getD k 0) (ys.getD k 0))
theorem hi_ge (xs ys : List Int) : ∀ k, 0 ≤ hiI xs ys k ∧ hiI xs ys k ≤ 1152921504606846976
  | 0 => by simp [hiI]
  | k + 1 => by
    have := hi_ge xs ys k
    have h1 := less_ge (xs.getD k 0) (ys.getD k 0)
    have h2 := less_le (xs.getD k 0) (ys.getD k 0)
    simp only [hiI]; omega
theorem less_fit (a b : Int) : lessI (fitI a) (fitI b) = lessI a b := by unfold lessI; rw [fit_fit, fit_fit]
/-- behind tick t the first one that comes up to x is d ticks later -/
def First (ys : List Int) (t : Nat) (x : Int) (d : Nat) : Prop := (∃ y, ys[t + d]? = some y ∧ fitI x ≤ fitI y) ∧ ∀ e, e < d → ∃ y, ys[t + e]? = some y ∧ fitI y < fitI x
def Never (ys : List Int) (t : Nat) (x : Int) : Prop := ∀ e y, ys[t + e]? = some y → fitI y < fitI x
theorem first_one {ys : List Int} {t : Nat} {x : Int} {d e : Nat} (h : First ys t x d) (h' : First ys t x e) : d = e := by
  obtain ⟨⟨y, hy, hy'⟩, h2⟩ := h
  obtain ⟨⟨z, hz, hz'⟩, h4⟩ := h'
  rcases (show d < e ∨ e < d ∨ d = e by omega) with h | h | h
  · obtain ⟨u, hu, hu'⟩ := h4 d h
    rw [hy] at hu; injection hu with hu; subst hu; omega
  · obtain ⟨u, hu, hu'⟩ := h2 e h
    rw [hz] at hu; injection hu with hu; subst hu; omega
  · exact h
theorem first_never {ys : List Int} {t : Nat} {x : Int} {d : Nat} (h : First ys t x d) (h' : Never ys t x) : False := by
  obtain ⟨⟨y, hy, hy'⟩, _⟩ := h
  have := h' d y hy
  omega
/-- up to tick k each is come up to, the latest m ticks later -/
def FarK (xs ys : List Int) : Nat → Int → Prop
  | 0, m => m = 0
  | k + 1, m => ∃ (m' : Int) (d : Nat), FarK xs ys k m' ∧ First ys k (xs.getD k 0) d ∧ m = max m' (d : Int)
def FarNo (xs ys : List Int) : Prop := ∃ k x, xs[k]? = some x ∧ Never ys k x
theorem far_one {xs ys : List Int} : ∀ k m m', FarK xs ys k m → FarK xs ys k m' → m = m'
  | 0, m, m', h, h' => by simp only [FarK] at h h'; omega
  | k + 1, m, m', ⟨a, d, h1, h2, h3⟩, ⟨a', d', h1', h2', h3'⟩ => by
    have e1 := far_one k a a' h1 h1'
    have e2 := first_one h2 h2'
    subst e1; subst e2; omega
theorem far_has {xs ys : List Int} : ∀ k m, FarK xs ys k m → ∀ j, j < k → ∃ d, First ys j (xs.getD j 0) d
  | 0, _, _, j, hj => absurd hj (by omega)
  | k + 1, m, ⟨a, d, h1, h2, h3⟩, j, hj => by
    rcases (show j < k ∨ j = k by omega) with h | rfl
    · exact far_has k a h1 j h
    · exact ⟨d, h2⟩
theorem far_no {xs ys : List Int} {m : Int} (h : FarK xs ys xs.length m) (h' : FarNo xs ys) : False := by
  obtain ⟨k, x, hx, hn⟩ := h'
  have hk := (List.getElem?_eq_some_iff.1 hx).1
  obtain ⟨d, hd⟩ := far_has _ _ h k hk
  rw [getD_of hx] at hd
  exact first_never hd hn
/-- what both answer: so many ticks, or no -/
def FarSays (xs ys : List Int) (m : Int) (ok : Bool) : Prop := (ok = true ∧ FarK xs ys xs.length m) ∨ (ok = false ∧ m = 0 ∧ FarNo xs ys)
theorem says_one {xs ys : List Int} {m m' : Int} {o o' : Bool} (h : FarSays xs ys m o) (h' : FarSays xs ys m' o') : m = m' ∧ o = o' := by
  rcases h with ⟨rfl, h⟩ | ⟨rfl, rfl, h⟩ <;> rcases h' with ⟨rfl, h'⟩ | ⟨rfl, rfl, h'⟩
  · exact ⟨far_one _ _ _ h h', rfl⟩
  · exact (far_no h h').elim
  · exact (far_no h' h).elim
  · exact ⟨rfl, rfl⟩
def FarEnds (xs ys : List Int) (e : Ending) : Prop := ∃ m ok, e = .returned (.tuple #[.int .i64 m, .bool ok]) ∧ FarSays xs ys m ok
theorem farEnds {xs ys : List Int} {m : Int} {ok : Bool} (h : FarSays xs ys m ok) : FarEnds xs ys (.returned (.tuple #[.int .i64 m, .bool ok])) := ⟨m, ok, rfl, h⟩
def srvI (r l : Int) (N : Nat) : List Int := (List.range N).map fun (t : Nat) => r * max ((t : Int) - l) 0
theorem srv_len (r l : Int) (N : Nat) : (srvI r l N).length = N := by simp [srvI]
theorem srv_get {r l : Int} {N k : Nat} (h : k < N) : r * max ((k : Int) - l) 0 = (srvI r l N).getD k 0 := by
  rw [List.getD_eq_getElem?_getD]; simp [srvI, List.getElem?_range, h]
/-- what comes in any ticks that follow one another is no more than a row has -/
def KeepsH (xs : List Int) (A : Int → Int) : Prop := ∀ s t : Nat, s ≤ t → t < xs.length → lessI (xs.getD t 0) (xs.getD s 0) ≤ A ((t : Int) - (s : Int))

end Go.Proofs.Ythokolfgagkmiaa
