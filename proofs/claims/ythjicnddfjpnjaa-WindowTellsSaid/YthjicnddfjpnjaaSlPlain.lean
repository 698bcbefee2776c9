/-
  THE PLAIN LAW of WindowTells: the deque (keys, values) as it stands after each round. No program in sight.
-/
import Derived.Test.YthjicnddfjpnjaaSl
namespace Go.Proofs.Ythjicnddfjpnjaa
set_option linter.unusedSimpArgs false
set_option linter.unusedVariables false

structure DI (bt : Int → Int → Prop) (f : Nat → Int) (q k : Nat) (ks vs : List Int) : Prop where
  len : ks.length = vs.length
  last : 0 < k → ∃ n, ks.length = n + 1 ∧ ks[n]? = some ((k : Int) - 1)
  idx : ∀ (j : Nat) (y : Int), ks[j]? = some y → ∃ t : Nat, y = (t : Int) ∧ t < k ∧ vs[j]? = some (f t)
  bst : ∀ (i j : Nat) (a b : Int), i < j → vs[i]? = some a → vs[j]? = some b → bt a b
  dom : ∀ t : Nat, (k : Int) - (q : Int) ≤ (t : Int) → t < k → ∃ (j : Nat) (y b : Int), ks[j]? = some y ∧ (t : Int) ≤ y ∧ vs[j]? = some b ∧ ¬ bt (f t) b
theorem DI.start (bt : Int → Int → Prop) (f : Nat → Int) (q : Nat) : DI bt f q 0 [] [] := ⟨rfl, fun h => absurd h (by omega), fun j y h => by simp at h, fun i j a b _ h => by simp at h, fun t _ h => absurd h (by omega)⟩
theorem takeGet {xs : List Int} {m j : Nat} {x y : Int} (hm : m ≤ xs.length) (h : (xs.take m ++ [x])[j]? = some y) : (j < m ∧ xs[j]? = some y) ∨ (j = m ∧ y = x) := by
  rw [List.getElem?_append] at h
  have hl : (xs.take m).length = m := by rw [List.length_take]; omega
  rw [hl] at h
  split at h
  · rename_i hj
    rw [List.getElem?_take, if_pos hj] at h
    exact .inl ⟨hj, h⟩
  · rename_i hj
    have h1 := (List.getElem?_eq_some_iff.1 h).1
    have : j = m := by simp at h1; omega
    subst this
    simp at h
    exact .inr ⟨rfl, h.symm⟩
theorem getTake {xs : List Int} {m j : Nat} {x y : Int} (hj : j < m) (h : xs[j]? = some y) : (xs.take m ++ [x])[j]? = some y := by
  have h1 := (List.getElem?_eq_some_iff.1 h).1
  rw [List.getElem?_append_left (by rw [List.length_take]; omega), List.getElem?_take, if_pos hj]; exact h
theorem getLast1 {xs : List Int} {m : Nat} {x : Int} (hm : m ≤ xs.length) : (xs.take m ++ [x])[m]? = some x := by
  have hl : (xs.take m).length = m := by rw [List.length_take]; omega
  rw [List.getElem?_append_right (by omega), hl]; simp
/-- push -/
theorem DI.push {bt : Int → Int → Prop} {g : Int → Int} (hbt : ∀ a b, bt a b ↔ g a < g b) {f : Nat → Int} {q k m : Nat} {ks vs : List Int} (hq : 0 < q) (h : DI bt f q k ks vs) (hm : m ≤ vs.length)
    (h1 : ∀ y, 0 < m → vs[m - 1]? = some y → bt y (f k)) (h2 : ∀ (j : Nat) (y : Int), m ≤ j → vs[j]? = some y → ¬ bt y (f k)) : DI bt f (q + 1) (k + 1) (ks.take m ++ [(k : Int)]) (vs.take m ++ [f k]) := by
  have hl := h.len
  refine ⟨by simp; omega, fun _ => ⟨m, by simp; omega, by rw [getLast1 (by omega)]; congr 1; omega⟩, fun j y hj => ?_, fun i j a b hij ha hb => ?_, fun t ht htk => ?_⟩
  · rcases takeGet (by omega) hj with ⟨hjm, hj⟩ | ⟨rfl, rfl⟩
    · obtain ⟨t, rfl, htk, hv⟩ := h.idx j y hj
      exact ⟨t, rfl, by omega, getTake hjm hv⟩
    · exact ⟨k, rfl, by omega, getLast1 hm⟩
  · rcases takeGet hm hb with ⟨hjm, hb⟩ | ⟨rfl, rfl⟩
    · rcases takeGet hm ha with ⟨_, ha⟩ | ⟨rfl, _⟩
      · exact h.bst i j a b hij ha hb
      · omega
    · rcases takeGet hm ha with ⟨him, ha⟩ | ⟨rfl, _⟩
      · have hlt : j - 1 < vs.length := by omega
        have hy : vs[j - 1]? = some vs[j - 1] := List.getElem?_eq_getElem hlt
        have b1 := (hbt _ _).1 (h1 _ (by omega) hy)
        rw [hbt]
        rcases (show i < j - 1 ∨ i = j - 1 by omega) with h3 | h3
        · have := (hbt _ _).1 (h.bst i (j - 1) a _ h3 ha hy)
          omega
        · rw [h3] at ha
          have : a = vs[j - 1] := by rw [hy] at ha; injection ha with ha; exact ha.symm
          rw [this]; exact b1
      · omega
  · rcases (show t < k ∨ t = k by omega) with h3 | rfl
    · obtain ⟨j, y, b, hk, hty, hv, hnb⟩ := h.dom t (by omega) h3
      by_cases hjm : j < m
      · exact ⟨j, y, b, getTake hjm hk, hty, getTake hjm hv, hnb⟩
      · have h4 := h2 j b (by omega) hv
        refine ⟨m, (k : Int), f k, getLast1 (by omega), by omega, getLast1 hm, ?_⟩
        rw [hbt] at *
        omega
    · exact ⟨m, (t : Int), f t, getLast1 (by omega), by omega, getLast1 hm, by rw [hbt]; omega⟩
/-- old -/
theorem DI.old {bt : Int → Int → Prop} {f : Nat → Int} {q k r : Nat} {ks vs : List Int} (h : DI bt f (q + 1) (k + 1) ks vs) (hr : r < ks.length) (h1 : ∀ (j : Nat) (y : Int), j < r → ks[j]? = some y → y < (k : Int) - (q : Int) + 1) : DI bt f q (k + 1) (ks.drop r) (vs.drop r) := by
  have hl := h.len
  refine ⟨by simp; omega, fun _ => ?_, fun j y hj => ?_, fun i j a b hij ha hb => ?_, fun t ht htk => ?_⟩
  · obtain ⟨n, hn, hx⟩ := h.last (by omega)
    refine ⟨n - r, by simp; omega, ?_⟩
    rw [List.getElem?_drop, show r + (n - r) = n by omega]; exact hx
  · rw [List.getElem?_drop] at hj
    obtain ⟨t, a, b, c⟩ := h.idx _ y hj
    exact ⟨t, a, b, by rw [List.getElem?_drop]; exact c⟩
  · rw [List.getElem?_drop] at ha hb
    exact h.bst _ _ a b (by omega) ha hb
  · obtain ⟨j, y, b, hk, hty, hv, hnb⟩ := h.dom t (by omega) htk
    have hjr : r ≤ j := by
      rcases Nat.lt_or_ge j r with h3 | h3
      · have := h1 j y h3 hk; omega
      · exact h3
    exact ⟨j - r, y, b, by rw [List.getElem?_drop, show r + (j - r) = j by omega]; exact hk, hty, by rw [List.getElem?_drop, show r + (j - r) = j by omega]; exact hv, hnb⟩
/-- the first is the best of the window -/
theorem DI.first {bt : Int → Int → Prop} {g : Int → Int} (hbt : ∀ a b, bt a b ↔ g a < g b) {f : Nat → Int} {q k : Nat} {ks vs : List Int} (h : DI bt f q (k + 1) ks vs) {y b : Int} (hy : ks[0]? = some y) (hv : vs[0]? = some b) (hw : (k : Int) - (q : Int) + 1 ≤ y) :
    (∃ t : Nat, k + 1 - q ≤ t ∧ t ≤ k ∧ b = f t) ∧ ∀ t : Nat, k + 1 - q ≤ t → t ≤ k → g b ≤ g (f t) := by
  obtain ⟨t, rfl, htk, hv'⟩ := h.idx 0 y hy
  rw [hv] at hv'
  injection hv' with hv'
  refine ⟨⟨t, by omega, by omega, hv'⟩, fun u hu huk => ?_⟩
  obtain ⟨j, y', b', hk', _, hvb, hnb⟩ := h.dom u (by omega) (by omega)
  rw [hbt] at hnb
  rcases Nat.eq_zero_or_pos j with h0 | h0
  · subst h0
    rw [hv] at hvb
    injection hvb with hvb
    subst hvb; omega
  · have := (hbt _ _).1 (h.bst 0 j b b' h0 hv hvb)
    omega
end Go.Proofs.Ythjicnddfjpnjaa
