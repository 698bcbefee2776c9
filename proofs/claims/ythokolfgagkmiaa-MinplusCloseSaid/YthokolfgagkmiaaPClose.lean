/-
  PLAIN: the closure (chapter 6).
-/
import Derived.Test.YthokolfgagkmiaaPMin
namespace Go.Proofs.Ythokolfgagkmiaa
open Go.RowKit
set_option linter.unusedSimpArgs false
set_option linter.unusedVariables false

theorem plus_mono {a a' b b' : Int} (h : a ≤ a') (h' : b ≤ b') : plusI a b ≤ plusI a' b' := by unfold plusI fitI; omega
theorem plus_zero {b : Int} (h : 0 ≤ b) (h' : b ≤ 1152921504606846976) : plusI 0 b = b := by unfold plusI fitI; omega
theorem plus_zero' {b : Int} (h : 0 ≤ b) (h' : b ≤ 1152921504606846976) : plusI b 0 = b := by unfold plusI fitI; omega
/-- the least of x and of the first j splits of k -/
def clF (c : Nat → Int) (k : Nat) (x : Int) : Nat → Int
  | 0 => x
  | j + 1 => min (clF c k x j) (plusI (c (j + 1)) (c (k - (j + 1))))
theorem clF_congr {c d : Nat → Int} {k : Nat} {x : Int} (h : ∀ i, i < k → c i = d i) : ∀ j, j < k → clF c k x j = clF d k x j
  | 0, _ => rfl
  | j + 1, hj => by
    simp only [clF]
    rw [clF_congr h j (by omega), h (j + 1) hj, h (k - (j + 1)) (by omega)]
theorem clF_le (c : Nat → Int) (k : Nat) (x : Int) : ∀ j, clF c k x j ≤ x ∧ ∀ i, 1 ≤ i → i ≤ j → clF c k x j ≤ plusI (c i) (c (k - i))
  | 0 => ⟨Int.le_refl _, fun i h1 h2 => by omega⟩
  | j + 1 => by
    obtain ⟨h1, h2⟩ := clF_le c k x j
    refine ⟨by simp only [clF]; omega, fun i hi hij => ?_⟩
    rcases (show i ≤ j ∨ i = j + 1 by omega) with h | rfl
    · have := h2 i hi h; simp only [clF]; omega
    · simp only [clF]; omega
theorem clF_ge {c : Nat → Int} {k : Nat} {x m : Int} (hx : m ≤ x) : ∀ j, (∀ i, 1 ≤ i → i ≤ j → m ≤ plusI (c i) (c (k - i))) → m ≤ clF c k x j
  | 0, _ => hx
  | j + 1, h => by
    have h1 := clF_ge (c := c) (k := k) hx j (fun i h1 h2 => h i h1 (by omega))
    have h2 := h (j + 1) (by omega) (by omega)
    simp only [clF]; omega
def clL (xs : List Int) : Nat → List Int
  | 0 => []
  | k + 1 => clL xs k ++ [if k = 0 then 0 else clF (fun i => (clL xs k).getD i 0) k (fitI (xs.getD k 0)) (k - 1)]
theorem clL_len (xs : List Int) : ∀ k, (clL xs k).length = k
  | 0 => rfl
  | k + 1 => by simp [clL, clL_len xs k]
theorem clL_last (xs : List Int) (k : Nat) : (clL xs (k + 1)).getD k 0 = if k = 0 then 0 else clF (fun i => (clL xs k).getD i 0) k (fitI (xs.getD k 0)) (k - 1) := by
  rw [clL, List.getD_eq_getElem?_getD, List.getElem?_append_right (by rw [clL_len]; omega), clL_len]; simp
theorem clL_old (xs : List Int) {k i : Nat} (h : i < k) : (clL xs (k + 1)).getD i 0 = (clL xs k).getD i 0 := by
  rw [clL, List.getD_eq_getElem?_getD, List.getElem?_append_left (by rw [clL_len]; exact h), List.getD_eq_getElem?_getD]
theorem clL_all (xs : List Int) {i : Nat} : ∀ m, i < m → (clL xs m).getD i 0 = (clL xs (i + 1)).getD i 0
  | 0, h => by omega
  | m + 1, h => by
    rcases (show i < m ∨ i = m by omega) with h1 | rfl
    · rw [clL_old xs h1]; exact clL_all xs m h1
    · rfl
def clI (xs : List Int) : List Int := clL xs xs.length
def cv (xs : List Int) (i : Nat) : Int := (clI xs).getD i 0
theorem cl_len (xs : List Int) : (clI xs).length = xs.length := clL_len xs _
theorem cv_zero {xs : List Int} (h : 0 < xs.length) : cv xs 0 = 0 := by
  unfold cv clI; rw [clL_all xs _ h, clL_last]; simp
theorem cv_eq {xs : List Int} {k : Nat} (h : k < xs.length) (hk : 0 < k) : cv xs k = clF (cv xs) k (fitI (xs.getD k 0)) (k - 1) := by
  show (clL xs xs.length).getD k 0 = _
  rw [clL_all xs _ h, clL_last, if_neg (by omega)]
  apply clF_congr
  · intro i hi
    show (clL xs k).getD i 0 = (clL xs xs.length).getD i 0
    rw [clL_all xs k hi, clL_all xs xs.length (by omega)]
  · omega
theorem clF_b {c : Nat → Int} {k : Nat} {x : Int} (hx : 0 ≤ x ∧ x ≤ 1152921504606846976) (j : Nat) : 0 ≤ clF c k x j ∧ clF c k x j ≤ 1152921504606846976 :=
  ⟨clF_ge hx.1 j (fun i _ _ => plus_ge _ _), by have := (clF_le c k x j).1; omega⟩
theorem cv_b {xs : List Int} {k : Nat} (h : k < xs.length) : 0 ≤ cv xs k ∧ cv xs k ≤ 1152921504606846976 := by
  rcases Nat.eq_zero_or_pos k with rfl | hk
  · rw [cv_zero h]; omega
  · rw [cv_eq h hk]; exact clF_b ⟨fit_ge _, fit_le _⟩ _
theorem cv_sub {xs : List Int} {t s : Nat} (h : t < xs.length) (hs : s ≤ t) : cv xs t ≤ plusI (cv xs s) (cv xs (t - s)) := by
  have hb := cv_b h
  rcases Nat.eq_zero_or_pos s with rfl | h1
  · rw [cv_zero (by omega), Nat.sub_zero, plus_zero hb.1 hb.2]; omega
  · rcases (show s = t ∨ s < t by omega) with rfl | h2
    · rw [Nat.sub_self, cv_zero (by omega), plus_zero' hb.1 hb.2]; omega
    · have h3 := (clF_le (cv xs) t (fitI (xs.getD t 0)) (t - 1)).2 s h1 (by omega)
      rw [← cv_eq h (by omega)] at h3; exact h3
theorem cv_fit {xs : List Int} {t : Nat} (h : t < xs.length) (ht : 0 < t) : cv xs t ≤ fitI (xs.getD t 0) := by
  rw [cv_eq h ht]; exact (clF_le _ _ _ _).1
theorem cvA_le (xs ys : List Int) (t : Nat) : ∀ j i, i < j → cvA xs ys t j ≤ plusI (xs.getD i 0) (ys.getD (t - i) 0)
  | 0, i, h => by omega
  | j + 1, i, h => by
    rcases (show i < j ∨ i = j by omega) with h1 | rfl
    · have := cvA_le xs ys t j i h1; simp only [cvA]; omega
    · simp only [cvA]; omega
theorem cvA_ge {xs ys : List Int} {t : Nat} {m : Int} (hm : m ≤ 1152921504606846976) : ∀ j, (∀ i, i < j → m ≤ plusI (xs.getD i 0) (ys.getD (t - i) 0)) → m ≤ cvA xs ys t j
  | 0, _ => hm
  | j + 1, h => by
    have h1 := cvA_ge hm j (fun i hi => h i (by omega))
    have h2 := h j (by omega)
    simp only [cvA]; omega
/-- what each round keeps -/
structure Inv (xs g : List Int) : Prop where
  len : g.length = xs.length
  zero : g.getD 0 0 = 0
  b : ∀ t, t < xs.length → 0 ≤ g.getD t 0 ∧ g.getD t 0 ≤ 1152921504606846976
  ge : ∀ t, t < xs.length → cv xs t ≤ g.getD t 0
  le : ∀ t, t < xs.length → 0 < t → g.getD t 0 ≤ fitI (xs.getD t 0)
theorem inv_le {xs g : List Int} (h : Inv xs g) {t : Nat} (ht : t < xs.length) : cvA g g t (t + 1) ≤ g.getD t 0 := by
  have h1 := cvA_le g g t (t + 1) 0 (by omega)
  rw [h.zero, Nat.sub_zero, plus_zero (h.b t ht).1 (h.b t ht).2] at h1
  exact h1
theorem inv_step {xs g : List Int} (h : Inv xs g) (hn : 0 < xs.length) : Inv xs (cvI g g xs.length) := by
  have hg : ∀ t, t < xs.length → (cvI g g xs.length).getD t 0 = cvA g g t (t + 1) := fun t ht => (cv_get ht).symm
  refine ⟨cv_len _ _ _, ?_, ?_, ?_, ?_⟩
  · rw [hg 0 hn]
    have h1 := inv_le h hn
    have h2 := cvA_b g g 0 (0 + 1)
    rw [h.zero] at h1
    omega
  · intro t ht; rw [hg t ht]; exact cvA_b g g t _
  · intro t ht; rw [hg t ht]
    refine cvA_ge (cv_b ht).2 _ (fun i hi => ?_)
    have h1 := cv_sub (s := i) ht (by omega)
    have h2 := plus_mono (h.ge i (by omega)) (h.ge (t - i) (by omega))
    omega
  · intro t ht h0; rw [hg t ht]
    have := inv_le h ht
    have := h.le t ht h0
    omega
theorem inv_fix {xs g : List Int} (h : Inv xs g) (hf : ∀ t, t < xs.length → g.getD t 0 = cvA g g t (t + 1)) : g = clI xs := by
  have key : ∀ t, t < xs.length → g.getD t 0 = cv xs t := by
    intro t
    induction t using Nat.strongRecOn with
    | _ t ih =>
      intro ht
      have h1 := h.ge t ht
      rcases Nat.eq_zero_or_pos t with rfl | h0
      · rw [h.zero, cv_zero ht]
      · have h2 : g.getD t 0 ≤ cv xs t := by
          rw [cv_eq ht h0]
          refine clF_ge (h.le t ht h0) _ (fun i hi hit => ?_)
          have h3 := cvA_le g g t (t + 1) i (by omega)
          rw [← hf t ht, ih i (by omega) (by omega), ih (t - i) (by omega) (by omega)] at h3
          exact h3
        omega
  apply List.ext_getElem?
  intro j
  by_cases hj : j < xs.length
  · have h1 : j < g.length := by rw [h.len]; exact hj
    have h2 : j < (clI xs).length := by rw [cl_len]; exact hj
    have h3 := key j hj
    unfold cv at h3
    rw [List.getD_eq_getElem?_getD, List.getD_eq_getElem?_getD, List.getElem?_eq_getElem h1, List.getElem?_eq_getElem h2] at h3
    rw [List.getElem?_eq_getElem h1, List.getElem?_eq_getElem h2]
    simpa using h3
  · rw [List.getElem?_eq_none (by rw [h.len]; omega), List.getElem?_eq_none (by rw [cl_len]; omega)]
def sumN (g : List Int) : Nat → Nat
  | 0 => 0
  | k + 1 => sumN g k + (g.getD k 0).toNat
theorem sum_le {g h : List Int} : ∀ n, (∀ t, t < n → 0 ≤ h.getD t 0 ∧ h.getD t 0 ≤ g.getD t 0) → sumN h n ≤ sumN g n
  | 0, _ => Nat.le_refl _
  | n + 1, hh => by
    have h1 := sum_le n (fun t ht => hh t (by omega))
    have h2 := hh n (by omega)
    simp only [sumN]; omega
theorem sum_lt {g h : List Int} : ∀ n, (∀ t, t < n → 0 ≤ h.getD t 0 ∧ h.getD t 0 ≤ g.getD t 0) → (∃ t, t < n ∧ h.getD t 0 < g.getD t 0) → sumN h n < sumN g n
  | 0, _, ⟨t, ht, _⟩ => by omega
  | n + 1, hh, ⟨t, ht, hlt⟩ => by
    have h2 := hh n (by omega)
    rcases (show t < n ∨ t = n by omega) with h3 | rfl
    · have h1 := sum_lt n (fun t ht => hh t (by omega)) ⟨t, h3, hlt⟩
      simp only [sumN]; omega
    · have h1 := sum_le t (fun s hs => hh s (by omega))
      simp only [sumN]; omega
/-- the first: 0, then the numbers fitted -/
def gst (xs : List Int) : List Int := (List.range xs.length).map fun (t : Nat) => if t = 0 then 0 else fitI (xs.getD t 0)
theorem gst_len (xs : List Int) : (gst xs).length = xs.length := by simp [gst]
theorem gst_get {xs : List Int} {t : Nat} (h : t < xs.length) : (gst xs).getD t 0 = if t = 0 then 0 else fitI (xs.getD t 0) := by
  rw [List.getD_eq_getElem?_getD]; simp [gst, List.getElem?_range, h]
theorem inv_start {xs : List Int} (h : 0 < xs.length) : Inv xs (gst xs) := by
  refine ⟨gst_len xs, ?_, ?_, ?_, ?_⟩
  · rw [gst_get h]; rfl
  · intro t ht; rw [gst_get ht]; have := fit_ge (xs.getD t 0); have := fit_le (xs.getD t 0); split <;> omega
  · intro t ht; rw [gst_get ht]
    split
    · rename_i h0; subst h0; rw [cv_zero ht]; omega
    · exact cv_fit ht (by omega)
  · intro t ht h0; rw [gst_get ht, if_neg (by omega)]; omega
/-- never more than its parts -/
def PartsI (xs : List Int) : Prop := xs.length = 0 ∨ (fitI (xs.getD 0 0) = 0 ∧ ∀ s u, s + u < xs.length → fitI (xs.getD (s + u) 0) ≤ plusI (xs.getD s 0) (xs.getD u 0))

end Go.Proofs.Ythokolfgagkmiaa
