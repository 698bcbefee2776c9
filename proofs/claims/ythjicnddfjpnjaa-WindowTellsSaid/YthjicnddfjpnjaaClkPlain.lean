/-
  THE PLAIN LAW of ClockTells: the least one of the parts that count. No program in sight.
-/
import Derived.Test.YthjicnddfjpnjaaSl
namespace Go.Proofs.Ythjicnddfjpnjaa
set_option linter.unusedSimpArgs false
set_option linter.unusedVariables false

/-- the least of m + 1 numbers from place i on -/
def lo (f : Nat → Int) (i : Nat) : Nat → Int
  | 0 => f i
  | m + 1 => min (lo f i m) (f (i + m + 1))
theorem lo_le (f : Nat → Int) (i : Nat) : ∀ m j, i ≤ j → j ≤ i + m → lo f i m ≤ f j
  | 0, j, h1, h2 => by obtain rfl : j = i := by omega
                       exact Int.le_refl _
  | m + 1, j, h1, h2 => by
    simp only [lo]
    by_cases h : j ≤ i + m
    · have := lo_le f i m j h1 h; omega
    · obtain rfl : j = i + m + 1 := by omega
      omega
theorem lo_mem (f : Nat → Int) (i : Nat) : ∀ m, ∃ j, i ≤ j ∧ j ≤ i + m ∧ lo f i m = f j
  | 0 => ⟨i, Nat.le_refl _, by omega, rfl⟩
  | m + 1 => by
    obtain ⟨j, h1, h2, h3⟩ := lo_mem f i m
    simp only [lo]
    rcases (show min (lo f i m) (f (i + m + 1)) = lo f i m ∨ min (lo f i m) (f (i + m + 1)) = f (i + m + 1) by omega) with h | h
    · exact ⟨j, h1, by omega, by rw [h, h3]⟩
    · exact ⟨i + m + 1, by omega, by omega, h⟩
theorem lo_is {f : Nat → Int} {i m : Nat} {v : Int} (h1 : ∀ j, i ≤ j → j ≤ i + m → v ≤ f j) (h2 : ∃ j, i ≤ j ∧ j ≤ i + m ∧ v = f j) : v = lo f i m := by
  obtain ⟨j, a, b, rfl⟩ := h2
  obtain ⟨k, c, d, e⟩ := lo_mem f i m
  have := lo_le f i m j a b
  have := h1 k c d
  omega
theorem lo_congr {f g : Nat → Int} {i : Nat} : ∀ m, (∀ j, i ≤ j → j ≤ i + m → f j = g j) → lo f i m = lo g i m
  | 0, h => h i (Nat.le_refl _) (by omega)
  | m + 1, h => by
    simp only [lo]
    rw [lo_congr m (fun j a b => h j a (by omega)), h (i + m + 1) (by omega) (by omega)]
/-- the least of a list -/
def minL (xs : List Int) : Int := lo (fun j => xs.getD j 0) 0 (xs.length - 1)
/-- the parts' least ones, when k have come -/
def pk (f : Nat → Int) (part : Nat) : Nat → List Int
  | 0 => []
  | k + 1 => if k % part = 0 then pk f part k ++ [f k] else (pk f part k).set ((pk f part k).length - 1) (min ((pk f part k).getD ((pk f part k).length - 1) 0) (f k))
theorem dm {part q r : Nat} (h : r < part) : (q * part + r) / part = q ∧ (q * part + r) % part = r := by
  have hp : 0 < part := by omega
  rw [Nat.add_comm]
  exact ⟨by rw [Nat.add_mul_div_right _ _ hp, Nat.div_eq_of_lt h, Nat.zero_add], by rw [Nat.add_mul_mod_self_right, Nat.mod_eq_of_lt h]⟩
theorem pk_form (f : Nat → Int) {part : Nat} (hp : 0 < part) : ∀ k, ∃ q r, r < part ∧ k = q * part + r ∧ pk f part (k + 1) = (List.range q).map (fun p => lo f (p * part) (part - 1)) ++ [lo f (q * part) r]
  | 0 => ⟨0, 0, hp, by simp, by simp [pk, lo]⟩
  | k + 1 => by
    obtain ⟨q, r, hr, hk, hf⟩ := pk_form f hp k
    have hl : (pk f part (k + 1)).length = q + 1 := by rw [hf]; simp
    by_cases h : r + 1 = part
    · have hk' : k + 1 = (q + 1) * part + 0 := by rw [Nat.add_mul]; omega
      have hm : (k + 1) % part = 0 := by rw [hk']; exact (dm hp).2
      refine ⟨q + 1, 0, hp, hk', ?_⟩
      rw [pk, if_pos hm, hf, List.range_succ, List.map_append]
      have e1 : part - 1 = r := by omega
      have e2 : (q + 1) * part = k + 1 := by omega
      simp [lo, e1, e2]
    · have hk' : k + 1 = q * part + (r + 1) := by omega
      have hm : ¬ (k + 1) % part = 0 := by rw [hk', (dm (by omega)).2]; omega
      refine ⟨q, r + 1, by omega, hk', ?_⟩
      rw [pk, if_neg hm, hl, hf]
      have e1 : ((List.range q).map (fun p => lo f (p * part) (part - 1)) ++ [lo f (q * part) r]).getD (q + 1 - 1) 0 = lo f (q * part) r := by
        rw [List.getD_eq_getElem?_getD, List.getElem?_append_right (by simp)]; simp
      rw [e1]
      have e2 : q * part + r + 1 = k + 1 := by omega
      rw [List.set_append, if_neg (by simp)]
      simp [lo, e2]
theorem pk_len (f : Nat → Int) {part : Nat} (hp : 0 < part) (k : Nat) : (pk f part (k + 1)).length = k / part + 1 := by
  obtain ⟨q, r, hr, hk, hf⟩ := pk_form f hp k
  rw [hf, hk, (dm hr).1]; simp
theorem pk_at (f : Nat → Int) {part : Nat} (hp : 0 < part) (k p : Nat) (h : p ≤ k / part) : ∃ m, (pk f part (k + 1)).getD p 0 = lo f (p * part) m ∧ (p < k / part → p * part + m + 1 = (p + 1) * part) ∧ (p = k / part → p * part + m = k) ∧ p * part + m ≤ k := by
  obtain ⟨q, r, hr, hk, hf⟩ := pk_form f hp k
  have hq : k / part = q := by rw [hk]; exact (dm hr).1
  rw [hq] at h
  rw [hf, hq, List.getD_eq_getElem?_getD]
  by_cases hpq : p < q
  · have h1 : (p + 1) * part ≤ q * part := Nat.mul_le_mul_right _ hpq
    have h2 := Nat.add_mul p 1 part
    refine ⟨part - 1, ?_, fun _ => by omega, fun e => by omega, by omega⟩
    rw [List.getElem?_append_left (by simpa using hpq)]
    simp [hpq]
  · obtain rfl : p = q := by omega
    refine ⟨r, ?_, fun e => absurd e hpq, fun _ => by omega, by omega⟩
    rw [List.getElem?_append_right (by simp)]; simp
theorem pk_min (f : Nat → Int) {part : Nat} (hp : 0 < part) (k d : Nat) (h : d ≤ k / part) : minL ((pk f part (k + 1)).drop d) = lo f (d * part) (k - d * part) := by
  have hl := pk_len f hp k
  have hdk : d * part ≤ k := Nat.le_trans (Nat.mul_le_mul_right _ h) (Nat.div_mul_le_self k part)
  have hg : ∀ j, ((pk f part (k + 1)).drop d).getD j 0 = (pk f part (k + 1)).getD (d + j) 0 := fun j => by
    rw [List.getD_eq_getElem?_getD, List.getElem?_drop, ← List.getD_eq_getElem?_getD]
  have hlen : ((pk f part (k + 1)).drop d).length - 1 = k / part - d := by rw [List.length_drop, hl]; omega
  unfold minL
  rw [hlen]
  refine lo_is (fun j h1 h2 => ?_) ?_
  · have hj : d ≤ j / part := by
      rw [Nat.le_div_iff_mul_le hp]; exact h1
    have hj2 : j / part ≤ k / part := Nat.div_le_div_right (by omega)
    have h3 := lo_le (fun j => ((pk f part (k + 1)).drop d).getD j 0) 0 (k / part - d) (j / part - d) (Nat.zero_le _) (by omega)
    obtain ⟨m, hm, m1, m2, m3⟩ := pk_at f hp k (j / part) hj2
    rw [hg, show d + (j / part - d) = j / part by omega, hm] at h3
    have h4 := lo_le f (j / part * part) m j (Nat.div_mul_le_self j part) (by
      have := Nat.div_add_mod j part
      have := Nat.mod_lt j hp
      have := Nat.mul_comm part (j / part)
      have := Nat.add_mul (j / part) 1 part
      rcases Nat.lt_or_ge (j / part) (k / part) with h5 | h5
      · have := m1 h5; omega
      · have := m2 (by omega); omega)
    omega
  · obtain ⟨j, h1, h2, h3⟩ := lo_mem (fun j => ((pk f part (k + 1)).drop d).getD j 0) 0 (k / part - d)
    rw [hg] at h3
    obtain ⟨m, hm, m1, m2, m3⟩ := pk_at f hp k (d + j) (by omega)
    rw [hm] at h3
    obtain ⟨i, i1, i2, i3⟩ := lo_mem f ((d + j) * part) m
    have := Nat.add_mul d j part
    exact ⟨i, by omega, by omega, by rw [h3, i3]⟩
theorem lo_shift (f : Nat → Int) (i : Nat) : ∀ m, lo (fun j => f (i + j)) 0 m = lo f i m
  | 0 => rfl
  | m + 1 => by
    simp only [lo]
    rw [lo_shift f i m, show i + (0 + m + 1) = i + m + 1 by omega]
theorem minL_part (xs : List Int) (i k : Nat) (h : i ≤ k) (hk : k < xs.length) : minL ((xs.take (k + 1)).drop i) = lo (fun j => xs.getD j 0) i (k - i) := by
  unfold minL
  have hl : ((xs.take (k + 1)).drop i).length - 1 = k - i := by simp; omega
  rw [hl, ← lo_shift (fun j => xs.getD j 0) i]
  refine lo_congr _ fun j _ hj => ?_
  show ((xs.take (k + 1)).drop i).getD j 0 = xs.getD (i + j) 0
  rw [List.getD_eq_getElem?_getD, List.getElem?_drop, List.getElem?_take, if_pos (by omega), List.getD_eq_getElem?_getD]
/-- the least one that counts, at place k -/
def baseV (f : Nat → Int) (part keep k : Nat) : Int := lo f ((k / part + 1 - keep) * part) (k - (k / part + 1 - keep) * part)
def baseL (xs : List Int) (part keep : Nat) : List Int := (List.range xs.length).map (baseV (fun j => xs.getD j 0) part keep)
theorem baseL_len (xs : List Int) (part keep : Nat) : (baseL xs part keep).length = xs.length := by simp [baseL]
theorem baseL_get {xs : List Int} {part keep k : Nat} (h : k < xs.length) : (baseL xs part keep).getD k 0 = baseV (fun j => xs.getD j 0) part keep k := by
  simp [baseL, List.getD_eq_getElem?_getD, h]
theorem sub_keep {q keep : Nat} (hk : 0 < keep) : q + 1 - keep ≤ q := by omega
theorem from_le {part keep k : Nat} (hk : 0 < keep) : (k / part + 1 - keep) * part ≤ k :=
  Nat.le_trans (Nat.mul_le_mul_right _ (sub_keep hk)) (Nat.div_mul_le_self k part)
theorem base_parts (f : Nat → Int) {part keep : Nat} (hp : 0 < part) (hk : 0 < keep) (k : Nat) : minL ((pk f part (k + 1)).drop (k / part + 1 - keep)) = baseV f part keep k :=
  pk_min f hp k _ (sub_keep hk)
theorem base_direct (xs : List Int) {part keep k : Nat} (hk : 0 < keep) (h : k < xs.length) : minL ((xs.take (k + 1)).drop ((k / part + 1 - keep) * part)) = baseV (fun j => xs.getD j 0) part keep k :=
  minL_part xs _ k (from_le hk) h
theorem base_mem (xs : List Int) {part keep k : Nat} (hk : 0 < keep) (h : k < xs.length) : ∃ j, j < xs.length ∧ baseV (fun j => xs.getD j 0) part keep k = xs.getD j 0 := by
  obtain ⟨j, h1, h2, h3⟩ := lo_mem (fun j => xs.getD j 0) ((k / part + 1 - keep) * part) (k - (k / part + 1 - keep) * part)
  have := from_le (part := part) (k := k) hk
  exact ⟨j, by omega, h3⟩

end Go.Proofs.Ythjicnddfjpnjaa
