/-
  THE PLAIN LAW of ShareTells: levels, and whole rounds; sums. No program in sight.
-/
import Derived.Test.YthjicnddfjpnjaaSl
namespace Go.Proofs.Ythjicnddfjpnjaa
set_option linter.unusedSimpArgs false
set_option linter.unusedVariables false

/-- how much the first k have, if nobody has more than L -/
def fl (f : Nat → Int) (L : Int) : Nat → Int
  | 0 => 0
  | k + 1 => fl f L k + min (f k) L
/-- how many of the first k want more than L -/
def cn (f : Nat → Int) (L : Int) : Nat → Int
  | 0 => 0
  | k + 1 => if L < f k then cn f L k + 1 else cn f L k
/-- the least that one who wants more wants above L -/
def ls (f : Nat → Int) (L : Int) : Nat → Int
  | 0 => 1073741824
  | k + 1 => if L < f k then min (ls f L k) (f k - L) else ls f L k
/-- what is left for those behind k -/
def rs (f : Nat → Int) (L r : Int) : Nat → Int
  | 0 => r
  | k + 1 => if 0 < rs f L r k ∧ L < f k then rs f L r k - 1 else rs f L r k
def so (f : Nat → Int) (L r : Int) (k : Nat) : Int := if 0 < rs f L r k ∧ L < f k then min (f k) L + 1 else min (f k) L

theorem fl_mono {f : Nat → Int} {L M : Int} (h : L ≤ M) : ∀ k, fl f L k ≤ fl f M k
  | 0 => Int.le_refl _
  | k + 1 => by have := fl_mono (f := f) h k; simp only [fl]; omega
theorem fl_ge {f : Nat → Int} {L : Int} (hL : 0 ≤ L) : ∀ k, (∀ j, j < k → 0 ≤ f j) → 0 ≤ fl f L k
  | 0, _ => Int.le_refl _
  | k + 1, h => by
    have := fl_ge (f := f) hL k (fun j hj => h j (by omega))
    have := h k (by omega)
    simp only [fl]; omega
theorem fl_zero {f : Nat → Int} : ∀ k, (∀ j, j < k → 0 ≤ f j) → fl f 0 k = 0
  | 0, _ => rfl
  | k + 1, h => by
    have := fl_zero (f := f) k (fun j hj => h j (by omega))
    have := h k (by omega)
    simp only [fl]; omega
theorem fl_le {f : Nat → Int} {L : Int} {c : Int} (hc : 0 ≤ c) : ∀ k, (∀ j, j < k → f j ≤ c) → fl f L k ≤ (k : Int) * c
  | 0, _ => by simp [fl]
  | k + 1, h => by
    have h1 := fl_le (f := f) (L := L) hc k (fun j hj => h j (by omega))
    have h2 := h k (by omega)
    simp only [fl]
    have h3 : ((k + 1 : Nat) : Int) * c = (k : Int) * c + c := by rw [Int.natCast_add, Int.add_mul]; simp
    rw [h3]; omega
theorem cn_ge {f : Nat → Int} {L : Int} : ∀ k, 0 ≤ cn f L k
  | 0 => Int.le_refl _
  | k + 1 => by have := cn_ge (f := f) (L := L) k; simp only [cn]; split <;> omega
theorem cn_le {f : Nat → Int} {L : Int} : ∀ k, cn f L k ≤ k
  | 0 => Int.le_refl _
  | k + 1 => by have := cn_le (f := f) (L := L) k; simp only [cn]; split <;> omega
theorem ls_pos {f : Nat → Int} {L : Int} : ∀ k, 1 ≤ ls f L k ∧ ls f L k ≤ 1073741824
  | 0 => by simp [ls]
  | k + 1 => by have := ls_pos (f := f) (L := L) k; simp only [ls]; split <;> omega
theorem ls_le {f : Nat → Int} {L : Int} : ∀ k j, j < k → L < f j → ls f L k ≤ f j - L
  | k + 1, j, h, hj => by
    simp only [ls]
    by_cases e : j = k
    · subst e; rw [if_pos hj]; omega
    · have := ls_le (f := f) (L := L) k j (by omega) hj
      split <;> omega
theorem cn_some {f : Nat → Int} {L : Int} : ∀ k, 0 < cn f L k → ∃ j, j < k ∧ L < f j
  | 0, h => by simp [cn] at h
  | k + 1, h => by
    by_cases e : L < f k
    · exact ⟨k, by omega, e⟩
    · rw [cn, if_neg e] at h
      obtain ⟨j, a, b⟩ := cn_some k h
      exact ⟨j, by omega, b⟩
theorem cn_none {f : Nat → Int} {L : Int} : ∀ k, cn f L k = 0 → ∀ j, j < k → f j ≤ L
  | k + 1, h, j, hj => by
    have h0 := cn_ge (f := f) (L := L) k
    by_cases e : L < f k
    · rw [cn, if_pos e] at h; omega
    · rw [cn, if_neg e] at h
      by_cases e2 : j = k
      · subst e2; omega
      · exact cn_none k h j (by omega)
/-- whole rounds -/
theorem fl_add {f : Nat → Int} {L r : Int} (hr : 0 ≤ r) : ∀ k, (∀ j, j < k → L < f j → r ≤ f j - L) → fl f (L + r) k = fl f L k + r * cn f L k
  | 0, _ => by simp [fl, cn]
  | k + 1, h => by
    have h1 := fl_add (f := f) (L := L) hr k (fun j hj => h j (by omega))
    have h2 := h k (by omega)
    simp only [fl, cn]
    by_cases e : L < f k
    · rw [if_pos e, Int.mul_add, h1]; have := h2 e; omega
    · rw [if_neg e, h1]; omega
theorem fl_step {f : Nat → Int} {L : Int} (k : Nat) : fl f (L + 1) k = fl f L k + cn f L k := by
  have := fl_add (f := f) (L := L) (r := 1) (by omega) k (fun j _ h => by omega)
  omega
/-- equal sums: equal terms -/
theorem fl_terms {f : Nat → Int} {L M : Int} (h : L ≤ M) : ∀ k, fl f L k = fl f M k → ∀ j, j < k → min (f j) L = min (f j) M
  | k + 1, e, j, hj => by
    have h1 := fl_mono (f := f) h k
    simp only [fl] at e
    by_cases e2 : j = k
    · subst e2; omega
    · exact fl_terms h k (by omega) j (by omega)
theorem rs_neg {f : Nat → Int} {L r : Int} (h : r ≤ 0) : ∀ k, rs f L r k = r
  | 0 => rfl
  | k + 1 => by rw [rs, rs_neg h k, if_neg (by omega)]
theorem so_neg {f : Nat → Int} {L r : Int} (h : r ≤ 0) (k : Nat) : so f L r k = min (f k) L := by
  unfold so; rw [rs_neg h k, if_neg (by omega)]
/-- all are given away, if there are more who want -/
theorem rs_give {f : Nat → Int} {L r : Int} (hr : 0 ≤ r) : ∀ k, rs f L r k = max 0 (r - cn f L k)
  | 0 => by simp only [rs, cn]; omega
  | k + 1 => by
    have h := rs_give (f := f) (L := L) hr k
    have := cn_ge (f := f) (L := L) k
    simp only [rs, cn]
    by_cases e : L < f k
    · rw [if_pos e]
      by_cases e2 : 0 < rs f L r k
      · rw [if_pos ⟨e2, e⟩]; omega
      · rw [if_neg (fun x => e2 x.1)]; omega
    · rw [if_neg e, if_neg (fun x => e x.2)]; exact h
/-- THE LAW: both levels share alike -/
theorem same_share {f : Nat → Int} {n : Nat} {A L M : Int} (hf : ∀ j, j < n → 0 ≤ f j ∧ f j ≤ 1048576) (hA : 0 ≤ A) (hM0 : 0 ≤ M) (hM : fl f M n ≤ A) (hM1 : M ≤ 1048576) (hM2 : M = 1048576 ∨ A < fl f (M + 1) n)
    (hL0 : 0 ≤ L) (hL1 : L ≤ 1048576) (hL : fl f L n ≤ A) (hL2 : cn f L n = 0 ∨ fl f L n = A ∨ A < fl f (L + 1) n) : ∀ k, k < n → so f M (A - fl f M n) k = so f L (A - fl f L n) k := by
  intro k hk
  rcases hL2 with h | h | h
  · have hall := cn_none n h
    have h1 : so f L (A - fl f L n) k = f k := by
      unfold so; rw [if_neg (fun e => by have := hall k hk; omega)]; have := hall k hk; omega
    have h2 : M = 1048576 ∨ L ≤ M := by
      rcases hM2 with e | e
      · exact .inl e
      · right
        rcases Int.lt_or_le M L with h3 | h3
        · have := fl_mono (f := f) (show M + 1 ≤ L by omega) n; omega
        · exact h3
    have h3 : f k ≤ M := by have := (hf k hk).2; have := hall k hk; omega
    rw [h1]
    unfold so; rw [if_neg (fun e => by omega)]; omega
  · rw [h, Int.sub_self, so_neg (Int.le_refl 0)]
    have h2 : L ≤ M := by
      rcases Int.lt_or_le M L with h3 | h3
      · rcases hM2 with e | e
        · omega
        · have := fl_mono (f := f) (show M + 1 ≤ L by omega) n; omega
      · exact h3
    have h3 : fl f L n = fl f M n := by have := fl_mono (f := f) h2 n; omega
    rw [so_neg (by omega)]
    exact (fl_terms h2 n h3 k hk).symm
  · have h2 : L = M := by
      rcases Int.lt_trichotomy L M with h3 | h3 | h3
      · have := fl_mono (f := f) (show L + 1 ≤ M by omega) n; omega
      · exact h3
      · rcases hM2 with e | e
        · omega
        · have := fl_mono (f := f) (show M + 1 ≤ L by omega) n; omega
    rw [h2]
/-- one step of the search for the level, bit by bit -/
def bitStep (f : Nat → Int) (n : Nat) (A L b : Int) : Int := if L + b ≤ 1048576 ∧ fl f (L + b) n ≤ A then L + b else L
/-- Σ x, Σ x x -/
def s1 (f : Nat → Int) : Nat → Int
  | 0 => 0
  | k + 1 => s1 f k + f k
def s2 (f : Nat → Int) : Nat → Int
  | 0 => 0
  | k + 1 => s2 f k + f k * f k
theorem s1_bound {f : Nat → Int} : ∀ k, (∀ j, j < k → 0 ≤ f j ∧ f j ≤ 1048576) → 0 ≤ s1 f k ∧ s1 f k ≤ (k : Int) * 1048576
  | 0, _ => by simp [s1]
  | k + 1, h => by
    have h1 := s1_bound (f := f) k (fun j hj => h j (by omega))
    have h2 := h k (by omega)
    simp only [s1]; omega
theorem sq_bound {x : Int} (h : 0 ≤ x ∧ x ≤ 1048576) : 0 ≤ x * x ∧ x * x ≤ 1099511627776 :=
  ⟨Int.mul_nonneg h.1 h.1, Int.le_trans (Int.mul_le_mul h.2 h.2 h.1 (by omega)) (by decide)⟩
theorem s2_bound {f : Nat → Int} : ∀ k, (∀ j, j < k → 0 ≤ f j ∧ f j ≤ 1048576) → 0 ≤ s2 f k ∧ s2 f k ≤ (k : Int) * 1099511627776
  | 0, _ => by simp [s2]
  | k + 1, h => by
    have h1 := s2_bound (f := f) k (fun j hj => h j (by omega))
    have h2 := sq_bound (h k (by omega))
    simp only [s2]; omega
theorem s_zero {f : Nat → Int} : ∀ k, (∀ j, j < k → 0 ≤ f j ∧ f j ≤ 1048576) → (s1 f k = 0 ↔ s2 f k = 0)
  | 0, _ => by simp [s1, s2]
  | k + 1, h => by
    have h1 := s_zero (f := f) k (fun j hj => h j (by omega))
    have h2 := s1_bound (f := f) k (fun j hj => h j (by omega))
    have h3 := s2_bound (f := f) k (fun j hj => h j (by omega))
    have h4 := h k (by omega)
    have h5 := sq_bound h4
    simp only [s1, s2]
    constructor
    · intro e
      have : f k = 0 := by omega
      rw [this]; have := h1.1 (by omega); omega
    · intro e
      have h6 : f k * f k = 0 := by omega
      have : f k = 0 := by rcases Int.mul_eq_zero.1 h6 with h7 | h7 <;> exact h7
      have := h1.2 (by omega); omega

end Go.Proofs.Ythjicnddfjpnjaa
