/-
  WALKS: curve.Within.
-/
import Derived.Test.YthokolfgagkmiaaNum
import Derived.Test.YthokolfgagkmiaaSl
namespace Go.Proofs.Ythokolfgagkmiaa
open Go.RowKit
set_option linter.unusedSimpArgs false
set_option linter.unusedVariables false

def withinB : List Int → List Int → Bool
  | x :: xs, y :: ys => decide (fitI x ≤ fitI y) && withinB xs ys
  | _, _ => true
theorem within_no : ∀ (xs ys : List Int) (k : Nat) (x y : Int), xs[k]? = some x → ys[k]? = some y → fitI y < fitI x → withinB xs ys = false := by
  intro xs
  induction xs with
  | nil => intro ys k x y h; simp at h
  | cons a xs ih =>
    intro ys k x y h h' hl
    cases ys with
    | nil => simp at h'
    | cons b ys =>
      cases k with
      | zero => simp at h h'; subst h; subst h'; simp [withinB]; omega
      | succ k => simp [withinB, ih ys k x y (by simpa using h) (by simpa using h') hl]
theorem within_yes : ∀ (xs ys : List Int), (∀ (k : Nat) (x y : Int), xs[k]? = some x → ys[k]? = some y → fitI x ≤ fitI y) → withinB xs ys = true := by
  intro xs
  induction xs with
  | nil => intro ys _; cases ys <;> rfl
  | cons a xs ih =>
    intro ys h
    cases ys with
    | nil => rfl
    | cons b ys => simp [withinB, h 0 a b rfl rfl, ih ys (fun k x y h1 h2 => h (k + 1) x y (by simpa using h1) (by simpa using h2))]
theorem within_take : ∀ (xs ys : List Int) (k : Nat) (x y : Int), xs[k]? = some x → ys[k]? = some y → withinB (xs.take (k + 1)) (ys.take (k + 1)) = (withinB (xs.take k) (ys.take k) && decide (fitI x ≤ fitI y)) := by
  intro xs
  induction xs with
  | nil => intro ys k x y h; simp at h
  | cons a xs ih =>
    intro ys k x y h h'
    cases ys with
    | nil => simp at h'
    | cons b ys =>
      cases k with
      | zero => simp at h h'; subst h; subst h'; simp [withinB]
      | succ k =>
        have := ih ys k x y (by simpa using h) (by simpa using h')
        simp only [List.take_succ_cons, withinB]
        rw [this, Bool.and_assoc]
theorem within_over : ∀ (xs ys : List Int) (k : Nat), ys.length ≤ k → withinB (xs.take k) (ys.take k) = withinB xs ys := by
  intro xs
  induction xs with
  | nil => intro ys k _; simp [withinB]
  | cons a xs ih =>
    intro ys k h
    cases ys with
    | nil => simp [withinB]
    | cons b ys =>
      cases k with
      | zero => simp at h
      | succ k => simp [withinB, ih ys k (by simpa using h)]

set_option maxHeartbeats 2000000 in
theorem within_any (a a' : Option Addr) (n n' c c' : Nat) (xs ys : List Int) (w : World) (h : IntsAt w a n c xs) (h' : IntsAt w a' n' c' ys) :
    Calls Try.prog 30 #[.slice a n c, .slice a' n' c'] w fun e w' => e = .returned (.bool (withinB xs ys)) ∧ Below w.heap.size w w' := by
  have hn := h.lim
  have hn' := h'.lim
  have HL := hide h.len
  have HL' := hide h'.len
  rcases Nat.lt_or_ge n' n with hle | hle
  · go_enter Try.func30, Try.ntmps30
    go_wp2
    go_loopw [11] (fun i wr => ∃ k : Nat, k ≤ n' ∧ i = .int .i64 k ∧ (∀ (j : Nat) (x y : Int), j < k → xs[j]? = some x → ys[j]? = some y → fitI x ≤ fitI y) ∧ Below w.heap.size w wr) (fun i _ => n' - (intOf i).toNat)
    case atStart => exact ⟨0, Nat.zero_le _, rfl, fun j _ _ hj => absurd hj (by omega), Below.refl _ _⟩
    case round =>
      obtain ⟨k, hk, rfl, hall, hB⟩ := hrel
      have HA := hide hall
      clear hall
      by_cases hlt : k < n'
      · obtain ⟨ad, x, rfl, hbd, hc, HX⟩ := h.getB hB (show k < n by omega)
        obtain ⟨ad', y, rfl, hbd', hc', HY⟩ := h'.getB hB (show k < n' by omega)
        have k0 : (0 : Int) ≤ (k : Int) := Int.natCast_nonneg _
        have k1 : (k : Int) < (n : Int) := by omega
        have k2 : (k : Int) < (n' : Int) := by omega
        clear h h'
        by_cases hxy : fitI x ≤ fitI y
        · go_wp2
          go_quiet ((go_at_call 85; exact quietL (fit_any _ _)))
          go_wp2
          go_roundw
          case rel => exact ⟨k + 1, by omega, by go_num, fun j u v hj h1 h2 => by
            rcases (show j < k ∨ j = k by omega) with h3 | rfl
            · exact HA.out j u v h3 h1 h2
            · have e1 := HX.out; have e2 := HY.out; rw [h1] at e1; rw [h2] at e2; injection e1 with e1; injection e2 with e2; rw [e1, e2]; exact hxy, below_drewN hB _⟩
          case measure => simp [intOf]; omega
        · have hxy' : fitI y < fitI x := by omega
          clear hxy
          go_wp2
          go_quiet ((go_at_call 85; exact quietL (fit_any _ _)))
          go_wp2
          go_ret
          exact ⟨retBI (by rw [within_no xs ys k x y HX.out HY.out hxy']), below_drewN hB _⟩
      · have HF := hide (within_yes xs ys (fun j x y h1 h2 => HA.out j x y (by
          have e1 := (List.getElem?_eq_some_iff.1 h1).1; have e2 := (List.getElem?_eq_some_iff.1 h2).1; rw [HL.out] at e1; rw [HL'.out] at e2; omega) h1 h2))
        clear h h'
        go_wp2
        go_ret
        exact ⟨retBI (by rw [HF.out]), hB⟩
  · go_enter Try.func30, Try.ntmps30
    go_wp2
    go_loopw [11] (fun i wr => ∃ k : Nat, k ≤ n ∧ i = .int .i64 k ∧ (∀ (j : Nat) (x y : Int), j < k → xs[j]? = some x → ys[j]? = some y → fitI x ≤ fitI y) ∧ Below w.heap.size w wr) (fun i _ => n - (intOf i).toNat)
    case atStart => exact ⟨0, Nat.zero_le _, rfl, fun j _ _ hj => absurd hj (by omega), Below.refl _ _⟩
    case round =>
      obtain ⟨k, hk, rfl, hall, hB⟩ := hrel
      have HA := hide hall
      clear hall
      by_cases hlt : k < n
      · obtain ⟨ad, x, rfl, hbd, hc, HX⟩ := h.getB hB (show k < n by omega)
        obtain ⟨ad', y, rfl, hbd', hc', HY⟩ := h'.getB hB (show k < n' by omega)
        have k0 : (0 : Int) ≤ (k : Int) := Int.natCast_nonneg _
        have k1 : (k : Int) < (n : Int) := by omega
        have k2 : (k : Int) < (n' : Int) := by omega
        clear h h'
        by_cases hxy : fitI x ≤ fitI y
        · go_wp2
          go_quiet ((go_at_call 85; exact quietL (fit_any _ _)))
          go_wp2
          go_roundw
          case rel => exact ⟨k + 1, by omega, by go_num, fun j u v hj h1 h2 => by
            rcases (show j < k ∨ j = k by omega) with h3 | rfl
            · exact HA.out j u v h3 h1 h2
            · have e1 := HX.out; have e2 := HY.out; rw [h1] at e1; rw [h2] at e2; injection e1 with e1; injection e2 with e2; rw [e1, e2]; exact hxy, below_drewN hB _⟩
          case measure => simp [intOf]; omega
        · have hxy' : fitI y < fitI x := by omega
          clear hxy
          go_wp2
          go_quiet ((go_at_call 85; exact quietL (fit_any _ _)))
          go_wp2
          go_ret
          exact ⟨retBI (by rw [within_no xs ys k x y HX.out HY.out hxy']), below_drewN hB _⟩
      · have HF := hide (within_yes xs ys (fun j x y h1 h2 => HA.out j x y (by
          have e1 := (List.getElem?_eq_some_iff.1 h1).1; have e2 := (List.getElem?_eq_some_iff.1 h2).1; rw [HL.out] at e1; rw [HL'.out] at e2; omega) h1 h2))
        clear h h'
        go_wp2
        go_ret
        exact ⟨retBI (by rw [HF.out]), hB⟩

end Go.Proofs.Ythokolfgagkmiaa
