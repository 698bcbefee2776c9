/-
  WALKS: num.MulDiv; the reference's AMulDiv.
-/
import Derived.Test.YtdlljemabbccjaaMulDiv
namespace Go.Proofs.Ytdlljemabbccjaa
open Go.RowKit
set_option linter.unusedSimpArgs false
set_option linter.unusedVariables false

attribute [local go_sem] iteMin iteMax iteMinN iteMaxN

/-- a times b through c, no more than the greatest number -/
def mdN (a b c : Nat) : Nat := if c = 0 then 1152921504606846976 else min 1152921504606846976 (a * b / c)
theorem md_le (a b c : Nat) : mdN a b c ≤ 1152921504606846976 := by unfold mdN; split <;> omega
theorem md_fits {a b c t : Nat} (ht : t ≤ 1152921504606846976) : t * c ≤ a * b ↔ t ≤ mdN a b c := by
  unfold mdN
  split
  · rename_i h; subst h; simp; exact ht
  · rename_i h
    rw [← Nat.le_div_iff_mul_le (by omega)]
    omega
theorem fit_nat {a : Int} {A : Nat} (h : fitI a = (A : Int)) (w : World) : Calls Try.prog 13 #[.int .i64 a] w fun e w' => e = .returned (.int .i64 A) ∧ w = w' := by rw [← h]; exact fit_any a w
theorem rfit_nat {a : Int} {A : Nat} (h : fitI a = (A : Int)) (w : World) : Calls Try.prog 14 #[.int .i64 a] w fun e w' => e = .returned (.int .i64 A) ∧ w = w' := by rw [← h]; exact rfit_any a w

set_option maxHeartbeats 1000000 in
theorem mulDiv_any (a b c : Int) (A B C : Nat) (hA : fitI a = (A : Int)) (hB : fitI b = (B : Int)) (hC : fitI c = (C : Int)) (w : World) :
    Calls Try.prog 19 #[.int .i64 a, .int .i64 b, .int .i64 c] w fun e w' => e = .returned (.int .i64 (mdN A B C)) ∧ ∃ n, w' = w.drewN n := by
  have a1 : A ≤ 1152921504606846976 := by have := fit_le a; omega
  have a2 : B ≤ 1152921504606846976 := by have := fit_le b; omega
  have a3 : C ≤ 1152921504606846976 := by have := fit_le c; omega
  have HA := hide hA; have HB := hide hB; have HC := hide hC
  have u1 := wrapU A (by omega)
  have u2 := wrapU B (by omega)
  have u3 := wrapU C (by omega)
  obtain ⟨x, hx⟩ : ∃ x, A * B / 18446744073709551616 = x := ⟨_, rfl⟩
  obtain ⟨y, hy⟩ : ∃ y, A * B % 18446744073709551616 = y := ⟨_, rfl⟩
  have hyl : y < 18446744073709551616 := by rw [← hy]; exact Nat.mod_lt _ (by decide)
  have hxy : x * 18446744073709551616 + y = A * B := by have := Nat.div_add_mod (A * B) 18446744073709551616; rw [hx, hy, Nat.mul_comm] at this; exact this
  have HXY := hide hxy
  have HYL := hide hyl
  have M1 := hide (fun w => mul_any a1 a2 hx hy w)
  have HA3 := hide a3
  clear hA hB hC a1 a2 a3 hx hy hyl hxy
  rcases Nat.eq_zero_or_pos C with h0 | h0
  · have g0 : (C : Int) = 0 := by omega
    have HR : Hid (mdN A B C = 1152921504606846976) := hide (by unfold mdN; rw [if_pos h0])
    clear h0
    go_enter Try.func19, Try.ntmps19
    go_wp2_with (first | (go_at_call 13; first | (with_reducible refine (fit_nat HA.out _).mono ?_; rintro e w1 ⟨rfl, rfl⟩) | (with_reducible refine (fit_nat HB.out _).mono ?_; rintro e w1 ⟨rfl, rfl⟩) | (with_reducible refine (fit_nat HC.out _).mono ?_; rintro e w1 ⟨rfl, rfl⟩)))
    go_ret
    exact ⟨by rw [HR.out]; rfl, 0, rfl⟩
  · have g0 : ¬ ((C : Int) = 0) := by omega
    have g00 : (0 : Int) < (C : Int) := by omega
    rcases Nat.lt_or_ge x C with h1 | h1
    · have g1 : ¬ ((C : Int) ≤ (x : Int)) := by omega
      obtain ⟨Qn, hQ⟩ : ∃ Qn, A * B / C = Qn := ⟨_, rfl⟩
      have HQ : Hid ((x * 18446744073709551616 + y) / C = Qn) := hide (by rw [HXY.out]; exact hQ)
      have HR : Hid (mdN A B C = min 1152921504606846976 Qn) := hide (by unfold mdN; rw [if_neg (by omega), hQ])
      have H1 := hide h1
      have H0 := hide h0
      clear hQ h0 h1
      rcases Nat.eq_zero_or_pos x with h2 | h2
      · subst h2
        have D := hide (fun w => div64_zero y C w H0.out HYL.out)
        have e2 : y / C = Qn := by have := HQ.out; rw [Nat.zero_mul, Nat.zero_add] at this; exact this
        rw [e2] at D
        clear e2
        go_enter Try.func19, Try.ntmps19
        go_wp2_with (first | (go_at_call 13; first | (with_reducible refine (fit_nat HA.out _).mono ?_; rintro e w1 ⟨rfl, rfl⟩) | (with_reducible refine (fit_nat HB.out _).mono ?_; rintro e w1 ⟨rfl, rfl⟩) | (with_reducible refine (fit_nat HC.out _).mono ?_; rintro e w1 ⟨rfl, rfl⟩)) | (go_at_call 58; with_reducible refine (M1.out _).mono ?_; rintro e w1 ⟨rfl, rfl⟩) | (go_at_call 59; with_reducible refine (D.out _).mono ?_; rintro e w1 ⟨⟨rr, rfl⟩, nn, rfl⟩))
        go_ret
        refine ⟨retI ?_, nn, rfl⟩
        rw [HR.out]
        have e3 : min (Qn : Int) 1152921504606846976 = ((min 1152921504606846976 Qn : Nat) : Int) := by omega
        first | exact e3 | (simp only [e3]; rw [IntKind.wrap_i64]; omega)
      · have D := hide (fun w => div64_big x y C Qn HQ w h2 H1.out HA3.out HYL.out)
        clear h2
        go_enter Try.func19, Try.ntmps19
        go_wp2_with (first | (go_at_call 13; first | (with_reducible refine (fit_nat HA.out _).mono ?_; rintro e w1 ⟨rfl, rfl⟩) | (with_reducible refine (fit_nat HB.out _).mono ?_; rintro e w1 ⟨rfl, rfl⟩) | (with_reducible refine (fit_nat HC.out _).mono ?_; rintro e w1 ⟨rfl, rfl⟩)) | (go_at_call 58; with_reducible refine (M1.out _).mono ?_; rintro e w1 ⟨rfl, rfl⟩) | (go_at_call 59; with_reducible refine (D.out _).mono ?_; rintro e w1 ⟨⟨rr, rfl⟩, rfl⟩))
        go_ret
        refine ⟨retI ?_, 0, rfl⟩
        rw [HR.out]
        have e3 : min (Qn : Int) 1152921504606846976 = ((min 1152921504606846976 Qn : Nat) : Int) := by omega
        first | exact e3 | (simp only [e3]; rw [IntKind.wrap_i64]; omega)
    · have g1 : (C : Int) ≤ (x : Int) := by omega
      have HR : Hid (mdN A B C = 1152921504606846976) := hide (by
        unfold mdN
        rw [if_neg (by omega)]
        have : 1152921504606846976 ≤ A * B / C := by
          rw [Nat.le_div_iff_mul_le h0, ← HXY.out]
          have := Nat.mul_le_mul_left 1152921504606846976 h1
          omega
        omega)
      clear h0 h1
      go_enter Try.func19, Try.ntmps19
      go_wp2_with (first | (go_at_call 13; first | (with_reducible refine (fit_nat HA.out _).mono ?_; rintro e w1 ⟨rfl, rfl⟩) | (with_reducible refine (fit_nat HB.out _).mono ?_; rintro e w1 ⟨rfl, rfl⟩) | (with_reducible refine (fit_nat HC.out _).mono ?_; rintro e w1 ⟨rfl, rfl⟩)) | (go_at_call 58; with_reducible refine (M1.out _).mono ?_; rintro e w1 ⟨rfl, rfl⟩))
      go_ret
      exact ⟨by rw [HR.out]; rfl, 0, rfl⟩

end Go.Proofs.Ytdlljemabbccjaa
