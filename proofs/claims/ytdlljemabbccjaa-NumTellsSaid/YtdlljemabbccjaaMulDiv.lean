/-
  WALKS: num.MulDiv; the reference's fits and AMulDiv.
-/
import Derived.Test.YtdlljemabbccjaaDiv64
import Derived.Test.YtdlljemabbccjaaNum
import Derived.Test.YtdlljemabbccjaaMin
namespace Go.Proofs.Ytdlljemabbccjaa
open Go.RowKit
set_option linter.unusedSimpArgs false
set_option linter.unusedVariables false

attribute [local go_sem] iteMin iteMax iteMinN iteMaxN

theorem div64_zero (lo y : Nat) (w : World) (h0 : 0 < y) (hlo : lo < 18446744073709551616) :
    Calls Try.prog 59 #[.int .u64 0, .int .u64 lo, .int .u64 y] w fun e w' => (∃ r : Int, e = .returned (.tuple #[.int .u64 ((lo / y : Nat) : Int), .int .u64 r])) ∧ ∃ n, w' = w.drewN n := by
  have g1 : ¬ ((y : Int) = 0) := by omega
  have g2 : (0 : Int) < (y : Int) := by omega
  have e1 := divN (U := lo) (A := y) hlo
  have e2 : ((lo / y : Nat) : Int) = (lo : Int) / (y : Int) := Int.natCast_ediv _ _
  rw [e2] at e1
  have HL := hide hlo
  clear hlo e2
  go_enter Try.func59, Try.ntmps59
  go_wp2
  go_quiet (fail)
  go_wp2
  go_ret2
  exact ⟨⟨_, by first | rfl | simp⟩, ⟨_, rfl⟩⟩
/-- of two words: who is less -/
theorem lex {P Q : Nat} : P ≤ Q ↔ (P / 18446744073709551616 < Q / 18446744073709551616 ∨ (P / 18446744073709551616 = Q / 18446744073709551616 ∧ P % 18446744073709551616 ≤ Q % 18446744073709551616)) := by
  have h1 := Nat.div_add_mod P 18446744073709551616
  have h2 := Nat.div_add_mod Q 18446744073709551616
  have h3 := Nat.mod_lt P (show 0 < 18446744073709551616 by decide)
  have h4 := Nat.mod_lt Q (show 0 < 18446744073709551616 by decide)
  generalize P / 18446744073709551616 = a at *
  generalize P % 18446744073709551616 = b at *
  generalize Q / 18446744073709551616 = c at *
  generalize Q % 18446744073709551616 = d at *
  constructor
  · intro h
    rcases Nat.lt_trichotomy a c with h5 | h5 | h5
    · exact .inl h5
    · subst h5; exact .inr ⟨rfl, by omega⟩
    · have : 18446744073709551616 * (c + 1) ≤ 18446744073709551616 * a := Nat.mul_le_mul_left _ h5
      rw [Nat.mul_add] at this; omega
  · rintro (h | ⟨rfl, h⟩)
    · have : 18446744073709551616 * (a + 1) ≤ 18446744073709551616 * c := Nat.mul_le_mul_left _ h
      rw [Nat.mul_add] at this; omega
    · omega
theorem mul_any {a b hi lo : Nat} (ha : a ≤ 1152921504606846976) (hb : b ≤ 1152921504606846976) (h1 : a * b / 18446744073709551616 = hi) (h2 : a * b % 18446744073709551616 = lo) (w : World) :
    Calls Try.prog 58 #[.int .u64 a, .int .u64 b] w fun e w' => e = .returned (.tuple #[.int .u64 hi, .int .u64 lo]) ∧ w' = w := by
  have := Try.bits_Mul64 a b (by omega) (by omega) w
  rw [h1, h2] at this
  exact this
theorem fits_any (a b c d : Nat) (w : World) (ha : a ≤ 1152921504606846976) (hb : b ≤ 1152921504606846976) (hc : c ≤ 1152921504606846976) (hd : d ≤ 1152921504606846976) :
    Calls Try.prog 60 #[.int .i64 a, .int .i64 b, .int .i64 c, .int .i64 d] w fun e w' => IsB (a * b ≤ c * d) e ∧ w = w' := by
  obtain ⟨x, hx⟩ : ∃ x, a * b / 18446744073709551616 = x := ⟨_, rfl⟩
  obtain ⟨y, hy⟩ : ∃ y, a * b % 18446744073709551616 = y := ⟨_, rfl⟩
  obtain ⟨u, hu⟩ : ∃ u, c * d / 18446744073709551616 = u := ⟨_, rfl⟩
  obtain ⟨v, hv⟩ : ∃ v, c * d % 18446744073709551616 = v := ⟨_, rfl⟩
  have HL := hide (lex (P := a * b) (Q := c * d))
  rw [hx, hy, hu, hv] at HL
  have M1 := hide (fun w => mul_any ha hb hx hy w)
  have M2 := hide (fun w => mul_any hc hd hu hv w)
  have b1 : (a : Int) ≤ 1152921504606846976 := by omega
  have b2 : (b : Int) ≤ 1152921504606846976 := by omega
  have b3 : (c : Int) ≤ 1152921504606846976 := by omega
  have b4 : (d : Int) ≤ 1152921504606846976 := by omega
  have u1 := wrapU a (by omega)
  have u2 := wrapU b (by omega)
  have u3 := wrapU c (by omega)
  have u4 := wrapU d (by omega)
  clear hx hy hu hv ha hb hc hd
  rcases (show x < u ∨ (x = u ∧ y ≤ v) ∨ (x = u ∧ v < y) ∨ u < x by omega) with h | ⟨rfl, h⟩ | ⟨rfl, h⟩ | h
  · have h1 : (x : Int) < (u : Int) := by omega
    have HH := hide (HL.out.2 (.inl h))
    clear h
    go_enter Try.func60, Try.ntmps60
    go_wp2_with (go_at_call 58; first | (with_reducible refine (M1.out _).mono ?_; rintro e w1 ⟨rfl, rfl⟩) | (with_reducible refine (M2.out _).mono ?_; rintro e w1 ⟨rfl, rfl⟩))
    go_ret
    exact ⟨IsB.t HH.out, rfl⟩
  · have h1 : (y : Int) ≤ (v : Int) := by omega
    have HH := hide (HL.out.2 (.inr ⟨rfl, h⟩))
    clear h
    go_enter Try.func60, Try.ntmps60
    go_wp2_with (go_at_call 58; first | (with_reducible refine (M1.out _).mono ?_; rintro e w1 ⟨rfl, rfl⟩) | (with_reducible refine (M2.out _).mono ?_; rintro e w1 ⟨rfl, rfl⟩))
    go_ret
    exact ⟨by first | exact IsB.t HH.out | exact IsB.d (by simp [HH.out]; omega), rfl⟩
  · have h1 : ¬ ((y : Int) ≤ (v : Int)) := by omega
    have HH := hide (show ¬ (a * b ≤ c * d) from fun h' => by rcases HL.out.1 h' with h2 | h2; omega; omega)
    clear h
    go_enter Try.func60, Try.ntmps60
    go_wp2_with (go_at_call 58; first | (with_reducible refine (M1.out _).mono ?_; rintro e w1 ⟨rfl, rfl⟩) | (with_reducible refine (M2.out _).mono ?_; rintro e w1 ⟨rfl, rfl⟩))
    go_ret
    exact ⟨by first | exact IsB.f HH.out | exact IsB.d (by simp [HH.out]; omega), rfl⟩
  · have h1 : ¬ ((x : Int) < (u : Int)) := by omega
    have h2 : ((x : Int) == (u : Int)) = false := by simp; omega
    have HH := hide (show ¬ (a * b ≤ c * d) from fun h' => by rcases HL.out.1 h' with h2 | h2; omega; omega)
    clear h
    go_enter Try.func60, Try.ntmps60
    go_wp2_with (go_at_call 58; first | (with_reducible refine (M1.out _).mono ?_; rintro e w1 ⟨rfl, rfl⟩) | (with_reducible refine (M2.out _).mono ?_; rintro e w1 ⟨rfl, rfl⟩))
    go_ret
    exact ⟨by first | exact IsB.f HH.out | exact IsB.d (by simp [HH.out]; omega), rfl⟩

end Go.Proofs.Ytdlljemabbccjaa
