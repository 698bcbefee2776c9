/-
  WALKS: the reference's AMulDiv.
-/
import Derived.Test.YtdlljemabbccjaaMulDiv2
namespace Go.Proofs.Ytdlljemabbccjaa
open Go.RowKit
set_option linter.unusedSimpArgs false
set_option linter.unusedVariables false

attribute [local go_sem] iteMin iteMax iteMinN iteMaxN

/-- how far the search is -/
def Bits (M q j : Nat) : Prop := q ≤ M ∧ M < q + 2 ^ j ∧ j ≤ 61
theorem bits_pow (i : Nat) (h : i ≤ 60) : 2 ^ i ≤ 1152921504606846976 := by
  have : 2 ^ i ≤ 2 ^ 60 := Nat.pow_le_pow_right (by decide) h
  exact this
theorem Bits.yes {M q i : Nat} (h : Bits M q (i + 1)) (hy : q + 2 ^ i ≤ M) : Bits M (q + 2 ^ i) i := by
  obtain ⟨h1, h2, h3⟩ := h
  rw [Nat.pow_succ] at h2
  exact ⟨hy, by omega, by omega⟩
theorem Bits.no {M q i : Nat} (h : Bits M q (i + 1)) (hy : M < q + 2 ^ i) : Bits M q i := ⟨h.1, hy, by have := h.2.2; omega⟩

theorem relOf {M q i : Nat} (h : Hid (Bits M q i)) : (Value.int .i64 ((i : Int) - 1) = .int .i64 (-1) ∧ Hid (Bits M q 0)) ∨ ∃ j : Nat, Value.int .i64 ((i : Int) - 1) = .int .i64 j ∧ Hid (Bits M q (j + 1)) := by
  rcases i with _ | i
  · exact .inl ⟨rfl, h⟩
  · exact .inr ⟨i, by rw [show ((i + 1 : Nat) : Int) - 1 = (i : Int) by omega], h⟩
set_option maxHeartbeats 1000000 in
theorem aMulDiv_any (a b c : Int) (A B C : Nat) (hA : fitI a = (A : Int)) (hB : fitI b = (B : Int)) (hC : fitI c = (C : Int)) (w : World) :
    Calls Try.prog 20 #[.int .i64 a, .int .i64 b, .int .i64 c] w fun e w' => e = .returned (.int .i64 (mdN A B C)) ∧ w = w' := by
  have a1 : A ≤ 1152921504606846976 := by have := fit_le a; omega
  have a2 : B ≤ 1152921504606846976 := by have := fit_le b; omega
  have a3 : C ≤ 1152921504606846976 := by have := fit_le c; omega
  have HA := hide hA; have HB := hide hB; have HC := hide hC
  have A1 := hide a1; have A2 := hide a2; have A3 := hide a3
  obtain ⟨M, hM⟩ : ∃ M, mdN A B C = M := ⟨_, rfl⟩
  have HM := hide hM
  have hM1 : M ≤ 1152921504606846976 := by rw [← hM]; exact md_le _ _ _
  have HM1 := hide hM1
  have HB0 : Hid (Bits M 0 61) := hide ⟨Nat.zero_le _, by have : (2 : Nat) ^ 61 = 2305843009213693952 := by decide
                                                          omega, Nat.le_refl _⟩
  rw [hM]
  clear hA hB hC a1 a2 a3 hM hM1
  go_enter Try.func20, Try.ntmps20
  go_wp2_with (first | (go_at_call 14; first | (with_reducible refine (rfit_nat HA.out _).mono ?_; rintro e w1 ⟨rfl, rfl⟩) | (with_reducible refine (rfit_nat HB.out _).mono ?_; rintro e w1 ⟨rfl, rfl⟩) | (with_reducible refine (rfit_nat HC.out _).mono ?_; rintro e w1 ⟨rfl, rfl⟩)))
  go_loop [7, 8] (fun x z => ∃ q : Nat, x = .int .i64 q ∧ ((z = .int .i64 (-1) ∧ Hid (Bits M q 0)) ∨ ∃ i : Nat, z = .int .i64 i ∧ Hid (Bits M q (i + 1)))) (fun _ z => (intOf z + 1).toNat)
  case atStart => exact ⟨0, rfl, .inr ⟨60, rfl, HB0⟩⟩
  case round =>
    obtain ⟨q, rfl, ⟨rfl, HX⟩ | ⟨i, rfl, HX⟩⟩ := hrel
    · have HE : Hid (q = M) := hide (by have := HX.out; unfold Bits at this; rw [Nat.pow_zero] at this; omega)
      go_wp2
      go_ret
      exact ⟨by rw [HE.out]; rfl, rfl⟩
    · obtain ⟨P, hP⟩ : ∃ P, 2 ^ i = P := ⟨_, rfl⟩
      have hi : i ≤ 60 := by have := HX.out.2.2; omega
      have hP1 : P ≤ 1152921504606846976 := by rw [← hP]; exact bits_pow i hi
      have hq : q ≤ 1152921504606846976 := by have := HX.out.1; have := HM1.out; omega
      have HP := hide hP
      have i0 : (0 : Int) ≤ (i : Int) := by omega
      have i60 : (i : Int) ≤ 60 := by omega
      have e1 : (2 : Int) ^ i = (P : Int) := by rw [← hP, Int.natCast_pow]; rfl
      obtain ⟨T, hT⟩ : ∃ T, q + P = T := ⟨_, rfl⟩
      have e2 : (q : Int) + (P : Int) = (T : Int) := by omega
      have e3 : wrap64 (P : Int) = (P : Int) := by unfold wrap64; omega
      have e4 : wrap64 (T : Int) = (T : Int) := by unfold wrap64; omega
      have e5 : IntKind.i64.wrap (P : Int) = (P : Int) := by rw [IntKind.wrap_i64]; omega
      have e6 : IntKind.i64.wrap (T : Int) = (T : Int) := by rw [IntKind.wrap_i64]; omega
      have HT := hide hT
      clear hP hT hP1 hq hi
      rcases Nat.lt_or_ge 1152921504606846976 T with h1 | h1
      · have g1 : ¬ ((T : Int) ≤ 1152921504606846976) := by omega
        have HN : Hid (Bits M q i) := hide (HX.out.no (by rw [HP.out, HT.out]; have := HM1.out; omega))
        clear h1
        go_wp2
        go_round
        case rel => exact ⟨q, rfl, relOf HN⟩
        case measure => (simp [intOf] <;> omega)
      · have g1 : (T : Int) ≤ 1152921504606846976 := by omega
        have HF := hide (md_fits (a := A) (b := B) (c := C) h1)
        have H1 := hide h1
        clear h1
        by_cases h2 : T ≤ M
        · have HN : Hid (Bits M T i) := hide (by rw [← HT.out, ← HP.out]; exact HX.out.yes (by rw [HP.out, HT.out]; exact h2))
          have FT := hide (show T * C ≤ A * B from HF.out.2 (by rw [HM.out]; exact h2))
          clear h2
          go_wp2_with (go_at_call 60; refine (callT (fits_any T C A B _ H1.out A3.out A1.out A2.out) FT.out).mono ?_; rintro e w1 ⟨rfl, rfl⟩)
          go_round
          case rel => exact ⟨T, rfl, relOf HN⟩
          case measure => (simp [intOf] <;> omega)
        · have HN : Hid (Bits M q i) := hide (HX.out.no (by rw [HP.out, HT.out]; omega))
          have FT := hide (show ¬ (T * C ≤ A * B) from fun h => h2 (by rw [← HM.out]; exact HF.out.1 h))
          clear h2
          go_wp2_with (go_at_call 60; refine (callF (fits_any T C A B _ H1.out A3.out A1.out A2.out) FT.out).mono ?_; rintro e w1 ⟨rfl, rfl⟩)
          go_round
          case rel => exact ⟨q, rfl, relOf HN⟩
          case measure => (simp [intOf] <;> omega)

end Go.Proofs.Ytdlljemabbccjaa
