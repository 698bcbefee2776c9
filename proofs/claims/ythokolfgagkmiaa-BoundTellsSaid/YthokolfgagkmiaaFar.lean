/-
  WALKS: bound.Far.
-/
import Derived.Test.YthokolfgagkmiaaPBound
import Derived.Test.YthokolfgagkmiaaNum
import Derived.Test.YthokolfgagkmiaaMin
namespace Go.Proofs.Ythokolfgagkmiaa
open Go.RowKit
set_option linter.unusedSimpArgs false
set_option linter.unusedVariables false

attribute [local go_sem] iteMin iteMax iteMinN iteMaxN

set_option maxHeartbeats 4000000 in
theorem far_any (a a' : Option Addr) (n n' c c' : Nat) (xs ys : List Int) (w : World) (h : IntsAt w a n c xs) (h' : IntsAt w a' n' c' ys) :
    Calls Try.prog 73 #[.slice a n c, .slice a' n' c'] w fun e w' => FarEnds xs ys e ∧ Below w.heap.size w w' := by
  have hn := h.lim
  have hn' := h'.lim
  have HL := hide h.len
  have HL' := hide h'.len
  go_enter Try.func73, Try.ntmps73
  go_wp2
  go_loop [6, 12] (fun v i => ∃ k : Nat, ∃ m : Int, k ≤ n ∧ i = .int .i64 k ∧ v = .int .i64 m ∧ Hid (FarK xs ys k m)) (fun _ i => n - (intOf i).toNat)
  case atStart => exact ⟨0, 0, Nat.zero_le _, rfl, rfl, hide rfl⟩
  case round =>
    obtain ⟨k, m, hk, rfl, rfl, HK⟩ := hrel
    by_cases hlt : k < n
    · obtain ⟨ad, x, rfl, hbd, hc, HX⟩ := h.getB (Below.refl _ _) hlt
      have k0 : (0 : Int) ≤ (k : Int) := Int.natCast_nonneg _
      have k1 : (k : Int) < (n : Int) := by omega
      go_wp2
      go_loop [9] (fun i => ∃ d : Nat, (d = 0 ∨ k + d ≤ n') ∧ i = .int .i64 d ∧ Hid (∀ e, e < d → ∃ y, ys[k + e]? = some y ∧ fitI y < fitI x)) (fun i => n' - (k + (intOf i).toNat))
      case atStart => exact ⟨0, .inl rfl, rfl, hide fun e he => absurd he (by omega)⟩
      case round =>
        obtain ⟨d, hd, rfl, HD⟩ := hrel
        have d0 : (0 : Int) ≤ (d : Int) := Int.natCast_nonneg _
        have d1 : (d : Int) ≤ 17592186044416 := by omega
        have HNM : Hid (FarK xs ys k m) := HK
        by_cases hdl : k + d < n'
        · have hdz : (k : Int) + (d : Int) < (n' : Int) := by omega
          obtain ⟨ad', y, rfl, hbd', hc', HY⟩ := h'.getB (Below.refl _ _) hdl
          by_cases hf : fitI y < fitI x
          · clear h h' hd
            go_wp2_with (go_at_call 85; refine (fit_any _ _).mono ?_; rintro e w' ⟨rfl, rfl⟩)
            go_round
            case rel => exact ⟨d + 1, .inr (by omega), by go_num, hide fun e he => by
              rcases (show e < d ∨ e = d by omega) with h1 | rfl
              · exact HD.out e h1
              · exact ⟨y, HY.out, hf⟩⟩
            case measure => simp [intOf]; omega
          · have hf' : fitI x ≤ fitI y := by omega
            have HFR := hide (show First ys k (xs.getD k 0) d from ⟨⟨y, HY.out, by rw [getD_of HX.out]; exact hf'⟩, by rw [getD_of HX.out]; exact HD.out⟩)
            clear h h' hf hd
            go_wp2_with (go_at_call 85; refine (fit_any _ _).mono ?_; rintro e w' ⟨rfl, rfl⟩)
            go_round
            case rel => exact ⟨k + 1, _, by omega, by go_num, rfl, hide ⟨m, d, HK.out, HFR.out, rfl⟩⟩
            case measure => simp [intOf]; omega
        · have hdz : (n' : Int) ≤ (k : Int) + (d : Int) := by omega
          have HF := hide (show FarNo xs ys from ⟨k, x, HX.out, fun e y hy => by
            have e1 := (List.getElem?_eq_some_iff.1 hy).1
            rw [HL'.out] at e1
            obtain ⟨z, hz, hz'⟩ := HD.out e (by omega)
            rw [hy] at hz; injection hz with hz; rw [hz]; exact hz'⟩)
          clear h h' hd
          go_wp2
          go_ret2
          exact ⟨farEnds (.inr ⟨rfl, rfl, HF.out⟩), Below.refl _ _⟩
    · obtain rfl : k = n := by omega
      have HF := hide (show FarK xs ys xs.length m by rw [HL.out]; exact HK.out)
      clear h h'
      go_wp2
      go_ret2
      exact ⟨farEnds (.inl ⟨rfl, HF.out⟩), Below.refl _ _⟩

end Go.Proofs.Ythokolfgagkmiaa
