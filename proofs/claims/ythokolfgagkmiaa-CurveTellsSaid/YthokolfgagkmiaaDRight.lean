/-
  WALKS: the reference's DRight.
-/
import Derived.Test.YthokolfgagkmiaaRight
namespace Go.Proofs.Ythokolfgagkmiaa
open Go.RowKit
set_option linter.unusedSimpArgs false
set_option linter.unusedVariables false

def IsB (P : Prop) (e : Ending) : Prop := ∃ r : Bool, (r = true ↔ P) ∧ e = .returned (.bool r)
theorem IsB.t {P : Prop} (h : P) : IsB P (.returned (.bool true)) := ⟨true, by simp [h], rfl⟩
theorem IsB.f {P : Prop} (h : ¬ P) : IsB P (.returned (.bool false)) := ⟨false, by simp [h], rfl⟩
set_option maxHeartbeats 4000000 in
theorem dright_any (a : Option Addr) (n c : Nat) (xs : List Int) (w : World) (h : IntsAt w a n c xs) :
    Calls Try.prog 57 #[.slice a n c] w fun e w' => IsB (RightP xs) e ∧ Below w.heap.size w w' := by
  have HL := hide h.len
  have hlim := h.lim
  go_enter Try.func57, Try.ntmps57
  go_wp2
  go_loop [7] (fun i => ∃ k : Nat, k ≤ n ∧ i = .int .i64 k ∧ ∀ (j : Nat) (x : Int), j < k → xs[j]? = some x → 0 ≤ x ∧ x ≤ 1152921504606846976 ∧ (j = 0 → x = 0) ∧ (∀ i y, j = i + 1 → xs[i]? = some y → y ≤ x)) (fun i => n - (intOf i).toNat)
  case atStart => exact ⟨0, Nat.zero_le _, rfl, fun j x hj => absurd hj (by omega)⟩
  case round =>
    obtain ⟨k, hk, rfl, hall⟩ := hrel
    have HA := hide hall
    clear hall
    by_cases hlt : k < n
    · have k0 : (0 : Int) ≤ (k : Int) := Int.natCast_nonneg _
      have k1 : (k : Int) < (n : Int) := by omega
      rcases Nat.eq_zero_or_pos k with hz | hz
      · subst hz
        obtain ⟨ad, x, rfl, hbd, hc, HX⟩ := h.get0 (Below.refl _ _) hlt
        clear h
        rcases (show x < 0 ∨ 1152921504606846976 < x ∨ (0 < x ∧ x ≤ 1152921504606846976) ∨ x = 0 by omega) with hx | hx | ⟨hx, hx'⟩ | hx
        · have HF := hide (show ¬ RightP xs from fun hr => by have := right_ok hr 0 x HX.out; omega)
          go_wp2
          go_ret
          exact ⟨IsB.f HF.out, Below.refl _ _⟩
        · have HF := hide (show ¬ RightP xs from fun hr => by have := right_ok hr 0 x HX.out; omega)
          go_wp2
          go_ret
          exact ⟨IsB.f HF.out, Below.refl _ _⟩
        · have HF := hide (show ¬ RightP xs from fun hr => by have := (right_ok hr 0 x HX.out).2.2.1 rfl; omega)
          go_wp2
          go_ret
          exact ⟨IsB.f HF.out, Below.refl _ _⟩
        · subst hx
          go_wp2
          go_round
          case rel => exact ⟨1, by omega, rfl, fun j z hj hz => by
            obtain rfl : j = 0 := by omega
            rw [HX.out] at hz; injection hz with hz; subst hz
            exact ⟨by omega, by omega, fun _ => rfl, fun i y hi => by omega⟩⟩
          case measure => simp [intOf]; omega
      · obtain ⟨j, rfl⟩ : ∃ j, k = j + 1 := ⟨k - 1, by omega⟩
        obtain ⟨ad, x, rfl, hbd, hc, HX⟩ := h.getS (Below.refl _ _) hlt
        obtain ⟨ad2, y, he2, hbd', hc', HY⟩ := h.getB (Below.refl _ _) (show j < n by omega)
        injection he2 with he2
        subst he2
        have j0 : (0 : Int) ≤ (j : Int) := Int.natCast_nonneg _
        clear h hz
        rcases (show x < 0 ∨ 1152921504606846976 < x ∨ (0 ≤ x ∧ x ≤ 1152921504606846976 ∧ x < y) ∨ (0 ≤ x ∧ x ≤ 1152921504606846976 ∧ y ≤ x) by omega) with hx | hx | ⟨hx, hx', hy⟩ | ⟨hx, hx', hy⟩
        · have HF := hide (show ¬ RightP xs from fun hr => by have := right_ok hr _ x HX.out; omega)
          go_wp2
          go_ret
          exact ⟨IsB.f HF.out, Below.refl _ _⟩
        · have HF := hide (show ¬ RightP xs from fun hr => by have := right_ok hr _ x HX.out; omega)
          go_wp2
          go_ret
          exact ⟨IsB.f HF.out, Below.refl _ _⟩
        · have HF := hide (show ¬ RightP xs from fun hr => by have := (right_ok hr _ x HX.out).2.2.2 j y rfl HY.out; omega)
          go_wp2
          go_ret
          exact ⟨IsB.f HF.out, Below.refl _ _⟩
        · go_wp2
          go_round
          case rel => exact ⟨j + 1 + 1, by omega, by go_num, fun i z hi hz => by
            rcases (show i < j + 1 ∨ i = j + 1 by omega) with h3 | rfl
            · exact HA.out i z h3 hz
            · rw [HX.out] at hz; injection hz with hz; subst hz
              exact ⟨hx, hx', fun h0 => by omega, fun i' y' hi' hy' => by
                obtain rfl : i' = j := by omega
                rw [HY.out] at hy'; injection hy' with hy'; omega⟩⟩
          case measure => simp [intOf]; omega
    · rcases Nat.eq_zero_or_pos n with h0 | h0
      · subst h0
        have HF := hide (show ¬ RightP xs from fun hr => by have := (List.getElem?_eq_some_iff.1 hr.1).1; rw [HL.out] at this; omega)
        clear h
        go_wp2
        go_ret
        exact ⟨IsB.f HF.out, Below.refl _ _⟩
      · have HF := hide (ok_right (xs := xs) (by rw [HL.out]; omega) (fun j x hx => HA.out j x (by have := (List.getElem?_eq_some_iff.1 hx).1; rw [HL.out] at this; omega) hx))
        have n0 : (0 : Int) < (n : Int) := by omega
        clear h
        go_wp2
        go_ret
        exact ⟨IsB.t HF.out, Below.refl _ _⟩

end Go.Proofs.Ythokolfgagkmiaa
