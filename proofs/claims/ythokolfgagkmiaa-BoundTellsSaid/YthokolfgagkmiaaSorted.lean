/-
  WALKS: slices.IsSorted at ints.
-/
import Derived.Test.YthokolfgagkmiaaSl
import Derived.Test.YthokolfgagkmiaaProg
import Derived.IntWalk
namespace Go.Proofs.Ythokolfgagkmiaa
open Go.RowKit
set_option linter.unusedSimpArgs false
set_option linter.unusedVariables false

set_option maxHeartbeats 1000000 in
theorem isNaN_any (a : Int) (w : World) : Calls Try.prog 103 #[.int .i64 a] w fun e w' => e = .returned (.bool false) ∧ w = w' := by
  go_enter Try.func103, Try.ntmps103
  go_wp2
  go_ret
  exact ⟨by simp, rfl⟩

set_option maxHeartbeats 1000000 in
theorem cless_any (a b : Int) (w : World) : Calls Try.prog 101 #[.int .i64 a, .int .i64 b] w fun e w' => e = .returned (.bool (decide (a < b))) ∧ w = w' := by
  go_enter Try.func101, Try.ntmps101
  go_wp2_with (go_at_call 103; refine (isNaN_any _ _).mono ?_; rintro e w1 ⟨rfl, rfl⟩)
  go_ret
  exact ⟨rfl, rfl⟩

def Rises (xs : List Int) : Prop := ∀ (k : Nat) (x y : Int), xs[k]? = some x → xs[k + 1]? = some y → x ≤ y
theorem cless_t (a b : Int) (w : World) (h : a < b) : Calls Try.prog 101 #[.int .i64 a, .int .i64 b] w fun e w' => e = .returned (.bool true) ∧ w = w' :=
  (cless_any a b w).mono fun _ _ ⟨x, y⟩ => ⟨by rw [x]; exact retB (by simpa using h), y⟩
theorem cless_f (a b : Int) (w : World) (h : b ≤ a) : Calls Try.prog 101 #[.int .i64 a, .int .i64 b] w fun e w' => e = .returned (.bool false) ∧ w = w' :=
  (cless_any a b w).mono fun _ _ ⟨x, y⟩ => ⟨by rw [x]; exact retB (by simp; omega), y⟩

set_option maxHeartbeats 2000000 in
theorem sorted_any (a : Option Addr) (n c : Nat) (xs : List Int) (w : World) (h : IntsAt w a n c xs) :
    Calls Try.prog 93 #[.slice a n c] w fun e w' => (∃ r : Bool, (r = true ↔ Rises xs) ∧ e = .returned (.bool r)) ∧ Below w.heap.size w w' := by
  have HL := hide h.len
  have hlim := h.lim
  rcases Nat.eq_zero_or_pos n with h0 | h0
  · subst h0
    have HF := hide (show Rises xs from fun k x y h1 _ => by have := (List.getElem?_eq_some_iff.1 h1).1; rw [HL.out] at this; omega)
    go_enter Try.func93, Try.ntmps93
    go_wp2
    refine wp_loop_rounds 1 ?_
    rw [rounds_succ]
    go_wp2
    go_ret
    exact ⟨⟨true, by simp [HF.out], rfl⟩, Below.refl _ _⟩
  · obtain ⟨m, rfl⟩ : ∃ m, n = m + 1 := ⟨n - 1, by omega⟩
    go_enter Try.func93, Try.ntmps93
    go_wp2
    go_loopw [3] (fun i wr => ∃ k : Nat, k ≤ m ∧ i = .int .i64 k ∧ (∀ (j : Nat) (x y : Int), k ≤ j → xs[j]? = some x → xs[j + 1]? = some y → x ≤ y) ∧ Below w.heap.size w wr) (fun i _ => (intOf i).toNat)
    case atStart => exact ⟨m, Nat.le_refl _, by go_num, fun j x y hj _ h2 => by have := (List.getElem?_eq_some_iff.1 h2).1; rw [HL.out] at this; omega, Below.refl _ _⟩
    case round =>
      obtain ⟨k, hk, rfl, hall, hB⟩ := hrel
      have HA := hide hall
      clear hall
      rcases Nat.eq_zero_or_pos k with hk0 | hk0
      · subst hk0
        have HF := hide (show Rises xs from fun j x y h1 h2 => HA.out j x y (Nat.zero_le _) h1 h2)
        clear h
        go_wp2
        go_ret
        exact ⟨⟨true, by simp [HF.out], rfl⟩, hB⟩
      · obtain ⟨j, rfl⟩ : ∃ j, k = j + 1 := ⟨k - 1, by omega⟩
        obtain ⟨ad, y, rfl, hbd, hc, HY⟩ := h.getS hB (show j + 1 < m + 1 by omega)
        obtain ⟨ad2, x, he2, hbd', hc', HX⟩ := h.getB hB (show j < m + 1 by omega)
        injection he2 with he2
        subst he2
        have j0 : (0 : Int) ≤ (j : Int) := Int.natCast_nonneg _
        have j1 : (j : Int) + 1 < (m : Int) + 1 := by omega
        have j2 : (j : Int) < (m : Int) + 1 := by omega
        clear h
        by_cases hxy : x ≤ y
        · go_wp2
          have hw1 : IntKind.i64.wrap ((j : Int) + 1 - 1) = (j : Int) := by rw [show (j : Int) + 1 - 1 = j by omega]; exact IntWalk.i64_in _ (by omega)
          have hw2 : IntKind.i64.wrap (j : Int) = (j : Int) := IntWalk.i64_in _ (by omega)
          have hw3 : ((j : Int) + 1).toNat = j + 1 := by omega
          go_quiet ((go_at_call 101; exact quietL (cless_f _ _ _ hxy)))
          clear hw1 hw2 hw3
          go_wp2
          go_roundw
          case rel => exact ⟨j, by omega, by go_num, fun i u v hi h1 h2 => by
            rcases (show j + 1 ≤ i ∨ i = j by omega) with h3 | rfl
            · exact HA.out i u v h3 h1 h2
            · have e1 := HX.out; have e2 := HY.out; rw [h1] at e1; rw [h2] at e2; injection e1 with e1; injection e2 with e2; omega, below_drewN hB _⟩
          case measure => first | (simp [intOf]; done) | (simp [intOf]; omega)
        · have hxy' : y < x := by omega
          have HF := hide (show ¬ Rises xs from fun hr => hxy (hr j x y HX.out HY.out))
          clear hxy
          go_wp2
          have hw1 : IntKind.i64.wrap ((j : Int) + 1 - 1) = (j : Int) := by rw [show (j : Int) + 1 - 1 = j by omega]; exact IntWalk.i64_in _ (by omega)
          have hw2 : IntKind.i64.wrap (j : Int) = (j : Int) := IntWalk.i64_in _ (by omega)
          have hw3 : ((j : Int) + 1).toNat = j + 1 := by omega
          go_quiet ((go_at_call 101; exact quietL (cless_t _ _ _ hxy')))
          clear hw1 hw2 hw3
          go_wp2
          go_ret
          exact ⟨⟨false, by simp [HF.out], rfl⟩, below_drewN hB _⟩

end Go.Proofs.Ythokolfgagkmiaa
