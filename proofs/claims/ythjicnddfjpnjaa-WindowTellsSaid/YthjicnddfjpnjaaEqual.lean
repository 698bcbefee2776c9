/-
  WALKS: slices.Equal at ints.
-/
import Derived.Test.YthjicnddfjpnjaaSl
import Derived.Test.YthjicnddfjpnjaaProg
namespace Go.Proofs.Ythjicnddfjpnjaa
open Go.RowKit
set_option linter.unusedSimpArgs false
set_option linter.unusedVariables false

set_option maxHeartbeats 1000000 in
theorem equal_any (a a' : Option Addr) (n n' c c' : Nat) (xs ys : List Int) (w : World) (h : IntsAt w a n c xs) (h' : IntsAt w a' n' c' ys) :
    Calls Try.prog 9 #[.slice a n c, .slice a' n' c'] w fun e w' => e = .returned (.bool (decide (xs = ys))) ∧ Below w.heap.size w w' := by
  have hl := h.len
  have hl' := h'.len
  have hn := h.lim
  have hn' := h'.lim
  by_cases hne : n = n'
  · subst hne
    have HL := hide hl
    have HL' := hide hl'
    clear hl hl'
    go_enter Try.func9, Try.ntmps9
    go_wp2
    go_loopw [13] (fun i wr => ∃ k : Nat, k ≤ n ∧ i = .int .i64 k ∧ (∀ j, j < k → xs[j]? = ys[j]?) ∧ Below w.heap.size w wr) (fun i _ => n - (intOf i).toNat)
    case atStart => exact ⟨0, Nat.zero_le _, rfl, fun j hj => absurd hj (by omega), Below.refl _ _⟩
    case round =>
      obtain ⟨k, hk, rfl, hsame, hB⟩ := hrel
      have HS := hide hsame
      clear hsame
      by_cases hlt : k < n
      · obtain ⟨ad, x, rfl, _, hc, HX⟩ := (h.below hB).get hlt
        obtain ⟨ad', y, rfl, _, hc', HY⟩ := (h'.below hB).get hlt
        clear h h'
        by_cases hxy : x = y
        · subst hxy
          go_wp2
          go_quiet (fail)
          go_wp2
          go_roundw
          case rel => exact ⟨k + 1, by omega, by go_num, fun j hj => by
            rcases (show j < k ∨ j = k by omega) with h1 | rfl
            · exact HS.out j h1
            · rw [HX.out, HY.out], below_drewN hB _⟩
          case measure => simp [intOf]; omega
        · have hb : (x != y) = true := by simp [hxy]
          have HF := hide (show xs ≠ ys from fun e => by
            have := HX.out; rw [e, HY.out] at this; injection this with this; exact hxy this.symm)
          clear hxy
          go_wp2
          go_quiet (fail)
          go_wp2
          go_ret
          exact ⟨retBI (by simp [HF.out]), below_drewN hB _⟩
      · have HF := hide (show xs = ys from List.ext_getElem? fun j => by
          rcases Nat.lt_or_ge j k with h1 | h1
          · exact HS.out j h1
          · rw [List.getElem?_eq_none (by rw [HL.out]; omega), List.getElem?_eq_none (by rw [HL'.out]; omega)])
        clear h h'
        go_wp2
        go_ret
        exact ⟨retBI (by simp [HF.out]), hB⟩
  · have HF := hide (show xs ≠ ys from fun e => hne (by rw [← hl, ← hl', e]))
    have hb : ((n : Int) != (n' : Int)) = true := by simp; omega
    clear hne hl hl' h h'
    go_enter Try.func9, Try.ntmps9
    go_wp2
    go_ret
    exact ⟨retBI (by simp [HF.out]), Below.refl _ _⟩

end Go.Proofs.Ythjicnddfjpnjaa
