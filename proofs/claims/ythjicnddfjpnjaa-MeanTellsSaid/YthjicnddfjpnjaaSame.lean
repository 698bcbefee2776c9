/-
  WALKS: the reference's SameInts.
-/
import Derived.Test.YthjicnddfjpnjaaSl
import Derived.Test.YthjicnddfjpnjaaProg
namespace Go.Proofs.Ythjicnddfjpnjaa
open Go.RowKit
set_option linter.unusedSimpArgs false
set_option linter.unusedVariables false

set_option maxHeartbeats 2000000 in
theorem same_any (a a' : Option Addr) (n c c' : Nat) (xs ys : List Int) (w : World) (h : IntsAt w a n c xs) (h' : IntsAt w a' n c' ys) :
    Calls Try.prog 62 #[.slice a n c, .slice a' n c'] w fun e w' => e = .returned (.bool (decide (xs = ys))) ∧ Below w.heap.size w w' := by
  have hn := h.lim
  have HL := hide h.len
  have HL' := hide h'.len
  have hne : ((n : Int) != (n : Int)) = false := by simp
  go_enter Try.func62, Try.ntmps62
  go_wp2
  go_loopw [13] (fun i wr => ∃ k : Nat, k ≤ n ∧ i = .int .i64 k ∧ Hid (∀ j, j < k → xs[j]? = ys[j]?) ∧ Below w.heap.size w wr) (fun i _ => n - (intOf i).toNat)
  case atStart => exact ⟨0, Nat.zero_le _, rfl, hide fun j hj => absurd hj (by omega), Below.refl _ _⟩
  case round =>
    obtain ⟨k, hk, rfl, HS, hB⟩ := hrel
    have k0 : (0 : Int) ≤ (k : Int) := Int.natCast_nonneg _
    by_cases hlt : k < n
    · have k1 : (k : Int) < (n : Int) := by omega
      obtain ⟨ad, x, rfl, _, hc, HX⟩ := h.getB hB hlt
      obtain ⟨ad', y, rfl, _, hc', HY⟩ := h'.getB hB hlt
      clear h h'
      by_cases hxy : x = y
      · subst hxy
        go_wp2
        go_quiet (fail)
        go_wp2
        go_roundw
        case rel => exact ⟨k + 1, by omega, by go_num, hide fun j hj => by
          rcases (show j < k ∨ j = k by omega) with h1 | rfl
          · exact HS.out j h1
          · rw [HX.out, HY.out], below_drewN hB _⟩
        case measure => (simp [intOf] <;> omega)
      · have hb : (x != y) = true := by simp [hxy]
        have HF := hide (show xs ≠ ys from fun e => by
          have := HX.out; rw [e, HY.out] at this; injection this with this; exact hxy this.symm)
        clear hxy
        go_wp2
        go_quiet (fail)
        go_wp2
        go_ret
        exact ⟨retBI (by simp [HF.out]), below_drewN hB _⟩
    · have HF := hide (show xs = ys from List.ext_getElem? fun j => by
        rcases Nat.lt_or_ge j k with h1 | h1
        · exact HS.out j h1
        · rw [List.getElem?_eq_none (by rw [HL.out]; omega), List.getElem?_eq_none (by rw [HL'.out]; omega)])
      clear h h'
      go_wp2
      go_ret
      exact ⟨retBI (by simp [HF.out]), hB⟩

end Go.Proofs.Ythjicnddfjpnjaa
