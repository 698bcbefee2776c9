/-
  WALKS: slices.Equal at rounds that are the same.
-/
import Derived.Test.YtmmjopmffpfccaaPairs
import Derived.Test.YtmmjopmffpfccaaEqD
import Derived.Test.YtmmjopmffpfccaaMin
namespace Go.Proofs.Ytmmjopmffpfccaa
open Go.RowKit
set_option linter.unusedSimpArgs false
set_option linter.unusedVariables false

attribute [local go_sem] iteMin iteMax iteMinN iteMaxN

set_option maxRecDepth 100000 in
set_option maxHeartbeats 2000000 in
theorem requal_any (a a' : Option Addr) (n c c' : Nat) (L : List R6) (w : World) (h : RoundsAt w a n c L) (h' : RoundsAt w a' n c' L)
    (hwf : ∀ r ∈ L, (Lit.int .i64 r.x0).wf = true ∧ (Lit.int .i64 r.x1).wf = true ∧ (Lit.int .i64 r.x2).wf = true ∧ (Lit.int .i64 r.x3).wf = true ∧ (Lit.int .i64 r.x4).wf = true ∧ (Lit.int .i64 r.x5).wf = true) :
    Calls Try.prog 16 #[.slice a n c, .slice a' n c'] w fun e w' => e = .returned (.bool true) ∧ Below w.heap.size w w' := by
  have hn := h.lim
  have HW := hide hwf
  clear hwf
  go_enter Try.func16, Try.ntmps16
  go_wp2
  go_loopw [13] (fun i wr => ∃ k : Nat, k ≤ n ∧ i = .int .i64 k ∧ Below w.heap.size w wr) (fun i _ => n - (intOf i).toNat)
  case atStart => exact ⟨0, Nat.zero_le _, rfl, Below.refl _ _⟩
  case round =>
    obtain ⟨k, hk, rfl, hB⟩ := hrel
    have k0 : (0 : Int) ≤ (k : Int) := Int.natCast_nonneg _
    by_cases hlt : k < n
    · have k1 : (k : Int) < (n : Int) := by omega
      obtain ⟨ad, rfl, hb, r, hr, a0, a1, a2, a3, a4, a5⟩ := h.getB hB hlt
      obtain ⟨ad', rfl, hb', r', hr', b0, b1, b2, b3, b4, b5⟩ := h'.getB hB hlt
      obtain rfl : r = r' := by rw [hr] at hr'; injection hr'
      obtain ⟨w0, w1, w2, w3, w4, w5⟩ := HW.out r (List.mem_of_getElem? hr)
      have E := eqRound w0 w1 w2 w3 w4 w5
      clear h h' hr hr' w0 w1 w2 w3 w4 w5 HW
      obtain ⟨x0, x1, x2, x3, x4, x5⟩ := r
      dsimp only at a0 a1 a2 a3 a4 a5 b0 b1 b2 b3 b4 b5 E
      go_wp2
      go_quiet (fail)
      go_wp2
      go_roundw
      case rel => exact ⟨k + 1, by omega, by go_num, below_drewN hB _⟩
      case measure => simp [intOf]; omega
    · clear h h'
      go_wp2
      go_ret
      exact ⟨rfl, hB⟩

end Go.Proofs.Ytmmjopmffpfccaa
