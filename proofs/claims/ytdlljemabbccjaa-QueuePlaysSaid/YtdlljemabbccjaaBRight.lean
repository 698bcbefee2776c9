/-
  WALKS: bucket.Right.
-/
import Derived.Test.YtdlljemabbccjaaSl
import Derived.Test.YtdlljemabbccjaaProg
namespace Go.Proofs.Ytdlljemabbccjaa
open Go.RowKit
set_option linter.unusedSimpArgs false
set_option linter.unusedVariables false

def Small (xs : List Int) : Prop := ∀ x ∈ xs, 0 ≤ x ∧ x ≤ 1099511627776
theorem small_at {xs : List Int} (h : Small xs) {k : Nat} {x : Int} (hx : xs[k]? = some x) : 0 ≤ x ∧ x ≤ 1099511627776 := h x (List.mem_of_getElem? hx)
theorem small_of {xs : List Int} (h : ∀ (k : Nat) (x : Int), xs[k]? = some x → 0 ≤ x ∧ x ≤ 1099511627776) : Small xs := fun x hx => by
  obtain ⟨k, hk⟩ := List.mem_iff_getElem?.1 hx
  exact h k x hk
def IdxP (P : Prop) (e : Ending) : Prop := (P ∧ ∃ r : Int, 0 ≤ r ∧ r ≤ 17592186044416 ∧ e = .returned (.int .i64 r)) ∨ (¬ P ∧ e = .returned (.int .i64 (-1)))

set_option maxHeartbeats 1000000 in
theorem bsmall_any (x : Int) (w : World) : Calls Try.prog 93 #[.int .i64 x] w fun e w' => IsB (0 ≤ x ∧ x ≤ 1099511627776) e ∧ w = w' := by
  rcases (show x < 0 ∨ 0 ≤ x by omega) with h | h
  · have HF := hide (show ¬ (0 ≤ x ∧ x ≤ 1099511627776) by omega)
    have hd : decide (0 ≤ x) = false := by simp; omega
    go_enter Try.func93, Try.ntmps93
    go_wp2
    go_ret
    exact ⟨IsB.f HF.out, rfl⟩
  · go_enter Try.func93, Try.ntmps93
    go_wp2
    go_ret
    exact ⟨IsB.d (by first | (simp; done) | (simp; omega)), rfl⟩

set_option maxHeartbeats 1000000 in
theorem bBad (x : Int) (w : World) : Calls Try.prog 94 #[.int .i64 x] w fun e w' => IsB (x < 0 ∨ 1099511627776 < x) e ∧ w = w' := by
  by_cases h : 0 ≤ x ∧ x ≤ 1099511627776
  · have H := hide h
    have HF := hide (show ¬ (x < 0 ∨ 1099511627776 < x) by omega)
    clear h
    go_enter Try.func94, Try.ntmps94
    go_wp2_with (go_at_call 93; refine (callT (bsmall_any _ _) H.out).mono ?_; rintro e w1 ⟨rfl, rfl⟩)
    go_ret
    exact ⟨IsB.f HF.out, rfl⟩
  · have H := hide h
    have HF := hide (show x < 0 ∨ 1099511627776 < x by omega)
    clear h
    go_enter Try.func94, Try.ntmps94
    go_wp2_with (go_at_call 93; refine (callF (bsmall_any _ _) H.out).mono ?_; rintro e w1 ⟨rfl, rfl⟩)
    go_ret
    exact ⟨IsB.t HF.out, rfl⟩

set_option maxHeartbeats 2000000 in
theorem bIdx (a : Option Addr) (n c : Nat) (xs : List Int) (w : World) (h : IntsAt w a n c xs) :
    Calls Try.prog 92 #[.slice a n c, .func (.func 94) #[] #[]] w fun e w' => IdxP (¬ Small xs) e ∧ w = w' := by
  have HL := hide h.len
  have hlim := h.lim
  go_enter Try.func92, Try.ntmps92
  go_wp2
  go_loop [8] (fun i => ∃ k : Nat, k ≤ n ∧ i = .int .i64 k ∧ ∀ (j : Nat) (x : Int), j < k → xs[j]? = some x → 0 ≤ x ∧ x ≤ 1099511627776) (fun i => n - (intOf i).toNat)
  case atStart => exact ⟨0, Nat.zero_le _, rfl, fun j x hj => absurd hj (by omega)⟩
  case round =>
    obtain ⟨k, hk, rfl, hall⟩ := hrel
    have HA := hide hall
    clear hall
    by_cases hlt : k < n
    · obtain ⟨ad, x, rfl, hbd, hc, HX⟩ := h.getB (Below.refl _ _) hlt
      have k0 : (0 : Int) ≤ (k : Int) := Int.natCast_nonneg _
      have k1 : (k : Int) < (n : Int) := by omega
      clear h
      by_cases hx : x < 0 ∨ 1099511627776 < x
      · have HN := hide (show ¬ Small xs from fun hs => by have := small_at hs HX.out; omega)
        have HB := hide hx
        clear hx
        go_wp2_with (go_at_call 94; refine (callT (bBad _ _) HB.out).mono ?_; rintro e w1 ⟨rfl, rfl⟩)
        go_ret
        exact ⟨.inl ⟨HN.out, (k : Int), k0, by omega, rfl⟩, rfl⟩
      · have HB := hide hx
        have hx' : 0 ≤ x ∧ x ≤ 1099511627776 := by omega
        have HX' := hide hx'
        clear hx hx'
        go_wp2_with (go_at_call 94; refine (callF (bBad _ _) HB.out).mono ?_; rintro e w1 ⟨rfl, rfl⟩)
        go_round
        case rel => exact ⟨k + 1, by omega, by go_num, fun j z hj hz => by
          rcases (show j < k ∨ j = k by omega) with h3 | rfl
          · exact HA.out j z h3 hz
          · rw [HX.out] at hz; injection hz with hz; subst hz; exact HX'.out⟩
        case measure => simp [intOf]; omega
    · have HN := hide (show ¬ ¬ Small xs from fun hn => hn (small_of fun j x hx => HA.out j x (by have := (List.getElem?_eq_some_iff.1 hx).1; rw [HL.out] at this; omega) hx))
      clear h
      go_wp2
      go_ret
      exact ⟨.inr ⟨HN.out, rfl⟩, rfl⟩

set_option maxHeartbeats 1000000 in
theorem bHas (a : Option Addr) (n c : Nat) (xs : List Int) (w : World) (h : IntsAt w a n c xs) :
    Calls Try.prog 63 #[.slice a n c, .func (.func 94) #[] #[]] w fun e w' => IsB (¬ Small xs) e ∧ w = w' := by
  have HI := hide (bIdx a n c xs w h)
  clear h
  go_enter Try.func63, Try.ntmps63
  go_wp2_with fail
  refine HI.out.mono ?_
  rintro e w1 ⟨⟨hn, r, r0, r1, rfl⟩ | ⟨hn, rfl⟩, rfl⟩
  · have HN := hide hn
    clear hn
    go_wp2
    go_ret
    exact ⟨IsB.t HN.out, rfl⟩
  · have HN := hide hn
    clear hn
    go_wp2
    go_ret
    exact ⟨IsB.f HN.out, rfl⟩

def RightB (R B : Int) (xs : List Int) : Prop := (0 ≤ R ∧ R ≤ 1099511627776) ∧ (0 ≤ B ∧ B ≤ 1099511627776) ∧ xs.length < 300 ∧ Small xs
set_option maxRecDepth 100000 in
set_option maxHeartbeats 2000000 in
theorem bRight_any (R B : Int) (a : Option Addr) (n c : Nat) (xs : List Int) (w : World) (h : IntsAt w a n c xs) :
    Calls Try.prog 67 #[.agg #[.int .i64 R, .int .i64 B], .slice a n c] w fun e w' => IsB (RightB R B xs) e ∧ Below w.heap.size w w' := by
  have HL := hide h.len
  have hlim := h.lim
  have H := hide (fun W (hb : Below w.heap.size w W) => bHas a n c xs W (h.below hb))
  clear h
  by_cases g1 : 0 ≤ R ∧ R ≤ 1099511627776
  · by_cases g2 : 0 ≤ B ∧ B ≤ 1099511627776
    · by_cases g3 : n < 300
      · by_cases g4 : Small xs
        · have HF := hide (show RightB R B xs from ⟨g1, g2, by rw [HL.out]; exact g3, g4⟩)
          have G1 := hide g1
          have G2 := hide g2
          have G4 := hide (show ¬ ¬ Small xs from fun h => h g4)
          clear g1 g2 g4
          go_enter Try.func67, Try.ntmps67
          go_wp2_with fail
          refine (callT (bsmall_any _ _) G1.out).mono ?_
          rintro e w1 ⟨rfl, rfl⟩
          go_wp2_with fail
          refine (callT (bsmall_any _ _) G2.out).mono ?_
          rintro e w1 ⟨rfl, rfl⟩
          go_wp2_with fail
          refine (callF (H.out _ ((Below.refl _ _).alloc (Nat.le_refl _) _)) G4.out).mono ?_
          rintro e w1 ⟨rfl, rfl⟩
          go_wp2
          go_ret
          exact ⟨IsB.t HF.out, (Below.refl _ _).alloc (Nat.le_refl _) _⟩
        · have HF := hide (show ¬ RightB R B xs from fun h => g4 h.2.2.2)
          have G1 := hide g1
          have G2 := hide g2
          have G4 := hide g4
          clear g1 g2 g4
          go_enter Try.func67, Try.ntmps67
          go_wp2_with fail
          refine (callT (bsmall_any _ _) G1.out).mono ?_
          rintro e w1 ⟨rfl, rfl⟩
          go_wp2_with fail
          refine (callT (bsmall_any _ _) G2.out).mono ?_
          rintro e w1 ⟨rfl, rfl⟩
          go_wp2_with fail
          refine (callT (H.out _ ((Below.refl _ _).alloc (Nat.le_refl _) _)) G4.out).mono ?_
          rintro e w1 ⟨rfl, rfl⟩
          go_wp2
          go_ret
          exact ⟨IsB.f HF.out, (Below.refl _ _).alloc (Nat.le_refl _) _⟩
      · have HF := hide (show ¬ RightB R B xs from fun h => g3 (by rw [← HL.out]; exact h.2.2.1))
        have G1 := hide g1
        have G2 := hide g2
        have g4 : (300 : Int) ≤ (n : Int) := by omega
        have g5 : decide ((n : Int) < 300) = false := by simp; omega
        clear g1 g2 g3
        go_enter Try.func67, Try.ntmps67
        go_wp2_with fail
        refine (callT (bsmall_any _ _) G1.out).mono ?_
        rintro e w1 ⟨rfl, rfl⟩
        go_wp2_with fail
        refine (callT (bsmall_any _ _) G2.out).mono ?_
        rintro e w1 ⟨rfl, rfl⟩
        go_wp2
        go_ret
        exact ⟨IsB.f HF.out, (Below.refl _ _).alloc (Nat.le_refl _) _⟩
    · have HF := hide (show ¬ RightB R B xs from fun h => g2 h.2.1)
      have G1 := hide g1
      have G2 := hide g2
      clear g1 g2
      go_enter Try.func67, Try.ntmps67
      go_wp2_with fail
      refine (callT (bsmall_any _ _) G1.out).mono ?_
      rintro e w1 ⟨rfl, rfl⟩
      go_wp2_with fail
      refine (callF (bsmall_any _ _) G2.out).mono ?_
      rintro e w1 ⟨rfl, rfl⟩
      go_wp2
      go_ret
      exact ⟨IsB.f HF.out, (Below.refl _ _).alloc (Nat.le_refl _) _⟩
  · have HF := hide (show ¬ RightB R B xs from fun h => g1 h.1)
    have G1 := hide g1
    clear g1
    go_enter Try.func67, Try.ntmps67
    go_wp2_with fail
    refine (callF (bsmall_any _ _) G1.out).mono ?_
    rintro e w1 ⟨rfl, rfl⟩
    go_wp2
    go_ret
    exact ⟨IsB.f HF.out, (Below.refl _ _).alloc (Nat.le_refl _) _⟩

end Go.Proofs.Ytdlljemabbccjaa
