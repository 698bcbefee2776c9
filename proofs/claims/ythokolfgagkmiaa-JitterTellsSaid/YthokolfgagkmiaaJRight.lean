/-
  WALKS: jitter.Right.
-/
import Derived.Test.YthokolfgagkmiaaSl
import Derived.Test.YthokolfgagkmiaaSorted
namespace Go.Proofs.Ythokolfgagkmiaa
open Go.RowKit
set_option linter.unusedSimpArgs false
set_option linter.unusedVariables false

def Small (xs : List Int) : Prop := ∀ x ∈ xs, 0 ≤ x ∧ x ≤ 1099511627776
theorem small_at {xs : List Int} (h : Small xs) {k : Nat} {x : Int} (hx : xs[k]? = some x) : 0 ≤ x ∧ x ≤ 1099511627776 := h x (List.mem_of_getElem? hx)
theorem small_of {xs : List Int} (h : ∀ (k : Nat) (x : Int), xs[k]? = some x → 0 ≤ x ∧ x ≤ 1099511627776) : Small xs := fun x hx => by
  obtain ⟨k, hk⟩ := List.mem_iff_getElem?.1 hx
  exact h k x hk
def IdxP (P : Prop) (e : Ending) : Prop := (P ∧ ∃ r : Int, 0 ≤ r ∧ r ≤ 17592186044416 ∧ e = .returned (.int .i64 r)) ∨ (¬ P ∧ e = .returned (.int .i64 (-1)))

set_option maxHeartbeats 1000000 in
theorem jBad (x : Int) (w : World) : Calls Try.prog 96 #[.int .i64 x] w fun e w' => IsB (x < 0 ∨ 1099511627776 < x) e ∧ w = w' := by
  rcases (show x < 0 ∨ 1099511627776 < x ∨ (0 ≤ x ∧ x ≤ 1099511627776) by omega) with h | h | ⟨h, h'⟩
  · have HF := hide (show x < 0 ∨ 1099511627776 < x from .inl h)
    go_enter Try.func96, Try.ntmps96
    go_wp2
    go_ret
    exact ⟨IsB.t HF.out, rfl⟩
  · have HF := hide (show x < 0 ∨ 1099511627776 < x from .inr h)
    go_enter Try.func96, Try.ntmps96
    go_wp2
    go_ret
    exact ⟨IsB.t HF.out, rfl⟩
  · have HF := hide (show ¬ (x < 0 ∨ 1099511627776 < x) by omega)
    go_enter Try.func96, Try.ntmps96
    go_wp2
    go_ret
    exact ⟨IsB.d (by first | (simp; done) | (simp; omega)), rfl⟩

set_option maxHeartbeats 2000000 in
theorem jIdx (a : Option Addr) (n c : Nat) (xs : List Int) (w : World) (h : IntsAt w a n c xs) :
    Calls Try.prog 102 #[.slice a n c, .func (.func 96) #[] #[]] w fun e w' => IdxP (¬ Small xs) e ∧ w = w' := by
  have HL := hide h.len
  have hlim := h.lim
  go_enter Try.func102, Try.ntmps102
  go_wp2
  go_loop [8] (fun i => ∃ k : Nat, k ≤ n ∧ i = .int .i64 k ∧ ∀ (j : Nat) (x : Int), j < k → xs[j]? = some x → 0 ≤ x ∧ x ≤ 1099511627776) (fun i => n - (intOf i).toNat)
  case atStart => exact ⟨0, Nat.zero_le _, rfl, fun j x hj => absurd hj (by omega)⟩
  case round =>
    obtain ⟨k, hk, rfl, hall⟩ := hrel
    have HA := hide hall
    clear hall
    by_cases hlt : k < n
    · obtain ⟨ad, x, rfl, hbd, hc, HX⟩ := h.getB (Below.refl _ _) hlt
      have k0 : (0 : Int) ≤ (k : Int) := Int.natCast_nonneg _
      have k1 : (k : Int) < (n : Int) := by omega
      clear h
      by_cases hx : x < 0 ∨ 1099511627776 < x
      · have HN := hide (show ¬ Small xs from fun hs => by have := small_at hs HX.out; omega)
        have HB := hide hx
        clear hx
        go_wp2_with (go_at_call 96; refine (callT (jBad _ _) HB.out).mono ?_; rintro e w1 ⟨rfl, rfl⟩)
        go_ret
        exact ⟨.inl ⟨HN.out, (k : Int), k0, by omega, rfl⟩, rfl⟩
      · have HB := hide hx
        have hx' : 0 ≤ x ∧ x ≤ 1099511627776 := by omega
        have HX' := hide hx'
        clear hx hx'
        go_wp2_with (go_at_call 96; refine (callF (jBad _ _) HB.out).mono ?_; rintro e w1 ⟨rfl, rfl⟩)
        go_round
        case rel => exact ⟨k + 1, by omega, by go_num, fun j z hj hz => by
          rcases (show j < k ∨ j = k by omega) with h3 | rfl
          · exact HA.out j z h3 hz
          · rw [HX.out] at hz; injection hz with hz; subst hz; exact HX'.out⟩
        case measure => simp [intOf]; omega
    · have HN := hide (show ¬ ¬ Small xs from fun hn => hn (small_of fun j x hx => HA.out j x (by have := (List.getElem?_eq_some_iff.1 hx).1; rw [HL.out] at this; omega) hx))
      clear h
      go_wp2
      go_ret
      exact ⟨.inr ⟨HN.out, rfl⟩, rfl⟩

set_option maxHeartbeats 1000000 in
theorem jHas (a : Option Addr) (n c : Nat) (xs : List Int) (w : World) (h : IntsAt w a n c xs) :
    Calls Try.prog 95 #[.slice a n c, .func (.func 96) #[] #[]] w fun e w' => IsB (¬ Small xs) e ∧ w = w' := by
  have HI := hide (jIdx a n c xs w h)
  clear h
  go_enter Try.func95, Try.ntmps95
  go_wp2_with fail
  refine HI.out.mono ?_
  rintro e w1 ⟨⟨hn, r, r0, r1, rfl⟩ | ⟨hn, rfl⟩, rfl⟩
  · have HN := hide hn
    clear hn
    go_wp2
    go_ret
    exact ⟨IsB.t HN.out, rfl⟩
  · have HN := hide hn
    clear hn
    go_wp2
    go_ret
    exact ⟨IsB.f HN.out, rfl⟩

set_option maxHeartbeats 1000000 in
theorem jSmall (a : Option Addr) (n c : Nat) (xs : List Int) (w : World) (h : IntsAt w a n c xs) :
    Calls Try.prog 94 #[.slice a n c] w fun e w' => IsB (Small xs) e ∧ w = w' := by
  have HI := hide (jHas a n c xs w h)
  clear h
  by_cases hs : Small xs
  · have HS := hide hs
    have HN := hide (show ¬ ¬ Small xs from fun h => h hs)
    clear hs
    go_enter Try.func94, Try.ntmps94
    go_wp2_with (go_at_call 95; refine (callF HI.out HN.out).mono ?_; rintro e w1 ⟨rfl, rfl⟩)
    go_ret
    exact ⟨IsB.t HS.out, rfl⟩
  · have HS := hide hs
    clear hs
    go_enter Try.func94, Try.ntmps94
    go_wp2_with (go_at_call 95; refine (callT HI.out HS.out).mono ?_; rintro e w1 ⟨rfl, rfl⟩)
    go_ret
    exact ⟨IsB.f HS.out, rfl⟩

def RightJ (ts ls : List Int) : Prop := ts.length = ls.length ∧ Small ts ∧ Small ls ∧ Rises ts
theorem sortedB (a : Option Addr) (n c : Nat) (xs : List Int) (w : World) (h : IntsAt w a n c xs) : Calls Try.prog 93 #[.slice a n c] w fun e w' => IsB (Rises xs) e ∧ Below w.heap.size w w' :=
  (sorted_any a n c xs w h).mono fun _ _ ⟨h1, h2⟩ => ⟨h1, h2⟩

set_option maxHeartbeats 2000000 in
theorem jRight_any (a a' : Option Addr) (n n' c c' : Nat) (xs ys : List Int) (w : World) (h : IntsAt w a n c xs) (h' : IntsAt w a' n' c' ys) :
    Calls Try.prog 62 #[.slice a n c, .slice a' n' c'] w fun e w' => IsB (RightJ xs ys) e ∧ Below w.heap.size w w' := by
  have h1 := jSmall a n c xs w h
  have h2 := jSmall a' n' c' ys w h'
  have h3 := sortedB a n c xs w h
  have hl := h.len
  have hl' := h'.len
  have hlim := h.lim
  have hlim' := h'.lim
  clear h h'
  by_cases hn : n = n'
  · subst hn
    have H1 := hide h1
    have H2 := hide h2
    have H3 := hide h3
    clear h1 h2 h3
    by_cases g1 : Small xs
    · by_cases g2 : Small ys
      · by_cases g3 : Rises xs
        · have HF := hide (show RightJ xs ys from ⟨by rw [hl, hl'], g1, g2, g3⟩)
          have G1 := hide g1
          have G2 := hide g2
          have G3 := hide g3
          clear g1 g2 g3 hl hl'
          go_enter Try.func62, Try.ntmps62
          go_wp2_with fail
          refine (callT H1.out G1.out).mono ?_
          rintro e w1 ⟨rfl, rfl⟩
          go_wp2_with fail
          refine (callT H2.out G2.out).mono ?_
          rintro e w1 ⟨rfl, rfl⟩
          go_wp2_with fail
          refine (callT H3.out G3.out).mono ?_
          rintro e w1 ⟨rfl, hB⟩
          go_wp2
          go_ret
          exact ⟨IsB.t HF.out, hB⟩
        · have HF := hide (show ¬ RightJ xs ys from fun hr => g3 hr.2.2.2)
          have G1 := hide g1
          have G2 := hide g2
          have G3 := hide g3
          clear g1 g2 g3 hl hl'
          go_enter Try.func62, Try.ntmps62
          go_wp2_with fail
          refine (callT H1.out G1.out).mono ?_
          rintro e w1 ⟨rfl, rfl⟩
          go_wp2_with fail
          refine (callT H2.out G2.out).mono ?_
          rintro e w1 ⟨rfl, rfl⟩
          go_wp2_with fail
          refine (callF H3.out G3.out).mono ?_
          rintro e w1 ⟨rfl, hB⟩
          go_wp2
          go_ret
          exact ⟨IsB.f HF.out, hB⟩
      · have HF := hide (show ¬ RightJ xs ys from fun hr => g2 hr.2.2.1)
        have G1 := hide g1
        have G2 := hide g2
        clear g1 g2 hl hl'
        go_enter Try.func62, Try.ntmps62
        go_wp2_with fail
        refine (callT H1.out G1.out).mono ?_
        rintro e w1 ⟨rfl, rfl⟩
        go_wp2_with fail
        refine (callF H2.out G2.out).mono ?_
        rintro e w1 ⟨rfl, rfl⟩
        go_wp2
        go_ret
        exact ⟨IsB.f HF.out, Below.refl _ _⟩
    · have HF := hide (show ¬ RightJ xs ys from fun hr => g1 hr.2.1)
      have G1 := hide g1
      clear g1 hl hl'
      go_enter Try.func62, Try.ntmps62
      go_wp2_with fail
      refine (callF H1.out G1.out).mono ?_
      rintro e w1 ⟨rfl, rfl⟩
      go_wp2
      go_ret
      exact ⟨IsB.f HF.out, Below.refl _ _⟩
  · have HF := hide (show ¬ RightJ xs ys from fun hr => hn (by rw [← hl, ← hl', hr.1]))
    have hb : ((n : Int) == (n' : Int)) = false := by simp; omega
    clear hn hl hl' h1 h2 h3
    go_enter Try.func62, Try.ntmps62
    go_wp2
    go_ret
    exact ⟨IsB.f HF.out, Below.refl _ _⟩

end Go.Proofs.Ythokolfgagkmiaa
