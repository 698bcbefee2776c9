/-
  WALKS: share.Right and NRight; filled.
-/
import Derived.Test.YthjicnddfjpnjaaShPlain
import Derived.Test.YthjicnddfjpnjaaMin
import Derived.Test.YthjicnddfjpnjaaSl
import Derived.Test.YthjicnddfjpnjaaProg
namespace Go.Proofs.Ythjicnddfjpnjaa
open Go.RowKit
set_option linter.unusedSimpArgs false
set_option linter.unusedVariables false

attribute [local go_sem] iteMin iteMax iteMinN iteMaxN

def SmS (xs : List Int) : Prop := ∀ x ∈ xs, 0 ≤ x ∧ x ≤ 1048576
theorem smS_at {xs : List Int} (h : SmS xs) {k : Nat} {x : Int} (hx : xs[k]? = some x) : 0 ≤ x ∧ x ≤ 1048576 := h x (List.mem_of_getElem? hx)
theorem smS_of {xs : List Int} (h : ∀ (k : Nat) (x : Int), xs[k]? = some x → 0 ≤ x ∧ x ≤ 1048576) : SmS xs := fun x hx => by
  obtain ⟨k, hk⟩ := List.mem_iff_getElem?.1 hx
  exact h k x hk
def RightS (xs : List Int) : Prop := xs.length ≤ 300 ∧ SmS xs
theorem right_f {xs : List Int} (h : SmS xs) : ∀ j, j < xs.length → 0 ≤ (fun j => xs.getD j 0) j ∧ (fun j => xs.getD j 0) j ≤ 1048576 := fun j hj => by
  have : xs[j]? = some xs[j] := List.getElem?_eq_getElem hj
  have h1 := smS_at h this
  show 0 ≤ xs.getD j 0 ∧ xs.getD j 0 ≤ 1048576
  rw [getD_of this]; exact h1
def BadS (x : Int) : Prop := x < 0 ∨ 1048576 < x
def IdxS (P : Prop) (e : Ending) : Prop := (P ∧ ∃ r : Int, 0 ≤ r ∧ r ≤ 17592186044416 ∧ e = .returned (.int .i64 r)) ∨ (¬ P ∧ e = .returned (.int .i64 (-1)))

set_option maxHeartbeats 1000000 in
theorem sBad (x : Int) (w : World) : Calls Try.prog 34 #[.int .i64 x] w fun e w' => IsB (BadS x) e ∧ w = w' := by
  rcases (show x < 0 ∨ 1048576 < x ∨ (0 ≤ x ∧ x ≤ 1048576) by omega) with h | h | ⟨h, h'⟩
  · have HF := hide (show BadS x from .inl h)
    go_enter Try.func34, Try.ntmps34
    go_wp2
    go_ret
    exact ⟨IsB.t HF.out, rfl⟩
  · have HF := hide (show BadS x from .inr h)
    go_enter Try.func34, Try.ntmps34
    go_wp2
    go_ret
    exact ⟨IsB.t HF.out, rfl⟩
  · have HF := hide (show ¬ BadS x by unfold BadS; omega)
    go_enter Try.func34, Try.ntmps34
    go_wp2
    go_ret
    exact ⟨IsB.d (by have := HF.out; unfold BadS at *; first | (simp; done) | (simp; omega)), rfl⟩

set_option maxHeartbeats 2000000 in
theorem sIdx (a : Option Addr) (n c : Nat) (xs : List Int) (w : World) (h : IntsAt w a n c xs) :
    Calls Try.prog 53 #[.slice a n c, .func (.func 34) #[] #[]] w fun e w' => IdxS (¬ SmS xs) e ∧ w = w' := by
  have HL := hide h.len
  have hlim := h.lim
  go_enter Try.func53, Try.ntmps53
  go_wp2
  go_loop [8] (fun i => ∃ k : Nat, k ≤ n ∧ i = .int .i64 k ∧ ∀ (j : Nat) (x : Int), j < k → xs[j]? = some x → 0 ≤ x ∧ x ≤ 1048576) (fun i => n - (intOf i).toNat)
  case atStart => exact ⟨0, Nat.zero_le _, rfl, fun j x hj => absurd hj (by omega)⟩
  case round =>
    obtain ⟨k, hk, rfl, hall⟩ := hrel
    have HA := hide hall
    clear hall
    by_cases hlt : k < n
    · obtain ⟨ad, x, rfl, hbd, hc, HX⟩ := h.getB (Below.refl _ _) hlt
      have k0 : (0 : Int) ≤ (k : Int) := Int.natCast_nonneg _
      have k1 : (k : Int) < (n : Int) := by omega
      clear h
      by_cases hx : BadS x
      · have HN := hide (show ¬ SmS xs from fun hs => by have := smS_at hs HX.out; unfold BadS at hx; omega)
        have HB := hide hx
        clear hx
        go_wp2_with (go_at_call 34; refine (callT (sBad _ _) HB.out).mono ?_; rintro e w1 ⟨rfl, rfl⟩)
        go_ret
        exact ⟨.inl ⟨HN.out, (k : Int), k0, by omega, rfl⟩, rfl⟩
      · have HB := hide hx
        have hx' : 0 ≤ x ∧ x ≤ 1048576 := by unfold BadS at hx; omega
        have HX' := hide hx'
        clear hx hx'
        go_wp2_with (go_at_call 34; refine (callF (sBad _ _) HB.out).mono ?_; rintro e w1 ⟨rfl, rfl⟩)
        go_round
        case rel => exact ⟨k + 1, by omega, by go_num, fun j z hj hz => by
          rcases (show j < k ∨ j = k by omega) with h3 | rfl
          · exact HA.out j z h3 hz
          · rw [HX.out] at hz; injection hz with hz; subst hz; exact HX'.out⟩
        case measure => simp [intOf]; omega
    · have HN := hide (show ¬ ¬ SmS xs from fun hn => hn (smS_of fun j x hx => HA.out j x (by have := (List.getElem?_eq_some_iff.1 hx).1; rw [HL.out] at this; omega) hx))
      clear h
      go_wp2
      go_ret
      exact ⟨.inr ⟨HN.out, rfl⟩, rfl⟩

set_option maxHeartbeats 1000000 in
theorem sHas (a : Option Addr) (n c : Nat) (xs : List Int) (w : World) (h : IntsAt w a n c xs) :
    Calls Try.prog 33 #[.slice a n c, .func (.func 34) #[] #[]] w fun e w' => IsB (¬ SmS xs) e ∧ w = w' := by
  have HI := hide (sIdx a n c xs w h)
  clear h
  go_enter Try.func33, Try.ntmps33
  go_wp2_with fail
  refine HI.out.mono ?_
  rintro e w1 ⟨⟨hn, r, r0, r1, rfl⟩ | ⟨hn, rfl⟩, rfl⟩
  · have HN := hide hn
    clear hn
    go_wp2
    go_ret
    exact ⟨IsB.t HN.out, rfl⟩
  · have HN := hide hn
    clear hn
    go_wp2
    go_ret
    exact ⟨IsB.f HN.out, rfl⟩

set_option maxHeartbeats 1000000 in
theorem sRight_any (a : Option Addr) (n c : Nat) (xs : List Int) (w : World) (h : IntsAt w a n c xs) :
    Calls Try.prog 15 #[.slice a n c] w fun e w' => IsB (RightS xs) e ∧ w = w' := by
  have HI := hide (sHas a n c xs w h)
  have hl := h.len
  have hlim := h.lim
  clear h
  by_cases h3 : n ≤ 300
  · have h3' : (n : Int) ≤ 300 := by omega
    by_cases hs : SmS xs
    · have HS := hide (show RightS xs from ⟨by omega, hs⟩)
      have HN := hide (show ¬ ¬ SmS xs from fun h => h hs)
      clear hs hl h3
      go_enter Try.func15, Try.ntmps15
      go_wp2_with (go_at_call 33; refine (callF HI.out HN.out).mono ?_; rintro e w1 ⟨rfl, rfl⟩)
      go_ret
      exact ⟨IsB.t HS.out, rfl⟩
    · have HS := hide (show ¬ RightS xs from fun h => hs h.2)
      have HN := hide hs
      clear hs hl h3
      go_enter Try.func15, Try.ntmps15
      go_wp2_with (go_at_call 33; refine (callT HI.out HN.out).mono ?_; rintro e w1 ⟨rfl, rfl⟩)
      go_ret
      exact ⟨IsB.f HS.out, rfl⟩
  · have h3' : ¬ (n : Int) ≤ 300 := by omega
    have HS := hide (show ¬ RightS xs from fun h => by have := h.1; omega)
    clear hl h3 HI
    go_enter Try.func15, Try.ntmps15
    go_wp2
    go_ret
    exact ⟨IsB.f HS.out, rfl⟩

set_option maxHeartbeats 2000000 in
theorem nRight_any (a : Option Addr) (n c : Nat) (xs : List Int) (w : World) (h : IntsAt w a n c xs) :
    Calls Try.prog 16 #[.slice a n c] w fun e w' => IsB (RightS xs) e ∧ w = w' := by
  have HL := hide h.len
  have hlim := h.lim
  go_enter Try.func16, Try.ntmps16
  go_wp2
  go_loop [3, 11] (fun p i => ∃ k : Nat, ∃ b : Bool, k ≤ n ∧ i = .int .i64 k ∧ p = .bool b ∧ Hid (b = true ↔ (n ≤ 300 ∧ ∀ (j : Nat) (x : Int), j < k → xs[j]? = some x → 0 ≤ x ∧ x ≤ 1048576))) (fun _ i => n - (intOf i).toNat)
  case atStart => exact ⟨0, decide ((n : Int) ≤ 300), Nat.zero_le _, rfl, rfl, by
    show _ ↔ _
    simp only [decide_eq_true_eq]
    exact ⟨fun h => ⟨by omega, fun j x hj => absurd hj (by omega)⟩, fun h => by have := h.1; omega⟩⟩
  case round =>
    obtain ⟨k, b, hk, rfl, rfl, HA⟩ := hrel
    have k0 : (0 : Int) ≤ (k : Int) := Int.natCast_nonneg _
    by_cases hlt : k < n
    · obtain ⟨ad, x, rfl, hbd, hc, HX⟩ := h.getB (Below.refl _ _) hlt
      have k1 : (k : Int) < (n : Int) := by omega
      clear h
      have key : ∀ b' : Bool, (b' = true ↔ (b = true ∧ 0 ≤ x ∧ x ≤ 1048576)) → Hid (b' = true ↔ (n ≤ 300 ∧ ∀ (j : Nat) (z : Int), j < k + 1 → xs[j]? = some z → 0 ≤ z ∧ z ≤ 1048576)) := fun b' hb' => by
        refine hb'.trans ⟨fun h1 => ?_, fun h1 => ?_⟩
        · obtain ⟨h2, h3⟩ := HA.out.1 h1.1
          refine ⟨h2, fun j z hj hz => ?_⟩
          rcases (show j < k ∨ j = k by omega) with h4 | rfl
          · exact h3 j z h4 hz
          · rw [HX.out] at hz; injection hz with hz; subst hz; exact h1.2
        · exact ⟨HA.out.2 ⟨h1.1, fun j z hj hz => h1.2 j z (by omega) hz⟩, h1.2 k x (by omega) HX.out⟩
      have HK := hide key
      clear key
      cases b
      · go_wp2
        go_round
        case rel => exact ⟨k + 1, false, by omega, by go_num, rfl, HK.out _ (by simp)⟩
        case measure => simp [intOf]; omega
      · rcases (show x < 0 ∨ (0 ≤ x ∧ 1048576 < x) ∨ (0 ≤ x ∧ x ≤ 1048576) by omega) with q | ⟨q0, q⟩ | ⟨q0, q⟩
        · have q' : ¬ 0 ≤ x := by omega
          go_wp2
          go_round
          case rel => exact ⟨k + 1, false, by omega, by go_num, rfl, HK.out _ (by simp; omega)⟩
          case measure => simp [intOf]; omega
        · have q' : ¬ x ≤ 1048576 := by omega
          go_wp2
          go_round
          case rel => exact ⟨k + 1, false, by omega, by go_num, rfl, HK.out _ (by simp; omega)⟩
          case measure => simp [intOf]; omega
        · go_wp2
          go_round
          case rel => exact ⟨k + 1, true, by omega, by go_num, rfl, HK.out _ (by simp; omega)⟩
          case measure => simp [intOf]; omega
    · have HF := hide (show b = true ↔ RightS xs from HA.out.trans ⟨fun h1 => ⟨by rw [HL.out]; exact h1.1, smS_of fun j x hx => h1.2 j x (by have := (List.getElem?_eq_some_iff.1 hx).1; rw [HL.out] at this; omega) hx⟩, fun h1 => ⟨by rw [← HL.out]; exact h1.1, fun j x _ hx => smS_at h1.2 hx⟩⟩)
      clear h
      go_wp2
      go_ret
      exact ⟨IsB.d HF.out, rfl⟩

set_option maxHeartbeats 2000000 in
theorem filled_any (a : Option Addr) (n c : Nat) (xs : List Int) (L : Int) (w : World) (h : IntsAt w a n c xs) (hr : RightS xs) (hL0 : 0 ≤ L) (hL1 : L ≤ 2097152) :
    Calls Try.prog 36 #[.slice a n c, .int .i64 L] w fun e w' => e = .returned (.int .i64 (fl (fun j => xs.getD j 0) L n)) ∧ w = w' := by
  have hlim := h.lim
  have hl := h.len
  have hn3 : n ≤ 300 := by rw [← hl]; exact hr.1
  obtain ⟨f, hf⟩ : ∃ f : Nat → Int, f = fun j => xs.getD j 0 := ⟨_, rfl⟩
  have HFF := hide hf
  have HR := hide (show ∀ j, j < n → 0 ≤ f j ∧ f j ≤ 1048576 by rw [hf, ← hl]; exact right_f hr.2)
  rw [← hf]
  clear hf hr
  go_enter Try.func36, Try.ntmps36
  go_wp2
  go_loop [5, 10] (fun s i => ∃ k : Nat, k ≤ n ∧ i = .int .i64 k ∧ s = .int .i64 (fl f L k)) (fun _ i => n - (intOf i).toNat)
  case atStart => exact ⟨0, Nat.zero_le _, rfl, rfl⟩
  case round =>
    obtain ⟨k, hk, rfl, rfl⟩ := hrel
    have k0 : (0 : Int) ≤ (k : Int) := Int.natCast_nonneg _
    have b0 := fl_ge (f := f) hL0 k (fun j hj => (HR.out j (by omega)).1)
    have b1 := fl_le (f := f) (L := L) (c := 1048576) (by omega) k (fun j hj => (HR.out j (by omega)).2)
    by_cases hlt : k < n
    · obtain ⟨ad, x, rfl, hbd, hc, HX⟩ := h.getB (Below.refl _ _) hlt
      have k1 : (k : Int) < (n : Int) := by omega
      have e : f k = x := by rw [HFF.out]; exact getD_of HX.out
      obtain ⟨x0, x1⟩ := HR.out k hlt
      rw [e] at x0 x1
      have HE := hide (show fl f L k + min x L = fl f L (k + 1) by simp only [fl]; rw [e])
      obtain ⟨M, hM⟩ : ∃ M, fl f L k = M := ⟨_, rfl⟩
      rw [hM] at HE b0 b1 ⊢
      have hw : IntKind.i64.wrap (M + min x L) = M + min x L := by rw [IntKind.wrap_i64]; omega
      clear h hM HX e
      go_wp2
      go_round
      case rel => exact ⟨k + 1, by omega, by go_num, by rw [HE.out]⟩
      case measure => simp [intOf]; omega
    · obtain rfl : k = n := by omega
      obtain ⟨M, hM⟩ : ∃ M, fl f L k = M := ⟨_, rfl⟩
      rw [hM]
      have HM := hide hM
      clear h hM b0 b1
      go_wp2
      go_ret
      exact ⟨by rw [HM.out]; rfl, rfl⟩

end Go.Proofs.Ythjicnddfjpnjaa
