/-
  LEMMAS on slices and rows of ints; slices.Min.
-/
import Derived.Test.YthjicnddfjpnjaaClkPlain
import Derived.Test.YthjicnddfjpnjaaMin
import Derived.Test.YthjicnddfjpnjaaR3
import Derived.Test.YthjicnddfjpnjaaProg
namespace Go.Proofs.Ythjicnddfjpnjaa
open Go.RowKit
set_option linter.unusedSimpArgs false
set_option linter.unusedVariables false

attribute [local go_sem] iteMin iteMax iteMinN iteMaxN

theorem add_addC (a : Addr) (i j : Nat) : (a.add i).add j = a.add (i + j) := by
  unfold Addr.add; (repeat' split) <;> simp_all <;> omega
theorem IntsAt.dropC {w : World} {a : Addr} {n c : Nat} {xs : List Int} (h : IntsAt w (some a) n c xs) (k : Nat) (hk : k ≤ n) : IntsAt w (some (a.add k)) (n - k) (c - k) (xs.drop k) :=
  ⟨by rw [List.length_drop, h.len], by have := h.cap; omega, by have := h.lim; omega, fun h0 => by
    obtain ⟨ad, e, hlt, hc⟩ := h.2.2.2 (by omega)
    injection e with e
    subst e
    refine ⟨_, rfl, by rw [block_add]; exact hlt, fun j x hx => ?_⟩
    rw [List.getElem?_drop] at hx
    rw [add_addC]; exact hc _ _ hx⟩
theorem IntsAt.takeC {w : World} {a : Option Addr} {n c : Nat} {xs : List Int} (h : IntsAt w a n c xs) {k : Nat} (hk : k ≤ n) : IntsAt w a k c (xs.take k) :=
  ⟨by rw [List.length_take, h.len]; omega, by have := h.cap; omega, by have := h.lim; omega, fun h0 => by
    obtain ⟨ad, e, hlt, hc⟩ := h.2.2.2 (by omega)
    refine ⟨ad, e, hlt, fun j x hx => hc j x ?_⟩
    rw [List.getElem?_take] at hx
    split at hx
    · exact hx
    · cases hx⟩
theorem own1_below {w w' : World} {B n : Nat} {e : TypeId} {v : Value} {xs : List Value} (h : w.ownsRow B e 1 v n xs) (hb : Below w.heap.size w w') : w'.ownsRow B e 1 v n xs :=
  h.kept (row := none) ⟨hb.os, hb.tape, hb.output, hb.size, fun j hj _ => hb.block j hj⟩ (by cases hv : v.ownBlock <;> simp)
theorem own1_drewN {w : World} {B n : Nat} {e : TypeId} {v : Value} {xs : List Value} (h : w.ownsRow B e 1 v n xs) (m : Nat) : (w.drewN m).ownsRow B e 1 v n xs := h
/-- a store into the row itself -/
theorem own1_set {w : World} {B n : Nat} {e : TypeId} {g cap : Nat} {xs : List Value} (h : w.ownsRow B e 1 (.slice (some ⟨g, 0, none⟩) n cap) n xs) {j : Nat} (hj : j < n) (u : Value) : (w.setCell ⟨g, j, none⟩ u).ownsRow B e 1 (.slice (some ⟨g, 0, none⟩) n cap) n (xs.set j u) := by
  obtain ⟨hl, h⟩ := h
  rcases h with ⟨h, _⟩ | ⟨g', cap', cur, he, hg, hh, hn, hm, hs, hx⟩
  · cases h
  · injection he with e1 e2 e3
    injection e1 with e1
    injection e1 with e1
    subst e1; subst e3
    refine ⟨by simpa using hl, .inr ⟨g, cap, cur.setIfInBounds j u, rfl, hg, ?_, hn, hm, by simpa using hs, ?_⟩⟩
    · exact heap_setCell_same w g j cur e u hh
    · rw [← hx]
      simp only [Array.toList_setIfInBounds]
      rw [List.take_set]
/-- a store into another row -/
theorem own1_far {w : World} {B n : Nat} {e : TypeId} {v : Value} {xs : List Value} (h : w.ownsRow B e 1 v n xs) {p : Addr} (hp : some p.block ≠ v.ownBlock) (x : Value) : (w.setCell p x).ownsRow B e 1 v n xs := by
  obtain ⟨hl, h⟩ := h
  rcases h with ⟨rfl, rfl⟩ | ⟨g, cap, cur, rfl, hg, hh, hn, hm, hs, hx⟩
  · exact ⟨hl, .inl ⟨rfl, rfl⟩⟩
  · refine ⟨hl, .inr ⟨g, cap, cur, rfl, hg, ?_, hn, hm, hs, hx⟩⟩
    have hne : g ≠ p.block := fun e => hp (by rw [← e]; rfl)
    rw [Below.heap_setCell _ _ _ _ hne]; exact hh

set_option maxHeartbeats 2000000 in
theorem smin_any (a : Option Addr) (n c : Nat) (xs : List Int) (w : World) (h : IntsAt w a n c xs) (h0 : 0 < n) :
    Calls Try.prog 51 #[.slice a n c] w fun e w' => e = .returned (.int .i64 (minL xs)) ∧ w = w' := by
  have HL := hide h.len
  have hlim := h.lim
  obtain ⟨ad0, x0, rfl, hb0, hc0, HX0⟩ := h.get0 (Below.refl _ _) h0
  have n0 : (0 : Int) < (n : Int) := by omega
  have n1 : ¬ ((n : Int) < 1) := by omega
  have HS := hide (show x0 = lo (fun j => xs.getD j 0) 0 0 from (getD_of HX0.out).symm)
  go_enter Try.func51, Try.ntmps51
  go_wp2
  clear hc0 HX0
  go_loop [3, 4] (fun m i => ∃ k : Nat, 1 ≤ k ∧ k ≤ n ∧ i = .int .i64 k ∧ m = .int .i64 (lo (fun j => xs.getD j 0) 0 (k - 1))) (fun _ i => n - (intOf i).toNat)
  case atStart => exact ⟨1, Nat.le_refl _, h0, rfl, by rw [HS.out]⟩
  case round =>
    obtain ⟨k, hk1, hk, rfl, rfl⟩ := hrel
    have k0 : (0 : Int) ≤ (k : Int) := Int.natCast_nonneg _
    by_cases hlt : k < n
    · obtain ⟨ad, x, e, hbd, hc, HX⟩ := h.getB (Below.refl _ _) hlt
      injection e with e
      subst e
      have k1 : (k : Int) < (n : Int) := by omega
      have HE := hide (show min (lo (fun j => xs.getD j 0) 0 (k - 1)) x = lo (fun j => xs.getD j 0) 0 (k + 1 - 1) by
        obtain ⟨q, rfl⟩ : ∃ q, k = q + 1 := ⟨k - 1, by omega⟩
        have e2 := getD_of HX.out
        simp only [Nat.add_sub_cancel, lo]
        rw [show 0 + q + 1 = q + 1 by omega, e2])
      obtain ⟨M, hM⟩ : ∃ M, lo (fun j => xs.getD j 0) 0 (k - 1) = M := ⟨_, rfl⟩
      rw [hM] at HE ⊢
      clear h hM HX
      go_wp2
      go_round
      case rel => exact ⟨k + 1, by omega, by omega, by go_num, by rw [HE.out]⟩
      case measure => simp [intOf]; omega
    · have HF := hide (show minL xs = lo (fun j => xs.getD j 0) 0 (k - 1) by unfold minL; rw [HL.out, show k = n by omega])
      obtain ⟨M, hM⟩ : ∃ M, lo (fun j => xs.getD j 0) 0 (k - 1) = M := ⟨_, rfl⟩
      rw [hM] at HF ⊢
      clear h hM
      go_wp2
      go_ret
      exact ⟨by rw [HF.out]; rfl, rfl⟩

end Go.Proofs.Ythjicnddfjpnjaa
