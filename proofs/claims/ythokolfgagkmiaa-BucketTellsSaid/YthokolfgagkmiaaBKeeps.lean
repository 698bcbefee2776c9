/-
  WALKS: bucket.Keeps.
-/
import Derived.Test.YthokolfgagkmiaaBLine
import Derived.Test.YthokolfgagkmiaaOf
import Derived.Test.YthokolfgagkmiaaPKeeps
namespace Go.Proofs.Ythokolfgagkmiaa
open Go.RowKit
set_option linter.unusedSimpArgs false
set_option linter.unusedVariables false

set_option maxRecDepth 100000 in
set_option maxHeartbeats 4000000 in
theorem bKeeps_ok (R B : Int) (a : Option Addr) (n c : Nat) (xs : List Int) (w : World) (h : IntsAt w a n c xs) (hr : RightB R B xs) :
    Calls Try.prog 71 #[.agg #[.int .i64 R, .int .i64 B], .slice a n c] w fun e w' => IsB (KeepsB R B xs) e ∧ Below w.heap.size w w' := by
  have HR := hide hr
  have HL := hide h.len
  have hn : n < 300 := by rw [← HL.out]; exact hr.2.2.1
  have hlim : n + 1 ≤ 17592186044416 := by omega
  have HS := hide (show RightB R B [] from ⟨hr.1, hr.2.1, by simp, by intro x hx; cases hx⟩)
  have HQ1 := hide (show (ofI xs).length = n + 1 by rw [of_len, h.len])
  have HQ2 := hide (lineB_len R B (n + 1))
  obtain ⟨W, hWW⟩ : ∃ W, W = w.alloc (.cells #[.int .i64 R, .int .i64 B] 38) := ⟨_, rfl⟩
  have hWB : Below w.heap.size w W := by rw [hWW]; exact (Below.refl _ _).alloc (Nat.le_refl _) _
  have hWs : W.heap.size = w.heap.size + 1 := by rw [hWW]; simp
  have e0 : W.cell? ⟨w.heap.size, 0, none⟩ = some (.int .i64 R) := by rw [hWW]; simp [go_sem]
  have e1 : W.cell? ⟨w.heap.size, 1, none⟩ = some (.int .i64 B) := by rw [hWW]; simp [go_sem]
  have hI0 := h.below hWB
  have hT : Ticks ((n : Int) + 1) (n + 1) := .inr (.inl ⟨by omega, by omega, by omega⟩)
  clear hr h
  go_enter Try.func71, Try.ntmps71
  go_wp2_with fail
  rw [← hWW]
  clear hWW
  refine (callT (bRight_any _ _ _ _ _ _ _ hI0) HR.out).mono ?_
  rintro e w1 ⟨rfl, B1⟩
  have b0 : w1.cell? ⟨w.heap.size, 0, none⟩ = some (.int .i64 R) := (B1.cell (by show w.heap.size < _; omega)).trans e0
  have b1 : w1.cell? ⟨w.heap.size, 1, none⟩ = some (.int .i64 B) := (B1.cell (by show w.heap.size < _; omega)).trans e1
  have hs1 : w.heap.size + 1 ≤ w1.heap.size := by have := B1.size; omega
  have hI := hI0.below B1
  have hBw : Below w.heap.size w w1 := hWB.trans (B1.mono (by omega))
  clear hI0 B1 hWB hWs e0 e1
  have HC : Hid (∀ w', Below w1.heap.size w1 w' → w'.cell? ⟨w.heap.size, 0, none⟩ = some (.int .i64 R) ∧ w'.cell? ⟨w.heap.size, 1, none⟩ = some (.int .i64 B)) := hide fun w' hb => ⟨(hb.cell (by show w.heap.size < _; omega)).trans b0, (hb.cell (by show w.heap.size < _; omega)).trans b1⟩
  have hw1 : IntKind.i64.wrap ((n : Int) + 1) = (n : Int) + 1 := IntWalk.i64_in _ (by omega)
  go_wp2
  go_region_held3 (fun w' => w'.cell? ⟨w.heap.size, 0, none⟩ = some (.int .i64 R) ∧ w'.cell? ⟨w.heap.size, 1, none⟩ = some (.int .i64 B)) (((try dsimp only); exact HC.out _ (by (repeat' (first | (with_reducible exact Below.refl _ _) | (with_reducible refine Below.alloc ?_ ?_ _) | (with_reducible refine Below.setCell ?_ ?_ _) | (with_reducible refine Below.drewN ?_ _) | (with_reducible refine Below.drew ?_) | (with_reducible refine Below.trans ?_ (B4.mono ?_)) | (with_reducible refine Below.trans ?_ (B3.mono ?_)) | omega | (simp; done) | (simp; omega))))))
    (first | (go_at_call 54; refine (of_any _ _ _ _ _ (hI.below (by (repeat' (first | (with_reducible exact Below.refl _ _) | (with_reducible refine Below.alloc ?_ ?_ _) | (with_reducible refine Below.setCell ?_ ?_ _) | (with_reducible refine Below.drewN ?_ _) | (with_reducible refine Below.drew ?_) | (with_reducible refine Below.trans ?_ (B4.mono ?_)) | (with_reducible refine Below.trans ?_ (B3.mono ?_)) | omega | (simp; done) | (simp; omega))))) hlim).mono ?_; rintro e w3 ⟨p3, m3, q3, rfl, I3, B3⟩; have S3 := B3.size; (try simp at S3)) | (go_at_call 69; refine (bLine_ok _ _ _ _ _ HS.out hT).mono ?_; rintro e w4 ⟨p4, m4, q4, rfl, I4, B4⟩; have S4 := B4.size; (try simp at S4)))
  obtain rfl : m3 = n + 1 := by rw [← I3.len]; exact HQ1.out
  obtain rfl : m4 = n + 1 := by rw [← I4.len]; exact HQ2.out
  have C3 : Below w1.heap.size w1 w3 := ((Below.refl _ _).drew).trans (B3.mono (by simp))
  have C4 := C3.trans (B4.mono S3)
  have J3 := I3.below B4
  have J4 := I4
  have HSM := HR.out.2.2.2
  have hnn := HL.out
  have HG := hide (fun k x (hk : k ≤ n) (hx : (ofI xs)[k]? = some x) => sums_get (xs := xs) HSM (by rw [hnn]; omega) (by rw [hnn]; exact hk) hx)
  have HSM := hide HSM
  clear hnn HC hw1 I3 I4 hI B3 B4 C3
  go_wp2
  go_loopw [24] (fun i wr => ∃ k : Nat, k ≤ n + 1 ∧ i = .int .i64 k ∧ (∀ k' i, k' < k → i < k' → psB xs k' - psB xs i ≤ lnB R B (k' - i)) ∧ Below w4.heap.size w4 wr) (fun i _ => n + 1 - (intOf i).toNat)
  case atStart => exact ⟨0, Nat.zero_le _, rfl, fun k' i h => absurd h (by omega), Below.refl _ _⟩
  case round =>
    obtain ⟨k, hk, rfl, hall, hB⟩ := hrel
    have HA := hide hall
    clear hall
    by_cases hlt : k < n + 1
    · obtain ⟨ad, x, rfl, hbd, hc, HX⟩ := J3.getB hB hlt
      have hx := HG.out k x (by omega) HX.out
      obtain ⟨x0, x1⟩ := ps_bounds HSM.out k
      rw [← hx] at x0 x1
      have k0 : (0 : Int) ≤ (k : Int) := Int.natCast_nonneg _
      have k1 : (k : Int) < (n : Int) + 1 := by omega
      have J5 := J3.take (k := k) (by omega)
      have hcp := J3.cap
      have hcq : k ≤ q3 := by omega
      have hcz : (k : Int) ≤ (q3 : Int) := by omega
      have HX := hide hx
      clear hx J3
      go_wp2
      go_loopw [33] (fun i ws => ∃ j : Nat, j ≤ k ∧ i = .int .i64 j ∧ (∀ i, i < j → psB xs k - psB xs i ≤ lnB R B (k - i)) ∧ Below w4.heap.size w4 ws) (fun i _ => k - (intOf i).toNat)
      case atStart => exact ⟨0, Nat.zero_le _, rfl, fun i h => absurd h (by omega), hB⟩
      case round =>
        obtain ⟨j, hj, rfl, hin, hB'⟩ := hrel
        have HI := hide hin
        clear hin
        by_cases hjl : j < k
        · obtain ⟨ad5, y, he5, hbd5, hc5, HY⟩ := J5.getB hB' hjl
          obtain rfl : ad5 = ad := by injection he5 with he5; exact he5.symm
          obtain ⟨q, hq⟩ : ∃ q, q = k - j := ⟨_, rfl⟩
          obtain ⟨ad6, z, rfl, hbd6, hc6, HZ⟩ := J4.getB (k := q) hB' (by omega)
          have hy : y = psB xs j := HG.out j y (by omega) (by have := HY.out; rw [List.getElem?_take, if_pos hjl] at this; exact this)
          have hz := line_get (R := R) (B := B) (N := n + 1) (by omega) HZ.out
          obtain ⟨y0, y1⟩ := ps_bounds HSM.out j
          rw [← hy] at y0 y1
          have j0 : (0 : Int) ≤ (j : Int) := Int.natCast_nonneg _
          have j1 : (j : Int) < (k : Int) := by omega
          have hqz : (k : Int) - (j : Int) = (q : Int) := by omega
          have q0 : (0 : Int) ≤ (q : Int) := Int.natCast_nonneg _
          have q1 : (q : Int) < (n : Int) + 1 := by omega
          have HZ := hide hz
          have HY := hide hy
          have HQ := hide hq
          clear hy hz hq J5 J4
          by_cases ht : x - y ≤ z
          · go_wp2
            go_roundw
            case rel => exact ⟨j + 1, by omega, by go_num, fun i hi => by
              rcases (show i < j ∨ i = j by omega) with h1 | rfl
              · exact HI.out i h1
              · rw [← HX.out, ← HY.out, ← HQ.out, ← HZ.out]; exact ht, hB'⟩
            case measure => simp [intOf]; omega
          · have ht' : z < x - y := by omega
            have HF := hide (show ¬ KeepsB R B xs from fun hk' => by
              have := hk' j k hjl (by rw [HL.out]; omega)
              rw [← HX.out, ← HY.out, ← HQ.out, ← HZ.out] at this; omega)
            clear ht
            go_wp2
            go_ret
            exact ⟨IsB.f HF.out, hBw.trans ((C4.trans (hB'.mono C4.size)).mono (by omega))⟩
        · obtain rfl : j = k := by omega
          clear J5
          go_wp2
          go_roundw
          case rel => exact ⟨j + 1, by omega, by go_num, fun k' i hk' hi => by
            rcases (show k' < j ∨ k' = j by omega) with h1 | rfl
            · exact HA.out k' i h1 hi
            · exact HI.out i hi, hB'⟩
          case measure => simp [intOf]; omega
    · obtain rfl : k = n + 1 := by omega
      have HF := hide (show KeepsB R B xs from fun i k' hi hk' => HA.out k' i (by rw [HL.out] at hk'; omega) hi)
      go_wp2
      go_ret
      exact ⟨IsB.t HF.out, hBw.trans ((C4.trans (hB.mono C4.size)).mono (by omega))⟩

set_option maxHeartbeats 1000000 in
theorem bKeeps_bad (R B : Int) (a : Option Addr) (n c : Nat) (xs : List Int) (w : World) (h : IntsAt w a n c xs) (hr : ¬ RightB R B xs) :
    Calls Try.prog 71 #[.agg #[.int .i64 R, .int .i64 B], .slice a n c] w fun e w' => e = .returned (.bool false) ∧ Below w.heap.size w w' := by
  have HR := hide hr
  have hW := h.below ((Below.refl w.heap.size w).alloc (Nat.le_refl _) (.cells #[.int .i64 R, .int .i64 B] 38))
  clear hr h
  go_enter Try.func71, Try.ntmps71
  go_wp2_with fail
  refine (callF (bRight_any _ _ _ _ _ _ _ hW) HR.out).mono ?_
  rintro e w1 ⟨rfl, B1⟩
  go_wp2
  go_ret
  exact ⟨rfl, ((Below.refl _ _).alloc (Nat.le_refl _) _).trans (B1.mono (by simp))⟩

end Go.Proofs.Ythokolfgagkmiaa
