/-
  WALKS: the reference's FLine.
-/
import Derived.Test.YthokolfgagkmiaaPLine
import Derived.Test.YthokolfgagkmiaaFRight
import Derived.Test.YthokolfgagkmiaaNum
namespace Go.Proofs.Ythokolfgagkmiaa
open Go.RowKit
set_option linter.unusedSimpArgs false
set_option linter.unusedVariables false

theorem intInfoFL : (Try.prog.info? 3).map (fun i => (i.zero, i.size, i.bytes)) = some (some (.int .i64 0), 1, 8) := by kernel_rfl

set_option maxRecDepth 100000 in
set_option maxHeartbeats 4000000 in
theorem fLine_ok (R B n : Int) (N : Nat) (w : World) (hr : RightB R B []) (hN : Ticks n N) :
    Calls Try.prog 70 #[.agg #[.int .i64 R, .int .i64 B], .int .i64 n] w fun e w' => ∃ b m d, e = .returned (.slice b m d) ∧ IntsAt w' b m d (lineB R B N) ∧ Below w.heap.size w w' := by
  obtain ⟨i0, hi0, hz0, hz1, hz2⟩ := info_parts intInfoFL
  have HR := hide hr
  have HQ := hide (lineB_len R B N)
  have HNl := hide hN
  have hN3 := ticks_lim hN
  obtain ⟨hR0, hR1⟩ := hr.1
  obtain ⟨hB0, hB1⟩ := hr.2.1
  clear hr hN
  obtain ⟨w1, hWW⟩ : ∃ w1, w1 = w.alloc (.cells #[.int .i64 R, .int .i64 B] 38) := ⟨_, rfl⟩
  have hBw : Below w.heap.size w w1 := by rw [hWW]; exact (Below.refl _ _).alloc (Nat.le_refl _) _
  have hs1 : w.heap.size + 1 ≤ w1.heap.size := by rw [hWW]; simp
  have b0 : w1.cell? ⟨w.heap.size, 0, none⟩ = some (.int .i64 R) := by rw [hWW]; simp [go_sem]
  have b1 : w1.cell? ⟨w.heap.size, 1, none⟩ = some (.int .i64 B) := by rw [hWW]; simp [go_sem]
  go_enter Try.func70, Try.ntmps70
  go_wp2
  rw [← hWW]
  clear hWW
  go_loopw [5, 6] (fun v i wr => ∃ k : Nat, k ≤ N ∧ i = .int .i64 k ∧ wr.ownsRow w1.heap.size 3 1 v k (((lineB R B N).take k).map (Value.int .i64)) ∧ Below w1.heap.size w1 wr) (fun _ i _ => N - (intOf i).toNat)
  case atStart => exact ⟨0, Nat.zero_le _, rfl, own_start _ _ _ _, Below.refl _ _⟩
  case round =>
   obtain ⟨k, hk, rfl, hown, hB⟩ := hrel
   have k0 : (0 : Int) ≤ (k : Int) := Int.natCast_nonneg _
   have hBs := hB.size
   by_cases hlt : k < N
   · have k1 : (k : Int) < n := by have := HNl.out; unfold Ticks at this; omega
     have k2 : (k : Int) < 300 := by omega
     have c0 : wr.cell? ⟨w.heap.size, 0, none⟩ = some (.int .i64 R) := (hB.cell (by show w.heap.size < w1.heap.size; omega)).trans b0
     have c1 : wr.cell? ⟨w.heap.size, 1, none⟩ = some (.int .i64 B) := (hB.cell (by show w.heap.size < w1.heap.size; omega)).trans b1
     rcases (show k = 0 ∨ ∃ j, k = j + 1 from by cases k with | zero => exact .inl rfl | succ j => exact .inr ⟨j, rfl⟩) with h0 | ⟨j, h0⟩
     · subst h0
       have HN := hide (show (0 : Int) = (lineB R B N).getD 0 0 from lineB_get hlt)
       go_wp2_with (first | (go_at_call 68; refine (callT (fRight_any R B none 0 0 [] _ (IntsAt.nil_ _) (fun _ => ⟨rfl, rfl⟩) (by omega)) HR.out).mono ?_; rintro e w2 ⟨rfl, B2⟩; have c0 : w2.cell? ⟨w.heap.size, 0, none⟩ = some (.int .i64 R) := (B2.cell (by show w.heap.size < wr.heap.size; omega)).trans c0; have c1 : w2.cell? ⟨w.heap.size, 1, none⟩ = some (.int .i64 B) := (B2.cell (by show w.heap.size < wr.heap.size; omega)).trans c1; have hown := own_below hown B2; have hB2 := hB.trans (B2.mono hBs); have hBs2 := hB2.size) | (at_builtin; refine wpList_append_own _ rfl _ _ 30 rfl w1.heap.size 3 i0 (.int .i64 0) 1 8 Try.underlying30 hi0 hz0 hz1 hz2 rfl (by decide) _ _ _ rfl (hown.alloc _) ⟨w2.heap.size, 0, none⟩ 1 1 [.int .i64 (0)] rfl rfl (cell_one_new _ _ _) (by simp [Value.oneCell']) (by unfold maxLen; omega) (by omega) (by simp; omega) ?_; intro v' w3 hown1 hgrow _))
       go_wp2
       go_roundw
       case rel => exact ⟨1, by omega, by go_num, own_next (by rw [HQ.out]; omega) HN.out hown1, (hB2.alloc hBs2 _).grown hgrow (by simp; omega) (own_row hown)⟩
       case measure => simp [intOf]; omega
     · subst h0
       obtain ⟨m1, m2⟩ := mul_bounds0 ⟨hR0, hR1⟩ ⟨hB0, hB1⟩ j
       have HN := hide (show B + j * minB R B = (lineB R B N).getD (j + 1) 0 from lineB_get (k := j + 1) hlt)
       have j0 : (0 : Int) ≤ (j : Int) := Int.natCast_nonneg _
       have j1 : (0 : Int) < (j : Int) + 1 := by omega
       have j2 : (j : Int) + 1 < n := by omega
       have j3 : (j : Int) + 1 < 300 := by omega
       rcases (show R ≤ B ∨ B < R by omega) with q0 | q0
       · rw [minB_l q0] at m1 m2
         have HN := hide (by have := HN.out; rw [minB_l q0] at this; exact this : B + j * R = (lineB R B N).getD (j + 1) 0)
         go_wp2_with (first | (go_at_call 68; refine (callT (fRight_any R B none 0 0 [] _ (IntsAt.nil_ _) (fun _ => ⟨rfl, rfl⟩) (by omega)) HR.out).mono ?_; rintro e w2 ⟨rfl, B2⟩; have c0 : w2.cell? ⟨w.heap.size, 0, none⟩ = some (.int .i64 R) := (B2.cell (by show w.heap.size < wr.heap.size; omega)).trans c0; have c1 : w2.cell? ⟨w.heap.size, 1, none⟩ = some (.int .i64 B) := (B2.cell (by show w.heap.size < wr.heap.size; omega)).trans c1; have hown := own_below hown B2; have hB2 := hB.trans (B2.mono hBs); have hBs2 := hB2.size) | (at_builtin; refine wpList_append_own _ rfl _ _ 30 rfl w1.heap.size 3 i0 (.int .i64 0) 1 8 Try.underlying30 hi0 hz0 hz1 hz2 rfl (by decide) _ _ _ rfl (hown.alloc _) ⟨w2.heap.size, 0, none⟩ 1 1 [.int .i64 (B + j * R)] rfl rfl (cell_one_new _ _ _) (by simp [Value.oneCell']) (by unfold maxLen; omega) (by omega) (by simp; omega) ?_; intro v' w3 hown1 hgrow _))
         go_wp2
         go_roundw
         case rel => exact ⟨j + 1 + 1, by omega, by go_num, own_next (by rw [HQ.out]; omega) HN.out hown1, (hB2.alloc hBs2 _).grown hgrow (by simp; omega) (own_row hown)⟩
         case measure => simp [intOf]; omega
       · rw [minB_r q0] at m1 m2
         have HN := hide (by have := HN.out; rw [minB_r q0] at this; exact this : B + j * B = (lineB R B N).getD (j + 1) 0)
         go_wp2_with (first | (go_at_call 68; refine (callT (fRight_any R B none 0 0 [] _ (IntsAt.nil_ _) (fun _ => ⟨rfl, rfl⟩) (by omega)) HR.out).mono ?_; rintro e w2 ⟨rfl, B2⟩; have c0 : w2.cell? ⟨w.heap.size, 0, none⟩ = some (.int .i64 R) := (B2.cell (by show w.heap.size < wr.heap.size; omega)).trans c0; have c1 : w2.cell? ⟨w.heap.size, 1, none⟩ = some (.int .i64 B) := (B2.cell (by show w.heap.size < wr.heap.size; omega)).trans c1; have hown := own_below hown B2; have hB2 := hB.trans (B2.mono hBs); have hBs2 := hB2.size) | (at_builtin; refine wpList_append_own _ rfl _ _ 30 rfl w1.heap.size 3 i0 (.int .i64 0) 1 8 Try.underlying30 hi0 hz0 hz1 hz2 rfl (by decide) _ _ _ rfl (hown.alloc _) ⟨w2.heap.size, 0, none⟩ 1 1 [.int .i64 (B + j * B)] rfl rfl (cell_one_new _ _ _) (by simp [Value.oneCell']) (by unfold maxLen; omega) (by omega) (by simp; omega) ?_; intro v' w3 hown1 hgrow _))
         go_wp2
         go_roundw
         case rel => exact ⟨j + 1 + 1, by omega, by go_num, own_next (by rw [HQ.out]; omega) HN.out hown1, (hB2.alloc hBs2 _).grown hgrow (by simp; omega) (own_row hown)⟩
         case measure => simp [intOf]; omega
   · obtain rfl : k = N := by omega
     have hex := HNl.out
     obtain ⟨b, d, hv, hI⟩ := IntsAt.of_own (own_all HQ.out.symm hown) (by rw [HQ.out]; omega)
     subst hv
     rcases (show n ≤ (k : Int) ∨ ((k : Int) < n ∧ (300 : Int) ≤ (k : Int)) by unfold Ticks at hex; omega) with h3 | ⟨h3, h4⟩
     · have h5 : decide ((k : Int) < n) = false := by simp; omega
       clear hown hex
       go_wp2
       go_ret
       exact ⟨b, _, d, rfl, hI, hBw.trans (hB.mono (by omega))⟩
     · have h5 : decide ((k : Int) < 300) = false := by simp; omega
       clear hown hex
       go_wp2
       go_ret
       exact ⟨b, _, d, rfl, hI, hBw.trans (hB.mono (by omega))⟩

end Go.Proofs.Ythokolfgagkmiaa
