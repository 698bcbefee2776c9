/-
  WALKS: bucket.Pass.
-/
import Derived.Test.YthokolfgagkmiaaPBucket
import Derived.Test.YthokolfgagkmiaaNum
namespace Go.Proofs.Ythokolfgagkmiaa
open Go.RowKit
set_option linter.unusedSimpArgs false
set_option linter.unusedVariables false

theorem intInfoB : (Try.prog.info? 3).map (fun i => (i.zero, i.size, i.bytes)) = some (some (.int .i64 0), 1, 8) := by kernel_rfl

set_option maxRecDepth 100000 in
set_option maxHeartbeats 4000000 in
theorem bPass_ok (R B : Int) (a : Option Addr) (n c : Nat) (xs : List Int) (w : World) (h : IntsAt w a n c xs) (hr : RightB R B xs) :
    Calls Try.prog 42 #[.agg #[.int .i64 R, .int .i64 B], .slice a n c] w fun e w' => ∃ b m d, e = .returned (.slice b m d) ∧ IntsAt w' b m d (passB R B xs) ∧ Below w.heap.size w w' := by
  obtain ⟨i0, hi0, hz0, hz1, hz2⟩ := info_parts intInfoB
  have HR := hide hr
  have HL := hide h.len
  have HQ := hide (show (passB R B xs).length = n by rw [passB_len, h.len])
  have hn : n < 300 := by rw [← HL.out]; exact hr.2.2.1
  obtain ⟨hR0, hR1⟩ := hr.1
  obtain ⟨hB0, hB1⟩ := hr.2.1
  have hW := h.below ((Below.refl w.heap.size w).alloc (Nat.le_refl _) (.cells #[.int .i64 R, .int .i64 B] 38))
  clear hr
  go_enter Try.func42, Try.ntmps42
  go_wp2_with fail
  refine (callT (bRight_any _ _ _ _ _ _ _ hW) HR.out).mono ?_
  rintro e w1 ⟨rfl, B1⟩
  have b0 : w1.cell? ⟨w.heap.size, 0, none⟩ = some (.int .i64 R) := by rw [B1.cell (by simp)]; simp [go_sem]
  have b1 : w1.cell? ⟨w.heap.size, 1, none⟩ = some (.int .i64 B) := by rw [B1.cell (by simp)]; simp [go_sem]
  have hs1 : w.heap.size + 1 ≤ w1.heap.size := by have := B1.size; simpa using this
  have h1 := hW.below B1
  have hBw : Below w.heap.size w w1 := ((Below.refl _ _).alloc (Nat.le_refl _) _).trans (B1.mono (by simp))
  clear h hW B1
  go_wp2
  go_loopw [5, 6, 7, 19] (fun v t u i wr => ∃ k : Nat, k ≤ n ∧ i = .int .i64 k ∧ t = .int .i64 (stB R B xs k).1 ∧ u = .int .i64 (stB R B xs k).2 ∧ wr.ownsRow w1.heap.size 3 1 v k (((passB R B xs).take k).map (Value.int .i64)) ∧ Below w1.heap.size w1 wr) (fun _ _ _ i _ => n - (intOf i).toNat)
  case atStart => exact ⟨0, Nat.zero_le _, rfl, rfl, rfl, own_start _ _ _ _, Below.refl _ _⟩
  case round =>
   obtain ⟨k, hk, rfl, rfl, rfl, hown, hB⟩ := hrel
   by_cases hlt : k < n
   · skip
     obtain ⟨ad, x, rfl, hbd, hc, HX⟩ := h1.getB hB hlt
     have k0 : (0 : Int) ≤ (k : Int) := Int.natCast_nonneg _
     have k1 : (k : Int) < (n : Int) := by omega
     have hBs := hB.size
     have c0 : wr.cell? ⟨w.heap.size, 0, none⟩ = some (.int .i64 R) := (hB.cell (by show w.heap.size < w1.heap.size; omega)).trans b0
     have c1 : wr.cell? ⟨w.heap.size, 1, none⟩ = some (.int .i64 B) := (hB.cell (by show w.heap.size < w1.heap.size; omega)).trans b1
     obtain ⟨t1, t2, t3, t4⟩ := st_bounds HR.out k
     have hkx := getD_of HX.out
     obtain ⟨x0, x1⟩ : 0 ≤ x ∧ x ≤ 1099511627776 := small_at HR.out.2.2.2 HX.out
     clear h1 b0 b1
     have HN := hide (show nowB R B xs k = (passB R B xs).getD k 0 from passB_get (by rw [HL.out]; exact hlt))
     have HT := hide (st_succ1 R B xs k)
     have HU := hide (st_succ2 R B xs k)
     have hnow := hide (show nowB R B xs k = minB ((stB R B xs k).2 + xs.getD k 0) (stB R B xs k).1 from rfl)
     obtain ⟨tk, htk⟩ : ∃ tk, (stB R B xs k).1 = tk := ⟨_, rfl⟩
     obtain ⟨wk, hwk⟩ : ∃ wk, (stB R B xs k).2 = wk := ⟨_, rfl⟩
     have hnow := hide (by have := hnow.out; rw [htk, hwk, hkx] at this; exact this : nowB R B xs k = minB (wk + x) tk)
     have HT := hide (by have := HT.out; rw [htk] at this; exact this : (stB R B xs (k + 1)).1 = minB (tk - nowB R B xs k + R) B)
     have HU := hide (by have := HU.out; rw [hwk, hkx] at this; exact this : (stB R B xs (k + 1)).2 = wk + x - nowB R B xs k)
     rw [htk] at t1 t2
     rw [hwk] at t3 t4
     rw [htk, hwk]
     clear htk hwk hkx
     rcases (show wk + x ≤ tk ∨ tk < wk + x by omega) with q1 | q1
     · have hnow := hide (by rw [hnow.out]; exact minB_l q1 : nowB R B xs k = wk + x)
       rcases (show tk - (wk + x) + R ≤ B ∨ B < tk - (wk + x) + R by omega) with q2 | q2
       · have HT := hide (by rw [HT.out, hnow.out]; exact minB_l q2 : (stB R B xs (k + 1)).1 = tk - (wk + x) + R)
         have HU := hide (by rw [HU.out, hnow.out] : (stB R B xs (k + 1)).2 = wk + x - (wk + x))
         have HN := hide (by rw [← HN.out, hnow.out] : wk + x = (passB R B xs).getD k 0)
         clear hnow
         go_wp2_with (go_loud (at_builtin; refine wpList_append_own _ rfl _ _ 30 rfl w1.heap.size 3 i0 (.int .i64 0) 1 8 Try.underlying30 hi0 hz0 hz1 hz2 rfl (by decide) _ _ _ rfl (hown.alloc _) ⟨wr.heap.size, 0, none⟩ 1 1 [.int .i64 (wk + x)] rfl rfl (cell_one_new _ _ _) (by simp [Value.oneCell']) (by unfold maxLen; omega) (by omega) (by simp; omega) ?_; intro v' w2 hown1 hgrow _; have c0 := grown_cell hgrow hown (ad := ⟨w.heap.size, 0, none⟩) (by show w.heap.size < w1.heap.size; omega) (by simp; omega) ((((Below.refl wr.heap.size wr).alloc (Nat.le_refl _) _).cell (by show w.heap.size < wr.heap.size; omega)).trans c0); have c1 := grown_cell hgrow hown (ad := ⟨w.heap.size, 1, none⟩) (by show w.heap.size < w1.heap.size; omega) (by simp; omega) ((((Below.refl wr.heap.size wr).alloc (Nat.le_refl _) _).cell (by show w.heap.size < wr.heap.size; omega)).trans c1)))
         go_wp2
         go_roundw
         case rel => exact ⟨k + 1, by omega, by go_num, (by rw [HT.out]; try (congr 1; omega)), (by rw [HU.out]; try (congr 1; omega)), own_next (by rw [HQ.out]; omega) HN.out hown1, (hB.alloc hBs _).grown hgrow (by simp; omega) (own_row hown)⟩
         case measure => simp [intOf]; omega
       · have HT := hide (by rw [HT.out, hnow.out]; exact minB_r q2 : (stB R B xs (k + 1)).1 = B)
         have HU := hide (by rw [HU.out, hnow.out] : (stB R B xs (k + 1)).2 = wk + x - (wk + x))
         have HN := hide (by rw [← HN.out, hnow.out] : wk + x = (passB R B xs).getD k 0)
         clear hnow
         go_wp2_with (go_loud (at_builtin; refine wpList_append_own _ rfl _ _ 30 rfl w1.heap.size 3 i0 (.int .i64 0) 1 8 Try.underlying30 hi0 hz0 hz1 hz2 rfl (by decide) _ _ _ rfl (hown.alloc _) ⟨wr.heap.size, 0, none⟩ 1 1 [.int .i64 (wk + x)] rfl rfl (cell_one_new _ _ _) (by simp [Value.oneCell']) (by unfold maxLen; omega) (by omega) (by simp; omega) ?_; intro v' w2 hown1 hgrow _; have c0 := grown_cell hgrow hown (ad := ⟨w.heap.size, 0, none⟩) (by show w.heap.size < w1.heap.size; omega) (by simp; omega) ((((Below.refl wr.heap.size wr).alloc (Nat.le_refl _) _).cell (by show w.heap.size < wr.heap.size; omega)).trans c0); have c1 := grown_cell hgrow hown (ad := ⟨w.heap.size, 1, none⟩) (by show w.heap.size < w1.heap.size; omega) (by simp; omega) ((((Below.refl wr.heap.size wr).alloc (Nat.le_refl _) _).cell (by show w.heap.size < wr.heap.size; omega)).trans c1)))
         go_wp2
         go_roundw
         case rel => exact ⟨k + 1, by omega, by go_num, (by rw [HT.out]; try (congr 1; omega)), (by rw [HU.out]; try (congr 1; omega)), own_next (by rw [HQ.out]; omega) HN.out hown1, (hB.alloc hBs _).grown hgrow (by simp; omega) (own_row hown)⟩
         case measure => simp [intOf]; omega
     · have hnow := hide (by rw [hnow.out]; exact minB_r q1 : nowB R B xs k = tk)
       rcases (show tk - (tk) + R ≤ B ∨ B < tk - (tk) + R by omega) with q2 | q2
       · have HT := hide (by rw [HT.out, hnow.out]; exact minB_l q2 : (stB R B xs (k + 1)).1 = tk - (tk) + R)
         have HU := hide (by rw [HU.out, hnow.out] : (stB R B xs (k + 1)).2 = wk + x - (tk))
         have HN := hide (by rw [← HN.out, hnow.out] : tk = (passB R B xs).getD k 0)
         clear hnow
         go_wp2_with (go_loud (at_builtin; refine wpList_append_own _ rfl _ _ 30 rfl w1.heap.size 3 i0 (.int .i64 0) 1 8 Try.underlying30 hi0 hz0 hz1 hz2 rfl (by decide) _ _ _ rfl (hown.alloc _) ⟨wr.heap.size, 0, none⟩ 1 1 [.int .i64 (tk)] rfl rfl (cell_one_new _ _ _) (by simp [Value.oneCell']) (by unfold maxLen; omega) (by omega) (by simp; omega) ?_; intro v' w2 hown1 hgrow _; have c0 := grown_cell hgrow hown (ad := ⟨w.heap.size, 0, none⟩) (by show w.heap.size < w1.heap.size; omega) (by simp; omega) ((((Below.refl wr.heap.size wr).alloc (Nat.le_refl _) _).cell (by show w.heap.size < wr.heap.size; omega)).trans c0); have c1 := grown_cell hgrow hown (ad := ⟨w.heap.size, 1, none⟩) (by show w.heap.size < w1.heap.size; omega) (by simp; omega) ((((Below.refl wr.heap.size wr).alloc (Nat.le_refl _) _).cell (by show w.heap.size < wr.heap.size; omega)).trans c1)))
         go_wp2
         go_roundw
         case rel => exact ⟨k + 1, by omega, by go_num, (by rw [HT.out]; try (congr 1; omega)), (by rw [HU.out]; try (congr 1; omega)), own_next (by rw [HQ.out]; omega) HN.out hown1, (hB.alloc hBs _).grown hgrow (by simp; omega) (own_row hown)⟩
         case measure => simp [intOf]; omega
       · have HT := hide (by rw [HT.out, hnow.out]; exact minB_r q2 : (stB R B xs (k + 1)).1 = B)
         have HU := hide (by rw [HU.out, hnow.out] : (stB R B xs (k + 1)).2 = wk + x - (tk))
         have HN := hide (by rw [← HN.out, hnow.out] : tk = (passB R B xs).getD k 0)
         clear hnow
         go_wp2_with (go_loud (at_builtin; refine wpList_append_own _ rfl _ _ 30 rfl w1.heap.size 3 i0 (.int .i64 0) 1 8 Try.underlying30 hi0 hz0 hz1 hz2 rfl (by decide) _ _ _ rfl (hown.alloc _) ⟨wr.heap.size, 0, none⟩ 1 1 [.int .i64 (tk)] rfl rfl (cell_one_new _ _ _) (by simp [Value.oneCell']) (by unfold maxLen; omega) (by omega) (by simp; omega) ?_; intro v' w2 hown1 hgrow _; have c0 := grown_cell hgrow hown (ad := ⟨w.heap.size, 0, none⟩) (by show w.heap.size < w1.heap.size; omega) (by simp; omega) ((((Below.refl wr.heap.size wr).alloc (Nat.le_refl _) _).cell (by show w.heap.size < wr.heap.size; omega)).trans c0); have c1 := grown_cell hgrow hown (ad := ⟨w.heap.size, 1, none⟩) (by show w.heap.size < w1.heap.size; omega) (by simp; omega) ((((Below.refl wr.heap.size wr).alloc (Nat.le_refl _) _).cell (by show w.heap.size < wr.heap.size; omega)).trans c1)))
         go_wp2
         go_roundw
         case rel => exact ⟨k + 1, by omega, by go_num, (by rw [HT.out]; try (congr 1; omega)), (by rw [HU.out]; try (congr 1; omega)), own_next (by rw [HQ.out]; omega) HN.out hown1, (hB.alloc hBs _).grown hgrow (by simp; omega) (own_row hown)⟩
         case measure => simp [intOf]; omega
   · obtain ⟨b, d, hv, hI⟩ := IntsAt.of_own (own_all (by rw [HQ.out]; omega) hown) (by rw [HQ.out]; omega)
     subst hv
     clear h1 hown
     go_wp2
     go_ret
     exact ⟨b, _, d, rfl, hI, hBw.trans (hB.mono (by omega))⟩

set_option maxHeartbeats 1000000 in
theorem bPass_bad (R B : Int) (a : Option Addr) (n c : Nat) (xs : List Int) (w : World) (h : IntsAt w a n c xs) (hr : ¬ RightB R B xs) :
    Calls Try.prog 42 #[.agg #[.int .i64 R, .int .i64 B], .slice a n c] w fun e w' => e = .returned (.slice none 0 0) ∧ Below w.heap.size w w' := by
  have HR := hide hr
  have hW := h.below ((Below.refl w.heap.size w).alloc (Nat.le_refl _) (.cells #[.int .i64 R, .int .i64 B] 38))
  clear hr h
  go_enter Try.func42, Try.ntmps42
  go_wp2_with fail
  refine (callF (bRight_any _ _ _ _ _ _ _ hW) HR.out).mono ?_
  rintro e w1 ⟨rfl, B1⟩
  go_wp2
  go_ret
  exact ⟨rfl, ((Below.refl _ _).alloc (Nat.le_refl _) _).trans (B1.mono (by simp))⟩

end Go.Proofs.Ythokolfgagkmiaa
