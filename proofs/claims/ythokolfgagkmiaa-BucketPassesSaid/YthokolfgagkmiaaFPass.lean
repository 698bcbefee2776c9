/-
  WALKS: the reference's FPass.
-/
import Derived.Test.YthokolfgagkmiaaPBucket
import Derived.Test.YthokolfgagkmiaaFRight
import Derived.Test.YthokolfgagkmiaaNum
namespace Go.Proofs.Ythokolfgagkmiaa
open Go.RowKit
set_option linter.unusedSimpArgs false
set_option linter.unusedVariables false

theorem intInfoFP : (Try.prog.info? 3).map (fun i => (i.zero, i.size, i.bytes)) = some (some (.int .i64 0), 1, 8) := by kernel_rfl

set_option maxRecDepth 100000 in
set_option maxHeartbeats 4000000 in
theorem fPass_ok (R B : Int) (a : Option Addr) (n c : Nat) (xs : List Int) (w : World) (h : IntsAt w a n c xs) (hno : a = none → n = 0 ∧ c = 0) (hr : RightB R B xs) :
    Calls Try.prog 43 #[.agg #[.int .i64 R, .int .i64 B], .slice a n c] w fun e w' => ∃ b m d, e = .returned (.slice b m d) ∧ IntsAt w' b m d (passB R B xs) ∧ Below w.heap.size w w' := by
  obtain ⟨i0, hi0, hz0, hz1, hz2⟩ := info_parts intInfoFP
  have HR := hide hr
  have HL := hide h.len
  have HQ := hide (show (passB R B xs).length = n by rw [passB_len, h.len])
  have hn : n < 300 := by rw [← HL.out]; exact hr.2.2.1
  obtain ⟨hR0, hR1⟩ := hr.1
  obtain ⟨hB0, hB1⟩ := hr.2.1
  have hW := h.below ((Below.refl w.heap.size w).alloc (Nat.le_refl _) (.cells #[.int .i64 R, .int .i64 B] 38))
  clear hr
  go_enter Try.func43, Try.ntmps43
  go_wp2_with fail
  refine (callT (fRight_any _ _ _ _ _ _ _ hW hno (by omega)) HR.out).mono ?_
  rintro e w1 ⟨rfl, B1⟩
  have b0 : w1.cell? ⟨w.heap.size, 0, none⟩ = some (.int .i64 R) := by rw [B1.cell (by simp)]; simp [go_sem]
  have b1 : w1.cell? ⟨w.heap.size, 1, none⟩ = some (.int .i64 B) := by rw [B1.cell (by simp)]; simp [go_sem]
  have hs1 : w.heap.size + 1 ≤ w1.heap.size := by have := B1.size; simpa using this
  have h1 := hW.below B1
  have hBw : Below w.heap.size w w1 := ((Below.refl _ _).alloc (Nat.le_refl _) _).trans (B1.mono (by simp))
  clear h hW B1
  go_wp2
  go_loopw [5, 6, 18] (fun v u i wr => ∃ k : Nat, k ≤ n ∧ i = .int .i64 k ∧ u = .int .i64 (stB R B xs k).2 ∧ wr.ownsRow w1.heap.size 3 1 v k (((passB R B xs).take k).map (Value.int .i64)) ∧ Below w1.heap.size w1 wr) (fun _ _ i _ => n - (intOf i).toNat)
  case atStart => exact ⟨0, Nat.zero_le _, rfl, rfl, own_start _ _ _ _, Below.refl _ _⟩
  case round =>
   obtain ⟨k, hk, rfl, rfl, hown, hB⟩ := hrel
   by_cases hlt : k < n
   · skip
     obtain ⟨ad, x, rfl, hbd, hc, HX⟩ := h1.getB hB hlt
     have k0 : (0 : Int) ≤ (k : Int) := Int.natCast_nonneg _
     have k1 : (k : Int) < (n : Int) := by omega
     have hBs := hB.size
     have c0 : wr.cell? ⟨w.heap.size, 0, none⟩ = some (.int .i64 R) := (hB.cell (by show w.heap.size < w1.heap.size; omega)).trans b0
     have c1 : wr.cell? ⟨w.heap.size, 1, none⟩ = some (.int .i64 B) := (hB.cell (by show w.heap.size < w1.heap.size; omega)).trans b1
     obtain ⟨t1, t2, t3, t4⟩ := st_bounds HR.out k
     have hkx := getD_of HX.out
     obtain ⟨x0, x1⟩ : 0 ≤ x ∧ x ≤ 1099511627776 := small_at HR.out.2.2.2 HX.out
     clear h1 b0 b1
     clear t1 t2
     obtain ⟨wk, hwk⟩ : ∃ wk, (stB R B xs k).2 = wk := ⟨_, rfl⟩
     rw [hwk] at t3 t4
     rw [hwk]
     have hlk : ((passB R B xs).take k).length = k := by rw [List.length_take, HQ.out]; omega
     obtain ⟨ga, gc, hv, hI⟩ := IntsAt.of_own (xs := (passB R B xs).take k) (by rw [hlk]; exact hown) (by rw [hlk]; omega)
     rw [hlk] at hv hI
     subst hv
     clear hlk
     have HK := hide hkx
     have HWk := hide hwk
     clear hkx hwk
     go_wp2
     go_loop [9, 10, 29] (fun p s i => ∃ j : Nat, j ≤ k + 1 ∧ i = .int .i64 j ∧ p = .int .i64 (hkB R B xs k (wk + x) j) ∧ s = .int .i64 (sB R B xs k (Nat.min j k))) (fun _ _ i => k + 1 - (intOf i).toNat)
     case atStart => exact ⟨0, Nat.zero_le _, rfl, rfl, by simp [sB]⟩
     case round =>
       obtain ⟨j, hj, rfl, rfl, rfl⟩ := hrel
       by_cases hjl : j < k + 1
       · have j0 : (0 : Int) ≤ (j : Int) := Int.natCast_nonneg _
         have j1 : (j : Int) < (k : Int) + 1 := by omega
         have hmin : Nat.min j k = j := Nat.min_eq_left (by omega)
         have HH := hide (show hkB R B xs k (wk + x) (j + 1) = minB (hkB R B xs k (wk + x) j) (lB R B xs k j) from rfl)
         obtain ⟨m1, m2⟩ := mul_bounds HR.out j
         obtain ⟨s1, s2⟩ := sB_bounds HR.out k j
         have HS := hide (show sB R B xs k (j + 1) = sB R B xs k j + nowB R B xs (k - 1 - j) from rfl)
         have hkb := hkB_bounds HR.out (show j ≤ k + 1 by omega)
         rw [HK.out, HWk.out] at hkb
         obtain ⟨g1, g2⟩ := hkb
         rw [hmin]
         obtain ⟨mm, hmm⟩ : ∃ mm, hkB R B xs k (wk + x) j = mm := ⟨_, rfl⟩
         obtain ⟨sm, hsm⟩ : ∃ sm, sB R B xs k j = sm := ⟨_, rfl⟩
         have HL2 := hide (show lB R B xs k j = B + j * minB R B - sm by rw [← hsm]; rfl)
         rw [hmm] at g1 g2
         rw [hsm] at s1 s2
         have HH := hide (by have := HH.out; rw [hmm, HL2.out] at this; exact this : hkB R B xs k (wk + x) (j + 1) = minB mm (B + j * minB R B - sm))
         have HS := hide (by have := HS.out; rw [hsm] at this; exact this : sB R B xs k (j + 1) = sm + nowB R B xs (k - 1 - j))
         have Hsm := hide hsm
         rw [hmm, hsm]
         clear hmm hsm HL2 hmin
         rcases (show R ≤ B ∨ B < R by omega) with q0 | q0
         · rw [minB_l q0] at m1 m2
           have HH := hide (by have := HH.out; rw [minB_l q0] at this; exact this : hkB R B xs k (wk + x) (j + 1) = minB mm (B + j * R - sm))
           rcases (show mm ≤ B + j * R - sm ∨ B + j * R - sm < mm by omega) with q1 | q1
           · have HH := hide (by have := HH.out; rw [minB_l q1] at this; exact this : hkB R B xs k (wk + x) (j + 1) = mm)
             rcases (show j = k ∨ j < k by omega) with q2 | q2
             · have HM := hide (show sB R B xs k (Nat.min (j + 1) k) = sm by rw [show Nat.min (j + 1) k = j from by rw [← q2]; exact Nat.min_eq_right (by omega)]; exact Hsm.out)
               have q3 : (k : Int) ≤ (j : Int) := by omega
               have q4 : decide ((j : Int) < (k : Int)) = false := by simp; omega
               clear q2 hI hown
               go_wp2
               go_round
               case rel => exact ⟨j + 1, by omega, by go_num, (by rw [HH.out]), (by rw [HM.out])⟩
               case measure => simp [intOf]; omega
             · obtain ⟨q, hq⟩ : ∃ q, q = k - 1 - j := ⟨_, rfl⟩
               have hqk : q < k := by omega
               obtain ⟨ad3, y, he3, hbd3, hc3, HY⟩ := hI.getB (Below.refl _ _) hqk
               have HM := hide (show sB R B xs k (Nat.min (j + 1) k) = sm + y by
                 rw [show Nat.min (j + 1) k = j + 1 from Nat.min_eq_left (by omega), HS.out, ← hq]
                 have e1 := HY.out
                 rw [List.getElem?_take, if_pos hqk] at e1
                 rw [passB_get (show q < xs.length by rw [HL.out]; omega), getD_of e1])
               have y01 := now_bounds HR.out q
               have y2 : nowB R B xs q = y := by
                 have e1 := HY.out
                 rw [List.getElem?_take, if_pos hqk] at e1
                 rw [passB_get (show q < xs.length by rw [HL.out]; omega), getD_of e1]
               rw [y2] at y01
               obtain ⟨y0, y1, y3⟩ := y01
               have q3 : (j : Int) < (k : Int) := by omega
               have hqz : (k : Int) - 1 - (j : Int) = (q : Int) := by omega
               have q5 : (q : Int) < (k : Int) := by omega
               have q6 : (0 : Int) ≤ (q : Int) := Int.natCast_nonneg _
               subst he3
               clear y1 y2 q2 hq hI hown
               go_wp2
               go_round
               case rel => exact ⟨j + 1, by omega, by go_num, (by rw [HH.out]), (by rw [HM.out])⟩
               case measure => simp [intOf]; omega
           · have HH := hide (by have := HH.out; rw [minB_r q1] at this; exact this : hkB R B xs k (wk + x) (j + 1) = B + j * R - sm)
             rcases (show j = k ∨ j < k by omega) with q2 | q2
             · have HM := hide (show sB R B xs k (Nat.min (j + 1) k) = sm by rw [show Nat.min (j + 1) k = j from by rw [← q2]; exact Nat.min_eq_right (by omega)]; exact Hsm.out)
               have q3 : (k : Int) ≤ (j : Int) := by omega
               have q4 : decide ((j : Int) < (k : Int)) = false := by simp; omega
               clear q2 hI hown
               go_wp2
               go_round
               case rel => exact ⟨j + 1, by omega, by go_num, (by rw [HH.out]), (by rw [HM.out])⟩
               case measure => simp [intOf]; omega
             · obtain ⟨q, hq⟩ : ∃ q, q = k - 1 - j := ⟨_, rfl⟩
               have hqk : q < k := by omega
               obtain ⟨ad3, y, he3, hbd3, hc3, HY⟩ := hI.getB (Below.refl _ _) hqk
               have HM := hide (show sB R B xs k (Nat.min (j + 1) k) = sm + y by
                 rw [show Nat.min (j + 1) k = j + 1 from Nat.min_eq_left (by omega), HS.out, ← hq]
                 have e1 := HY.out
                 rw [List.getElem?_take, if_pos hqk] at e1
                 rw [passB_get (show q < xs.length by rw [HL.out]; omega), getD_of e1])
               have y01 := now_bounds HR.out q
               have y2 : nowB R B xs q = y := by
                 have e1 := HY.out
                 rw [List.getElem?_take, if_pos hqk] at e1
                 rw [passB_get (show q < xs.length by rw [HL.out]; omega), getD_of e1]
               rw [y2] at y01
               obtain ⟨y0, y1, y3⟩ := y01
               have q3 : (j : Int) < (k : Int) := by omega
               have hqz : (k : Int) - 1 - (j : Int) = (q : Int) := by omega
               have q5 : (q : Int) < (k : Int) := by omega
               have q6 : (0 : Int) ≤ (q : Int) := Int.natCast_nonneg _
               subst he3
               clear y1 y2 q2 hq hI hown
               go_wp2
               go_round
               case rel => exact ⟨j + 1, by omega, by go_num, (by rw [HH.out]), (by rw [HM.out])⟩
               case measure => simp [intOf]; omega
         · rw [minB_r q0] at m1 m2
           have HH := hide (by have := HH.out; rw [minB_r q0] at this; exact this : hkB R B xs k (wk + x) (j + 1) = minB mm (B + j * B - sm))
           rcases (show mm ≤ B + j * B - sm ∨ B + j * B - sm < mm by omega) with q1 | q1
           · have HH := hide (by have := HH.out; rw [minB_l q1] at this; exact this : hkB R B xs k (wk + x) (j + 1) = mm)
             rcases (show j = k ∨ j < k by omega) with q2 | q2
             · have HM := hide (show sB R B xs k (Nat.min (j + 1) k) = sm by rw [show Nat.min (j + 1) k = j from by rw [← q2]; exact Nat.min_eq_right (by omega)]; exact Hsm.out)
               have q3 : (k : Int) ≤ (j : Int) := by omega
               have q4 : decide ((j : Int) < (k : Int)) = false := by simp; omega
               clear q2 hI hown
               go_wp2
               go_round
               case rel => exact ⟨j + 1, by omega, by go_num, (by rw [HH.out]), (by rw [HM.out])⟩
               case measure => simp [intOf]; omega
             · obtain ⟨q, hq⟩ : ∃ q, q = k - 1 - j := ⟨_, rfl⟩
               have hqk : q < k := by omega
               obtain ⟨ad3, y, he3, hbd3, hc3, HY⟩ := hI.getB (Below.refl _ _) hqk
               have HM := hide (show sB R B xs k (Nat.min (j + 1) k) = sm + y by
                 rw [show Nat.min (j + 1) k = j + 1 from Nat.min_eq_left (by omega), HS.out, ← hq]
                 have e1 := HY.out
                 rw [List.getElem?_take, if_pos hqk] at e1
                 rw [passB_get (show q < xs.length by rw [HL.out]; omega), getD_of e1])
               have y01 := now_bounds HR.out q
               have y2 : nowB R B xs q = y := by
                 have e1 := HY.out
                 rw [List.getElem?_take, if_pos hqk] at e1
                 rw [passB_get (show q < xs.length by rw [HL.out]; omega), getD_of e1]
               rw [y2] at y01
               obtain ⟨y0, y1, y3⟩ := y01
               have q3 : (j : Int) < (k : Int) := by omega
               have hqz : (k : Int) - 1 - (j : Int) = (q : Int) := by omega
               have q5 : (q : Int) < (k : Int) := by omega
               have q6 : (0 : Int) ≤ (q : Int) := Int.natCast_nonneg _
               subst he3
               clear y1 y2 q2 hq hI hown
               go_wp2
               go_round
               case rel => exact ⟨j + 1, by omega, by go_num, (by rw [HH.out]), (by rw [HM.out])⟩
               case measure => simp [intOf]; omega
           · have HH := hide (by have := HH.out; rw [minB_r q1] at this; exact this : hkB R B xs k (wk + x) (j + 1) = B + j * B - sm)
             rcases (show j = k ∨ j < k by omega) with q2 | q2
             · have HM := hide (show sB R B xs k (Nat.min (j + 1) k) = sm by rw [show Nat.min (j + 1) k = j from by rw [← q2]; exact Nat.min_eq_right (by omega)]; exact Hsm.out)
               have q3 : (k : Int) ≤ (j : Int) := by omega
               have q4 : decide ((j : Int) < (k : Int)) = false := by simp; omega
               clear q2 hI hown
               go_wp2
               go_round
               case rel => exact ⟨j + 1, by omega, by go_num, (by rw [HH.out]), (by rw [HM.out])⟩
               case measure => simp [intOf]; omega
             · obtain ⟨q, hq⟩ : ∃ q, q = k - 1 - j := ⟨_, rfl⟩
               have hqk : q < k := by omega
               obtain ⟨ad3, y, he3, hbd3, hc3, HY⟩ := hI.getB (Below.refl _ _) hqk
               have HM := hide (show sB R B xs k (Nat.min (j + 1) k) = sm + y by
                 rw [show Nat.min (j + 1) k = j + 1 from Nat.min_eq_left (by omega), HS.out, ← hq]
                 have e1 := HY.out
                 rw [List.getElem?_take, if_pos hqk] at e1
                 rw [passB_get (show q < xs.length by rw [HL.out]; omega), getD_of e1])
               have y01 := now_bounds HR.out q
               have y2 : nowB R B xs q = y := by
                 have e1 := HY.out
                 rw [List.getElem?_take, if_pos hqk] at e1
                 rw [passB_get (show q < xs.length by rw [HL.out]; omega), getD_of e1]
               rw [y2] at y01
               obtain ⟨y0, y1, y3⟩ := y01
               have q3 : (j : Int) < (k : Int) := by omega
               have hqz : (k : Int) - 1 - (j : Int) = (q : Int) := by omega
               have q5 : (q : Int) < (k : Int) := by omega
               have q6 : (0 : Int) ≤ (q : Int) := Int.natCast_nonneg _
               subst he3
               clear y1 y2 q2 hq hI hown
               go_wp2
               go_round
               case rel => exact ⟨j + 1, by omega, by go_num, (by rw [HH.out]), (by rw [HM.out])⟩
               case measure => simp [intOf]; omega
       · obtain rfl : j = k + 1 := by omega
         have hmin : hkB R B xs k (wk + x) (k + 1) = nowB R B xs k := by have := hkB_all HR.out k; rw [HK.out, HWk.out] at this; exact this
         rw [hmin]
         obtain ⟨nw, hnw⟩ : ∃ nw, nowB R B xs k = nw := ⟨_, rfl⟩
         obtain ⟨n1, n2, n3⟩ := now_bounds HR.out k
         have HN := hide (show nw = (passB R B xs).getD k 0 by rw [← hnw]; exact passB_get (by rw [HL.out]; exact hlt))
         have HU := hide (by have := st_succ2 R B xs k; rw [HWk.out, HK.out, hnw] at this; exact this : (stB R B xs (k + 1)).2 = wk + x - nw)
         rw [hnw] at n1 n2 n3
         rw [hnw]
         clear hnw hmin hI n2
         go_wp2_with (at_builtin; refine wpList_append_own _ rfl _ _ 30 rfl w1.heap.size 3 i0 (.int .i64 0) 1 8 Try.underlying30 hi0 hz0 hz1 hz2 rfl (by decide) _ _ _ rfl (hown.alloc _) ⟨wr.heap.size, 0, none⟩ 1 1 [.int .i64 (nw)] rfl rfl (cell_one_new _ _ _) (by simp [Value.oneCell']) (by unfold maxLen; omega) (by omega) (by simp; omega) ?_; intro v' w2 hown1 hgrow _; have c0 := grown_cell hgrow hown (ad := ⟨w.heap.size, 0, none⟩) (by show w.heap.size < w1.heap.size; omega) (by simp; omega) ((((Below.refl wr.heap.size wr).alloc (Nat.le_refl _) _).cell (by show w.heap.size < wr.heap.size; omega)).trans c0); have c1 := grown_cell hgrow hown (ad := ⟨w.heap.size, 1, none⟩) (by show w.heap.size < w1.heap.size; omega) (by simp; omega) ((((Below.refl wr.heap.size wr).alloc (Nat.le_refl _) _).cell (by show w.heap.size < wr.heap.size; omega)).trans c1))
         go_wp2
         go_roundw
         case rel => exact ⟨k + 1, by omega, by go_num, (by rw [HU.out]), own_next (by rw [HQ.out]; omega) HN.out hown1, (hB.alloc hBs _).grown hgrow (by simp; omega) (own_row hown)⟩
         case measure => simp [intOf]; omega
   · obtain ⟨b, d, hv, hI⟩ := IntsAt.of_own (own_all (by rw [HQ.out]; omega) hown) (by rw [HQ.out]; omega)
     subst hv
     clear h1 hown
     go_wp2
     go_ret
     exact ⟨b, _, d, rfl, hI, hBw.trans (hB.mono (by omega))⟩

set_option maxHeartbeats 1000000 in
theorem fPass_bad (R B : Int) (a : Option Addr) (n c : Nat) (xs : List Int) (w : World) (h : IntsAt w a n c xs) (hno : a = none → n = 0 ∧ c = 0) (hlim : n + 2 ≤ 17592186044416) (hr : ¬ RightB R B xs) :
    Calls Try.prog 43 #[.agg #[.int .i64 R, .int .i64 B], .slice a n c] w fun e w' => e = .returned (.slice none 0 0) ∧ Below w.heap.size w w' := by
  have HR := hide hr
  have hW := h.below ((Below.refl w.heap.size w).alloc (Nat.le_refl _) (.cells #[.int .i64 R, .int .i64 B] 38))
  clear hr h
  go_enter Try.func43, Try.ntmps43
  go_wp2_with fail
  refine (callF (fRight_any _ _ _ _ _ _ _ hW hno hlim) HR.out).mono ?_
  rintro e w1 ⟨rfl, B1⟩
  go_wp2
  go_ret
  exact ⟨rfl, ((Below.refl _ _).alloc (Nat.le_refl _) _).trans (B1.mono (by simp))⟩

end Go.Proofs.Ythokolfgagkmiaa
