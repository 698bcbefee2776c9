/-
  WALKS: minplus.Close.
-/
import Derived.Test.YthokolfgagkmiaaPClose
import Derived.Test.YthokolfgagkmiaaConv
namespace Go.Proofs.Ythokolfgagkmiaa
open Go.RowKit
set_option linter.unusedSimpArgs false
set_option linter.unusedVariables false

attribute [local go_sem] iteMin iteMax iteMinN iteMaxN

set_option maxRecDepth 100000 in
set_option maxHeartbeats 8000000 in
theorem close_any (a : Option Addr) (n c : Nat) (xs : List Int) (w : World) (h : IntsAt w a n c xs) :
    Calls Try.prog 44 #[.slice a n c] w fun e w' => ∃ b m d, e = .returned (.slice b m d) ∧ IntsAt w' b m d (clI xs) ∧ Below w.heap.size w w' := by
  obtain ⟨i0, hi0, hz0, hz1, hz2⟩ := info_parts intInfoMp
  have hn := h.lim
  have HL := hide h.len
  have HQ := hide (show (clI xs).length = n by rw [cl_len, h.len])
  go_enter Try.func44, Try.ntmps44
  go_wp2
  go_loopw [3, 9] (fun v i wr => ∃ k : Nat, k ≤ n ∧ i = .int .i64 k ∧ wr.ownsRow w.heap.size 3 1 v k (((clI xs).take k).map (Value.int .i64)) ∧ Below w.heap.size w wr) (fun _ i _ => n - (intOf i).toNat)
  case atStart => exact ⟨0, Nat.zero_le _, rfl, own_start _ _ _ _, Below.refl _ _⟩
  case round =>
    obtain ⟨k, hk, rfl, hown, hB⟩ := hrel
    have k0 : (0 : Int) ≤ (k : Int) := Int.natCast_nonneg _
    have hBs := hB.size
    by_cases hlt : k < n
    · have k1 : (k : Int) < (n : Int) := by omega
      rcases (show k = 0 ∨ ∃ q, k = q + 1 from by cases k with | zero => exact .inl rfl | succ j => exact .inr ⟨j, rfl⟩) with h0 | ⟨p, h0⟩
      · subst h0
        have HN := hide (show (0 : Int) = (clI xs).getD 0 0 from (cv_zero (by rw [HL.out]; exact hlt)).symm)
        go_wp2_with (at_builtin; refine wpList_append_own _ rfl _ _ 30 rfl w.heap.size 3 i0 (.int .i64 0) 1 8 Try.underlying30 hi0 hz0 hz1 hz2 rfl (by decide) _ _ _ rfl (hown.alloc _) ⟨wr.heap.size, 0, none⟩ 1 1 [.int .i64 (0)] rfl rfl (cell_one_new _ _ _) (by simp [Value.oneCell']) (by unfold maxLen; omega) (by omega) (by simp; omega) ?_; intro v' w1 hown1 hgrow _)
        go_wp2
        go_roundw
        case rel => exact ⟨1, by omega, by go_num, own_next (by rw [HQ.out]; omega) HN.out hown1, (hB.alloc hBs _).grown hgrow (by simp; omega) (own_row hown)⟩
        case measure => (simp [intOf] <;> omega)
      · subst h0
        obtain ⟨ad, x, rfl, hbd, hc, HX⟩ := h.getS hB hlt
        have HE := hide (show cv xs (p + 1) = clF (cv xs) (p + 1) (fitI x) p by rw [cv_eq (by rw [HL.out]; exact hlt) (by omega), getD_of HX.out]; rfl)
        have q1 : ¬ ((p : Int) + 1 = 0) := by omega
        have q2 : ((p : Int) + 1 == 0) = false := by simp; omega
        have q3 : (p : Int) + 1 < (n : Int) := by omega
        have q4 : (0 : Int) ≤ (p : Int) + 1 := by omega
        have q5 : ((p : Int) + 1).toNat = p + 1 := by omega
        have HF := hide (fit_ge x)
        have HF2 := hide (fit_le x)
        obtain ⟨g, cap, hv, hg1, hg2, hcap, hcl, _⟩ := own_form hown
        subst hv
        have HO := hide hown
        clear hcl hown
        go_wp2_with (go_at_call 85; refine (fit_any _ _).mono ?_; rintro e w' ⟨rfl, rfl⟩)
        go_loopw [5, 6] (fun v i wr => ∃ j : Nat, j ≤ p ∧ i = .int .i64 (j + 1 : Int) ∧ v = .int .i64 (clF (cv xs) (p + 1) (fitI x) j) ∧ Hid (wr.ownsRow w.heap.size 3 1 (.slice (some ⟨g, 0, none⟩) (p + 1) cap) (p + 1) (((clI xs).take (p + 1)).map (Value.int .i64))) ∧ Below w.heap.size w wr) (fun _ i _ => p + 1 - (intOf i).toNat)
        case atStart => exact ⟨0, Nat.zero_le _, by go_num, rfl, HO, hB⟩
        case round =>
          clear HO hB hBs hc hg2
          obtain ⟨j, hj, rfl, rfl, HO, hB⟩ := hrel
          have hBs := hB.size
          have j0 : (0 : Int) ≤ (j : Int) := Int.natCast_nonneg _
          obtain ⟨g1, g2⟩ := clF_b (c := cv xs) (k := p + 1) (x := fitI x) ⟨HF.out, HF2.out⟩ j
          by_cases hjl : j < p
          · obtain ⟨q, hq⟩ : ∃ q, q = p - j := ⟨_, rfl⟩
            have hcell : ∀ i, i < p + 1 → wr.cell? ⟨g, i, none⟩ = some (.int .i64 (cv xs i)) := by
              intro i hi
              obtain ⟨g', cap', hv', _, _, _, hcl, _⟩ := own_form HO.out
              injection hv' with e1 _ _
              injection e1 with e1
              injection e1 with e1
              subst e1
              refine hcl i _ ?_
              have e2 : i < (clI xs).length := by rw [HQ.out]; omega
              rw [List.getElem?_map, List.getElem?_take, if_pos hi, List.getElem?_eq_getElem e2]
              unfold cv
              rw [List.getD_eq_getElem?_getD, List.getElem?_eq_getElem e2]; rfl
            have c1 := hcell (j + 1) (by omega)
            have c2 := hcell q (by omega)
            have HS := hide (show clF (cv xs) (p + 1) (fitI x) (j + 1) = min (clF (cv xs) (p + 1) (fitI x) j) (plusI (cv xs (j + 1)) (cv xs q)) by simp only [clF]; rw [show p + 1 - (j + 1) = q by omega])
            have j1 : (j : Int) + 1 < (p : Int) + 1 := by omega
            have j2 : (0 : Int) ≤ (j : Int) + 1 := by omega
            have j3 : ((j : Int) + 1).toNat = j + 1 := by omega
            have q0 : (0 : Int) ≤ (q : Int) := Int.natCast_nonneg _
            have qq : (q : Int) < (p : Int) + 1 := by omega
            have hqz : (p : Int) + 1 - ((j : Int) + 1) = (q : Int) := by omega
            have hw2 : IntKind.i64.wrap (q : Int) = (q : Int) := IntWalk.i64_in _ (by omega)
            have hw3 : IntKind.i64.wrap ((p : Int) + 1 - ((j : Int) + 1)) = (q : Int) := by rw [hqz]; exact hw2
            clear h hcell hq
            go_wp2
            go_quiet ((go_at_call 90; exact quietL (plus_any _ _ _)))
            clear hw2 hw3 hqz
            go_wp2
            go_roundw
            case rel => exact ⟨j + 1, by omega, by go_num, by rw [HS.out], hide (own_drewN HO.out _), below_drewN hB _⟩
            case measure => (simp [intOf] <;> omega)
          · obtain rfl : j = p := by omega
            have hown := HO.out
            rw [← HE.out] at g1 g2 ⊢
            obtain ⟨V, hV⟩ : ∃ V, cv xs (j + 1) = V := ⟨_, rfl⟩
            have HN := hide (show V = (clI xs).getD (j + 1) 0 from hV.symm)
            rw [hV] at g1 g2 ⊢
            clear h hV HO HE
            go_wp2_with (at_builtin; refine wpList_append_own _ rfl _ _ 30 rfl w.heap.size 3 i0 (.int .i64 0) 1 8 Try.underlying30 hi0 hz0 hz1 hz2 rfl (by decide) _ _ _ rfl (hown.alloc _) ⟨wr.heap.size, 0, none⟩ 1 1 [.int .i64 (V)] rfl rfl (cell_one_new _ _ _) (by simp [Value.oneCell']) (by unfold maxLen; omega) (by omega) (by simp; omega) ?_; intro v' w1 hown1 hgrow _)
            go_wp2
            go_roundw
            case rel => exact ⟨j + 1 + 1, by omega, by go_num, own_next (by rw [HQ.out]; omega) HN.out hown1, (hB.alloc hBs _).grown hgrow (by simp; omega) (own_row hown)⟩
            case measure => (simp [intOf] <;> omega)
    · obtain rfl : k = n := by omega
      obtain ⟨b, d, hv, hI⟩ := IntsAt.of_own (own_all HQ.out.symm hown) (by rw [HQ.out]; omega)
      subst hv
      clear h hown
      go_wp2
      go_ret
      exact ⟨b, _, d, rfl, (by have := hI; rwa [HQ.out] at this), hB⟩

end Go.Proofs.Ythokolfgagkmiaa
