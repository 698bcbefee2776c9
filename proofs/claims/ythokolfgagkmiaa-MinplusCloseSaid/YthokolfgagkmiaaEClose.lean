/-
  WALKS: the reference's EClose.
-/
import Derived.Test.YthokolfgagkmiaaPClose
import Derived.Test.YthokolfgagkmiaaEConv
import Derived.Test.YthokolfgagkmiaaFKeeps
import Derived.Deep.LoopGhost
namespace Go.Proofs.Ythokolfgagkmiaa
open Go.RowKit
set_option linter.unusedSimpArgs false
set_option linter.unusedVariables false

attribute [local go_sem] iteMin iteMax iteMinN iteMaxN

theorem econv_self (a : Option Addr) (n c : Nat) (xs : List Int) (w : World) (h : IntsAt w a n c xs) :
    Calls Try.prog 51 #[.slice a n c, .slice a n c] w fun e w' => ∃ b d, e = .returned (.slice b n d) ∧ IntsAt w' b n d (cvI xs xs n) ∧ Below w.heap.size w w' :=
  (econv_any a a n n c c xs xs w h h).mono fun e w' ⟨b, m, d, he, hI, hB⟩ => by
    rw [Nat.min_self] at hI
    have hm : m = n := by rw [← hI.len, cv_len]
    subst hm
    exact ⟨b, d, he, hI, hB⟩

set_option maxHeartbeats 1000000 in
theorem eclose_nil (a : Option Addr) (c : Nat) (w : World) :
    Calls Try.prog 45 #[.slice a 0 c] w fun e w' => e = .returned (.slice none 0 0) ∧ w = w' := by
  go_enter Try.func45, Try.ntmps45
  go_wp2
  go_ret
  exact ⟨rfl, rfl⟩

set_option maxRecDepth 100000 in
set_option maxHeartbeats 8000000 in
theorem eclose_pos (ad : Addr) (n c : Nat) (xs : List Int) (w : World) (h : IntsAt w (some ad) (n + 1) c xs) :
    Calls Try.prog 45 #[.slice (some ad) (n + 1) c] w fun e w' => ∃ b m d, e = .returned (.slice b m d) ∧ IntsAt w' b m d (clI xs) ∧ Below w.heap.size w w' := by
  obtain ⟨i0, hi0, hz0, hz1, hz2⟩ := info_parts intInfoMp
  have hn := h.lim
  have hcap := h.cap
  have HL := hide h.len
  have HQ := hide (show (gst xs).length = n + 1 by rw [gst_len, h.len])
  have HG0 := hide (show (0 : Int) = (gst xs).getD 0 0 by rw [gst_get (by rw [HL.out]; omega)]; rfl)
  have hnz : ¬ ((n : Int) + 1 = 0) := by omega
  have hnz2 : ((n : Int) + 1 == 0) = false := by simp; omega
  have hc1 : (1 : Int) ≤ (c : Int) := by omega
  have hc2 : (n : Int) + 1 ≤ (c : Int) := by omega
  have hc3 : 1 ≤ c := by omega
  rcases (show c = 1 ∨ c ≠ 1 by omega) with hcc | hcc
  · subst hcc
    obtain rfl : n = 0 := by omega
    clear hcap hc2
    go_enter Try.func45, Try.ntmps45
    go_wp2
    go_loopw [3, 16] (fun v i wr => ∃ k : Nat, k ≤ 0 ∧ i = .int .i64 k ∧ wr.ownsRow w.heap.size 3 1 v (k + 1) (((gst xs).take (k + 1)).map (Value.int .i64)) ∧ Below w.heap.size w wr) (fun _ i _ => 0 - (intOf i).toNat)
    case atStart => exact ⟨0, Nat.zero_le _, rfl, own_one w w.heap.size _ 0 (gst xs) (by rw [HQ.out]; omega) HG0.out (Nat.le_refl _), (Below.refl _ _).alloc (Nat.le_refl _) _⟩
    case round =>
      obtain ⟨k, hk, rfl, hown, hB⟩ := hrel
      obtain rfl : k = 0 := by omega
      obtain ⟨b, d, hv, hI⟩ := IntsAt.of_own (own_all HQ.out.symm hown) (by rw [HQ.out]; omega)
      subst hv
      rw [HQ.out] at hI ⊢
      clear h hown
      go_wp2
      go_loopg [3] (sumN (gst xs) (1)) (fun gk v wr => ∃ b d gs, v = .slice b (1) d ∧ IntsAt wr b (1) d gs ∧ Hid (Inv xs gs) ∧ Hid (gk = sumN gs (1)) ∧ Below w.heap.size w wr)
      case atStart => exact ⟨b, d, gst xs, rfl, hI, hide (inv_start (by rw [HL.out]; omega)), hide rfl, hB⟩
      case round =>
        clear hI hB
        obtain ⟨b, d, gs, rfl, hI, HV, HK, hB⟩ := hrel
        go_wp2_with fail
        refine (econv_self _ _ _ _ _ hI).mono ?_
        rintro e w2 ⟨b2, d2, rfl, I2, B2⟩
        have hI := hI.below B2
        have hB2 := hB.trans (B2.mono hB.size)
        clear B2 hB
        go_wp2_with fail
        go_loopw [7, 31] (fun o i ws => ∃ j : Nat, ∃ p : Bool, j ≤ 1 ∧ i = .int .i64 j ∧ o = .bool p ∧ Hid (p = true ↔ ∀ t, t < j → gs.getD t 0 = (cvI gs gs (1)).getD t 0) ∧ Below w2.heap.size w2 ws) (fun _ i _ => 1 - (intOf i).toNat)
        case atStart => exact ⟨0, true, Nat.zero_le _, rfl, rfl, hide ⟨fun _ t ht => absurd ht (by omega), fun _ => rfl⟩, Below.refl _ _⟩
        case round =>
          obtain ⟨j, p, hj, rfl, rfl, HP, hB3⟩ := hrel
          have j0 : (0 : Int) ≤ (j : Int) := Int.natCast_nonneg _
          by_cases hjl : j < 1
          · have j1 : (j : Int) < 1 := by omega
            obtain ⟨ad7, x, rfl, hbd7, hc7, HX⟩ := hI.getB hB3 hjl
            obtain ⟨ad8, y, rfl, hbd8, hc8, HY⟩ := I2.getB hB3 hjl
            cases p
            · have HQ2 := hide (show (false = true ↔ ∀ t, t < j + 1 → gs.getD t 0 = (cvI gs gs (1)).getD t 0) from ⟨(fun h1 => by cases h1), fun h1 => HP.out.2 fun t ht => h1 t (by omega)⟩)
              clear hI I2
              go_wp2
              go_quiet (fail)
              go_wp2
              go_roundw
              case rel => exact ⟨j + 1, false, by omega, by go_num, rfl, HQ2, below_drewN hB3 _⟩
              case measure => (simp [intOf] <;> omega)
            · have HQ2 := hide (show ((x == y) = true ↔ ∀ t, t < j + 1 → gs.getD t 0 = (cvI gs gs (1)).getD t 0) from ⟨fun h1 t ht => by
                rcases (show t < j ∨ t = j by omega) with h3 | rfl
                · exact HP.out.1 rfl t h3
                · rw [getD_of HX.out, getD_of HY.out]; simpa using h1, fun h1 => by
                  have := h1 j (by omega)
                  rw [getD_of HX.out, getD_of HY.out] at this; simpa using this⟩)
              clear hI I2
              go_wp2
              go_quiet (fail)
              go_wp2
              go_roundw
              case rel => exact ⟨j + 1, _, by omega, by go_num, rfl, HQ2, below_drewN hB3 _⟩
              case measure => (simp [intOf] <;> omega)
          · obtain rfl : j = 1 := by omega
            have hI := hI.below hB3
            have I2 := I2.below hB3
            have hB4 := hide (hB2.trans (hB3.mono hB2.size))
            clear hB2 hB3
            cases p
            · have HS := hide (show Inv xs (cvI gs gs (1)) from by have := inv_step HV.out (by rw [HL.out]; omega); rwa [HL.out] at this)
              have HM := hide (show sumN (cvI gs gs (1)) (1) < gk from by
                rw [HK.out]
                have hle : ∀ t, t < 1 → 0 ≤ (cvI gs gs (1)).getD t 0 ∧ (cvI gs gs (1)).getD t 0 ≤ gs.getD t 0 := fun t ht => by
                  refine ⟨(HS.out.b t (by rw [HL.out]; exact ht)).1, ?_⟩
                  rw [← cv_get ht]; exact inv_le HV.out (by rw [HL.out]; exact ht)
                refine sum_lt _ hle ?_
                have h1 : ¬ ∀ t, t < 1 → gs.getD t 0 = (cvI gs gs (1)).getD t 0 := fun h2 => by have := HP.out.2 h2; cases this
                have h2 := Classical.not_forall.1 h1
                obtain ⟨t, ht⟩ := h2
                by_cases h3 : t < 1
                · refine ⟨t, h3, ?_⟩
                  have := (hle t h3).2
                  have h4 : gs.getD t 0 ≠ (cvI gs gs (1)).getD t 0 := fun e => ht (fun _ => e)
                  omega
                · exact absurd (fun h4 => absurd h4 h3) ht)
              clear hI
              go_wp2
              go_roundg (sumN (cvI gs gs (1)) (1))
              case rel => exact ⟨b2, d2, _, rfl, I2, HS, hide rfl, hB4.out⟩
              case measure => exact HM.out
            · have HE := hide (show gs = clI xs from inv_fix HV.out (fun t ht => by
                rw [HL.out] at ht
                rw [HP.out.1 rfl t ht, ← cv_get ht]))
              clear I2
              go_wp2
              go_ret
              exact ⟨_, _, _, rfl, HE.out ▸ hI, hB4.out⟩
  · have hc4 : (1 : Int) < (c : Int) := by omega
    have hc5 : ¬ ((c : Int) = 1) := by omega
    have J := h.drop 1 (by omega)
    clear hc1 hc3
    go_enter Try.func45, Try.ntmps45
    go_wp2
    go_loopw [3, 16] (fun v i wr => ∃ k : Nat, k ≤ n ∧ i = .int .i64 k ∧ wr.ownsRow w.heap.size 3 1 v (k + 1) (((gst xs).take (k + 1)).map (Value.int .i64)) ∧ Below w.heap.size w wr) (fun _ i _ => n - (intOf i).toNat)
    case atStart => exact ⟨0, Nat.zero_le _, rfl, own_one w w.heap.size _ 0 (gst xs) (by rw [HQ.out]; omega) HG0.out (Nat.le_refl _), (Below.refl _ _).alloc (Nat.le_refl _) _⟩
    case round =>
      obtain ⟨k, hk, rfl, hown, hB⟩ := hrel
      have k0 : (0 : Int) ≤ (k : Int) := Int.natCast_nonneg _
      have hBs := hB.size
      by_cases hlt : k < n
      · have k1 : (k : Int) < (n : Int) := by omega
        obtain ⟨ad5, x, he5, hbd, hc, HX⟩ := J.getB hB (show k < n + 1 - 1 by omega)
        obtain rfl : ad5 = ad.add 1 := by injection he5 with he5; exact he5.symm
        have e1 : ad.add 1 = ⟨ad.block, ad.off + 1, none⟩ := by unfold Addr.add; simp
        rw [e1, show (⟨ad.block, ad.off + 1, none⟩ : Addr).add k = ⟨ad.block, ad.off + 1 + k, none⟩ by unfold Addr.add; split <;> simp_all] at hc
        have HN := hide (show fitI x = (gst xs).getD (k + 1) 0 by
          rw [gst_get (by rw [HL.out]; omega), if_neg (by omega)]
          have := HX.out
          rw [List.getElem?_drop, show 1 + k = k + 1 by omega] at this
          rw [getD_of this])
        clear h J e1 he5
        go_wp2_with (first | (go_at_call 89; refine (rfit_any _ _).mono ?_; rintro e w' ⟨rfl, rfl⟩) | (at_builtin; refine wpList_append_own _ rfl _ _ 30 rfl w.heap.size 3 i0 (.int .i64 0) 1 8 Try.underlying30 hi0 hz0 hz1 hz2 rfl (by decide) _ _ _ rfl (hown.alloc _) ⟨wr.heap.size, 0, none⟩ 1 1 [.int .i64 (fitI x)] rfl rfl (cell_one_new _ _ _) (by simp [Value.oneCell']) (by unfold maxLen; omega) (by omega) (by simp; omega) ?_; intro v' w1 hown1 hgrow _))
        go_wp2
        go_roundw
        case rel => exact ⟨k + 1, by omega, by go_num, own_next (by rw [HQ.out]; omega) HN.out hown1, (hB.alloc hBs _).grown hgrow (by simp; omega) (own_row hown)⟩
        case measure => (simp [intOf] <;> omega)
      · obtain rfl : k = n := by omega
        obtain ⟨b, d, hv, hI⟩ := IntsAt.of_own (own_all HQ.out.symm hown) (by rw [HQ.out]; omega)
        subst hv
        rw [HQ.out] at hI ⊢
        clear h J hown hBs
        go_wp2
        go_loopg [3] (sumN (gst xs) (k + 1)) (fun gk v wr => ∃ b d gs, v = .slice b (k + 1) d ∧ IntsAt wr b (k + 1) d gs ∧ Hid (Inv xs gs) ∧ Hid (gk = sumN gs (k + 1)) ∧ Below w.heap.size w wr)
        case atStart => exact ⟨b, d, gst xs, rfl, hI, hide (inv_start (by rw [HL.out]; omega)), hide rfl, hB⟩
        case round =>
          clear hI hB
          obtain ⟨b, d, gs, rfl, hI, HV, HK, hB⟩ := hrel
          go_wp2_with fail
          refine (econv_self _ _ _ _ _ hI).mono ?_
          rintro e w2 ⟨b2, d2, rfl, I2, B2⟩
          have hI := hI.below B2
          have hB2 := hB.trans (B2.mono hB.size)
          clear B2 hB
          go_wp2_with fail
          go_loopw [7, 31] (fun o i ws => ∃ j : Nat, ∃ p : Bool, j ≤ k + 1 ∧ i = .int .i64 j ∧ o = .bool p ∧ Hid (p = true ↔ ∀ t, t < j → gs.getD t 0 = (cvI gs gs (k + 1)).getD t 0) ∧ Below w2.heap.size w2 ws) (fun _ i _ => k + 1 - (intOf i).toNat)
          case atStart => exact ⟨0, true, Nat.zero_le _, rfl, rfl, hide ⟨fun _ t ht => absurd ht (by omega), fun _ => rfl⟩, Below.refl _ _⟩
          case round =>
            obtain ⟨j, p, hj, rfl, rfl, HP, hB3⟩ := hrel
            have j0 : (0 : Int) ≤ (j : Int) := Int.natCast_nonneg _
            by_cases hjl : j < k + 1
            · have j1 : (j : Int) < (k : Int) + 1 := by omega
              obtain ⟨ad7, x, rfl, hbd7, hc7, HX⟩ := hI.getB hB3 hjl
              obtain ⟨ad8, y, rfl, hbd8, hc8, HY⟩ := I2.getB hB3 hjl
              cases p
              · have HQ2 := hide (show (false = true ↔ ∀ t, t < j + 1 → gs.getD t 0 = (cvI gs gs (k + 1)).getD t 0) from ⟨(fun h1 => by cases h1), fun h1 => HP.out.2 fun t ht => h1 t (by omega)⟩)
                clear hI I2
                go_wp2
                go_quiet (fail)
                go_wp2
                go_roundw
                case rel => exact ⟨j + 1, false, by omega, by go_num, rfl, HQ2, below_drewN hB3 _⟩
                case measure => (simp [intOf] <;> omega)
              · have HQ2 := hide (show ((x == y) = true ↔ ∀ t, t < j + 1 → gs.getD t 0 = (cvI gs gs (k + 1)).getD t 0) from ⟨fun h1 t ht => by
                  rcases (show t < j ∨ t = j by omega) with h3 | rfl
                  · exact HP.out.1 rfl t h3
                  · rw [getD_of HX.out, getD_of HY.out]; simpa using h1, fun h1 => by
                    have := h1 j (by omega)
                    rw [getD_of HX.out, getD_of HY.out] at this; simpa using this⟩)
                clear hI I2
                go_wp2
                go_quiet (fail)
                go_wp2
                go_roundw
                case rel => exact ⟨j + 1, _, by omega, by go_num, rfl, HQ2, below_drewN hB3 _⟩
                case measure => (simp [intOf] <;> omega)
            · obtain rfl : j = k + 1 := by omega
              have hI := hI.below hB3
              have I2 := I2.below hB3
              have hB4 := hide (hB2.trans (hB3.mono hB2.size))
              clear hB2 hB3
              cases p
              · have HS := hide (show Inv xs (cvI gs gs (k + 1)) from by have := inv_step HV.out (by rw [HL.out]; omega); rwa [HL.out] at this)
                have HM := hide (show sumN (cvI gs gs (k + 1)) (k + 1) < gk from by
                  rw [HK.out]
                  have hle : ∀ t, t < k + 1 → 0 ≤ (cvI gs gs (k + 1)).getD t 0 ∧ (cvI gs gs (k + 1)).getD t 0 ≤ gs.getD t 0 := fun t ht => by
                    refine ⟨(HS.out.b t (by rw [HL.out]; exact ht)).1, ?_⟩
                    rw [← cv_get ht]; exact inv_le HV.out (by rw [HL.out]; exact ht)
                  refine sum_lt _ hle ?_
                  have h1 : ¬ ∀ t, t < k + 1 → gs.getD t 0 = (cvI gs gs (k + 1)).getD t 0 := fun h2 => by have := HP.out.2 h2; cases this
                  have h2 := Classical.not_forall.1 h1
                  obtain ⟨t, ht⟩ := h2
                  by_cases h3 : t < k + 1
                  · refine ⟨t, h3, ?_⟩
                    have := (hle t h3).2
                    have h4 : gs.getD t 0 ≠ (cvI gs gs (k + 1)).getD t 0 := fun e => ht (fun _ => e)
                    omega
                  · exact absurd (fun h4 => absurd h4 h3) ht)
                clear hI
                go_wp2
                go_roundg (sumN (cvI gs gs (k + 1)) (k + 1))
                case rel => exact ⟨b2, d2, _, rfl, I2, HS, hide rfl, hB4.out⟩
                case measure => exact HM.out
              · have HE := hide (show gs = clI xs from inv_fix HV.out (fun t ht => by
                  rw [HL.out] at ht
                  rw [HP.out.1 rfl t ht, ← cv_get ht]))
                clear I2
                go_wp2
                go_ret
                exact ⟨_, _, _, rfl, HE.out ▸ hI, hB4.out⟩

end Go.Proofs.Ythokolfgagkmiaa
