/-
  WALKS: queue.Delays.
-/
import Derived.Test.YtdlljemabbccjaaPDelay
import Derived.Test.YtdlljemabbccjaaPlay
import Derived.Test.YtdlljemabbccjaaOf
import Derived.Test.YtdlljemabbccjaaMin
namespace Go.Proofs.Ytdlljemabbccjaa
open Go.RowKit
set_option linter.unusedSimpArgs false
set_option linter.unusedVariables false

attribute [local go_sem] iteMin iteMax iteMinN iteMaxN

theorem intInfoDl : (Try.prog.info? 3).map (fun i => (i.zero, i.size, i.bytes)) = some (some (.int .i64 0), 1, 8) := by kernel_rfl

def GivesP (f : FuncId) (r m : Int) (xs A B C : List Int) : Prop := ∀ (a : Option Addr) (n c : Nat) (w : World), IntsAt w a n c xs → (a = none → n = 0 ∧ c = 0) → n + 2 ≤ 17592186044416 →
    Calls Try.prog f #[.int .i64 r, .int .i64 m, .slice a n c] w fun e w' => Three A B C e w' ∧ Below w.heap.size w w'
set_option maxRecDepth 100000 in
set_option maxHeartbeats 8000000 in
theorem delays_any (r : Int) (a : Option Addr) (n c : Nat) (xs A B C : List Int) (w : World) (h : IntsAt w a n c xs) (hno : a = none → n = 0 ∧ c = 0) (hlim : n + 2 ≤ 17592186044416) (P : GivesP 28 r 1099511627776 xs A B C) (hA : A.length = n ∨ A.length = 0) :
    Calls Try.prog 32 #[.int .i64 r, .slice a n c] w fun e w' => ∃ b m d, e = .returned (.slice b m d) ∧ IntsAt w' b m d (dlL (ofI xs) (ofI A) A.length) ∧ Below w.heap.size w w' := by
  obtain ⟨i0, hi0, hz0, hz1, hz2⟩ := info_parts intInfoDl
  have HL := hide h.len
  have HI := hide (show (ofI xs).length = n + 1 by rw [of_len, h.len])
  obtain ⟨N, hN⟩ : ∃ N, A.length = N := ⟨_, rfl⟩
  have HN := hide hN
  have HA := hide hA
  have hNn : N ≤ n := by rcases hA with h1 | h1 <;> omega
  have HO := hide (show (ofI A).length = N + 1 by rw [of_len, hN])
  have HQ := hide (dlL_len (ofI xs) (ofI A) N)
  rw [hN]
  clear hN hA
  go_enter Try.func32, Try.ntmps32
  go_wp2_with fail
  refine (P _ _ _ _ h hno hlim).mono ?_
  rintro e w1 ⟨⟨b1, n1, d1, b2, n2, d2, b3, n3, d3, rfl, I1, I2, I3⟩, B1⟩
  obtain rfl : n1 = N := by rw [← I1.len]; exact HN.out
  have h := h.below B1
  clear I2 I3
  go_wp2_with fail
  refine (of_any _ _ _ _ _ h (by omega)).mono ?_
  rintro e w2 ⟨b4, n4, d4, rfl, I4, B2⟩
  obtain rfl : n4 = n + 1 := by rw [← I4.len]; exact HI.out
  have I1 := I1.below B2
  have C2 := B1.trans (B2.mono B1.size)
  clear h B2
  go_wp2_with fail
  refine (of_any _ _ _ _ _ I1 (by omega)).mono ?_
  rintro e w3 ⟨b5, n5, d5, rfl, I5, B3⟩
  obtain rfl : n5 = n1 + 1 := by rw [← I5.len]; exact HO.out
  have J1 := I4.below B3
  have J2 := I5
  have C3 := hide (C2.trans (B3.mono C2.size))
  have hs3 := (C2.trans (B3.mono C2.size)).size
  clear I1 I4 I5 B1 B3 C2
  go_wp2_with fail
  go_loopw [10, 11, 26] (fun v dv i wr => ∃ k d : Nat, k ≤ n1 ∧ d ≤ n1 + 1 ∧ i = .int .i64 k ∧ dv = .int .i64 d ∧ Hid (∀ e, k ≤ e → e < d → (ofI A).getD e 0 < (ofI xs).getD k 0) ∧ wr.ownsRow w3.heap.size 3 1 v k (((dlL (ofI xs) (ofI A) n1).take k).map (Value.int .i64)) ∧ Below w3.heap.size w3 wr) (fun _ _ i _ => n1 - (intOf i).toNat)
  case atStart => exact ⟨0, 0, Nat.zero_le _, Nat.zero_le _, rfl, rfl, hide fun e _ h => absurd h (by omega), own_start _ _ _ _, Below.refl _ _⟩
  case round =>
    obtain ⟨k, d, hk, hd, rfl, rfl, HD, hown, hB⟩ := hrel
    have k0 : (0 : Int) ≤ (k : Int) := Int.natCast_nonneg _
    have d0 : (0 : Int) ≤ (d : Int) := Int.natCast_nonneg _
    have hBs := hB.size
    by_cases hlt : k < n1
    · have k1 : (k : Int) < (n1 : Int) := by omega
      have HNn : n1 = n := by rcases HA.out with h1 | h1 <;> have := HN.out <;> omega
      obtain ⟨s, hs⟩ : ∃ s, s = max d (k + 1) := ⟨_, rfl⟩
      have hmx : max (d : Int) ((k : Int) + 1) = (s : Int) := by omega
      have hs1 : k + 1 ≤ s := by omega
      have hs2 : s ≤ n1 + 1 := by omega
      have HM := hide (of_mono xs (k := k) (by rw [HL.out]; omega))
      have HS := hide (show ∀ e, k + 1 ≤ e → e < s → (ofI A).getD e 0 < (ofI xs).getD (k + 1) 0 from fun e h1 h2 => by have := HD.out e (by omega) (by omega); have := HM.out; omega)
      have HO2 := hide hown
      clear hs HNn
      go_wp2
      go_loopw [11] (fun dv wr => ∃ d : Nat, s ≤ d ∧ d ≤ n1 + 1 ∧ dv = .int .i64 d ∧ Hid (∀ e, k + 1 ≤ e → e < d → (ofI A).getD e 0 < (ofI xs).getD (k + 1) 0) ∧ Hid (wr.ownsRow w3.heap.size 3 1 u10 k (((dlL (ofI xs) (ofI A) n1).take k).map (Value.int .i64))) ∧ Below w3.heap.size w3 wr) (fun dv _ => n1 + 1 - (intOf dv).toNat)
      case atStart => exact ⟨s, Nat.le_refl _, hs2, rfl, HS, HO2, hB⟩
      case round =>
        clear HO2 hown hB hBs HS HD hmx d0
        obtain ⟨d, hd1, hd2, rfl, HD, HO2, hB⟩ := hrel
        have hBs := hB.size
        have d0 : (0 : Int) ≤ (d : Int) := Int.natCast_nonneg _
        by_cases hdl : d < n1 + 1
        · have d1' : (d : Int) < (n1 : Int) + 1 := by omega
          have k2 : (k : Int) + 1 < (n : Int) + 1 := by omega
          have k3 : (0 : Int) ≤ (k : Int) + 1 := by omega
          have k4 : ((k : Int) + 1).toNat = k + 1 := by omega
          obtain ⟨ad, x, rfl, hbd, hc, HX⟩ := J1.getS hB (show k + 1 < n + 1 by omega)
          obtain ⟨ad', y, rfl, hbd', hc', HY⟩ := J2.getB hB hdl
          clear J1 J2
          by_cases hv : y < x
          · go_wp2
            go_quiet (fail)
            clear k4
            go_wp2
            go_roundw
            case rel => exact ⟨d + 1, by omega, by omega, by go_num, hide fun e h1 h2 => by
              rcases (show e < d ∨ e = d by omega) with h3 | rfl
              · exact HD.out e h1 h3
              · rw [getD_of HX.out, getD_of HY.out]; exact hv, HO2, below_drewN hB _⟩
            case measure => (simp [intOf] <;> omega)
          · have hv' : x ≤ y := by omega
            have HE := hide (show dlQ (ofI xs) (ofI A) n1 k = (d : Int) - k - 1 by
              rw [dlQ_of hlt (by omega) (by omega) HD.out (fun _ => by rw [getD_of HX.out, getD_of HY.out]; exact hv'), if_neg (by omega)])
            have HNx := hide (show (d : Int) - k - 1 = (dlL (ofI xs) (ofI A) n1).getD k 0 by rw [← HE.out]; exact dlL_get hlt)
            have hown := HO2.out
            have e1 : ¬ ((d : Int) = (n1 : Int) + 1) := by omega
            have e2 : ((d : Int) == (n1 : Int) + 1) = false := by simp; omega
            clear hv HO2 HE
            go_wp2
            go_quiet (fail)
            clear k4
            go_wp2_with (at_builtin; refine wpList_append_own _ rfl _ _ 24 rfl w3.heap.size 3 i0 (.int .i64 0) 1 8 Try.underlying24 hi0 hz0 hz1 hz2 rfl (by decide) _ _ _ rfl (hown.alloc _) ⟨wr.heap.size, 0, none⟩ 1 1 [.int .i64 ((d : Int) - k - 1)] rfl rfl (cell_one_new _ _ _) (by simp [Value.oneCell']) (by unfold maxLen; omega) (by omega) (by simp; omega) ?_; intro v' w1 hown1 hgrow _)
            go_wp2
            go_roundw
            case rel => exact ⟨k + 1, d, by omega, by omega, by go_num, rfl, HD, own_next (by rw [HQ.out]; omega) HNx.out hown1, ((below_drewN hB _).alloc (by simp; exact hBs) _).grown hgrow (by simp; omega) (own_row hown)⟩
            case measure => (simp [intOf] <;> omega)
        · obtain rfl : d = n1 + 1 := by omega
          have HE := hide (show dlQ (ofI xs) (ofI A) n1 k = -1 by
            rw [dlQ_of hlt (by omega) (by omega) HD.out (fun h => by omega), if_pos rfl])
          have HNx := hide (show (-1 : Int) = (dlL (ofI xs) (ofI A) n1).getD k 0 by rw [← HE.out]; exact dlL_get hlt)
          have hown := HO2.out
          have h5 : decide ((n1 : Int) + 1 < (n1 : Int) + 1) = false := by simp
          clear HO2 HE J1 J2
          go_wp2
          go_quiet (fail)
          go_wp2_with (at_builtin; refine wpList_append_own _ rfl _ _ 24 rfl w3.heap.size 3 i0 (.int .i64 0) 1 8 Try.underlying24 hi0 hz0 hz1 hz2 rfl (by decide) _ _ _ rfl (hown.alloc _) ⟨wr.heap.size, 0, none⟩ 1 1 [.int .i64 (-1)] rfl rfl (cell_one_new _ _ _) (by simp [Value.oneCell']) (by unfold maxLen; omega) (by omega) (by simp; omega) ?_; intro v' w1 hown1 hgrow _)
          go_wp2
          go_roundw
          case rel => exact ⟨k + 1, n1 + 1, by omega, by omega, by go_num, by go_num, HD, own_next (by rw [HQ.out]; omega) HNx.out hown1, ((below_drewN hB _).alloc (by simp; exact hBs) _).grown hgrow (by simp; omega) (own_row hown)⟩
          case measure => (simp [intOf] <;> omega)
    · obtain rfl : k = n1 := by omega
      obtain ⟨b, d', hv, hI⟩ := IntsAt.of_own (own_all HQ.out.symm hown) (by rw [HQ.out]; omega)
      subst hv
      clear hown J1 J2
      go_wp2
      go_ret
      exact ⟨b, _, d', rfl, (by have := hI; rwa [HQ.out] at this), C3.out.trans (hB.mono hs3)⟩

end Go.Proofs.Ytdlljemabbccjaa
