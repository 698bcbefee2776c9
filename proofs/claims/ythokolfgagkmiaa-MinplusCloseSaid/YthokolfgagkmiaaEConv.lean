/-
  WALKS: the reference's EConv.
-/
import Derived.Test.YthokolfgagkmiaaConv
import Derived.OwnWalk
namespace Go.Proofs.Ythokolfgagkmiaa
open Go.RowKit
set_option linter.unusedSimpArgs false
set_option linter.unusedVariables false

attribute [local go_sem] iteMin iteMax iteMinN iteMaxN

set_option maxRecDepth 100000 in
set_option maxHeartbeats 8000000 in
theorem econv_any (a a' : Option Addr) (n n' c c' : Nat) (xs ys : List Int) (w : World) (h : IntsAt w a n c xs) (h' : IntsAt w a' n' c' ys) :
    Calls Try.prog 51 #[.slice a n c, .slice a' n' c'] w fun e w' => ∃ b m d, e = .returned (.slice b m d) ∧ IntsAt w' b m d (cvI xs ys (min n n')) ∧ Below w.heap.size w w' := by
  obtain ⟨i0, hi0, hz0, hz1, hz2⟩ := info_parts intInfoMp
  have hn := h.lim
  have hn' := h'.lim
  obtain ⟨N, hN⟩ : ∃ N, min n n' = N := ⟨_, rfl⟩
  have hNz : min (n : Int) (n' : Int) = (N : Int) := by omega
  have H1 : N ≤ n := by omega
  have H2 : N ≤ n' := by omega
  have H3 : N ≤ 17592186044416 := by omega
  rw [hN]
  clear hN
  obtain ⟨G, hG⟩ : ∃ G, w.heap.size = G := ⟨_, rfl⟩
  have HG := hide hG
  go_enter Try.func51, Try.ntmps51
  go_wp2_with (at_make; refine wpList_make_full _ rfl _ _ 30 rfl w.heap.size 3 i0 (.int .i64 0) 1 Try.underlying30 hi0 hz0 hz1 .i64 .i64 _ _ N rfl rfl (by first | rfl | exact hNz) (by first | rfl | exact hNz) (by rw [hz2]; omega) (by unfold maxLen; omega) (Nat.le_refl _) ?_; intro w1 hown hgrow)
  have hT := OwnTab.made hown
  have hBw : Below w.heap.size w w1 := (Below.refl _ _).grown hgrow (Nat.le_refl _) (fun k hk => by cases hk)
  rw [hG] at hT
  clear hown hgrow hG
  go_wp2
  go_loopw [20] (fun i wr => ∃ k : Nat, k ≤ N ∧ i = .int .i64 k ∧ OwnTab wr G 3 G N (fun t => if t < k then 1152921504606846976 else 0) ∧ Below G w wr) (fun i _ => N - (intOf i).toNat)
  case atStart => exact ⟨0, Nat.zero_le _, rfl, hT.eq (fun t _ => by simp), HG.out ▸ hBw⟩
  case round =>
    clear hT hBw
    obtain ⟨k, hk, rfl, hT, hB⟩ := hrel
    have k0 : (0 : Int) ≤ (k : Int) := Int.natCast_nonneg _
    by_cases hlt : k < N
    · have k1 : (k : Int) < (N : Int) := by omega
      have hc := hT.cell hlt
      have hf := hT.free k
      clear h h'
      go_wp2
      go_roundw
      case rel => exact ⟨k + 1, by omega, by go_num, hT.set hlt (by simp) (fun t ht hne => by rcases Nat.lt_or_ge t k with h1 | h1 <;> simp [show t < k + 1 ↔ t < k by omega]), hB.setCell (by simp) _⟩
      case measure => (simp [intOf] <;> omega)
    · obtain rfl : k = N := by omega
      have hT : OwnTab wr G 3 G k (ecP xs ys 0 0) := hT.eq (fun t ht => by rw [ec_zero, if_pos ht])
      go_wp2
      go_loopw [29] (fun i wr => ∃ s : Nat, s ≤ n ∧ i = .int .i64 s ∧ OwnTab wr G 3 G k (ecP xs ys s 0) ∧ Below G w wr) (fun i _ => n - (intOf i).toNat)
      case atStart => exact ⟨0, Nat.zero_le _, rfl, hT, hB⟩
      case round =>
        clear hT hB
        obtain ⟨s, hs, rfl, hT, hB⟩ := hrel
        have s0 : (0 : Int) ≤ (s : Int) := Int.natCast_nonneg _
        by_cases hsl : s < n
        · have s1 : (s : Int) < (n : Int) := by omega
          obtain ⟨ad, x, rfl, hbd, hc, HX⟩ := h.getB (HG.out ▸ hB) hsl
          go_wp2
          go_loopw [36] (fun i wr => ∃ u : Nat, u ≤ n' ∧ i = .int .i64 u ∧ OwnTab wr G 3 G k (ecP xs ys s u) ∧ Below G w wr) (fun i _ => n' - (intOf i).toNat)
          case atStart => exact ⟨0, Nat.zero_le _, rfl, hT, hB⟩
          case round =>
            clear hT hB hc
            obtain ⟨u, hu, rfl, hT, hB⟩ := hrel
            have u0 : (0 : Int) ≤ (u : Int) := Int.natCast_nonneg _
            by_cases hul : u < n'
            · have u1 : (u : Int) < (n' : Int) := by omega
              obtain ⟨ad', y, rfl, hbd', hc', HY⟩ := h'.getB (HG.out ▸ hB) hul
              have su0 : (0 : Int) ≤ (s : Int) + (u : Int) := by omega
              have hw2 : ((s : Int) + (u : Int)).toNat = s + u := by omega
              by_cases ht : s + u < k
              · have t1 : (s : Int) + (u : Int) < (k : Int) := by omega
                have hcell := hT.cell ht
                have hf := hT.free (s + u)
                have hthis := ec_this xs ys s u
                rw [getD_of HX.out, getD_of HY.out] at hthis
                obtain ⟨z, hz⟩ : ∃ z, ecP xs ys s u (s + u) = z := ⟨_, rfl⟩
                rw [hz] at hthis hcell
                have HTH := hide hthis
                have HZ := hide hz
                have hw : IntKind.i64.wrap ((s : Int) + (u : Int)) = (s : Int) + (u : Int) := IntWalk.i64_in _ (by omega)
                clear h h' hthis hz
                by_cases hv : plusI x y < z
                · go_wp2
                  go_quiet ((go_at_call 37; exact quietL (rplus_any _ _ _)))
                  clear hw
                  go_wp2_with (go_at_call 37; refine (rplus_any _ _ _).mono ?_; rintro e w' ⟨rfl, rfl⟩)
                  go_roundw
                  case rel => exact ⟨u + 1, by omega, by go_num, (hT.drewN _).set ht (by rw [HTH.out]; omega) (fun t ht hne => ec_other hne), (below_drewN hB _).setCell (by simp) _⟩
                  case measure => (simp [intOf] <;> omega)
                · go_wp2
                  go_quiet ((go_at_call 37; exact quietL (rplus_any _ _ _)))
                  clear hw
                  go_wp2
                  go_roundw
                  case rel => exact ⟨u + 1, by omega, by go_num, (hT.drewN _).eq (fun t ht => by
                    by_cases e : t = s + u
                    · subst e; rw [HTH.out, HZ.out]; omega
                    · exact ec_other e), below_drewN hB _⟩
                  case measure => (simp [intOf] <;> omega)
              · have t1 : (k : Int) ≤ (s : Int) + (u : Int) := by omega
                have h5 : decide ((s : Int) + (u : Int) < (k : Int)) = false := by simp; omega
                clear h h'
                go_wp2
                go_quiet (fail)
                go_wp2
                go_roundw
                case rel => exact ⟨u + 1, by omega, by go_num, (hT.drewN _).eq (fun t ht' => ec_other (by omega)), below_drewN hB _⟩
                case measure => (simp [intOf] <;> omega)
            · obtain rfl : u = n' := by omega
              clear h h'
              go_wp2
              go_roundw
              case rel => exact ⟨s + 1, by omega, by go_num, hT.eq (fun t ht => (ec_row (by omega)).symm), hB⟩
              case measure => (simp [intOf] <;> omega)
        · obtain rfl : s = n := by omega
          have hT : OwnTab wr G 3 G k (fun t => cvA xs ys t (t + 1)) := hT.eq (fun t ht => (ec_end (by omega)).symm)
          have HI := hide (show IntsAt wr (some ⟨G, 0, none⟩) k k (cvI xs ys k) from hT.ints H3)
          clear h h'
          go_wp2
          go_ret
          exact ⟨_, _, _, rfl, HI.out, HG.out ▸ hB⟩

end Go.Proofs.Ythokolfgagkmiaa
