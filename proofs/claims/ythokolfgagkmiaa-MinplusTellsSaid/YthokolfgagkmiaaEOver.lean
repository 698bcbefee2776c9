/-
  WALKS: the reference's EOver.
-/
import Derived.Test.YthokolfgagkmiaaConv
import Derived.OwnWalk
namespace Go.Proofs.Ythokolfgagkmiaa
open Go.RowKit
set_option linter.unusedSimpArgs false
set_option linter.unusedVariables false

attribute [local go_sem] iteMin iteMax iteMinN iteMaxN

set_option maxRecDepth 100000 in
set_option maxHeartbeats 8000000 in
theorem eover_any (a a' : Option Addr) (n n' c c' : Nat) (xs ys : List Int) (w : World) (h : IntsAt w a n c xs) (h' : IntsAt w a' n' c' ys) :
    Calls Try.prog 53 #[.slice a n c, .slice a' n' c'] w fun e w' => ∃ b m d, e = .returned (.slice b m d) ∧ IntsAt w' b m d (ovI xs ys n n') ∧ Below w.heap.size w w' := by
  obtain ⟨i0, hi0, hz0, hz1, hz2⟩ := info_parts intInfoMp
  have hn := h.lim
  have hn' := h'.lim
  have hNz : True := trivial
  obtain ⟨G, hG⟩ : ∃ G, w.heap.size = G := ⟨_, rfl⟩
  have HG := hide hG
  go_enter Try.func53, Try.ntmps53
  go_wp2_with (at_make; refine wpList_make_full _ rfl _ _ 30 rfl w.heap.size 3 i0 (.int .i64 0) 1 Try.underlying30 hi0 hz0 hz1 .i64 .i64 _ _ n rfl rfl (by first | rfl | exact hNz) (by first | rfl | exact hNz) (by rw [hz2]; omega) (by unfold maxLen; omega) (Nat.le_refl _) ?_; intro w1 hown hgrow)
  have hT := OwnTab.made hown
  have hBw : Below w.heap.size w w1 := (Below.refl _ _).grown hgrow (Nat.le_refl _) (fun k hk => by cases hk)
  rw [hG] at hT
  clear hown hgrow hG
  go_wp2
  go_loopw [16] (fun i wr => ∃ s : Nat, s ≤ n ∧ i = .int .i64 s ∧ OwnTab wr G 3 G n (eoP xs ys n' s 0) ∧ Below G w wr) (fun i _ => n - (intOf i).toNat)
  case atStart => exact ⟨0, Nat.zero_le _, rfl, hT.eq (fun t ht => eo_zero _ _ _ _), HG.out ▸ hBw⟩
  case round =>
    clear hT hBw
    obtain ⟨s, hs, rfl, hT, hB⟩ := hrel
    have s0 : (0 : Int) ≤ (s : Int) := Int.natCast_nonneg _
    by_cases hsl : s < n
    · have s1 : (s : Int) < (n : Int) := by omega
      obtain ⟨ad, x, rfl, hbd, hc, HX⟩ := h.getB (HG.out ▸ hB) hsl
      go_wp2
      go_loopw [23] (fun i wr => ∃ u : Nat, u ≤ n' ∧ i = .int .i64 u ∧ OwnTab wr G 3 G n (eoP xs ys n' s u) ∧ Below G w wr) (fun i _ => n' - (intOf i).toNat)
      case atStart => exact ⟨0, Nat.zero_le _, rfl, hT, hB⟩
      case round =>
        clear hT hB hc
        obtain ⟨u, hu, rfl, hT, hB⟩ := hrel
        have u0 : (0 : Int) ≤ (u : Int) := Int.natCast_nonneg _
        by_cases hul : u < n'
        · have u1 : (u : Int) < (n' : Int) := by omega
          obtain ⟨ad', y, rfl, hbd', hc', HY⟩ := h'.getB (HG.out ▸ hB) hul
          by_cases ht : u ≤ s
          · obtain ⟨q, hsq⟩ : ∃ q, s = q + u := ⟨s - u, by omega⟩
            have hq : q < n := by omega
            have hcell := hT.cell hq
            have hf := hT.free q
            have hthis := eo_this (xs := xs) (ys := ys) (t := q) hul
            rw [← hsq, getD_of HX.out, getD_of HY.out] at hthis
            obtain ⟨z, hz⟩ : ∃ z, eoP xs ys n' s u q = z := ⟨_, rfl⟩
            rw [hz] at hthis hcell
            have HTH := hide hthis
            have HZ := hide hz
            have q0 : (0 : Int) ≤ (q : Int) := Int.natCast_nonneg _
            have q1 : (q : Int) < (n : Int) := by omega
            have q2 : (s : Int) - (u : Int) = (q : Int) := by omega
            have q3 : IntKind.i64.wrap (q : Int) = (q : Int) := IntWalk.i64_in _ (by omega)
            have q4 : IntKind.i64.wrap ((s : Int) - (u : Int)) = (q : Int) := by rw [q2]; exact q3
            have HSQ := hide hsq
            clear h h' hthis hz hsq
            by_cases hv : z < lessI x y
            · go_wp2
              go_quiet ((go_at_call 92; exact quietL (rless_any _ _ _)))
              clear q3 q4 q2
              go_wp2_with (go_at_call 92; refine (rless_any _ _ _).mono ?_; rintro e w' ⟨rfl, rfl⟩)
              go_roundw
              case rel => exact ⟨u + 1, by omega, by go_num, (hT.drewN _).set hq (by rw [HTH.out]; omega) (fun t ht hne => eo_other (by have := HSQ.out; omega)), (below_drewN hB _).setCell (by simp) _⟩
              case measure => (simp [intOf] <;> omega)
            · go_wp2
              go_quiet ((go_at_call 92; exact quietL (rless_any _ _ _)))
              clear q3 q4 q2
              go_wp2
              go_roundw
              case rel => exact ⟨u + 1, by omega, by go_num, (hT.drewN _).eq (fun t ht => by
                by_cases e : t = q
                · subst e; rw [HTH.out, HZ.out]; omega
                · exact eo_other (by have := HSQ.out; omega)), below_drewN hB _⟩
              case measure => (simp [intOf] <;> omega)
          · have t1 : (s : Int) - (u : Int) < 0 := by omega
            have h5 : decide ((0 : Int) ≤ (s : Int) - (u : Int)) = false := by simp; omega
            clear h h'
            go_wp2
            go_quiet (fail)
            go_wp2
            go_roundw
            case rel => exact ⟨u + 1, by omega, by go_num, (hT.drewN _).eq (fun t ht' => eo_other (by omega)), below_drewN hB _⟩
            case measure => (simp [intOf] <;> omega)
        · obtain rfl : u = n' := by omega
          clear h h'
          go_wp2
          go_roundw
          case rel => exact ⟨s + 1, by omega, by go_num, hT.eq (fun t ht => eo_row.symm), hB⟩
          case measure => (simp [intOf] <;> omega)
    · obtain rfl : s = n := by omega
      have hT : OwnTab wr G 3 G s (fun t => ovA xs ys t (min n' (s - t))) := hT.eq (fun t ht => eo_end.symm)
      have HI := hide (show IntsAt wr (some ⟨G, 0, none⟩) s s (ovI xs ys s n') from hT.ints hn)
      clear h h'
      go_wp2
      go_ret
      exact ⟨_, _, _, rfl, HI.out, HG.out ▸ hB⟩

end Go.Proofs.Ythokolfgagkmiaa
