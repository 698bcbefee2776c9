/-
  WALKS: curve.Of.
-/
import Derived.Test.YtdlljemabbccjaaNum
import Derived.Test.YtdlljemabbccjaaPCurve
namespace Go.Proofs.Ytdlljemabbccjaa
open Go.RowKit
set_option linter.unusedSimpArgs false
set_option linter.unusedVariables false

theorem intInfo : (Try.prog.info? 3).map (fun i => (i.zero, i.size, i.bytes)) = some (some (.int .i64 0), 1, 8) := by kernel_rfl
theorem plusF_any (a b : Int) (w : World) : Calls Try.prog 15 #[.int .i64 a, .int .i64 b] w fun e w' => e = .returned (.int .i64 (plusI a b)) ∧ w = w' := plus_any a b w

set_option maxHeartbeats 2000000 in
theorem of_any (a : Option Addr) (n c : Nat) (xs : List Int) (w : World) (h : IntsAt w a n c xs) (hlim : n + 1 ≤ 17592186044416) :
    Calls Try.prog 68 #[.slice a n c] w fun e w' => ∃ b m d, e = .returned (.slice b m d) ∧ IntsAt w' b m d (ofI xs) ∧ Below w.heap.size w w' := by
  obtain ⟨i0, hi0, hz0, hz1, hz2⟩ := info_parts intInfo
  have HQ := hide (show (ofI xs).length = n + 1 by rw [of_len, h.len])
  have HL := hide h.len
  have H0 := hide (show (0 : Int) = (ofI xs).getD 0 0 from (pre_zero xs).symm.trans (of_get xs 0 (Nat.zero_le _)))
  go_enter Try.func68, Try.ntmps68
  go_wp2
  go_loopw [3, 9] (fun v i wr => ∃ k : Nat, k ≤ n ∧ i = .int .i64 k ∧ wr.ownsRow w.heap.size 3 1 v (k + 1) (((ofI xs).take (k + 1)).map (Value.int .i64)) ∧ Below w.heap.size w wr) (fun _ i _ => n - (intOf i).toNat)
  case atStart => exact ⟨0, Nat.zero_le _, rfl, own_one w w.heap.size _ 0 (ofI xs) (by rw [HQ.out]; omega) H0.out (Nat.le_refl _), (Below.refl _ _).alloc (Nat.le_refl _) _⟩
  case round =>
    obtain ⟨k, hk, rfl, hown, hB⟩ := hrel
    by_cases hlt : k < n
    · obtain ⟨ad, x, rfl, hbd, hc, HX⟩ := h.getB hB hlt
      have k0 : (0 : Int) ≤ (k : Int) := Int.natCast_nonneg _
      have k1 : (k : Int) < (n : Int) := by omega
      have hBs := hB.size
      obtain ⟨g, cap, hv, hg1, hg2, hcap, hcl, _⟩ := own_form hown
      subst hv
      obtain ⟨y, hy⟩ : ∃ y, preI xs k = y := ⟨_, rfl⟩
      have hcy : wr.cell? ⟨g, k, none⟩ = some (.int .i64 y) := hcl k _ (by
        rw [List.getElem?_map, List.getElem?_take, if_pos (by omega)]
        have e1 := of_get xs k (by rw [HL.out]; omega)
        have e2 : k < (ofI xs).length := by rw [HQ.out]; omega
        rw [List.getD_eq_getElem?_getD, List.getElem?_eq_getElem e2] at e1
        rw [List.getElem?_eq_getElem e2]
        simp at e1; rw [← hy, e1]; rfl)
      have HZ := hide (show plusI y x = (ofI xs).getD (k + 1) 0 by rw [← hy, pre_succ xs k x HX.out]; exact of_get xs (k + 1) (by rw [HL.out]; omega))
      clear hcl h hy
      go_wp2_with (first | (go_at_call 15; refine (plusF_any _ _ _).mono ?_; rintro e w1 ⟨rfl, rfl⟩) | (at_builtin; refine wpList_append_own _ rfl _ _ 24 rfl w.heap.size 3 i0 (.int .i64 0) 1 8 Try.underlying24 hi0 hz0 hz1 hz2 rfl (by decide) _ _ _ rfl (hown.alloc _) ⟨wr.heap.size, 0, none⟩ 1 1 [.int .i64 (plusI y x)] rfl rfl (cell_one_new _ _ _) (by simp [Value.oneCell']) (by unfold maxLen; omega) (by omega) (by simp; omega) ?_; intro v' w1 hown1 hgrow _))
      go_wp2
      go_roundw
      case rel => exact ⟨k + 1, by omega, by go_num, own_next (by rw [HQ.out]; omega) HZ.out hown1, (hB.alloc hBs _).grown hgrow (by simp; omega) (own_row hown)⟩
      case measure => simp [intOf]; omega
    · obtain ⟨b, d, hv, hI⟩ := IntsAt.of_own (own_all (by rw [HQ.out]; omega) hown) (by rw [HQ.out]; omega)
      subst hv
      clear h hown
      go_wp2
      go_ret
      exact ⟨b, _, d, rfl, hI, hB⟩

end Go.Proofs.Ytdlljemabbccjaa
