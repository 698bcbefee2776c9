/-
  WALKS: the reference's IPass.
-/
import Derived.Test.YthokolfgagkmiaaIRight
import Derived.Test.YthokolfgagkmiaaJPass
import Derived.IntWalk
namespace Go.Proofs.Ythokolfgagkmiaa
open Go.RowKit
set_option linter.unusedSimpArgs false
set_option linter.unusedVariables false

theorem own_drewN {w : World} {B : Nat} {e : TypeId} {s : Nat} {v : Value} {n : Nat} {xs : List Value} (h : w.ownsRow B e s v n xs) (q : Nat) : (w.drewN q).ownsRow B e s v n xs := h

set_option maxHeartbeats 1000000 in
theorem iPass_bad (a a' : Option Addr) (n n' c c' : Nat) (xs ys : List Int) (w : World) (h : IntsAt w a n c xs) (h' : IntsAt w a' n' c' ys) (hr : ¬ RightJ xs ys) :
    Calls Try.prog 65 #[.slice a n c, .slice a' n' c'] w fun e w' => e = .returned (.slice none 0 0) ∧ Below w.heap.size w w' := by
  have H := hide (iRight_any a a' n n' c c' xs ys w h h')
  have HR := hide hr
  clear h h' hr
  go_enter Try.func65, Try.ntmps65
  go_wp2_with fail
  refine (callF H.out HR.out).mono ?_
  rintro e w1 ⟨rfl, hB⟩
  go_wp2
  go_ret
  exact ⟨rfl, hB⟩

set_option maxRecDepth 100000 in
set_option maxHeartbeats 4000000 in
theorem iPass_ok (a a' : Option Addr) (n n' c c' : Nat) (xs ys : List Int) (w : World) (h : IntsAt w a n c xs) (h' : IntsAt w a' n' c' ys) (hr : RightJ xs ys) :
    Calls Try.prog 65 #[.slice a n c, .slice a' n' c'] w fun e w' => ∃ b m d, e = .returned (.slice b m d) ∧ IntsAt w' b m d (passJ xs ys) ∧ Below w.heap.size w w' := by
  obtain ⟨i0, hi0, hz0, hz1, hz2⟩ := info_parts intInfoJ
  have H := hide (iRight_any a a' n n' c c' xs ys w h h')
  have HQ := hide (show (passJ xs ys).length = n by rw [pass_len, h.len])
  have HL := hide h.len
  have HBD := hide (last_bd hr.2.1 hr.2.2.1)
  have HS1 := hide hr.2.1
  have HS2 := hide hr.2.2.1
  have hlim := h.lim
  have hnn : n' = n := by rw [← h.len, ← h'.len, hr.1]
  subst hnn
  have HR := hide hr
  clear hr
  go_enter Try.func65, Try.ntmps65
  go_wp2_with fail
  refine (callT H.out HR.out).mono ?_
  rintro e w1 ⟨rfl, B1⟩
  go_wp2
  go_loopw [5, 15] (fun v i wr => ∃ k : Nat, k ≤ n' ∧ i = .int .i64 k ∧ wr.ownsRow w.heap.size 3 1 v k (((passJ xs ys).take k).map (Value.int .i64)) ∧ Below w.heap.size w wr) (fun _ i _ => n' - (intOf i).toNat)
  case atStart => exact ⟨0, Nat.zero_le _, rfl, own_start _ _ _ _, B1⟩
  case round =>
    obtain ⟨k, hk, rfl, hown, hB⟩ := hrel
    by_cases hlt : k < n'
    · have k0 : (0 : Int) ≤ (k : Int) := Int.natCast_nonneg _
      have k1 : (k : Int) < (n' : Int) := by omega
      have HZ := hide (pass_get xs ys k (by rw [HL.out]; exact hlt))
      obtain ⟨wo, hwo⟩ : ∃ wo : World, wo = wr := ⟨_, rfl⟩
      subst hwo
      go_wp2
      go_loopw [7, 20] (fun s i wr => ∃ j q : Nat, j ≤ k + 1 ∧ i = .int .i64 j ∧ s = .int .i64 (lastJ xs ys j) ∧ wr = wo.drewN q) (fun _ i _ => k + 1 - (intOf i).toNat)
      case atStart => exact ⟨0, 0, Nat.zero_le _, rfl, rfl, rfl⟩
      case round =>
        obtain ⟨j, q, hj, rfl, rfl, rfl⟩ := hrel
        by_cases hjl : j < k + 1
        · obtain ⟨ad, x, rfl, hbd, hc, HX⟩ := h.getB hB (show j < n' by omega)
          obtain ⟨ad', y, rfl, hbd', hc', HY⟩ := h'.getB hB (show j < n' by omega)
          have j0 : (0 : Int) ≤ (j : Int) := Int.natCast_nonneg _
          have j1 : (j : Int) < (k : Int) + 1 := by omega
          have j2 : (j : Int) < (n' : Int) := by omega
          obtain ⟨x0, x1⟩ := small_at HS1.out HX.out
          obtain ⟨y0, y1⟩ := small_at HS2.out HY.out
          obtain ⟨l0, l1⟩ := HBD.out j
          have HN := hide (show lastJ xs ys (j + 1) = if lastJ xs ys j < x + y then x + y else lastJ xs ys j by rw [lastJ, getD_of HX.out, getD_of HY.out])
          obtain ⟨l, hl⟩ : ∃ l, lastJ xs ys j = l := ⟨_, rfl⟩
          rw [hl] at l0 l1
          have HLK := hide hl
          rw [hl]
          clear h h' hl
          by_cases hxy : l < x + y
          · go_wp2
            have hwr : IntKind.i64.wrap (x + y) = x + y := IntWalk.i64_in _ (by omega)
            go_quiet (fail)
            clear hwr
            go_wp2
            go_roundw
            case rel => exact ⟨j + 1, _, by omega, by go_num, by rw [HN.out, HLK.out, if_pos hxy], rfl⟩
            case measure => simp [intOf]; omega
          · have hxy' : x + y ≤ l := by omega
            go_wp2
            have hwr : IntKind.i64.wrap (x + y) = x + y := IntWalk.i64_in _ (by omega)
            go_quiet (fail)
            clear hwr
            go_wp2
            go_roundw
            case rel => exact ⟨j + 1, _, by omega, by go_num, by rw [HN.out, HLK.out, if_neg (by omega)], rfl⟩
            case measure => simp [intOf]; omega
        · obtain rfl : j = k + 1 := by omega
          clear h h'
          obtain ⟨l, hl⟩ : ∃ l, lastJ xs ys (k + 1) = l := ⟨_, rfl⟩
          rw [hl] at HZ
          rw [hl]
          have hBs := hB.size
          clear hl
          go_wp2_with (at_builtin; refine wpList_append_own _ rfl _ _ 30 rfl w.heap.size 3 i0 (.int .i64 0) 1 8 Try.underlying30 hi0 hz0 hz1 hz2 rfl (by decide) _ _ _ rfl ((own_drewN hown q).alloc _) ⟨wo.heap.size, 0, none⟩ 1 1 [.int .i64 (l)] rfl rfl (cell_one_new _ _ _) (by simp [Value.oneCell']) (by unfold maxLen; omega) (by omega) (by simp; omega) ?_; intro v' w1 hown1 hgrow _)
          go_wp2
          go_roundw
          case rel => exact ⟨k + 1, by omega, by go_num, own_next (by rw [HQ.out]; omega) HZ.out hown1, ((below_drewN hB q).alloc hBs _).grown hgrow (by simp; omega) (own_row hown)⟩
          case measure => simp [intOf]; omega
    · obtain ⟨b, d, hv, hI⟩ := IntsAt.of_own (own_all (by rw [HQ.out]; omega) hown) (by rw [HQ.out]; omega)
      subst hv
      clear h h' hown
      go_wp2
      go_ret
      exact ⟨b, _, d, rfl, hI, hB⟩

end Go.Proofs.Ythokolfgagkmiaa
