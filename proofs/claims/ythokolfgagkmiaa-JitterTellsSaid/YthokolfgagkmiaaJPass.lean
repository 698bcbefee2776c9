/-
  WALKS: jitter.Pass.
-/
import Derived.Test.YthokolfgagkmiaaJRight
import Derived.Test.YthokolfgagkmiaaPCurve
namespace Go.Proofs.Ythokolfgagkmiaa
open Go.RowKit
set_option linter.unusedSimpArgs false
set_option linter.unusedVariables false

theorem intInfoJ : (Try.prog.info? 3).map (fun i => (i.zero, i.size, i.bytes)) = some (some (.int .i64 0), 1, 8) := by kernel_rfl

def lastJ (ts ls : List Int) : Nat → Int
  | 0 => 0
  | k + 1 => if lastJ ts ls k < ts.getD k 0 + ls.getD k 0 then ts.getD k 0 + ls.getD k 0 else lastJ ts ls k
def passJ (ts ls : List Int) : List Int := (List.range ts.length).map fun k => lastJ ts ls (k + 1)
theorem pass_len (ts ls : List Int) : (passJ ts ls).length = ts.length := by simp [passJ]
theorem pass_get (ts ls : List Int) (k : Nat) (h : k < ts.length) : lastJ ts ls (k + 1) = (passJ ts ls).getD k 0 := by
  rw [List.getD_eq_getElem?_getD]; simp [passJ, List.getElem?_range, h]
theorem last_bd {ts ls : List Int} (h : Small ts) (h' : Small ls) : ∀ k, 0 ≤ lastJ ts ls k ∧ lastJ ts ls k ≤ 2199023255552 := by
  have g : ∀ {xs : List Int}, Small xs → ∀ k, 0 ≤ xs.getD k 0 ∧ xs.getD k 0 ≤ 1099511627776 := fun {xs} hx k => by
    rw [List.getD_eq_getElem?_getD]
    cases hk : xs[k]? with
    | none => simp
    | some x => exact small_at hx hk
  intro k
  induction k with
  | zero => simp [lastJ]
  | succ k ih => have := g h k; have := g h' k; unfold lastJ; split <;> omega

set_option maxHeartbeats 1000000 in
theorem jPass_bad (a a' : Option Addr) (n n' c c' : Nat) (xs ys : List Int) (w : World) (h : IntsAt w a n c xs) (h' : IntsAt w a' n' c' ys) (hr : ¬ RightJ xs ys) :
    Calls Try.prog 64 #[.slice a n c, .slice a' n' c'] w fun e w' => e = .returned (.slice none 0 0) ∧ Below w.heap.size w w' := by
  have H := hide (jRight_any a a' n n' c c' xs ys w h h')
  have HR := hide hr
  clear h h' hr
  go_enter Try.func64, Try.ntmps64
  go_wp2_with fail
  refine (callF H.out HR.out).mono ?_
  rintro e w1 ⟨rfl, hB⟩
  go_wp2
  go_ret
  exact ⟨rfl, hB⟩

set_option maxRecDepth 100000 in
set_option maxHeartbeats 4000000 in
theorem jPass_ok (a a' : Option Addr) (n n' c c' : Nat) (xs ys : List Int) (w : World) (h : IntsAt w a n c xs) (h' : IntsAt w a' n' c' ys) (hr : RightJ xs ys) :
    Calls Try.prog 64 #[.slice a n c, .slice a' n' c'] w fun e w' => ∃ b m d, e = .returned (.slice b m d) ∧ IntsAt w' b m d (passJ xs ys) ∧ Below w.heap.size w w' := by
  obtain ⟨i0, hi0, hz0, hz1, hz2⟩ := info_parts intInfoJ
  have H := hide (jRight_any a a' n n' c c' xs ys w h h')
  have HQ := hide (show (passJ xs ys).length = n by rw [pass_len, h.len])
  have HL := hide h.len
  have HBD := hide (last_bd hr.2.1 hr.2.2.1)
  have HS1 := hide hr.2.1
  have HS2 := hide hr.2.2.1
  have hlim := h.lim
  have hnn : n' = n := by rw [← h.len, ← h'.len, hr.1]
  subst hnn
  have HR := hide hr
  clear hr
  go_enter Try.func64, Try.ntmps64
  go_wp2_with fail
  refine (callT H.out HR.out).mono ?_
  rintro e w1 ⟨rfl, B1⟩
  go_wp2
  go_loopw [5, 6, 15] (fun v s i wr => ∃ k : Nat, k ≤ n' ∧ i = .int .i64 k ∧ s = .int .i64 (lastJ xs ys k) ∧ wr.ownsRow w.heap.size 3 1 v k (((passJ xs ys).take k).map (Value.int .i64)) ∧ Below w.heap.size w wr) (fun _ _ i _ => n' - (intOf i).toNat)
  case atStart => exact ⟨0, Nat.zero_le _, rfl, rfl, own_start _ _ _ _, B1⟩
  case round =>
    obtain ⟨k, hk, rfl, rfl, hown, hB⟩ := hrel
    by_cases hlt : k < n'
    · obtain ⟨ad, x, rfl, hbd, hc, HX⟩ := h.getB hB hlt
      obtain ⟨ad', y, rfl, hbd', hc', HY⟩ := h'.getB hB hlt
      have k0 : (0 : Int) ≤ (k : Int) := Int.natCast_nonneg _
      have k1 : (k : Int) < (n' : Int) := by omega
      obtain ⟨x0, x1⟩ := small_at HS1.out HX.out
      obtain ⟨y0, y1⟩ := small_at HS2.out HY.out
      obtain ⟨l0, l1⟩ := HBD.out k
      have HN := hide (show lastJ xs ys (k + 1) = if lastJ xs ys k < x + y then x + y else lastJ xs ys k by rw [lastJ, getD_of HX.out, getD_of HY.out])
      have HZ := hide (pass_get xs ys k (by rw [HL.out]; exact hlt))
      obtain ⟨l, hl⟩ : ∃ l, lastJ xs ys k = l := ⟨_, rfl⟩
      rw [hl] at l0 l1
      have HLK := hide hl
      rw [hl]
      have hBs := hB.size
      clear h h' hl
      by_cases hxy : l < x + y
      · have HV := hide (show x + y = (passJ xs ys).getD k 0 by rw [← HZ.out, HN.out, HLK.out, if_pos hxy])
        go_wp2_with (at_builtin; refine wpList_append_own _ rfl _ _ 30 rfl w.heap.size 3 i0 (.int .i64 0) 1 8 Try.underlying30 hi0 hz0 hz1 hz2 rfl (by decide) _ _ _ rfl (hown.alloc _) ⟨wr.heap.size, 0, none⟩ 1 1 [.int .i64 (x + y)] rfl rfl (cell_one_new _ _ _) (by simp [Value.oneCell']) (by unfold maxLen; omega) (by omega) (by simp; omega) ?_; intro v' w1 hown1 hgrow _)
        go_wp2
        go_roundw
        case rel => exact ⟨k + 1, by omega, by go_num, by rw [HN.out, HLK.out, if_pos hxy], own_next (by rw [HQ.out]; omega) HV.out hown1, (hB.alloc hBs _).grown hgrow (by simp; omega) (own_row hown)⟩
        case measure => simp [intOf]; omega
      · have HV := hide (show l = (passJ xs ys).getD k 0 by rw [← HZ.out, HN.out, HLK.out, if_neg hxy])
        have hxy' : x + y ≤ l := by omega
        go_wp2_with (at_builtin; refine wpList_append_own _ rfl _ _ 30 rfl w.heap.size 3 i0 (.int .i64 0) 1 8 Try.underlying30 hi0 hz0 hz1 hz2 rfl (by decide) _ _ _ rfl (hown.alloc _) ⟨wr.heap.size, 0, none⟩ 1 1 [.int .i64 (l)] rfl rfl (cell_one_new _ _ _) (by simp [Value.oneCell']) (by unfold maxLen; omega) (by omega) (by simp; omega) ?_; intro v' w1 hown1 hgrow _)
        go_wp2
        go_roundw
        case rel => exact ⟨k + 1, by omega, by go_num, by rw [HN.out, HLK.out, if_neg hxy], own_next (by rw [HQ.out]; omega) HV.out hown1, (hB.alloc hBs _).grown hgrow (by simp; omega) (own_row hown)⟩
        case measure => simp [intOf]; omega
    · obtain ⟨b, d, hv, hI⟩ := IntsAt.of_own (own_all (by rw [HQ.out]; omega) hown) (by rw [HQ.out]; omega)
      subst hv
      clear h h' hown
      go_wp2
      go_ret
      exact ⟨b, _, d, rfl, hI, hB⟩

end Go.Proofs.Ythokolfgagkmiaa
