/-
  WALKS: the reference's DBoth, with functions that only reckon.
-/
import Derived.Test.YthokolfgagkmiaaZip
namespace Go.Proofs.Ythokolfgagkmiaa
open Go.RowKit
set_option linter.unusedSimpArgs false
set_option linter.unusedVariables false

set_option maxHeartbeats 1000000 in
theorem cb1_any (a b : Int) (w : World) : Calls Try.prog 35 #[.int .i64 a, .int .i64 b] w fun e w' => e = .returned (.int .i64 (minI a b)) ∧ w = w' := by
  go_enter Try.func35, Try.ntmps35
  go_wp2
  all_goals (go_ret; refine ⟨retI ?_, rfl⟩)
  all_goals (unfold minI; omega)

set_option maxRecDepth 100000 in
set_option maxHeartbeats 2000000 in
theorem dLower (a a' : Option Addr) (n n' c c' : Nat) (xs ys : List Int) (w : World) (h : IntsAt w a n c xs) (h' : IntsAt w a' n' c' ys) :
    Calls Try.prog 34 #[.slice a n c, .slice a' n' c', .func (.func 35) #[] #[]] w fun e w' => ∃ b m d, e = .returned (.slice b m d) ∧ IntsAt w' b m d (zipI minI xs ys) ∧ Below w.heap.size w w' := by
  obtain ⟨i0, hi0, hz0, hz1, hz2⟩ := info_parts intInfo
  have hn := h.lim
  have hn' := h'.lim
  have hl := h.len
  have hl' := h'.len
  have HQ := hide (zipI_len minI xs ys)
  have HL := hide hl
  have HL' := hide hl'
  clear hl hl'
  go_enter Try.func34, Try.ntmps34
  go_wp2
  go_loopw [7, 12] (fun v i wr => ∃ k j : Nat, k ≤ n ∧ ((j = k ∧ k ≤ n') ∨ (j = n' ∧ n' ≤ k)) ∧ i = .int .i64 k ∧ wr.ownsRow w.heap.size 3 1 v j (((zipI minI xs ys).take j).map (Value.int .i64)) ∧ Below w.heap.size w wr) (fun _ i _ => n - (intOf i).toNat)
  case atStart => exact ⟨0, 0, Nat.zero_le _, .inl ⟨rfl, Nat.zero_le _⟩, rfl, own_start _ _ _ _, Below.refl _ _⟩
  case round =>
    obtain ⟨k, j, hk, hj, rfl, hown, hB⟩ := hrel
    by_cases hlt : k < n
    · obtain ⟨ad, x, rfl, hbd, hc, HX⟩ := h.getB hB hlt
      have k0 : (0 : Int) ≤ (k : Int) := Int.natCast_nonneg _
      have k1 : (k : Int) < (n : Int) := by omega
      by_cases hlt' : k < n'
      · obtain ⟨ad', y, rfl, hbd', hc', HY⟩ := h'.getB hB hlt'
        have hjk : j = k := by omega
        subst hjk
        have HZ := hide (zipI_get minI xs ys j x y HX.out HY.out)
        have k2 : (j : Int) < (n' : Int) := by omega
        have hBs := hB.size
        clear h h' hj
        go_wp2
        go_region_held3 (fun w' => w'.cell? (ad'.add j) = some (.int .i64 y)) (first | ((try dsimp only); exact grown_cell hgrow hown hbd' (by simp; omega) (by assumption)) | (go_keep; done))
          (first | (go_at_call 89; refine (rfit_any _ _).mono ?_; rintro e w1 ⟨rfl, rfl⟩) | (go_at_call 35; refine (cb1_any _ _ _).mono ?_; rintro e w1 ⟨rfl, rfl⟩) | (refine step_append_lies _ (by rfl) _ _ _ (by rfl) w.heap.size 3 i0 (.int .i64 0) 1 8 Try.underlying30 hi0 hz0 hz1 hz2 rfl (by decide) _ j _ (by rfl) ((hown.alloc _).drew) ⟨wr.heap.size, 0, none⟩ 1 1 [.int .i64 (minI (fitI x) (fitI y))] (by rfl) (by rfl) (World.news_of_block (cs := #[.int .i64 (minI (fitI x) (fitI y))]) (t := 3) (fr := (0, 0)) (heap_alloc_new wr _)) (by simp [Value.oneCell']) (by decide) (by unfold maxLen; omega) (by omega) (by simp; omega) (wr.heap.size + 1) (by simp) ?_; intro gg cap w1 hown1 hgrow hat hglt))
        go_wp2
        go_roundw
        case rel => exact ⟨j + 1, j + 1, by omega, .inl ⟨rfl, by omega⟩, by go_num, own_next (by rw [HQ.out, HL.out, HL'.out]; omega) HZ.out hown1, ((hB.alloc hBs _).drew).grown hgrow (by simp; omega) (own_row hown)⟩
        case measure => simp [intOf]; omega
      · have hjk : j = n' := by omega
        subst hjk
        clear h h' hj
        go_wp2
        go_roundw
        case rel => exact ⟨k + 1, j, by omega, .inr ⟨rfl, by omega⟩, by go_num, hown, hB⟩
        case measure => simp [intOf]; omega
    · obtain ⟨b, d, hv, hI⟩ := IntsAt.of_own (own_all (by rw [HQ.out, HL.out, HL'.out]; omega) hown) (by rw [HQ.out, HL.out, HL'.out]; omega)
      subst hv
      clear h h' hown
      go_wp2
      go_ret
      exact ⟨b, _, d, rfl, hI, hB⟩

set_option maxRecDepth 100000 in
set_option maxHeartbeats 2000000 in
theorem dSum (a a' : Option Addr) (n n' c c' : Nat) (xs ys : List Int) (w : World) (h : IntsAt w a n c xs) (h' : IntsAt w a' n' c' ys) :
    Calls Try.prog 34 #[.slice a n c, .slice a' n' c', .func (.func 37) #[] #[]] w fun e w' => ∃ b m d, e = .returned (.slice b m d) ∧ IntsAt w' b m d (zipI plusI xs ys) ∧ Below w.heap.size w w' := by
  obtain ⟨i0, hi0, hz0, hz1, hz2⟩ := info_parts intInfo
  have hn := h.lim
  have hn' := h'.lim
  have hl := h.len
  have hl' := h'.len
  have HQ := hide (zipI_len plusI xs ys)
  have HL := hide hl
  have HL' := hide hl'
  clear hl hl'
  go_enter Try.func34, Try.ntmps34
  go_wp2
  go_loopw [7, 12] (fun v i wr => ∃ k j : Nat, k ≤ n ∧ ((j = k ∧ k ≤ n') ∨ (j = n' ∧ n' ≤ k)) ∧ i = .int .i64 k ∧ wr.ownsRow w.heap.size 3 1 v j (((zipI plusI xs ys).take j).map (Value.int .i64)) ∧ Below w.heap.size w wr) (fun _ i _ => n - (intOf i).toNat)
  case atStart => exact ⟨0, 0, Nat.zero_le _, .inl ⟨rfl, Nat.zero_le _⟩, rfl, own_start _ _ _ _, Below.refl _ _⟩
  case round =>
    obtain ⟨k, j, hk, hj, rfl, hown, hB⟩ := hrel
    by_cases hlt : k < n
    · obtain ⟨ad, x, rfl, hbd, hc, HX⟩ := h.getB hB hlt
      have k0 : (0 : Int) ≤ (k : Int) := Int.natCast_nonneg _
      have k1 : (k : Int) < (n : Int) := by omega
      by_cases hlt' : k < n'
      · obtain ⟨ad', y, rfl, hbd', hc', HY⟩ := h'.getB hB hlt'
        have hjk : j = k := by omega
        subst hjk
        have HZ := hide (zipI_get plusI xs ys j x y HX.out HY.out)
        have k2 : (j : Int) < (n' : Int) := by omega
        have hBs := hB.size
        clear h h' hj
        go_wp2
        go_region_held3 (fun w' => w'.cell? (ad'.add j) = some (.int .i64 y)) (first | ((try dsimp only); exact grown_cell hgrow hown hbd' (by simp; omega) (by assumption)) | (go_keep; done))
          (first | (go_at_call 89; refine (rfit_any _ _).mono ?_; rintro e w1 ⟨rfl, rfl⟩) | (go_at_call 37; refine (rplus_any _ _ _).mono ?_; rintro e w1 ⟨rfl, rfl⟩) | (refine step_append_lies _ (by rfl) _ _ _ (by rfl) w.heap.size 3 i0 (.int .i64 0) 1 8 Try.underlying30 hi0 hz0 hz1 hz2 rfl (by decide) _ j _ (by rfl) ((hown.alloc _).drew) ⟨wr.heap.size, 0, none⟩ 1 1 [.int .i64 (plusI (fitI x) (fitI y))] (by rfl) (by rfl) (World.news_of_block (cs := #[.int .i64 (plusI (fitI x) (fitI y))]) (t := 3) (fr := (0, 0)) (heap_alloc_new wr _)) (by simp [Value.oneCell']) (by decide) (by unfold maxLen; omega) (by omega) (by simp; omega) (wr.heap.size + 1) (by simp) ?_; intro gg cap w1 hown1 hgrow hat hglt))
        go_wp2
        go_roundw
        case rel => exact ⟨j + 1, j + 1, by omega, .inl ⟨rfl, by omega⟩, by go_num, own_next (by rw [HQ.out, HL.out, HL'.out]; omega) HZ.out hown1, ((hB.alloc hBs _).drew).grown hgrow (by simp; omega) (own_row hown)⟩
        case measure => simp [intOf]; omega
      · have hjk : j = n' := by omega
        subst hjk
        clear h h' hj
        go_wp2
        go_roundw
        case rel => exact ⟨k + 1, j, by omega, .inr ⟨rfl, by omega⟩, by go_num, hown, hB⟩
        case measure => simp [intOf]; omega
    · obtain ⟨b, d, hv, hI⟩ := IntsAt.of_own (own_all (by rw [HQ.out, HL.out, HL'.out]; omega) hown) (by rw [HQ.out, HL.out, HL'.out]; omega)
      subst hv
      clear h h' hown
      go_wp2
      go_ret
      exact ⟨b, _, d, rfl, hI, hB⟩

end Go.Proofs.Ythokolfgagkmiaa
