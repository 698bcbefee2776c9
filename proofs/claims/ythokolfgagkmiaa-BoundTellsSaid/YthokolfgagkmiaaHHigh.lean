/-
  WALKS: the reference's HHigh.
-/
import Derived.Test.YthokolfgagkmiaaPBound
import Derived.Test.YthokolfgagkmiaaMin
import Derived.Test.YthokolfgagkmiaaDWithin
namespace Go.Proofs.Ythokolfgagkmiaa
open Go.RowKit
set_option linter.unusedSimpArgs false
set_option linter.unusedVariables false

attribute [local go_sem] iteMin iteMax iteMinN iteMaxN

set_option maxHeartbeats 1000000 in
theorem hhc_any (Bx : Nat) (o x y : Int) (w : World) (hc : w.cell? ⟨Bx, 0, none⟩ = some (.int .i64 o)) (hf : w.frozen? ⟨Bx, 0, none⟩ = false) :
    Calls Try.prog 99 #[.int .i64 x, .int .i64 y, .pointer (some ⟨Bx, 0, none⟩)] w fun e w' => e = .returned (.int .i64 0) ∧ w' = (w.setCell ⟨Bx, 0, none⟩ (.int .i64 (max o (lessI x y)))).drew := by
  go_enter Try.func99, Try.ntmps99
  go_wp2
  go_region_with ((go_at_call 92; refine (rless_any _ _ _).mono ?_; rintro e w1 ⟨rfl, rfl⟩))
  all_goals go_wp2
  all_goals go_ret
  all_goals exact ⟨rfl, rfl⟩

set_option maxRecDepth 100000 in
set_option maxHeartbeats 4000000 in
theorem dboth_high (a a' : Option Addr) (n n' c c' : Nat) (xs ys : List Int) (W0 w : World) (Bx : Nat) (h : IntsAt W0 a n c xs) (h' : IntsAt W0 a' n' c' ys) (hW : Below W0.heap.size W0 w) (hx : W0.heap.size ≤ Bx)
    (hbox : w.heap[Bx]? = some (.cells #[.int .i64 0] 3 (0, 0))) :
    Calls Try.prog 34 #[.slice a n c, .slice a' n' c', .func (.func 99) #[] #[.pointer (some ⟨Bx, 0, none⟩)]] w fun e w' => ∃ v, e = .returned v ∧ w'.heap[Bx]? = some (.cells #[.int .i64 (hiI xs ys (min n n'))] 3 (0, 0)) ∧ Below W0.heap.size W0 w' := by
  obtain ⟨i0, hi0, hz0, hz1, hz2⟩ := info_parts intInfo
  have hn := h.lim
  have hn' := h'.lim
  have HQ := hide (zipI_len zeroH xs ys)
  have HL := hide h.len
  have HL' := hide h'.len
  have hBx := lt_of_block hbox
  go_enter Try.func34, Try.ntmps34
  go_wp2
  go_loopw [7, 12] (fun v i wr => ∃ k j : Nat, k ≤ n ∧ ((j = k ∧ k ≤ n') ∨ (j = n' ∧ n' ≤ k)) ∧ i = .int .i64 k ∧ wr.ownsRow w.heap.size 3 1 v j (((zipI zeroH xs ys).take j).map (Value.int .i64)) ∧ w.heap.size ≤ wr.heap.size ∧
      wr.heap[Bx]? = some (.cells #[.int .i64 (hiI xs ys (min k n'))] 3 (0, 0)) ∧ Below W0.heap.size W0 wr) (fun _ i _ => n - (intOf i).toNat)
  case atStart => exact ⟨0, 0, Nat.zero_le _, .inl ⟨rfl, Nat.zero_le _⟩, rfl, own_start _ _ _ _, Nat.le_refl _, by simpa [hiI] using hbox, hW⟩
  case round =>
    obtain ⟨k, j, hk, hj, rfl, hown, hs, hb, hB⟩ := hrel
    by_cases hlt : k < n
    · obtain ⟨ad, x, rfl, hbd, hc, HX⟩ := h.getB hB hlt
      have k0 : (0 : Int) ≤ (k : Int) := Int.natCast_nonneg _
      have k1 : (k : Int) < (n : Int) := by omega
      by_cases hlt' : k < n'
      · obtain ⟨ad', y, rfl, hbd', hc', HY⟩ := h'.getB hB hlt'
        have hjk : j = k := by omega
        subst hjk
        have HZ := hide (zipI_get zeroH xs ys j x y HX.out HY.out)
        have HN := hide (show hiI xs ys (min (j + 1) n') = max (hiI xs ys (min j n')) (lessI (fitI x) (fitI y)) by rw [show min (j + 1) n' = j + 1 by omega, show min j n' = j by omega, less_fit]; simp only [hiI]; rw [getD_of HX.out, getD_of HY.out])
        obtain ⟨o, ho⟩ : ∃ o, hiI xs ys (min j n') = o := ⟨_, rfl⟩
        rw [ho] at hb
        have HO := hide ho
        have HB := hide hb
        have hcb := cell_of_one hb
        have hfb := free_of_one hb
        have k2 : (j : Int) < (n' : Int) := by omega
        have hnb : (ad'.add j).block ≠ Bx := by omega
        have HNW := hide (setAlloc wr ⟨Bx, 0, none⟩ (.int .i64 (max o (lessI (fitI x) (fitI y)))) (.cells #[.int .i64 0] 3))
        clear h h' hj hb ho hbox hW
        go_wp2
        go_region_held3 (fun w' => w'.cell? (ad'.add j) = some (.int .i64 y)) (first | ((try dsimp only); exact grown_cell hgrow (ownsRow_setCell_below hown (a := ⟨Bx, 0, none⟩) (by simp; omega) (.int .i64 (max o (lessI (fitI x) (fitI y))))) (by omega) (by simp; omega) (by assumption)) | (go_keep; done) | ((try dsimp only); exact (World.cell?_setCell_other wr _ _ _ (fun e => hnb (by first | rw [e] | rw [← e]))).trans hc') | ((try dsimp only); exact (World.cell?_alloc_lt (wr.setCell ⟨Bx, 0, none⟩ _) _ _ (by have := hB.size; simp [World.setCell]; omega)).trans ((World.cell?_setCell_other wr _ _ _ (fun e => hnb (by first | rw [e] | rw [← e]))).trans hc')))
          (first | (go_at_call 89; refine (rfit_any _ _).mono ?_; rintro e w1 ⟨rfl, rfl⟩) | (go_at_call 99; refine (hhc_any Bx o _ _ _ (by simpa [go_sem] using hcb) (by simpa [go_sem] using hfb)).mono ?_; rintro e w1 ⟨rfl, rfl⟩) | (refine step_append_lies _ (by rfl) _ _ _ (by rfl) w.heap.size 3 i0 (.int .i64 0) 1 8 Try.underlying30 hi0 hz0 hz1 hz2 rfl (by decide) _ j _ (by rfl) (((ownsRow_setCell_below hown (a := ⟨Bx, 0, none⟩) (by simp; omega) (.int .i64 (max o (lessI (fitI x) (fitI y))))).alloc _).drew.drew) ⟨wr.heap.size, 0, none⟩ 1 1 [.int .i64 0] (by rfl) (by rfl) (World.news_of_block (cs := #[.int .i64 0]) (t := 3) (fr := (0, 0)) HNW.out) (by simp [Value.oneCell']) (by decide) (by unfold maxLen; omega) (by omega) (by simp; omega) (wr.heap.size + 1) (by simp) ?_; intro gg cap w1 hown1 hgrow hat hglt))
        go_wp2
        go_roundw
        case rel => exact ⟨j + 1, j + 1, by omega, .inl ⟨rfl, by omega⟩, by go_num, own_next (by rw [HQ.out, HL.out, HL'.out]; omega) HZ.out hown1, Nat.le_trans hs (Nat.le_trans (by simp) hgrow.size), by
          rw [HN.out, HO.out]
          exact boxGrown hgrow (boxAlloc (one_setCell HB.out)) hBx (own_row hown), (((hB.setCell hx _).alloc (by have := hB.size; simp; omega) _).drew.drew).grown hgrow (by have := hB.size; simp; omega) (fun g hg => by have := own_row hown g hg; omega)⟩
        case measure => simp [intOf]; omega
      · have hjk : j = n' := by omega
        subst hjk
        have HN := hide (show hiI xs ys (min (k + 1) j) = hiI xs ys (min k j) by rw [show min (k + 1) j = j by omega, show min k j = j by omega])
        have HB := hide hb
        clear h h' hj hb hbox hW
        go_wp2
        go_roundw
        case rel => exact ⟨k + 1, j, by omega, .inr ⟨rfl, by omega⟩, by go_num, hown, hs, by rw [HN.out]; exact HB.out, hB⟩
        case measure => simp [intOf]; omega
    · have HB := hide hb
      have HE := hide (show hiI xs ys (min k n') = hiI xs ys (min n n') by rw [show k = n by omega])
      clear h h' hb hbox hW
      go_wp2
      go_ret
      exact ⟨_, rfl, by rw [← HE.out]; exact HB.out, hB⟩


set_option maxHeartbeats 1000000 in
theorem hhigh_any (a a' : Option Addr) (n n' c c' : Nat) (xs ys : List Int) (w : World) (h : IntsAt w a n c xs) (h' : IntsAt w a' n' c' ys) :
    Calls Try.prog 76 #[.slice a n c, .slice a' n' c'] w fun e w' => e = .returned (.int .i64 (hiI xs ys (min n n'))) ∧ Below w.heap.size w w' := by
  have H := hide (dboth_high a a' n n' c c' xs ys w (w.alloc (.cells #[.int .i64 0] 3)) w.heap.size h h' ((Below.refl _ _).alloc (Nat.le_refl _) _) (Nat.le_refl _) (heap_alloc_new w _))
  obtain ⟨m, hm⟩ : ∃ m, hiI xs ys (min n n') = m := ⟨_, rfl⟩
  rw [hm]
  have H := hide (by have := H.out; rw [hm] at this; exact this)
  clear h h' hm
  go_enter Try.func76, Try.ntmps76
  go_wp2_with (go_at_call 34; refine H.out.mono ?_; rintro e w1 ⟨v, rfl, hb, hB⟩; have hcb := cell_of_one hb)
  go_ret
  exact ⟨rfl, hB⟩

end Go.Proofs.Ythokolfgagkmiaa
