/-
  THE WALK of PotentialTells.
-/
import Derived.Test.YtdlljemabbccjaaMost
import Derived.Test.YtdlljemabbccjaaQMost
import Derived.Test.YtdlljemabbccjaaWeigh
import Derived.Test.YtdlljemabbccjaaQWeigh
import Derived.Test.YtdlljemabbccjaaEqual
import Derived.Test.YtdlljemabbccjaaMem
namespace Go.Proofs.Ytdlljemabbccjaa
open Go.RowKit
set_option linter.unusedSimpArgs false
set_option linter.unusedVariables false

attribute [local go_sem] iteMin iteMax iteMinN iteMaxN

theorem IntsAt.none (w : World) : IntsAt w none 0 0 [] := ⟨rfl, Nat.le_refl _, by omega, fun h => absurd h (by omega)⟩
theorem wrong_bad {N : Int} {es : List GE} {e : Ending} (hg : ¬ GraphOk N es) (h : IsWrong N es e) : e = .returned (.int .i64 2) := by
  obtain ⟨r, hr, rfl⟩ := h
  rcases hr with ⟨_, h2⟩ | ⟨rfl, _⟩
  · exact absurd h2 hg
  · rfl
theorem wrong_ok {N : Int} {es : List GE} {e : Ending} (hg : GraphOk N es) (h : IsWrong N es e) : e = .returned (.int .i64 0) := by
  obtain ⟨r, hr, rfl⟩ := h
  rcases hr with ⟨rfl, _⟩ | ⟨_, h2⟩
  · rfl
  · exact absurd hg h2
theorem weigh_any (N : Int) (a : Option Addr) (n c : Nat) (es : List GE) (a' : Option Addr) (n' c' : Nat) (ns : List Int) (w : World) (h : EdgesAt w a n c es) (h' : IntsAt w a' n' c' ns) :
    Calls Try.prog 48 #[.agg #[.int .i64 N, .slice a n c], .slice a' n' c'] w fun e w' => WeighEnds N es ns e ∧ Below w.heap.size w w' := by
  by_cases hg : GraphOk N es
  · exact weigh_ok _ _ _ _ _ _ _ _ _ _ h h' hg
  · exact weigh_bad _ _ _ _ _ _ _ _ _ _ h hg
theorem qweigh_any (N : Int) (a : Option Addr) (n c : Nat) (es : List GE) (a' : Option Addr) (n' c' : Nat) (ns : List Int) (w : World) (h : EdgesAt w a n c es) (h' : IntsAt w a' n' c' ns) :
    Calls Try.prog 49 #[.agg #[.int .i64 N, .slice a n c], .slice a' n' c'] w fun e w' => WeighEnds N es ns e ∧ Below w.heap.size w w' := by
  by_cases hg : GraphOk N es
  · exact qweigh_ok _ _ _ _ _ _ _ _ _ _ h h' hg
  · exact qweigh_bad _ _ _ _ _ _ _ _ _ _ h hg

set_option maxRecDepth 100000 in
set_option maxHeartbeats 4000000 in
theorem tells_bad (w : World) (N : Int) (a : Option Addr) (n c : Nat) (es : List GE) (h : EdgesAt w a n c es) (a' : Option Addr) (n' c' : Nat) (ns : List Int) (h' : IntsAt w a' n' c' ns) (hg : ¬ GraphOk N es) :
    Calls Try.prog 10 #[.agg #[.int .i64 N, .slice a n c], .slice a' n' c'] w fun e w' => e = .returned (.bool true) ∧ Below w.heap.size w w' := by
  obtain ⟨G, hG⟩ : ∃ G, w.heap.size = G := ⟨_, rfl⟩
  obtain ⟨W, hW⟩ : ∃ W, W = w.alloc (.cells #[.int .i64 N, .slice a n c] 61) := ⟨_, rfl⟩
  have hWB : Below w.heap.size w W := by rw [hW]; exact (Below.refl _ _).alloc (Nat.le_refl _) _
  have hWs : W.heap.size = G + 1 := by rw [hW, ← hG]; simp
  have e0 : W.cell? ⟨G, 0, none⟩ = some (.int .i64 N) := by rw [hW, ← hG]; simp [go_sem]
  have e1 : W.cell? ⟨G, 1, none⟩ = some (.slice a n c) := by rw [hW, ← hG]; simp [go_sem]
  have hE := h.below hWB
  have hI := h'.below hWB
  have HG := hide hg
  have HGs := hide hG
  have C0 := hide hWB
  clear hg h h' hWB
  go_enter Try.func10, Try.ntmps10
  rw [hG]
  go_wp2_with fail
  (try rw [hG])
  rw [← hW]
  clear hW
  refine (weigh_any _ _ _ _ _ _ _ _ _ _ hE hI).mono ?_
  rintro e w1 ⟨⟨s, r, rfl, hs⟩, B1⟩
  have hG1 : G < W.heap.size := by omega
  have b0 := (B1.cell hG1).trans e0
  have b1 := (B1.cell hG1).trans e1
  have hE1 := hE.below B1
  have hI1 := hI.below B1
  have C1 := hide (C0.out.trans (B1.mono C0.out.size))
  have hG2 : G < w1.heap.size := by have := B1.size; omega
  have HS := hide hs
  clear hs hE hI e0 e1 B1 hWs hG1
  go_wp2_with fail
  refine (qweigh_any _ _ _ _ _ _ _ _ _ _ hE1 hI1).mono ?_
  rintro e w2 ⟨⟨s', r', rfl, hs'⟩, B2⟩
  obtain ⟨rfl, rfl⟩ := weigh_one HS.out hs'
  have c0 := (B2.cell hG2).trans b0
  have c1 := (B2.cell hG2).trans b1
  have hE2 := hE1.below B2
  have C2 := hide (C1.out.trans (B2.mono C1.out.size))
  have hG22 : G < w2.heap.size := by have := B2.size; omega
  clear hs' HS hE1 hI1 b0 b1 B2 hG2
  go_wp2_with fail
  refine (most_bad _ _ _ _ _ _ hE2 HG.out).mono ?_
  rintro e w3 ⟨hm, B3⟩
  obtain rfl : e = .returned (.tuple #[.slice none 0 0, .int .i64 2]) := by
    rcases hm with ⟨_, h1⟩ | ⟨h1, _⟩ | ⟨h1, _⟩
    · exact h1
    · exact absurd h1 HG.out
    · exact absurd h1 HG.out
  clear hm
  have d0 := (B3.cell hG22).trans c0
  have d1 := (B3.cell hG22).trans c1
  have hE3 := hE2.below B3
  have C3 := hide (C2.out.trans (B3.mono C2.out.size))
  have hG3 : G < w3.heap.size := by have := B3.size; omega
  have HWR := hide (show ∀ q : Beyond w3, Calls Try.prog 51 #[.agg #[.int .i64 N, .slice a n c]] q.w fun e w' => e = .returned (.int .i64 2) ∧ Below q.w.heap.size q.w w' from fun q => (wrong_any _ _ _ _ _ _ (hE3.below q.h)).mono fun e w' ⟨hr, hb⟩ => ⟨wrong_bad HG.out hr, hb⟩)
  have HQR := hide (show ∀ q : Beyond w3, Calls Try.prog 52 #[.agg #[.int .i64 N, .slice a n c]] q.w fun e w' => e = .returned (.int .i64 2) ∧ Below q.w.heap.size q.w w' from fun q => (qwrong_any _ _ _ _ _ _ (hE3.below q.h)).mono fun e w' ⟨hr, hb⟩ => ⟨wrong_bad HG.out hr, hb⟩)
  clear hE2 c0 c1 B3 hG22
  have F0 : ∀ q : Beyond w3, q.w.cell? ⟨G, 0, none⟩ = some (.int .i64 N) := fun q => q.cell (by exact hG3) d0
  have F1 : ∀ q : Beyond w3, q.w.cell? ⟨G, 1, none⟩ = some (.slice a n c) := fun q => q.cell (by exact hG3) d1
  go_upto_region 4 with fail
  refine wp_region_beyond (by kernel_rfl) (by kernel_rfl) ?_
  repeat (first | go_big_quiet_step (first | (go_at_call 51; exact beyondCall (HWR.out _)) | (go_at_call 52; exact beyondCall (HQR.out _))) | quiet_step (first | (go_at_call 51; exact beyondCall (HWR.out _)) | (go_at_call 52; exact beyondCall (HQR.out _))))
  refine wpQuiet_nil ?_
  intro _ hw'
  obtain ⟨pq, hw''⟩ := hw'
  subst hw''
  have x0 := F0 pq
  have x1 := F1 pq
  have hE4 := hE3.below pq.h
  have C4 := hide (C3.out.trans (pq.h.mono C3.out.size))
  clear F0 F1 d0 d1 hE3
  go_wp2_with fail
  refine (qwrong_any _ _ _ _ _ _ hE4).mono ?_
  rintro e w5 ⟨hr, B5⟩
  obtain rfl := wrong_bad HG.out hr
  have C5 := hide (C4.out.trans (B5.mono C4.out.size))
  clear hr B5 hE4 x0 x1
  go_wp2
  go_ret
  exact ⟨by first | rfl | simp, by rw [← HGs.out]; exact C5.out⟩

set_option maxRecDepth 100000 in
set_option maxHeartbeats 4000000 in
theorem tells_ok (w : World) (N : Nat) (a : Option Addr) (n c : Nat) (es : List GE) (h : EdgesAt w a n c es) (a' : Option Addr) (n' c' : Nat) (ns : List Int) (h' : IntsAt w a' n' c' ns) (hg : GraphOk (N : Int) es) :
    Calls Try.prog 10 #[.agg #[.int .i64 N, .slice a n c], .slice a' n' c'] w fun e w' => e = .returned (.bool true) ∧ Below w.heap.size w w' := by
  obtain ⟨G, hG⟩ : ∃ G, w.heap.size = G := ⟨_, rfl⟩
  obtain ⟨W, hW⟩ : ∃ W, W = w.alloc (.cells #[.int .i64 N, .slice a n c] 61) := ⟨_, rfl⟩
  have hWB : Below w.heap.size w W := by rw [hW]; exact (Below.refl _ _).alloc (Nat.le_refl _) _
  have hWs : W.heap.size = G + 1 := by rw [hW, ← hG]; simp
  have e0 : W.cell? ⟨G, 0, none⟩ = some (.int .i64 N) := by rw [hW, ← hG]; simp [go_sem]
  have e1 : W.cell? ⟨G, 1, none⟩ = some (.slice a n c) := by rw [hW, ← hG]; simp [go_sem]
  have hE := h.below hWB
  have hI := h'.below hWB
  have HG := hide hg
  have HGs := hide hG
  have C0 := hide hWB
  clear hg h h' hWB
  go_enter Try.func10, Try.ntmps10
  rw [hG]
  go_wp2_with fail
  (try rw [hG])
  rw [← hW]
  clear hW
  refine (weigh_any _ _ _ _ _ _ _ _ _ _ hE hI).mono ?_
  rintro e w1 ⟨⟨s, r, rfl, hs⟩, B1⟩
  have hG1 : G < W.heap.size := by omega
  have b0 := (B1.cell hG1).trans e0
  have b1 := (B1.cell hG1).trans e1
  have hE1 := hE.below B1
  have hI1 := hI.below B1
  have C1 := hide (C0.out.trans (B1.mono C0.out.size))
  have hG2 : G < w1.heap.size := by have := B1.size; omega
  have HS := hide hs
  clear hs hE hI e0 e1 B1 hWs hG1
  go_wp2_with fail
  refine (qweigh_any _ _ _ _ _ _ _ _ _ _ hE1 hI1).mono ?_
  rintro e w2 ⟨⟨s', r', rfl, hs'⟩, B2⟩
  obtain ⟨rfl, rfl⟩ := weigh_one HS.out hs'
  have c0 := (B2.cell hG2).trans b0
  have c1 := (B2.cell hG2).trans b1
  have hE2 := hE1.below B2
  have C2 := hide (C1.out.trans (B2.mono C1.out.size))
  have hG22 : G < w2.heap.size := by have := B2.size; omega
  clear hs' HS hE1 hI1 b0 b1 B2 hG2
  go_wp2_with fail
  refine (most_ok _ _ _ _ _ _ hE2 HG.out).mono ?_
  rintro e w3 ⟨hm, B3⟩
  rcases hm with ⟨h1, _⟩ | ⟨_, hp, b, d, rfl, hI3⟩ | ⟨_, hp, rfl⟩
  · exact absurd HG.out h1
  · have HP := hide hp
    clear hp
    have d0 := (B3.cell hG22).trans c0
    have d1 := (B3.cell hG22).trans c1
    have hE3 := hE2.below B3
    have C3 := hide (C2.out.trans (B3.mono C2.out.size))
    have hG3 : G < w3.heap.size := by have := B3.size; omega
    have HWR := hide (show ∀ q : Beyond w3, Calls Try.prog 51 #[.agg #[.int .i64 N, .slice a n c]] q.w fun e w' => e = .returned (.int .i64 0) ∧ Below q.w.heap.size q.w w' from fun q => (wrong_any _ _ _ _ _ _ (hE3.below q.h)).mono fun e w' ⟨hr, hb⟩ => ⟨wrong_ok HG.out hr, hb⟩)
    have HQR := hide (show ∀ q : Beyond w3, Calls Try.prog 52 #[.agg #[.int .i64 N, .slice a n c]] q.w fun e w' => e = .returned (.int .i64 0) ∧ Below q.w.heap.size q.w w' from fun q => (qwrong_any _ _ _ _ _ _ (hE3.below q.h)).mono fun e w' ⟨hr, hb⟩ => ⟨wrong_ok HG.out hr, hb⟩)
    clear hE2 c0 c1 B3 hG22
    have F0 : ∀ q : Beyond w3, q.w.cell? ⟨G, 0, none⟩ = some (.int .i64 N) := fun q => q.cell (by exact hG3) d0
    have F1 : ∀ q : Beyond w3, q.w.cell? ⟨G, 1, none⟩ = some (.slice a n c) := fun q => q.cell (by exact hG3) d1
    go_upto_region 4 with fail
    refine wp_region_beyond (by kernel_rfl) (by kernel_rfl) ?_
    repeat (first | go_big_quiet_step (first | (go_at_call 51; exact beyondCall (HWR.out _)) | (go_at_call 52; exact beyondCall (HQR.out _))) | quiet_step (first | (go_at_call 51; exact beyondCall (HWR.out _)) | (go_at_call 52; exact beyondCall (HQR.out _))))
    refine wpQuiet_nil ?_
    intro _ hw'
    obtain ⟨pq, hw''⟩ := hw'
    subst hw''
    have x0 := F0 pq
    have x1 := F1 pq
    have hE4 := hE3.below pq.h
    have C4 := hide (C3.out.trans (pq.h.mono C3.out.size))
    clear F0 F1 d0 d1 hE3
    have hI4 := hI3.below pq.h
    have hG4 : G < pq.w.heap.size := by have := pq.h.size; omega
    clear hI3
    go_wp2_with fail
    refine (qwrong_any _ _ _ _ _ _ hE4).mono ?_
    rintro e w5 ⟨hr, B5⟩
    obtain rfl := wrong_ok HG.out hr
    have C5 := hide (C4.out.trans (B5.mono C4.out.size))
    have y0 := (B5.cell hG4).trans x0
    have y1 := (B5.cell hG4).trans x1
    have hE5 := hE4.below B5
    have hI5 := hI4.below B5
    clear hr B5 hE4 x0 x1 hI4
    go_wp2_with fail
    refine (qmost_any _ _ _ _ _ _ hE5 HG.out).mono ?_
    rintro e w6 ⟨hq, B6⟩
    rcases hq with ⟨_, b', d', rfl, hJ⟩ | ⟨h1, _⟩
    case inr => exact absurd HP.out h1
    have C6 := hide (C5.out.trans (B6.mono C5.out.size))
    have hI6 := hI5.below B6
    clear hI5 B6 hE5 y0 y1
    go_wp2_with fail
    refine (equal_any _ _ _ _ _ _ _ _ _ hI6 hJ).mono ?_
    rintro e w7 ⟨rfl, B7⟩
    have C7 := hide (C6.out.trans (B7.mono C6.out.size))
    clear hI6 hJ B7
    go_wp2
    go_ret
    exact ⟨by first | rfl | simp, by rw [← HGs.out]; exact C7.out⟩
  · have HP := hide hp
    clear hp
    have d0 := (B3.cell hG22).trans c0
    have d1 := (B3.cell hG22).trans c1
    have hE3 := hE2.below B3
    have C3 := hide (C2.out.trans (B3.mono C2.out.size))
    have hG3 : G < w3.heap.size := by have := B3.size; omega
    have HWR := hide (show ∀ q : Beyond w3, Calls Try.prog 51 #[.agg #[.int .i64 N, .slice a n c]] q.w fun e w' => e = .returned (.int .i64 0) ∧ Below q.w.heap.size q.w w' from fun q => (wrong_any _ _ _ _ _ _ (hE3.below q.h)).mono fun e w' ⟨hr, hb⟩ => ⟨wrong_ok HG.out hr, hb⟩)
    have HQR := hide (show ∀ q : Beyond w3, Calls Try.prog 52 #[.agg #[.int .i64 N, .slice a n c]] q.w fun e w' => e = .returned (.int .i64 0) ∧ Below q.w.heap.size q.w w' from fun q => (qwrong_any _ _ _ _ _ _ (hE3.below q.h)).mono fun e w' ⟨hr, hb⟩ => ⟨wrong_ok HG.out hr, hb⟩)
    clear hE2 c0 c1 B3 hG22
    have F0 : ∀ q : Beyond w3, q.w.cell? ⟨G, 0, none⟩ = some (.int .i64 N) := fun q => q.cell (by exact hG3) d0
    have F1 : ∀ q : Beyond w3, q.w.cell? ⟨G, 1, none⟩ = some (.slice a n c) := fun q => q.cell (by exact hG3) d1
    go_upto_region 4 with fail
    refine wp_region_beyond (by kernel_rfl) (by kernel_rfl) ?_
    repeat (first | go_big_quiet_step (first | (go_at_call 51; exact beyondCall (HWR.out _)) | (go_at_call 52; exact beyondCall (HQR.out _))) | quiet_step (first | (go_at_call 51; exact beyondCall (HWR.out _)) | (go_at_call 52; exact beyondCall (HQR.out _))))
    refine wpQuiet_nil ?_
    intro _ hw'
    obtain ⟨pq, hw''⟩ := hw'
    subst hw''
    have x0 := F0 pq
    have x1 := F1 pq
    have hE4 := hE3.below pq.h
    have C4 := hide (C3.out.trans (pq.h.mono C3.out.size))
    clear F0 F1 d0 d1 hE3
    have hG4 : G < pq.w.heap.size := by have := pq.h.size; omega
    go_wp2_with fail
    refine (qwrong_any _ _ _ _ _ _ hE4).mono ?_
    rintro e w5 ⟨hr, B5⟩
    obtain rfl := wrong_ok HG.out hr
    have C5 := hide (C4.out.trans (B5.mono C4.out.size))
    have y0 := (B5.cell hG4).trans x0
    have y1 := (B5.cell hG4).trans x1
    have hE5 := hE4.below B5
    clear hr B5 hE4 x0 x1
    go_wp2_with fail
    refine (qmost_any _ _ _ _ _ _ hE5 HG.out).mono ?_
    rintro e w6 ⟨hq, B6⟩
    rcases hq with ⟨h1, _⟩ | ⟨_, rfl⟩
    case inl => exact absurd h1 HP.out
    have C6 := hide (C5.out.trans (B6.mono C5.out.size))
    clear B6 hE5 y0 y1
    go_wp2_with fail
    refine (equal_any _ _ _ _ _ _ _ _ _ (IntsAt.none _) (IntsAt.none _)).mono ?_
    rintro e w7 ⟨rfl, B7⟩
    have C7 := hide (C6.out.trans (B7.mono C6.out.size))
    clear B7
    go_wp2
    go_ret
    exact ⟨by first | rfl | simp, by rw [← HGs.out]; exact C7.out⟩

theorem potentialTellsW (w : World) (N : Int) (a : Option Addr) (n c : Nat) (es : List GE) (h : EdgesAt w a n c es) (a' : Option Addr) (n' c' : Nat) (ns : List Int) (h' : IntsAt w a' n' c' ns) :
    Calls Try.prog 10 #[.agg #[.int .i64 N, .slice a n c], .slice a' n' c'] w fun e w' => e = .returned (.bool true) ∧ Below w.heap.size w w' := by
  by_cases hg : GraphOk N es
  · obtain ⟨M, rfl⟩ : ∃ M : Nat, N = (M : Int) := ⟨N.toNat, by have := hg.1.1; omega⟩
    exact tells_ok _ _ _ _ _ _ h _ _ _ _ h' hg
  · exact tells_bad _ _ _ _ _ _ h _ _ _ _ h' hg

end Go.Proofs.Ytdlljemabbccjaa
