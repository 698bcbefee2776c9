/-
  WALKS: the reference's pnext.
-/
import Derived.Test.YtmmjopmffpfccaaDKinds
import Derived.Test.YtmmjopmffpfccaaLkPass
namespace Go.Proofs.Ytmmjopmffpfccaa
open Go.RowKit
set_option linter.unusedSimpArgs false
set_option linter.unusedVariables false

attribute [local go_sem] iteMin iteMax iteMinN iteMaxN

set_option maxRecDepth 100000 in
set_option maxHeartbeats 4000000 in
theorem pnext_1 (k n b y s p d k' n' b' y' s' p' r : Int) (t : Bool) (ht : (r == 0) = t) (hc : k = 1)
    (h : ∀ w : World, Calls Try.prog 47 #[.agg #[.int .i64 k, .int .i64 n, .int .i64 b, .int .i64 y, .int .i64 s, .int .i64 p], .int .i64 d] w fun e w' => e = .returned (.tuple #[.agg #[.int .i64 k', .int .i64 n', .int .i64 b', .int .i64 y', .int .i64 s', .int .i64 p'], .int .i64 r]) ∧ Below w.heap.size w w') (w : World) :
    Calls Try.prog 29 #[.agg #[.int .i64 k, .int .i64 n, .int .i64 b, .int .i64 y, .int .i64 s, .int .i64 p], .int .i64 d] w fun e w' => e = .returned (.tuple #[.agg #[.int .i64 k', .int .i64 n', .int .i64 b', .int .i64 y', .int .i64 s', .int .i64 p'], .bool t]) ∧ Below w.heap.size w w' := by
  have H := hide h
  clear h
  have g1 : (k == 1) = true := by simp [hc]
  clear hc
  obtain ⟨S, hS⟩ : ∃ S, w.heap.size = S := ⟨_, rfl⟩
  go_enter Try.func29, Try.ntmps29
  go_wp2_with fail
  obtain ⟨W, hW⟩ : ∃ W, W = (w.alloc (.cells #[.int .i64 k, .int .i64 n, .int .i64 b, .int .i64 y, .int .i64 s, .int .i64 p] 26)).alloc (.cells #[.int .i64 0, .int .i64 0, .int .i64 0, .int .i64 0, .int .i64 0, .int .i64 0] 26) := ⟨_, rfl⟩
  rw [← hW]
  have P := (Blk.new w [.int .i64 k, .int .i64 n, .int .i64 b, .int .i64 y, .int .i64 s, .int .i64 p] 26).alloc (.cells #[.int .i64 0, .int .i64 0, .int .i64 0, .int .i64 0, .int .i64 0, .int .i64 0] 26)
  have Q := Blk.new (w.alloc (.cells #[.int .i64 k, .int .i64 n, .int .i64 b, .int .i64 y, .int .i64 s, .int .i64 p] 26)) [.int .i64 0, .int .i64 0, .int .i64 0, .int .i64 0, .int .i64 0, .int .i64 0] 26
  have BS : Below S w W := by rw [hW, ← hS]; exact ((Below.refl _ _).alloc (Nat.le_refl _) _).alloc (by simp) _
  rw [← hW] at P
  rw [← hW] at Q
  simp only [World.size_alloc, hS] at P Q
  clear hW
  refine (H.out W).mono ?_
  rintro e w1 ⟨rfl, hB⟩
  have BS := BS.trans (hB.mono (by have := P.lt; omega))
  have P := P.below hB P.lt
  have Q := Q.below hB Q.lt
  clear hB
  have a_0 := (P 0 _ rfl).1
  have a_f0 := (P 0 _ rfl).2
  have a_1 := (P 1 _ rfl).1
  have a_f1 := (P 1 _ rfl).2
  have a_2 := (P 2 _ rfl).1
  have a_f2 := (P 2 _ rfl).2
  have a_3 := (P 3 _ rfl).1
  have a_f3 := (P 3 _ rfl).2
  have a_4 := (P 4 _ rfl).1
  have a_f4 := (P 4 _ rfl).2
  have a_5 := (P 5 _ rfl).1
  have a_f5 := (P 5 _ rfl).2
  have q_0 := (Q 0 _ rfl).1
  have q_f0 := (Q 0 _ rfl).2
  have q_1 := (Q 1 _ rfl).1
  have q_f1 := (Q 1 _ rfl).2
  have q_2 := (Q 2 _ rfl).1
  have q_f2 := (Q 2 _ rfl).2
  have q_3 := (Q 3 _ rfl).1
  have q_f3 := (Q 3 _ rfl).2
  have q_4 := (Q 4 _ rfl).1
  have q_f4 := (Q 4 _ rfl).2
  have q_5 := (Q 5 _ rfl).1
  have q_f5 := (Q 5 _ rfl).2
  have HP := hide P; have HQ := hide Q; have HBS := hide BS
  clear P Q BS
  go_wp2
  obtain ⟨Z, hZ⟩ : ∃ Z, Z = ((((((((((((w1.setCell ⟨S, 0, none⟩ (.int .i64 k')).setCell ⟨S, 1, none⟩ (.int .i64 n')).setCell ⟨S, 2, none⟩ (.int .i64 b')).setCell ⟨S, 3, none⟩ (.int .i64 y')).setCell ⟨S, 4, none⟩ (.int .i64 s')).setCell ⟨S, 5, none⟩ (.int .i64 p')).setCell ⟨S + 1, 0, none⟩ (.int .i64 k')).setCell ⟨S + 1, 1, none⟩ (.int .i64 n')).setCell ⟨S + 1, 2, none⟩ (.int .i64 b')).setCell ⟨S + 1, 3, none⟩ (.int .i64 y')).setCell ⟨S + 1, 4, none⟩ (.int .i64 s')).setCell ⟨S + 1, 5, none⟩ (.int .i64 p')) := ⟨_, rfl⟩
  have z : Blk Z (S + 1) [.int .i64 k', .int .i64 n', .int .i64 b', .int .i64 y', .int .i64 s', .int .i64 p'] := by rw [hZ]; exact ((((((((((((HQ.out.other ⟨S, 0, none⟩ (.int .i64 k') (by simp only; omega)).other ⟨S, 1, none⟩ (.int .i64 n') (by simp only; omega)).other ⟨S, 2, none⟩ (.int .i64 b') (by simp only; omega)).other ⟨S, 3, none⟩ (.int .i64 y') (by simp only; omega)).other ⟨S, 4, none⟩ (.int .i64 s') (by simp only; omega)).other ⟨S, 5, none⟩ (.int .i64 p') (by simp only; omega)).set (j := 0) (by simp) (.int .i64 k')).set (j := 1) (by simp) (.int .i64 n')).set (j := 2) (by simp) (.int .i64 b')).set (j := 3) (by simp) (.int .i64 y')).set (j := 4) (by simp) (.int .i64 s')).set (j := 5) (by simp) (.int .i64 p'))
  have zB : Below S w Z := by rw [hZ]; exact ((((((((((((HBS.out.setCell (p := ⟨S, 0, none⟩) (by simp only; omega) _).setCell (p := ⟨S, 1, none⟩) (by simp only; omega) _).setCell (p := ⟨S, 2, none⟩) (by simp only; omega) _).setCell (p := ⟨S, 3, none⟩) (by simp only; omega) _).setCell (p := ⟨S, 4, none⟩) (by simp only; omega) _).setCell (p := ⟨S, 5, none⟩) (by simp only; omega) _).setCell (p := ⟨S + 1, 0, none⟩) (by simp only; omega) _).setCell (p := ⟨S + 1, 1, none⟩) (by simp only; omega) _).setCell (p := ⟨S + 1, 2, none⟩) (by simp only; omega) _).setCell (p := ⟨S + 1, 3, none⟩) (by simp only; omega) _).setCell (p := ⟨S + 1, 4, none⟩) (by simp only; omega) _).setCell (p := ⟨S + 1, 5, none⟩) (by simp only; omega) _)
  rw [← hZ]
  clear hZ
  have z_0 := (z 0 _ rfl).1
  have z_1 := (z 1 _ rfl).1
  have z_2 := (z 2 _ rfl).1
  have z_3 := (z 3 _ rfl).1
  have z_4 := (z 4 _ rfl).1
  have z_5 := (z 5 _ rfl).1
  refine bodyPost_ret (v := .tuple #[.agg #[.int .i64 k', .int .i64 n', .int .i64 b', .int .i64 y', .int .i64 s', .int .i64 p'], .bool t]) ?_ rfl ⟨rfl, ?_⟩
  · simp [results, Try.f29, go_sem, ht, z_0, z_1, z_2, z_3, z_4, z_5]
  · first | exact zB | (rw [hS]; exact zB)

set_option maxRecDepth 100000 in
set_option maxHeartbeats 4000000 in
theorem pnext_2 (k n b y s p d k' n' b' y' s' p' r : Int) (t : Bool) (ht : (r == 0) = t) (hc : k = 2)
    (h : ∀ w : World, Calls Try.prog 48 #[.agg #[.int .i64 k, .int .i64 n, .int .i64 b, .int .i64 y, .int .i64 s, .int .i64 p], .int .i64 d] w fun e w' => e = .returned (.tuple #[.agg #[.int .i64 k', .int .i64 n', .int .i64 b', .int .i64 y', .int .i64 s', .int .i64 p'], .int .i64 r]) ∧ Below w.heap.size w w') (w : World) :
    Calls Try.prog 29 #[.agg #[.int .i64 k, .int .i64 n, .int .i64 b, .int .i64 y, .int .i64 s, .int .i64 p], .int .i64 d] w fun e w' => e = .returned (.tuple #[.agg #[.int .i64 k', .int .i64 n', .int .i64 b', .int .i64 y', .int .i64 s', .int .i64 p'], .bool t]) ∧ Below w.heap.size w w' := by
  have H := hide h
  clear h
  have g1 : (k == 1) = false := by simp; omega
  have g2 : (k == 2) = true := by simp [hc]
  clear hc
  obtain ⟨S, hS⟩ : ∃ S, w.heap.size = S := ⟨_, rfl⟩
  go_enter Try.func29, Try.ntmps29
  go_wp2_with fail
  obtain ⟨W, hW⟩ : ∃ W, W = (w.alloc (.cells #[.int .i64 k, .int .i64 n, .int .i64 b, .int .i64 y, .int .i64 s, .int .i64 p] 26)).alloc (.cells #[.int .i64 0, .int .i64 0, .int .i64 0, .int .i64 0, .int .i64 0, .int .i64 0] 26) := ⟨_, rfl⟩
  rw [← hW]
  have P := (Blk.new w [.int .i64 k, .int .i64 n, .int .i64 b, .int .i64 y, .int .i64 s, .int .i64 p] 26).alloc (.cells #[.int .i64 0, .int .i64 0, .int .i64 0, .int .i64 0, .int .i64 0, .int .i64 0] 26)
  have Q := Blk.new (w.alloc (.cells #[.int .i64 k, .int .i64 n, .int .i64 b, .int .i64 y, .int .i64 s, .int .i64 p] 26)) [.int .i64 0, .int .i64 0, .int .i64 0, .int .i64 0, .int .i64 0, .int .i64 0] 26
  have BS : Below S w W := by rw [hW, ← hS]; exact ((Below.refl _ _).alloc (Nat.le_refl _) _).alloc (by simp) _
  rw [← hW] at P
  rw [← hW] at Q
  simp only [World.size_alloc, hS] at P Q
  clear hW
  refine (H.out W).mono ?_
  rintro e w1 ⟨rfl, hB⟩
  have BS := BS.trans (hB.mono (by have := P.lt; omega))
  have P := P.below hB P.lt
  have Q := Q.below hB Q.lt
  clear hB
  have a_0 := (P 0 _ rfl).1
  have a_f0 := (P 0 _ rfl).2
  have a_1 := (P 1 _ rfl).1
  have a_f1 := (P 1 _ rfl).2
  have a_2 := (P 2 _ rfl).1
  have a_f2 := (P 2 _ rfl).2
  have a_3 := (P 3 _ rfl).1
  have a_f3 := (P 3 _ rfl).2
  have a_4 := (P 4 _ rfl).1
  have a_f4 := (P 4 _ rfl).2
  have a_5 := (P 5 _ rfl).1
  have a_f5 := (P 5 _ rfl).2
  have q_0 := (Q 0 _ rfl).1
  have q_f0 := (Q 0 _ rfl).2
  have q_1 := (Q 1 _ rfl).1
  have q_f1 := (Q 1 _ rfl).2
  have q_2 := (Q 2 _ rfl).1
  have q_f2 := (Q 2 _ rfl).2
  have q_3 := (Q 3 _ rfl).1
  have q_f3 := (Q 3 _ rfl).2
  have q_4 := (Q 4 _ rfl).1
  have q_f4 := (Q 4 _ rfl).2
  have q_5 := (Q 5 _ rfl).1
  have q_f5 := (Q 5 _ rfl).2
  have HP := hide P; have HQ := hide Q; have HBS := hide BS
  clear P Q BS
  go_wp2
  obtain ⟨Z, hZ⟩ : ∃ Z, Z = ((((((((((((w1.setCell ⟨S, 0, none⟩ (.int .i64 k')).setCell ⟨S, 1, none⟩ (.int .i64 n')).setCell ⟨S, 2, none⟩ (.int .i64 b')).setCell ⟨S, 3, none⟩ (.int .i64 y')).setCell ⟨S, 4, none⟩ (.int .i64 s')).setCell ⟨S, 5, none⟩ (.int .i64 p')).setCell ⟨S + 1, 0, none⟩ (.int .i64 k')).setCell ⟨S + 1, 1, none⟩ (.int .i64 n')).setCell ⟨S + 1, 2, none⟩ (.int .i64 b')).setCell ⟨S + 1, 3, none⟩ (.int .i64 y')).setCell ⟨S + 1, 4, none⟩ (.int .i64 s')).setCell ⟨S + 1, 5, none⟩ (.int .i64 p')) := ⟨_, rfl⟩
  have z : Blk Z (S + 1) [.int .i64 k', .int .i64 n', .int .i64 b', .int .i64 y', .int .i64 s', .int .i64 p'] := by rw [hZ]; exact ((((((((((((HQ.out.other ⟨S, 0, none⟩ (.int .i64 k') (by simp only; omega)).other ⟨S, 1, none⟩ (.int .i64 n') (by simp only; omega)).other ⟨S, 2, none⟩ (.int .i64 b') (by simp only; omega)).other ⟨S, 3, none⟩ (.int .i64 y') (by simp only; omega)).other ⟨S, 4, none⟩ (.int .i64 s') (by simp only; omega)).other ⟨S, 5, none⟩ (.int .i64 p') (by simp only; omega)).set (j := 0) (by simp) (.int .i64 k')).set (j := 1) (by simp) (.int .i64 n')).set (j := 2) (by simp) (.int .i64 b')).set (j := 3) (by simp) (.int .i64 y')).set (j := 4) (by simp) (.int .i64 s')).set (j := 5) (by simp) (.int .i64 p'))
  have zB : Below S w Z := by rw [hZ]; exact ((((((((((((HBS.out.setCell (p := ⟨S, 0, none⟩) (by simp only; omega) _).setCell (p := ⟨S, 1, none⟩) (by simp only; omega) _).setCell (p := ⟨S, 2, none⟩) (by simp only; omega) _).setCell (p := ⟨S, 3, none⟩) (by simp only; omega) _).setCell (p := ⟨S, 4, none⟩) (by simp only; omega) _).setCell (p := ⟨S, 5, none⟩) (by simp only; omega) _).setCell (p := ⟨S + 1, 0, none⟩) (by simp only; omega) _).setCell (p := ⟨S + 1, 1, none⟩) (by simp only; omega) _).setCell (p := ⟨S + 1, 2, none⟩) (by simp only; omega) _).setCell (p := ⟨S + 1, 3, none⟩) (by simp only; omega) _).setCell (p := ⟨S + 1, 4, none⟩) (by simp only; omega) _).setCell (p := ⟨S + 1, 5, none⟩) (by simp only; omega) _)
  rw [← hZ]
  clear hZ
  have z_0 := (z 0 _ rfl).1
  have z_1 := (z 1 _ rfl).1
  have z_2 := (z 2 _ rfl).1
  have z_3 := (z 3 _ rfl).1
  have z_4 := (z 4 _ rfl).1
  have z_5 := (z 5 _ rfl).1
  refine bodyPost_ret (v := .tuple #[.agg #[.int .i64 k', .int .i64 n', .int .i64 b', .int .i64 y', .int .i64 s', .int .i64 p'], .bool t]) ?_ rfl ⟨rfl, ?_⟩
  · simp [results, Try.f29, go_sem, ht, z_0, z_1, z_2, z_3, z_4, z_5]
  · first | exact zB | (rw [hS]; exact zB)

set_option maxRecDepth 100000 in
set_option maxHeartbeats 4000000 in
theorem pnext_3 (k n b y s p d k' n' b' y' s' p' r : Int) (t : Bool) (ht : (r == 0) = t) (hc : ¬ k = 1 ∧ ¬ k = 2)
    (h : ∀ w : World, Calls Try.prog 49 #[.agg #[.int .i64 k, .int .i64 n, .int .i64 b, .int .i64 y, .int .i64 s, .int .i64 p], .int .i64 d] w fun e w' => e = .returned (.tuple #[.agg #[.int .i64 k', .int .i64 n', .int .i64 b', .int .i64 y', .int .i64 s', .int .i64 p'], .int .i64 r]) ∧ Below w.heap.size w w') (w : World) :
    Calls Try.prog 29 #[.agg #[.int .i64 k, .int .i64 n, .int .i64 b, .int .i64 y, .int .i64 s, .int .i64 p], .int .i64 d] w fun e w' => e = .returned (.tuple #[.agg #[.int .i64 k', .int .i64 n', .int .i64 b', .int .i64 y', .int .i64 s', .int .i64 p'], .bool t]) ∧ Below w.heap.size w w' := by
  have H := hide h
  clear h
  have g1 : (k == 1) = false := by simp; omega
  have g2 : (k == 2) = false := by simp; omega
  clear hc
  obtain ⟨S, hS⟩ : ∃ S, w.heap.size = S := ⟨_, rfl⟩
  go_enter Try.func29, Try.ntmps29
  go_wp2_with fail
  obtain ⟨W, hW⟩ : ∃ W, W = (w.alloc (.cells #[.int .i64 k, .int .i64 n, .int .i64 b, .int .i64 y, .int .i64 s, .int .i64 p] 26)).alloc (.cells #[.int .i64 0, .int .i64 0, .int .i64 0, .int .i64 0, .int .i64 0, .int .i64 0] 26) := ⟨_, rfl⟩
  rw [← hW]
  have P := (Blk.new w [.int .i64 k, .int .i64 n, .int .i64 b, .int .i64 y, .int .i64 s, .int .i64 p] 26).alloc (.cells #[.int .i64 0, .int .i64 0, .int .i64 0, .int .i64 0, .int .i64 0, .int .i64 0] 26)
  have Q := Blk.new (w.alloc (.cells #[.int .i64 k, .int .i64 n, .int .i64 b, .int .i64 y, .int .i64 s, .int .i64 p] 26)) [.int .i64 0, .int .i64 0, .int .i64 0, .int .i64 0, .int .i64 0, .int .i64 0] 26
  have BS : Below S w W := by rw [hW, ← hS]; exact ((Below.refl _ _).alloc (Nat.le_refl _) _).alloc (by simp) _
  rw [← hW] at P
  rw [← hW] at Q
  simp only [World.size_alloc, hS] at P Q
  clear hW
  refine (H.out W).mono ?_
  rintro e w1 ⟨rfl, hB⟩
  have BS := BS.trans (hB.mono (by have := P.lt; omega))
  have P := P.below hB P.lt
  have Q := Q.below hB Q.lt
  clear hB
  have a_0 := (P 0 _ rfl).1
  have a_f0 := (P 0 _ rfl).2
  have a_1 := (P 1 _ rfl).1
  have a_f1 := (P 1 _ rfl).2
  have a_2 := (P 2 _ rfl).1
  have a_f2 := (P 2 _ rfl).2
  have a_3 := (P 3 _ rfl).1
  have a_f3 := (P 3 _ rfl).2
  have a_4 := (P 4 _ rfl).1
  have a_f4 := (P 4 _ rfl).2
  have a_5 := (P 5 _ rfl).1
  have a_f5 := (P 5 _ rfl).2
  have q_0 := (Q 0 _ rfl).1
  have q_f0 := (Q 0 _ rfl).2
  have q_1 := (Q 1 _ rfl).1
  have q_f1 := (Q 1 _ rfl).2
  have q_2 := (Q 2 _ rfl).1
  have q_f2 := (Q 2 _ rfl).2
  have q_3 := (Q 3 _ rfl).1
  have q_f3 := (Q 3 _ rfl).2
  have q_4 := (Q 4 _ rfl).1
  have q_f4 := (Q 4 _ rfl).2
  have q_5 := (Q 5 _ rfl).1
  have q_f5 := (Q 5 _ rfl).2
  have HP := hide P; have HQ := hide Q; have HBS := hide BS
  clear P Q BS
  go_wp2
  obtain ⟨Z, hZ⟩ : ∃ Z, Z = ((((((((((((w1.setCell ⟨S, 0, none⟩ (.int .i64 k')).setCell ⟨S, 1, none⟩ (.int .i64 n')).setCell ⟨S, 2, none⟩ (.int .i64 b')).setCell ⟨S, 3, none⟩ (.int .i64 y')).setCell ⟨S, 4, none⟩ (.int .i64 s')).setCell ⟨S, 5, none⟩ (.int .i64 p')).setCell ⟨S + 1, 0, none⟩ (.int .i64 k')).setCell ⟨S + 1, 1, none⟩ (.int .i64 n')).setCell ⟨S + 1, 2, none⟩ (.int .i64 b')).setCell ⟨S + 1, 3, none⟩ (.int .i64 y')).setCell ⟨S + 1, 4, none⟩ (.int .i64 s')).setCell ⟨S + 1, 5, none⟩ (.int .i64 p')) := ⟨_, rfl⟩
  have z : Blk Z (S + 1) [.int .i64 k', .int .i64 n', .int .i64 b', .int .i64 y', .int .i64 s', .int .i64 p'] := by rw [hZ]; exact ((((((((((((HQ.out.other ⟨S, 0, none⟩ (.int .i64 k') (by simp only; omega)).other ⟨S, 1, none⟩ (.int .i64 n') (by simp only; omega)).other ⟨S, 2, none⟩ (.int .i64 b') (by simp only; omega)).other ⟨S, 3, none⟩ (.int .i64 y') (by simp only; omega)).other ⟨S, 4, none⟩ (.int .i64 s') (by simp only; omega)).other ⟨S, 5, none⟩ (.int .i64 p') (by simp only; omega)).set (j := 0) (by simp) (.int .i64 k')).set (j := 1) (by simp) (.int .i64 n')).set (j := 2) (by simp) (.int .i64 b')).set (j := 3) (by simp) (.int .i64 y')).set (j := 4) (by simp) (.int .i64 s')).set (j := 5) (by simp) (.int .i64 p'))
  have zB : Below S w Z := by rw [hZ]; exact ((((((((((((HBS.out.setCell (p := ⟨S, 0, none⟩) (by simp only; omega) _).setCell (p := ⟨S, 1, none⟩) (by simp only; omega) _).setCell (p := ⟨S, 2, none⟩) (by simp only; omega) _).setCell (p := ⟨S, 3, none⟩) (by simp only; omega) _).setCell (p := ⟨S, 4, none⟩) (by simp only; omega) _).setCell (p := ⟨S, 5, none⟩) (by simp only; omega) _).setCell (p := ⟨S + 1, 0, none⟩) (by simp only; omega) _).setCell (p := ⟨S + 1, 1, none⟩) (by simp only; omega) _).setCell (p := ⟨S + 1, 2, none⟩) (by simp only; omega) _).setCell (p := ⟨S + 1, 3, none⟩) (by simp only; omega) _).setCell (p := ⟨S + 1, 4, none⟩) (by simp only; omega) _).setCell (p := ⟨S + 1, 5, none⟩) (by simp only; omega) _)
  rw [← hZ]
  clear hZ
  have z_0 := (z 0 _ rfl).1
  have z_1 := (z 1 _ rfl).1
  have z_2 := (z 2 _ rfl).1
  have z_3 := (z 3 _ rfl).1
  have z_4 := (z 4 _ rfl).1
  have z_5 := (z 5 _ rfl).1
  refine bodyPost_ret (v := .tuple #[.agg #[.int .i64 k', .int .i64 n', .int .i64 b', .int .i64 y', .int .i64 s', .int .i64 p'], .bool t]) ?_ rfl ⟨rfl, ?_⟩
  · simp [results, Try.f29, go_sem, ht, z_0, z_1, z_2, z_3, z_4, z_5]
  · first | exact zB | (rw [hS]; exact zB)

end Go.Proofs.Ytmmjopmffpfccaa
