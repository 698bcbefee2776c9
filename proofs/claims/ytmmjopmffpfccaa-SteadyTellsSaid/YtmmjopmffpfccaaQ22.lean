/-
  Lemmas and walks for the statement: Duel9.
-/
import Derived.Test.YtmmjopmffpfccaaQ21
namespace Go.Proofs.Ytmmjopmffpfccaa
open Go.RowKit
set_option linter.unusedSimpArgs false
set_option linter.unusedVariables false
attribute [local go_sem] iteMin iteMax iteMinN iteMaxN
set_option maxRecDepth 100000 in
set_option maxHeartbeats 8000000 in
theorem step_wrong (k0 k1 R Q J a0 a1 a2 a3 a4 a5 b0 b1 b2 b3 b4 b5 x y l0 l1 : Int) (w : World) (r : Int) (hw : WrongSays k0 k1 R Q J r) (h0 : r ≠ 0) : Calls Try.prog 8 #[.agg #[.int .i64 k0, .int .i64 k1, .int .i64 R, .int .i64 Q, .int .i64 J], .agg #[.int .i64 a0, .int .i64 a1, .int .i64 a2, .int .i64 a3, .int .i64 a4, .int .i64 a5, .int .i64 b0, .int .i64 b1, .int .i64 b2, .int .i64 b3, .int .i64 b4, .int .i64 b5, .int .i64 x, .int .i64 y], .agg #[.int .i64 l0, .int .i64 l1]] w fun e w' => e = .returned (.tuple #[.agg #[.int .i64 0, .int .i64 0, .int .i64 0, .int .i64 0, .int .i64 0, .int .i64 0, .int .i64 0, .int .i64 0, .int .i64 0, .int .i64 0, .int .i64 0, .int .i64 0, .int .i64 0, .int .i64 0], .agg #[.int .i64 0, .int .i64 0, .int .i64 0, .int .i64 0, .int .i64 0, .int .i64 0], .int .i64 r]) ∧ Below w.heap.size w w' := by
 obtain ⟨S, hS⟩ : ∃ S, w.heap.size = S := ⟨_, rfl⟩
 go_enter Try.func8, Try.ntmps8
 go_wp2_with fail
 obtain ⟨W, hW⟩ : ∃ W, W = ((((w.alloc (.cells #[.int .i64 k0, .int .i64 k1, .int .i64 R, .int .i64 Q, .int .i64 J] 24)).alloc (.cells #[.int .i64 a0, .int .i64 a1, .int .i64 a2, .int .i64 a3, .int .i64 a4, .int .i64 a5, .int .i64 b0, .int .i64 b1, .int .i64 b2, .int .i64 b3, .int .i64 b4, .int .i64 b5, .int .i64 x, .int .i64 y] 29)).alloc (.cells #[.int .i64 l0, .int .i64 l1] 22)).alloc (.cells #[.int .i64 0, .int .i64 0, .int .i64 0, .int .i64 0, .int .i64 0, .int .i64 0, .int .i64 0, .int .i64 0, .int .i64 0, .int .i64 0, .int .i64 0, .int .i64 0, .int .i64 0, .int .i64 0] 29)).alloc (.cells #[.int .i64 0, .int .i64 0, .int .i64 0, .int .i64 0, .int .i64 0, .int .i64 0] 34) := ⟨_, rfl⟩
 rw [← hW]
 have P0 : Blk W (S) [.int .i64 k0, .int .i64 k1, .int .i64 R, .int .i64 Q, .int .i64 J] := by
  have := ((((Blk.new w [.int .i64 k0, .int .i64 k1, .int .i64 R, .int .i64 Q, .int .i64 J] 24).alloc (.cells #[.int .i64 a0, .int .i64 a1, .int .i64 a2, .int .i64 a3, .int .i64 a4, .int .i64 a5, .int .i64 b0, .int .i64 b1, .int .i64 b2, .int .i64 b3, .int .i64 b4, .int .i64 b5, .int .i64 x, .int .i64 y] 29)).alloc (.cells #[.int .i64 l0, .int .i64 l1] 22)).alloc (.cells #[.int .i64 0, .int .i64 0, .int .i64 0, .int .i64 0, .int .i64 0, .int .i64 0, .int .i64 0, .int .i64 0, .int .i64 0, .int .i64 0, .int .i64 0, .int .i64 0, .int .i64 0, .int .i64 0] 29)).alloc (.cells #[.int .i64 0, .int .i64 0, .int .i64 0, .int .i64 0, .int .i64 0, .int .i64 0] 34)
  rw [hW]; simpa [hS] using this
 have P1 : Blk W (S + 1) [.int .i64 a0, .int .i64 a1, .int .i64 a2, .int .i64 a3, .int .i64 a4, .int .i64 a5, .int .i64 b0, .int .i64 b1, .int .i64 b2, .int .i64 b3, .int .i64 b4, .int .i64 b5, .int .i64 x, .int .i64 y] := by
  have := (((Blk.new (w.alloc (.cells #[.int .i64 k0, .int .i64 k1, .int .i64 R, .int .i64 Q, .int .i64 J] 24)) [.int .i64 a0, .int .i64 a1, .int .i64 a2, .int .i64 a3, .int .i64 a4, .int .i64 a5, .int .i64 b0, .int .i64 b1, .int .i64 b2, .int .i64 b3, .int .i64 b4, .int .i64 b5, .int .i64 x, .int .i64 y] 29).alloc (.cells #[.int .i64 l0, .int .i64 l1] 22)).alloc (.cells #[.int .i64 0, .int .i64 0, .int .i64 0, .int .i64 0, .int .i64 0, .int .i64 0, .int .i64 0, .int .i64 0, .int .i64 0, .int .i64 0, .int .i64 0, .int .i64 0, .int .i64 0, .int .i64 0] 29)).alloc (.cells #[.int .i64 0, .int .i64 0, .int .i64 0, .int .i64 0, .int .i64 0, .int .i64 0] 34)
  rw [hW]; simpa [hS] using this
 have P2 : Blk W (S + 1 + 1) [.int .i64 l0, .int .i64 l1] := by
  have := ((Blk.new ((w.alloc (.cells #[.int .i64 k0, .int .i64 k1, .int .i64 R, .int .i64 Q, .int .i64 J] 24)).alloc (.cells #[.int .i64 a0, .int .i64 a1, .int .i64 a2, .int .i64 a3, .int .i64 a4, .int .i64 a5, .int .i64 b0, .int .i64 b1, .int .i64 b2, .int .i64 b3, .int .i64 b4, .int .i64 b5, .int .i64 x, .int .i64 y] 29)) [.int .i64 l0, .int .i64 l1] 22).alloc (.cells #[.int .i64 0, .int .i64 0, .int .i64 0, .int .i64 0, .int .i64 0, .int .i64 0, .int .i64 0, .int .i64 0, .int .i64 0, .int .i64 0, .int .i64 0, .int .i64 0, .int .i64 0, .int .i64 0] 29)).alloc (.cells #[.int .i64 0, .int .i64 0, .int .i64 0, .int .i64 0, .int .i64 0, .int .i64 0] 34)
  rw [hW]; simpa [hS] using this
 have P3 : Blk W (S + 1 + 1 + 1) [.int .i64 0, .int .i64 0, .int .i64 0, .int .i64 0, .int .i64 0, .int .i64 0, .int .i64 0, .int .i64 0, .int .i64 0, .int .i64 0, .int .i64 0, .int .i64 0, .int .i64 0, .int .i64 0] := by
  have := (Blk.new (((w.alloc (.cells #[.int .i64 k0, .int .i64 k1, .int .i64 R, .int .i64 Q, .int .i64 J] 24)).alloc (.cells #[.int .i64 a0, .int .i64 a1, .int .i64 a2, .int .i64 a3, .int .i64 a4, .int .i64 a5, .int .i64 b0, .int .i64 b1, .int .i64 b2, .int .i64 b3, .int .i64 b4, .int .i64 b5, .int .i64 x, .int .i64 y] 29)).alloc (.cells #[.int .i64 l0, .int .i64 l1] 22)) [.int .i64 0, .int .i64 0, .int .i64 0, .int .i64 0, .int .i64 0, .int .i64 0, .int .i64 0, .int .i64 0, .int .i64 0, .int .i64 0, .int .i64 0, .int .i64 0, .int .i64 0, .int .i64 0] 29).alloc (.cells #[.int .i64 0, .int .i64 0, .int .i64 0, .int .i64 0, .int .i64 0, .int .i64 0] 34)
  rw [hW]; simpa [hS] using this
 have P4 : Blk W (S + 1 + 1 + 1 + 1) [.int .i64 0, .int .i64 0, .int .i64 0, .int .i64 0, .int .i64 0, .int .i64 0] := by
  have := Blk.new ((((w.alloc (.cells #[.int .i64 k0, .int .i64 k1, .int .i64 R, .int .i64 Q, .int .i64 J] 24)).alloc (.cells #[.int .i64 a0, .int .i64 a1, .int .i64 a2, .int .i64 a3, .int .i64 a4, .int .i64 a5, .int .i64 b0, .int .i64 b1, .int .i64 b2, .int .i64 b3, .int .i64 b4, .int .i64 b5, .int .i64 x, .int .i64 y] 29)).alloc (.cells #[.int .i64 l0, .int .i64 l1] 22)).alloc (.cells #[.int .i64 0, .int .i64 0, .int .i64 0, .int .i64 0, .int .i64 0, .int .i64 0, .int .i64 0, .int .i64 0, .int .i64 0, .int .i64 0, .int .i64 0, .int .i64 0, .int .i64 0, .int .i64 0] 29)) [.int .i64 0, .int .i64 0, .int .i64 0, .int .i64 0, .int .i64 0, .int .i64 0] 34
  rw [hW]; simpa [hS] using this
 have BS : Below S w W := by rw [hW, ← hS]; exact (((((Below.refl _ _).alloc (by first | exact Nat.le_refl _ | (simp; done) | (simp; omega)) _).alloc (by first | exact Nat.le_refl _ | (simp; done) | (simp; omega)) _).alloc (by first | exact Nat.le_refl _ | (simp; done) | (simp; omega)) _).alloc (by first | exact Nat.le_refl _ | (simp; done) | (simp; omega)) _).alloc (by first | exact Nat.le_refl _ | (simp; done) | (simp; omega)) _
 clear hW
 refine (dwrong_any k0 k1 R Q J W).mono ?_
 rintro e w1 ⟨⟨r', rfl, hr'⟩, hB1⟩
 have BS := BS.trans (hB1.mono (Nat.le_of_lt P0.lt))
 have P4 := P4.below hB1 P4.lt
 have P3 := P3.below hB1 P3.lt
 have P2 := P2.below hB1 P2.lt
 have P1 := P1.below hB1 P1.lt
 have P0 := P0.below hB1 P0.lt
 clear hB1
 obtain rfl := wrongSays_one hw hr'
 have h0' : (r == 0) = false := by simp; omega
 clear hw hr' h0
 have p_0 := (P3 0 _ rfl).1
 have p_f0 := (P3 0 _ rfl).2
 have p_1 := (P3 1 _ rfl).1
 have p_f1 := (P3 1 _ rfl).2
 have p_2 := (P3 2 _ rfl).1
 have p_f2 := (P3 2 _ rfl).2
 have p_3 := (P3 3 _ rfl).1
 have p_f3 := (P3 3 _ rfl).2
 have p_4 := (P3 4 _ rfl).1
 have p_f4 := (P3 4 _ rfl).2
 have p_5 := (P3 5 _ rfl).1
 have p_f5 := (P3 5 _ rfl).2
 have p_6 := (P3 6 _ rfl).1
 have p_f6 := (P3 6 _ rfl).2
 have p_7 := (P3 7 _ rfl).1
 have p_f7 := (P3 7 _ rfl).2
 have p_8 := (P3 8 _ rfl).1
 have p_f8 := (P3 8 _ rfl).2
 have p_9 := (P3 9 _ rfl).1
 have p_f9 := (P3 9 _ rfl).2
 have p_10 := (P3 10 _ rfl).1
 have p_f10 := (P3 10 _ rfl).2
 have p_11 := (P3 11 _ rfl).1
 have p_f11 := (P3 11 _ rfl).2
 have p_12 := (P3 12 _ rfl).1
 have p_f12 := (P3 12 _ rfl).2
 have p_13 := (P3 13 _ rfl).1
 have p_f13 := (P3 13 _ rfl).2
 have o_0 := (P4 0 _ rfl).1
 have o_f0 := (P4 0 _ rfl).2
 have o_1 := (P4 1 _ rfl).1
 have o_f1 := (P4 1 _ rfl).2
 have o_2 := (P4 2 _ rfl).1
 have o_f2 := (P4 2 _ rfl).2
 have o_3 := (P4 3 _ rfl).1
 have o_f3 := (P4 3 _ rfl).2
 have o_4 := (P4 4 _ rfl).1
 have o_f4 := (P4 4 _ rfl).2
 have o_5 := (P4 5 _ rfl).1
 have o_f5 := (P4 5 _ rfl).2
 have H3 := hide P3; have H4 := hide P4; have HBS := hide BS
 clear P0 P1 P2 P3 P4 BS
 go_wp2
 obtain ⟨Z, hZ⟩ : ∃ Z, Z = ((((((((((((((((((((w1.setCell ⟨S + 1 + 1 + 1, 0, none⟩ (.int .i64 0)).setCell ⟨S + 1 + 1 + 1, 1, none⟩ (.int .i64 0)).setCell ⟨S + 1 + 1 + 1, 2, none⟩ (.int .i64 0)).setCell ⟨S + 1 + 1 + 1, 3, none⟩ (.int .i64 0)).setCell ⟨S + 1 + 1 + 1, 4, none⟩ (.int .i64 0)).setCell ⟨S + 1 + 1 + 1, 5, none⟩ (.int .i64 0)).setCell ⟨S + 1 + 1 + 1, 6, none⟩ (.int .i64 0)).setCell ⟨S + 1 + 1 + 1, 7, none⟩ (.int .i64 0)).setCell ⟨S + 1 + 1 + 1, 8, none⟩ (.int .i64 0)).setCell ⟨S + 1 + 1 + 1, 9, none⟩ (.int .i64 0)).setCell ⟨S + 1 + 1 + 1, 10, none⟩ (.int .i64 0)).setCell ⟨S + 1 + 1 + 1, 11, none⟩ (.int .i64 0)).setCell ⟨S + 1 + 1 + 1, 12, none⟩ (.int .i64 0)).setCell ⟨S + 1 + 1 + 1, 13, none⟩ (.int .i64 0)).setCell ⟨S + 1 + 1 + 1 + 1, 0, none⟩ (.int .i64 0)).setCell ⟨S + 1 + 1 + 1 + 1, 1, none⟩ (.int .i64 0)).setCell ⟨S + 1 + 1 + 1 + 1, 2, none⟩ (.int .i64 0)).setCell ⟨S + 1 + 1 + 1 + 1, 3, none⟩ (.int .i64 0)).setCell ⟨S + 1 + 1 + 1 + 1, 4, none⟩ (.int .i64 0)).setCell ⟨S + 1 + 1 + 1 + 1, 5, none⟩ (.int .i64 0)) := ⟨_, rfl⟩
 have z3 : Blk Z (S + 1 + 1 + 1) [.int .i64 0, .int .i64 0, .int .i64 0, .int .i64 0, .int .i64 0, .int .i64 0, .int .i64 0, .int .i64 0, .int .i64 0, .int .i64 0, .int .i64 0, .int .i64 0, .int .i64 0, .int .i64 0] := by rw [hZ]; exact ((((((((((((((((((((H3.out.set (j := 0) (by simp) (.int .i64 0)).set (j := 1) (by simp) (.int .i64 0)).set (j := 2) (by simp) (.int .i64 0)).set (j := 3) (by simp) (.int .i64 0)).set (j := 4) (by simp) (.int .i64 0)).set (j := 5) (by simp) (.int .i64 0)).set (j := 6) (by simp) (.int .i64 0)).set (j := 7) (by simp) (.int .i64 0)).set (j := 8) (by simp) (.int .i64 0)).set (j := 9) (by simp) (.int .i64 0)).set (j := 10) (by simp) (.int .i64 0)).set (j := 11) (by simp) (.int .i64 0)).set (j := 12) (by simp) (.int .i64 0)).set (j := 13) (by simp) (.int .i64 0)).other ⟨S + 1 + 1 + 1 + 1, 0, none⟩ (.int .i64 0) (by simp only; omega)).other ⟨S + 1 + 1 + 1 + 1, 1, none⟩ (.int .i64 0) (by simp only; omega)).other ⟨S + 1 + 1 + 1 + 1, 2, none⟩ (.int .i64 0) (by simp only; omega)).other ⟨S + 1 + 1 + 1 + 1, 3, none⟩ (.int .i64 0) (by simp only; omega)).other ⟨S + 1 + 1 + 1 + 1, 4, none⟩ (.int .i64 0) (by simp only; omega)).other ⟨S + 1 + 1 + 1 + 1, 5, none⟩ (.int .i64 0) (by simp only; omega))
 have z4 : Blk Z (S + 1 + 1 + 1 + 1) [.int .i64 0, .int .i64 0, .int .i64 0, .int .i64 0, .int .i64 0, .int .i64 0] := by rw [hZ]; exact ((((((((((((((((((((H4.out.other ⟨S + 1 + 1 + 1, 0, none⟩ (.int .i64 0) (by simp only; omega)).other ⟨S + 1 + 1 + 1, 1, none⟩ (.int .i64 0) (by simp only; omega)).other ⟨S + 1 + 1 + 1, 2, none⟩ (.int .i64 0) (by simp only; omega)).other ⟨S + 1 + 1 + 1, 3, none⟩ (.int .i64 0) (by simp only; omega)).other ⟨S + 1 + 1 + 1, 4, none⟩ (.int .i64 0) (by simp only; omega)).other ⟨S + 1 + 1 + 1, 5, none⟩ (.int .i64 0) (by simp only; omega)).other ⟨S + 1 + 1 + 1, 6, none⟩ (.int .i64 0) (by simp only; omega)).other ⟨S + 1 + 1 + 1, 7, none⟩ (.int .i64 0) (by simp only; omega)).other ⟨S + 1 + 1 + 1, 8, none⟩ (.int .i64 0) (by simp only; omega)).other ⟨S + 1 + 1 + 1, 9, none⟩ (.int .i64 0) (by simp only; omega)).other ⟨S + 1 + 1 + 1, 10, none⟩ (.int .i64 0) (by simp only; omega)).other ⟨S + 1 + 1 + 1, 11, none⟩ (.int .i64 0) (by simp only; omega)).other ⟨S + 1 + 1 + 1, 12, none⟩ (.int .i64 0) (by simp only; omega)).other ⟨S + 1 + 1 + 1, 13, none⟩ (.int .i64 0) (by simp only; omega)).set (j := 0) (by simp) (.int .i64 0)).set (j := 1) (by simp) (.int .i64 0)).set (j := 2) (by simp) (.int .i64 0)).set (j := 3) (by simp) (.int .i64 0)).set (j := 4) (by simp) (.int .i64 0)).set (j := 5) (by simp) (.int .i64 0))
 have zB : Below S w Z := by rw [hZ]; exact ((((((((((((((((((((HBS.out.setCell (p := ⟨S + 1 + 1 + 1, 0, none⟩) (by simp only; omega) _).setCell (p := ⟨S + 1 + 1 + 1, 1, none⟩) (by simp only; omega) _).setCell (p := ⟨S + 1 + 1 + 1, 2, none⟩) (by simp only; omega) _).setCell (p := ⟨S + 1 + 1 + 1, 3, none⟩) (by simp only; omega) _).setCell (p := ⟨S + 1 + 1 + 1, 4, none⟩) (by simp only; omega) _).setCell (p := ⟨S + 1 + 1 + 1, 5, none⟩) (by simp only; omega) _).setCell (p := ⟨S + 1 + 1 + 1, 6, none⟩) (by simp only; omega) _).setCell (p := ⟨S + 1 + 1 + 1, 7, none⟩) (by simp only; omega) _).setCell (p := ⟨S + 1 + 1 + 1, 8, none⟩) (by simp only; omega) _).setCell (p := ⟨S + 1 + 1 + 1, 9, none⟩) (by simp only; omega) _).setCell (p := ⟨S + 1 + 1 + 1, 10, none⟩) (by simp only; omega) _).setCell (p := ⟨S + 1 + 1 + 1, 11, none⟩) (by simp only; omega) _).setCell (p := ⟨S + 1 + 1 + 1, 12, none⟩) (by simp only; omega) _).setCell (p := ⟨S + 1 + 1 + 1, 13, none⟩) (by simp only; omega) _).setCell (p := ⟨S + 1 + 1 + 1 + 1, 0, none⟩) (by simp only; omega) _).setCell (p := ⟨S + 1 + 1 + 1 + 1, 1, none⟩) (by simp only; omega) _).setCell (p := ⟨S + 1 + 1 + 1 + 1, 2, none⟩) (by simp only; omega) _).setCell (p := ⟨S + 1 + 1 + 1 + 1, 3, none⟩) (by simp only; omega) _).setCell (p := ⟨S + 1 + 1 + 1 + 1, 4, none⟩) (by simp only; omega) _).setCell (p := ⟨S + 1 + 1 + 1 + 1, 5, none⟩) (by simp only; omega) _)
 rw [← hZ]
 clear hZ
 have y_0 := (z3 0 _ rfl).1
 have y_1 := (z3 1 _ rfl).1
 have y_2 := (z3 2 _ rfl).1
 have y_3 := (z3 3 _ rfl).1
 have y_4 := (z3 4 _ rfl).1
 have y_5 := (z3 5 _ rfl).1
 have y_6 := (z3 6 _ rfl).1
 have y_7 := (z3 7 _ rfl).1
 have y_8 := (z3 8 _ rfl).1
 have y_9 := (z3 9 _ rfl).1
 have y_10 := (z3 10 _ rfl).1
 have y_11 := (z3 11 _ rfl).1
 have y_12 := (z3 12 _ rfl).1
 have y_13 := (z3 13 _ rfl).1
 have v_0 := (z4 0 _ rfl).1
 have v_1 := (z4 1 _ rfl).1
 have v_2 := (z4 2 _ rfl).1
 have v_3 := (z4 3 _ rfl).1
 have v_4 := (z4 4 _ rfl).1
 have v_5 := (z4 5 _ rfl).1
 refine bodyPost_ret (v := .tuple #[.agg #[.int .i64 0, .int .i64 0, .int .i64 0, .int .i64 0, .int .i64 0, .int .i64 0, .int .i64 0, .int .i64 0, .int .i64 0, .int .i64 0, .int .i64 0, .int .i64 0, .int .i64 0, .int .i64 0], .agg #[.int .i64 0, .int .i64 0, .int .i64 0, .int .i64 0, .int .i64 0, .int .i64 0], .int .i64 r]) ?_ rfl ⟨rfl, ?_⟩
 · simp [results, Try.f8, go_sem, y_0, y_1, y_2, y_3, y_4, y_5, y_6, y_7, y_8, y_9, y_10, y_11, y_12, y_13, v_0, v_1, v_2, v_3, v_4, v_5]
 · first | exact zB | (rw [hS]; exact zB)
set_option maxRecDepth 100000 in
set_option maxHeartbeats 8000000 in
theorem step_form (k0 k1 R Q J a0 a1 a2 a3 a4 a5 b0 b1 b2 b3 b4 b5 x y l0 l1 : Int) (w : World) (hk : kindsOk k0 k1) (hr : rangeOk R Q J) (hno : ¬ StRight k0 k1 R Q J a0 a1 a2 a3 a4 a5 b0 b1 b2 b3 b4 b5 x y) : Calls Try.prog 8 #[.agg #[.int .i64 k0, .int .i64 k1, .int .i64 R, .int .i64 Q, .int .i64 J], .agg #[.int .i64 a0, .int .i64 a1, .int .i64 a2, .int .i64 a3, .int .i64 a4, .int .i64 a5, .int .i64 b0, .int .i64 b1, .int .i64 b2, .int .i64 b3, .int .i64 b4, .int .i64 b5, .int .i64 x, .int .i64 y], .agg #[.int .i64 l0, .int .i64 l1]] w fun e w' => e = .returned (.tuple #[.agg #[.int .i64 0, .int .i64 0, .int .i64 0, .int .i64 0, .int .i64 0, .int .i64 0, .int .i64 0, .int .i64 0, .int .i64 0, .int .i64 0, .int .i64 0, .int .i64 0, .int .i64 0, .int .i64 0], .agg #[.int .i64 0, .int .i64 0, .int .i64 0, .int .i64 0, .int .i64 0, .int .i64 0], .int .i64 1]) ∧ Below w.heap.size w w' := by
 obtain ⟨S, hS⟩ : ∃ S, w.heap.size = S := ⟨_, rfl⟩
 go_enter Try.func8, Try.ntmps8
 go_wp2_with fail
 obtain ⟨W, hW⟩ : ∃ W, W = ((((w.alloc (.cells #[.int .i64 k0, .int .i64 k1, .int .i64 R, .int .i64 Q, .int .i64 J] 24)).alloc (.cells #[.int .i64 a0, .int .i64 a1, .int .i64 a2, .int .i64 a3, .int .i64 a4, .int .i64 a5, .int .i64 b0, .int .i64 b1, .int .i64 b2, .int .i64 b3, .int .i64 b4, .int .i64 b5, .int .i64 x, .int .i64 y] 29)).alloc (.cells #[.int .i64 l0, .int .i64 l1] 22)).alloc (.cells #[.int .i64 0, .int .i64 0, .int .i64 0, .int .i64 0, .int .i64 0, .int .i64 0, .int .i64 0, .int .i64 0, .int .i64 0, .int .i64 0, .int .i64 0, .int .i64 0, .int .i64 0, .int .i64 0] 29)).alloc (.cells #[.int .i64 0, .int .i64 0, .int .i64 0, .int .i64 0, .int .i64 0, .int .i64 0] 34) := ⟨_, rfl⟩
 rw [← hW]
 have P0 : Blk W (S) [.int .i64 k0, .int .i64 k1, .int .i64 R, .int .i64 Q, .int .i64 J] := by
  have := ((((Blk.new w [.int .i64 k0, .int .i64 k1, .int .i64 R, .int .i64 Q, .int .i64 J] 24).alloc (.cells #[.int .i64 a0, .int .i64 a1, .int .i64 a2, .int .i64 a3, .int .i64 a4, .int .i64 a5, .int .i64 b0, .int .i64 b1, .int .i64 b2, .int .i64 b3, .int .i64 b4, .int .i64 b5, .int .i64 x, .int .i64 y] 29)).alloc (.cells #[.int .i64 l0, .int .i64 l1] 22)).alloc (.cells #[.int .i64 0, .int .i64 0, .int .i64 0, .int .i64 0, .int .i64 0, .int .i64 0, .int .i64 0, .int .i64 0, .int .i64 0, .int .i64 0, .int .i64 0, .int .i64 0, .int .i64 0, .int .i64 0] 29)).alloc (.cells #[.int .i64 0, .int .i64 0, .int .i64 0, .int .i64 0, .int .i64 0, .int .i64 0] 34)
  rw [hW]; simpa [hS] using this
 have P1 : Blk W (S + 1) [.int .i64 a0, .int .i64 a1, .int .i64 a2, .int .i64 a3, .int .i64 a4, .int .i64 a5, .int .i64 b0, .int .i64 b1, .int .i64 b2, .int .i64 b3, .int .i64 b4, .int .i64 b5, .int .i64 x, .int .i64 y] := by
  have := (((Blk.new (w.alloc (.cells #[.int .i64 k0, .int .i64 k1, .int .i64 R, .int .i64 Q, .int .i64 J] 24)) [.int .i64 a0, .int .i64 a1, .int .i64 a2, .int .i64 a3, .int .i64 a4, .int .i64 a5, .int .i64 b0, .int .i64 b1, .int .i64 b2, .int .i64 b3, .int .i64 b4, .int .i64 b5, .int .i64 x, .int .i64 y] 29).alloc (.cells #[.int .i64 l0, .int .i64 l1] 22)).alloc (.cells #[.int .i64 0, .int .i64 0, .int .i64 0, .int .i64 0, .int .i64 0, .int .i64 0, .int .i64 0, .int .i64 0, .int .i64 0, .int .i64 0, .int .i64 0, .int .i64 0, .int .i64 0, .int .i64 0] 29)).alloc (.cells #[.int .i64 0, .int .i64 0, .int .i64 0, .int .i64 0, .int .i64 0, .int .i64 0] 34)
  rw [hW]; simpa [hS] using this
 have P2 : Blk W (S + 1 + 1) [.int .i64 l0, .int .i64 l1] := by
  have := ((Blk.new ((w.alloc (.cells #[.int .i64 k0, .int .i64 k1, .int .i64 R, .int .i64 Q, .int .i64 J] 24)).alloc (.cells #[.int .i64 a0, .int .i64 a1, .int .i64 a2, .int .i64 a3, .int .i64 a4, .int .i64 a5, .int .i64 b0, .int .i64 b1, .int .i64 b2, .int .i64 b3, .int .i64 b4, .int .i64 b5, .int .i64 x, .int .i64 y] 29)) [.int .i64 l0, .int .i64 l1] 22).alloc (.cells #[.int .i64 0, .int .i64 0, .int .i64 0, .int .i64 0, .int .i64 0, .int .i64 0, .int .i64 0, .int .i64 0, .int .i64 0, .int .i64 0, .int .i64 0, .int .i64 0, .int .i64 0, .int .i64 0] 29)).alloc (.cells #[.int .i64 0, .int .i64 0, .int .i64 0, .int .i64 0, .int .i64 0, .int .i64 0] 34)
  rw [hW]; simpa [hS] using this
 have P3 : Blk W (S + 1 + 1 + 1) [.int .i64 0, .int .i64 0, .int .i64 0, .int .i64 0, .int .i64 0, .int .i64 0, .int .i64 0, .int .i64 0, .int .i64 0, .int .i64 0, .int .i64 0, .int .i64 0, .int .i64 0, .int .i64 0] := by
  have := (Blk.new (((w.alloc (.cells #[.int .i64 k0, .int .i64 k1, .int .i64 R, .int .i64 Q, .int .i64 J] 24)).alloc (.cells #[.int .i64 a0, .int .i64 a1, .int .i64 a2, .int .i64 a3, .int .i64 a4, .int .i64 a5, .int .i64 b0, .int .i64 b1, .int .i64 b2, .int .i64 b3, .int .i64 b4, .int .i64 b5, .int .i64 x, .int .i64 y] 29)).alloc (.cells #[.int .i64 l0, .int .i64 l1] 22)) [.int .i64 0, .int .i64 0, .int .i64 0, .int .i64 0, .int .i64 0, .int .i64 0, .int .i64 0, .int .i64 0, .int .i64 0, .int .i64 0, .int .i64 0, .int .i64 0, .int .i64 0, .int .i64 0] 29).alloc (.cells #[.int .i64 0, .int .i64 0, .int .i64 0, .int .i64 0, .int .i64 0, .int .i64 0] 34)
  rw [hW]; simpa [hS] using this
 have P4 : Blk W (S + 1 + 1 + 1 + 1) [.int .i64 0, .int .i64 0, .int .i64 0, .int .i64 0, .int .i64 0, .int .i64 0] := by
  have := Blk.new ((((w.alloc (.cells #[.int .i64 k0, .int .i64 k1, .int .i64 R, .int .i64 Q, .int .i64 J] 24)).alloc (.cells #[.int .i64 a0, .int .i64 a1, .int .i64 a2, .int .i64 a3, .int .i64 a4, .int .i64 a5, .int .i64 b0, .int .i64 b1, .int .i64 b2, .int .i64 b3, .int .i64 b4, .int .i64 b5, .int .i64 x, .int .i64 y] 29)).alloc (.cells #[.int .i64 l0, .int .i64 l1] 22)).alloc (.cells #[.int .i64 0, .int .i64 0, .int .i64 0, .int .i64 0, .int .i64 0, .int .i64 0, .int .i64 0, .int .i64 0, .int .i64 0, .int .i64 0, .int .i64 0, .int .i64 0, .int .i64 0, .int .i64 0] 29)) [.int .i64 0, .int .i64 0, .int .i64 0, .int .i64 0, .int .i64 0, .int .i64 0] 34
  rw [hW]; simpa [hS] using this
 have BS : Below S w W := by rw [hW, ← hS]; exact (((((Below.refl _ _).alloc (by first | exact Nat.le_refl _ | (simp; done) | (simp; omega)) _).alloc (by first | exact Nat.le_refl _ | (simp; done) | (simp; omega)) _).alloc (by first | exact Nat.le_refl _ | (simp; done) | (simp; omega)) _).alloc (by first | exact Nat.le_refl _ | (simp; done) | (simp; omega)) _).alloc (by first | exact Nat.le_refl _ | (simp; done) | (simp; omega)) _
 clear hW
 refine (dwrong_any k0 k1 R Q J W).mono ?_
 rintro e w1 ⟨⟨r', rfl, hr'⟩, hB1⟩
 have BS := BS.trans (hB1.mono (Nat.le_of_lt P0.lt))
 have P4 := P4.below hB1 P4.lt
 have P3 := P3.below hB1 P3.lt
 have P2 := P2.below hB1 P2.lt
 have P1 := P1.below hB1 P1.lt
 have P0 := P0.below hB1 P0.lt
 clear hB1
 obtain rfl := wrongSays_one hr' (.inr (.inr ⟨hk, hr, rfl⟩))
 clear hr'
 have r_0 := (P0 0 _ rfl).1
 have r_1 := (P0 1 _ rfl).1
 have r_2 := (P0 2 _ rfl).1
 have r_3 := (P0 3 _ rfl).1
 have r_4 := (P0 4 _ rfl).1
 have s_0 := (P1 0 _ rfl).1
 have s_1 := (P1 1 _ rfl).1
 have s_2 := (P1 2 _ rfl).1
 have s_3 := (P1 3 _ rfl).1
 have s_4 := (P1 4 _ rfl).1
 have s_5 := (P1 5 _ rfl).1
 have s_6 := (P1 6 _ rfl).1
 have s_7 := (P1 7 _ rfl).1
 have s_8 := (P1 8 _ rfl).1
 have s_9 := (P1 9 _ rfl).1
 have s_10 := (P1 10 _ rfl).1
 have s_11 := (P1 11 _ rfl).1
 have s_12 := (P1 12 _ rfl).1
 have s_13 := (P1 13 _ rfl).1
 have h0 := hide P0; have h1 := hide P1; have h2 := hide P2; have h3 := hide P3; have h4 := hide P4; have hb := hide BS
 have HNO := hide hno
 clear P0 P1 P2 P3 P4 BS hno
 go_wp2_with fail
 have P0 := h0.out; have P1 := h1.out; have P2 := h2.out; have P3 := h3.out; have P4 := h4.out; have BS := hb.out
 clear h0 h1 h2 h3 h4 hb r_0 r_1 r_2 r_3 r_4 s_0 s_1 s_2 s_3 s_4 s_5 s_6 s_7 s_8 s_9 s_10 s_11 s_12 s_13
 refine (callF (dright_any k0 k1 R Q J a0 a1 a2 a3 a4 a5 b0 b1 b2 b3 b4 b5 x y w1) HNO.out).mono ?_
 rintro e w2 ⟨rfl, hB2⟩
 have BS := BS.trans (hB2.mono (Nat.le_of_lt P0.lt))
 have P4 := P4.below hB2 P4.lt
 have P3 := P3.below hB2 P3.lt
 have P2 := P2.below hB2 P2.lt
 have P1 := P1.below hB2 P1.lt
 have P0 := P0.below hB2 P0.lt
 clear hB2
 have p_0 := (P3 0 _ rfl).1
 have p_f0 := (P3 0 _ rfl).2
 have p_1 := (P3 1 _ rfl).1
 have p_f1 := (P3 1 _ rfl).2
 have p_2 := (P3 2 _ rfl).1
 have p_f2 := (P3 2 _ rfl).2
 have p_3 := (P3 3 _ rfl).1
 have p_f3 := (P3 3 _ rfl).2
 have p_4 := (P3 4 _ rfl).1
 have p_f4 := (P3 4 _ rfl).2
 have p_5 := (P3 5 _ rfl).1
 have p_f5 := (P3 5 _ rfl).2
 have p_6 := (P3 6 _ rfl).1
 have p_f6 := (P3 6 _ rfl).2
 have p_7 := (P3 7 _ rfl).1
 have p_f7 := (P3 7 _ rfl).2
 have p_8 := (P3 8 _ rfl).1
 have p_f8 := (P3 8 _ rfl).2
 have p_9 := (P3 9 _ rfl).1
 have p_f9 := (P3 9 _ rfl).2
 have p_10 := (P3 10 _ rfl).1
 have p_f10 := (P3 10 _ rfl).2
 have p_11 := (P3 11 _ rfl).1
 have p_f11 := (P3 11 _ rfl).2
 have p_12 := (P3 12 _ rfl).1
 have p_f12 := (P3 12 _ rfl).2
 have p_13 := (P3 13 _ rfl).1
 have p_f13 := (P3 13 _ rfl).2
 have o_0 := (P4 0 _ rfl).1
 have o_f0 := (P4 0 _ rfl).2
 have o_1 := (P4 1 _ rfl).1
 have o_f1 := (P4 1 _ rfl).2
 have o_2 := (P4 2 _ rfl).1
 have o_f2 := (P4 2 _ rfl).2
 have o_3 := (P4 3 _ rfl).1
 have o_f3 := (P4 3 _ rfl).2
 have o_4 := (P4 4 _ rfl).1
 have o_f4 := (P4 4 _ rfl).2
 have o_5 := (P4 5 _ rfl).1
 have o_f5 := (P4 5 _ rfl).2
 have H3 := hide P3; have H4 := hide P4; have HBS := hide BS
 clear P0 P1 P2 P3 P4 BS
 go_wp2
 obtain ⟨Z, hZ⟩ : ∃ Z, Z = ((((((((((((((((((((w2.setCell ⟨S + 1 + 1 + 1, 0, none⟩ (.int .i64 0)).setCell ⟨S + 1 + 1 + 1, 1, none⟩ (.int .i64 0)).setCell ⟨S + 1 + 1 + 1, 2, none⟩ (.int .i64 0)).setCell ⟨S + 1 + 1 + 1, 3, none⟩ (.int .i64 0)).setCell ⟨S + 1 + 1 + 1, 4, none⟩ (.int .i64 0)).setCell ⟨S + 1 + 1 + 1, 5, none⟩ (.int .i64 0)).setCell ⟨S + 1 + 1 + 1, 6, none⟩ (.int .i64 0)).setCell ⟨S + 1 + 1 + 1, 7, none⟩ (.int .i64 0)).setCell ⟨S + 1 + 1 + 1, 8, none⟩ (.int .i64 0)).setCell ⟨S + 1 + 1 + 1, 9, none⟩ (.int .i64 0)).setCell ⟨S + 1 + 1 + 1, 10, none⟩ (.int .i64 0)).setCell ⟨S + 1 + 1 + 1, 11, none⟩ (.int .i64 0)).setCell ⟨S + 1 + 1 + 1, 12, none⟩ (.int .i64 0)).setCell ⟨S + 1 + 1 + 1, 13, none⟩ (.int .i64 0)).setCell ⟨S + 1 + 1 + 1 + 1, 0, none⟩ (.int .i64 0)).setCell ⟨S + 1 + 1 + 1 + 1, 1, none⟩ (.int .i64 0)).setCell ⟨S + 1 + 1 + 1 + 1, 2, none⟩ (.int .i64 0)).setCell ⟨S + 1 + 1 + 1 + 1, 3, none⟩ (.int .i64 0)).setCell ⟨S + 1 + 1 + 1 + 1, 4, none⟩ (.int .i64 0)).setCell ⟨S + 1 + 1 + 1 + 1, 5, none⟩ (.int .i64 0)) := ⟨_, rfl⟩
 have z3 : Blk Z (S + 1 + 1 + 1) [.int .i64 0, .int .i64 0, .int .i64 0, .int .i64 0, .int .i64 0, .int .i64 0, .int .i64 0, .int .i64 0, .int .i64 0, .int .i64 0, .int .i64 0, .int .i64 0, .int .i64 0, .int .i64 0] := by rw [hZ]; exact ((((((((((((((((((((H3.out.set (j := 0) (by simp) (.int .i64 0)).set (j := 1) (by simp) (.int .i64 0)).set (j := 2) (by simp) (.int .i64 0)).set (j := 3) (by simp) (.int .i64 0)).set (j := 4) (by simp) (.int .i64 0)).set (j := 5) (by simp) (.int .i64 0)).set (j := 6) (by simp) (.int .i64 0)).set (j := 7) (by simp) (.int .i64 0)).set (j := 8) (by simp) (.int .i64 0)).set (j := 9) (by simp) (.int .i64 0)).set (j := 10) (by simp) (.int .i64 0)).set (j := 11) (by simp) (.int .i64 0)).set (j := 12) (by simp) (.int .i64 0)).set (j := 13) (by simp) (.int .i64 0)).other ⟨S + 1 + 1 + 1 + 1, 0, none⟩ (.int .i64 0) (by simp only; omega)).other ⟨S + 1 + 1 + 1 + 1, 1, none⟩ (.int .i64 0) (by simp only; omega)).other ⟨S + 1 + 1 + 1 + 1, 2, none⟩ (.int .i64 0) (by simp only; omega)).other ⟨S + 1 + 1 + 1 + 1, 3, none⟩ (.int .i64 0) (by simp only; omega)).other ⟨S + 1 + 1 + 1 + 1, 4, none⟩ (.int .i64 0) (by simp only; omega)).other ⟨S + 1 + 1 + 1 + 1, 5, none⟩ (.int .i64 0) (by simp only; omega))
 have z4 : Blk Z (S + 1 + 1 + 1 + 1) [.int .i64 0, .int .i64 0, .int .i64 0, .int .i64 0, .int .i64 0, .int .i64 0] := by rw [hZ]; exact ((((((((((((((((((((H4.out.other ⟨S + 1 + 1 + 1, 0, none⟩ (.int .i64 0) (by simp only; omega)).other ⟨S + 1 + 1 + 1, 1, none⟩ (.int .i64 0) (by simp only; omega)).other ⟨S + 1 + 1 + 1, 2, none⟩ (.int .i64 0) (by simp only; omega)).other ⟨S + 1 + 1 + 1, 3, none⟩ (.int .i64 0) (by simp only; omega)).other ⟨S + 1 + 1 + 1, 4, none⟩ (.int .i64 0) (by simp only; omega)).other ⟨S + 1 + 1 + 1, 5, none⟩ (.int .i64 0) (by simp only; omega)).other ⟨S + 1 + 1 + 1, 6, none⟩ (.int .i64 0) (by simp only; omega)).other ⟨S + 1 + 1 + 1, 7, none⟩ (.int .i64 0) (by simp only; omega)).other ⟨S + 1 + 1 + 1, 8, none⟩ (.int .i64 0) (by simp only; omega)).other ⟨S + 1 + 1 + 1, 9, none⟩ (.int .i64 0) (by simp only; omega)).other ⟨S + 1 + 1 + 1, 10, none⟩ (.int .i64 0) (by simp only; omega)).other ⟨S + 1 + 1 + 1, 11, none⟩ (.int .i64 0) (by simp only; omega)).other ⟨S + 1 + 1 + 1, 12, none⟩ (.int .i64 0) (by simp only; omega)).other ⟨S + 1 + 1 + 1, 13, none⟩ (.int .i64 0) (by simp only; omega)).set (j := 0) (by simp) (.int .i64 0)).set (j := 1) (by simp) (.int .i64 0)).set (j := 2) (by simp) (.int .i64 0)).set (j := 3) (by simp) (.int .i64 0)).set (j := 4) (by simp) (.int .i64 0)).set (j := 5) (by simp) (.int .i64 0))
 have zB : Below S w Z := by rw [hZ]; exact ((((((((((((((((((((HBS.out.setCell (p := ⟨S + 1 + 1 + 1, 0, none⟩) (by simp only; omega) _).setCell (p := ⟨S + 1 + 1 + 1, 1, none⟩) (by simp only; omega) _).setCell (p := ⟨S + 1 + 1 + 1, 2, none⟩) (by simp only; omega) _).setCell (p := ⟨S + 1 + 1 + 1, 3, none⟩) (by simp only; omega) _).setCell (p := ⟨S + 1 + 1 + 1, 4, none⟩) (by simp only; omega) _).setCell (p := ⟨S + 1 + 1 + 1, 5, none⟩) (by simp only; omega) _).setCell (p := ⟨S + 1 + 1 + 1, 6, none⟩) (by simp only; omega) _).setCell (p := ⟨S + 1 + 1 + 1, 7, none⟩) (by simp only; omega) _).setCell (p := ⟨S + 1 + 1 + 1, 8, none⟩) (by simp only; omega) _).setCell (p := ⟨S + 1 + 1 + 1, 9, none⟩) (by simp only; omega) _).setCell (p := ⟨S + 1 + 1 + 1, 10, none⟩) (by simp only; omega) _).setCell (p := ⟨S + 1 + 1 + 1, 11, none⟩) (by simp only; omega) _).setCell (p := ⟨S + 1 + 1 + 1, 12, none⟩) (by simp only; omega) _).setCell (p := ⟨S + 1 + 1 + 1, 13, none⟩) (by simp only; omega) _).setCell (p := ⟨S + 1 + 1 + 1 + 1, 0, none⟩) (by simp only; omega) _).setCell (p := ⟨S + 1 + 1 + 1 + 1, 1, none⟩) (by simp only; omega) _).setCell (p := ⟨S + 1 + 1 + 1 + 1, 2, none⟩) (by simp only; omega) _).setCell (p := ⟨S + 1 + 1 + 1 + 1, 3, none⟩) (by simp only; omega) _).setCell (p := ⟨S + 1 + 1 + 1 + 1, 4, none⟩) (by simp only; omega) _).setCell (p := ⟨S + 1 + 1 + 1 + 1, 5, none⟩) (by simp only; omega) _)
 rw [← hZ]
 clear hZ
 have y_0 := (z3 0 _ rfl).1
 have y_1 := (z3 1 _ rfl).1
 have y_2 := (z3 2 _ rfl).1
 have y_3 := (z3 3 _ rfl).1
 have y_4 := (z3 4 _ rfl).1
 have y_5 := (z3 5 _ rfl).1
 have y_6 := (z3 6 _ rfl).1
 have y_7 := (z3 7 _ rfl).1
 have y_8 := (z3 8 _ rfl).1
 have y_9 := (z3 9 _ rfl).1
 have y_10 := (z3 10 _ rfl).1
 have y_11 := (z3 11 _ rfl).1
 have y_12 := (z3 12 _ rfl).1
 have y_13 := (z3 13 _ rfl).1
 have v_0 := (z4 0 _ rfl).1
 have v_1 := (z4 1 _ rfl).1
 have v_2 := (z4 2 _ rfl).1
 have v_3 := (z4 3 _ rfl).1
 have v_4 := (z4 4 _ rfl).1
 have v_5 := (z4 5 _ rfl).1
 refine bodyPost_ret (v := .tuple #[.agg #[.int .i64 0, .int .i64 0, .int .i64 0, .int .i64 0, .int .i64 0, .int .i64 0, .int .i64 0, .int .i64 0, .int .i64 0, .int .i64 0, .int .i64 0, .int .i64 0, .int .i64 0, .int .i64 0], .agg #[.int .i64 0, .int .i64 0, .int .i64 0, .int .i64 0, .int .i64 0, .int .i64 0], .int .i64 1]) ?_ rfl ⟨rfl, ?_⟩
 · simp [results, Try.f8, go_sem, y_0, y_1, y_2, y_3, y_4, y_5, y_6, y_7, y_8, y_9, y_10, y_11, y_12, y_13, v_0, v_1, v_2, v_3, v_4, v_5]
 · first | exact zB | (rw [hS]; exact zB)
set_option maxRecDepth 100000 in
set_option maxHeartbeats 8000000 in
theorem pstep_wrong (k0 k1 R Q J a0 a1 a2 a3 a4 a5 b0 b1 b2 b3 b4 b5 x y l0 l1 : Int) (w : World) (r : Int) (hw : WrongSays k0 k1 R Q J r) (h0 : r ≠ 0) : Calls Try.prog 9 #[.agg #[.int .i64 k0, .int .i64 k1, .int .i64 R, .int .i64 Q, .int .i64 J], .agg #[.int .i64 a0, .int .i64 a1, .int .i64 a2, .int .i64 a3, .int .i64 a4, .int .i64 a5, .int .i64 b0, .int .i64 b1, .int .i64 b2, .int .i64 b3, .int .i64 b4, .int .i64 b5, .int .i64 x, .int .i64 y], .agg #[.int .i64 l0, .int .i64 l1]] w fun e w' => e = .returned (.tuple #[.agg #[.int .i64 0, .int .i64 0, .int .i64 0, .int .i64 0, .int .i64 0, .int .i64 0, .int .i64 0, .int .i64 0, .int .i64 0, .int .i64 0, .int .i64 0, .int .i64 0, .int .i64 0, .int .i64 0], .agg #[.int .i64 0, .int .i64 0, .int .i64 0, .int .i64 0, .int .i64 0, .int .i64 0], .int .i64 r]) ∧ Below w.heap.size w w' := by
 obtain ⟨S, hS⟩ : ∃ S, w.heap.size = S := ⟨_, rfl⟩
 go_enter Try.func9, Try.ntmps9
 go_wp2_with fail
 obtain ⟨W, hW⟩ : ∃ W, W = ((((w.alloc (.cells #[.int .i64 k0, .int .i64 k1, .int .i64 R, .int .i64 Q, .int .i64 J] 24)).alloc (.cells #[.int .i64 a0, .int .i64 a1, .int .i64 a2, .int .i64 a3, .int .i64 a4, .int .i64 a5, .int .i64 b0, .int .i64 b1, .int .i64 b2, .int .i64 b3, .int .i64 b4, .int .i64 b5, .int .i64 x, .int .i64 y] 29)).alloc (.cells #[.int .i64 l0, .int .i64 l1] 22)).alloc (.cells #[.int .i64 0, .int .i64 0, .int .i64 0, .int .i64 0, .int .i64 0, .int .i64 0, .int .i64 0, .int .i64 0, .int .i64 0, .int .i64 0, .int .i64 0, .int .i64 0, .int .i64 0, .int .i64 0] 29)).alloc (.cells #[.int .i64 0, .int .i64 0, .int .i64 0, .int .i64 0, .int .i64 0, .int .i64 0] 34) := ⟨_, rfl⟩
 rw [← hW]
 have P0 : Blk W (S) [.int .i64 k0, .int .i64 k1, .int .i64 R, .int .i64 Q, .int .i64 J] := by
  have := ((((Blk.new w [.int .i64 k0, .int .i64 k1, .int .i64 R, .int .i64 Q, .int .i64 J] 24).alloc (.cells #[.int .i64 a0, .int .i64 a1, .int .i64 a2, .int .i64 a3, .int .i64 a4, .int .i64 a5, .int .i64 b0, .int .i64 b1, .int .i64 b2, .int .i64 b3, .int .i64 b4, .int .i64 b5, .int .i64 x, .int .i64 y] 29)).alloc (.cells #[.int .i64 l0, .int .i64 l1] 22)).alloc (.cells #[.int .i64 0, .int .i64 0, .int .i64 0, .int .i64 0, .int .i64 0, .int .i64 0, .int .i64 0, .int .i64 0, .int .i64 0, .int .i64 0, .int .i64 0, .int .i64 0, .int .i64 0, .int .i64 0] 29)).alloc (.cells #[.int .i64 0, .int .i64 0, .int .i64 0, .int .i64 0, .int .i64 0, .int .i64 0] 34)
  rw [hW]; simpa [hS] using this
 have P1 : Blk W (S + 1) [.int .i64 a0, .int .i64 a1, .int .i64 a2, .int .i64 a3, .int .i64 a4, .int .i64 a5, .int .i64 b0, .int .i64 b1, .int .i64 b2, .int .i64 b3, .int .i64 b4, .int .i64 b5, .int .i64 x, .int .i64 y] := by
  have := (((Blk.new (w.alloc (.cells #[.int .i64 k0, .int .i64 k1, .int .i64 R, .int .i64 Q, .int .i64 J] 24)) [.int .i64 a0, .int .i64 a1, .int .i64 a2, .int .i64 a3, .int .i64 a4, .int .i64 a5, .int .i64 b0, .int .i64 b1, .int .i64 b2, .int .i64 b3, .int .i64 b4, .int .i64 b5, .int .i64 x, .int .i64 y] 29).alloc (.cells #[.int .i64 l0, .int .i64 l1] 22)).alloc (.cells #[.int .i64 0, .int .i64 0, .int .i64 0, .int .i64 0, .int .i64 0, .int .i64 0, .int .i64 0, .int .i64 0, .int .i64 0, .int .i64 0, .int .i64 0, .int .i64 0, .int .i64 0, .int .i64 0] 29)).alloc (.cells #[.int .i64 0, .int .i64 0, .int .i64 0, .int .i64 0, .int .i64 0, .int .i64 0] 34)
  rw [hW]; simpa [hS] using this
 have P2 : Blk W (S + 1 + 1) [.int .i64 l0, .int .i64 l1] := by
  have := ((Blk.new ((w.alloc (.cells #[.int .i64 k0, .int .i64 k1, .int .i64 R, .int .i64 Q, .int .i64 J] 24)).alloc (.cells #[.int .i64 a0, .int .i64 a1, .int .i64 a2, .int .i64 a3, .int .i64 a4, .int .i64 a5, .int .i64 b0, .int .i64 b1, .int .i64 b2, .int .i64 b3, .int .i64 b4, .int .i64 b5, .int .i64 x, .int .i64 y] 29)) [.int .i64 l0, .int .i64 l1] 22).alloc (.cells #[.int .i64 0, .int .i64 0, .int .i64 0, .int .i64 0, .int .i64 0, .int .i64 0, .int .i64 0, .int .i64 0, .int .i64 0, .int .i64 0, .int .i64 0, .int .i64 0, .int .i64 0, .int .i64 0] 29)).alloc (.cells #[.int .i64 0, .int .i64 0, .int .i64 0, .int .i64 0, .int .i64 0, .int .i64 0] 34)
  rw [hW]; simpa [hS] using this
 have P3 : Blk W (S + 1 + 1 + 1) [.int .i64 0, .int .i64 0, .int .i64 0, .int .i64 0, .int .i64 0, .int .i64 0, .int .i64 0, .int .i64 0, .int .i64 0, .int .i64 0, .int .i64 0, .int .i64 0, .int .i64 0, .int .i64 0] := by
  have := (Blk.new (((w.alloc (.cells #[.int .i64 k0, .int .i64 k1, .int .i64 R, .int .i64 Q, .int .i64 J] 24)).alloc (.cells #[.int .i64 a0, .int .i64 a1, .int .i64 a2, .int .i64 a3, .int .i64 a4, .int .i64 a5, .int .i64 b0, .int .i64 b1, .int .i64 b2, .int .i64 b3, .int .i64 b4, .int .i64 b5, .int .i64 x, .int .i64 y] 29)).alloc (.cells #[.int .i64 l0, .int .i64 l1] 22)) [.int .i64 0, .int .i64 0, .int .i64 0, .int .i64 0, .int .i64 0, .int .i64 0, .int .i64 0, .int .i64 0, .int .i64 0, .int .i64 0, .int .i64 0, .int .i64 0, .int .i64 0, .int .i64 0] 29).alloc (.cells #[.int .i64 0, .int .i64 0, .int .i64 0, .int .i64 0, .int .i64 0, .int .i64 0] 34)
  rw [hW]; simpa [hS] using this
 have P4 : Blk W (S + 1 + 1 + 1 + 1) [.int .i64 0, .int .i64 0, .int .i64 0, .int .i64 0, .int .i64 0, .int .i64 0] := by
  have := Blk.new ((((w.alloc (.cells #[.int .i64 k0, .int .i64 k1, .int .i64 R, .int .i64 Q, .int .i64 J] 24)).alloc (.cells #[.int .i64 a0, .int .i64 a1, .int .i64 a2, .int .i64 a3, .int .i64 a4, .int .i64 a5, .int .i64 b0, .int .i64 b1, .int .i64 b2, .int .i64 b3, .int .i64 b4, .int .i64 b5, .int .i64 x, .int .i64 y] 29)).alloc (.cells #[.int .i64 l0, .int .i64 l1] 22)).alloc (.cells #[.int .i64 0, .int .i64 0, .int .i64 0, .int .i64 0, .int .i64 0, .int .i64 0, .int .i64 0, .int .i64 0, .int .i64 0, .int .i64 0, .int .i64 0, .int .i64 0, .int .i64 0, .int .i64 0] 29)) [.int .i64 0, .int .i64 0, .int .i64 0, .int .i64 0, .int .i64 0, .int .i64 0] 34
  rw [hW]; simpa [hS] using this
 have BS : Below S w W := by rw [hW, ← hS]; exact (((((Below.refl _ _).alloc (by first | exact Nat.le_refl _ | (simp; done) | (simp; omega)) _).alloc (by first | exact Nat.le_refl _ | (simp; done) | (simp; omega)) _).alloc (by first | exact Nat.le_refl _ | (simp; done) | (simp; omega)) _).alloc (by first | exact Nat.le_refl _ | (simp; done) | (simp; omega)) _).alloc (by first | exact Nat.le_refl _ | (simp; done) | (simp; omega)) _
 clear hW
 refine (pwrong_any k0 k1 R Q J W).mono ?_
 rintro e w1 ⟨⟨r', rfl, hr'⟩, hB1⟩
 have BS := BS.trans (hB1.mono (Nat.le_of_lt P0.lt))
 have P4 := P4.below hB1 P4.lt
 have P3 := P3.below hB1 P3.lt
 have P2 := P2.below hB1 P2.lt
 have P1 := P1.below hB1 P1.lt
 have P0 := P0.below hB1 P0.lt
 clear hB1
 obtain rfl := wrongSays_one hw hr'
 have h0' : (r == 0) = false := by simp; omega
 clear hw hr' h0
 have p_0 := (P3 0 _ rfl).1
 have p_f0 := (P3 0 _ rfl).2
 have p_1 := (P3 1 _ rfl).1
 have p_f1 := (P3 1 _ rfl).2
 have p_2 := (P3 2 _ rfl).1
 have p_f2 := (P3 2 _ rfl).2
 have p_3 := (P3 3 _ rfl).1
 have p_f3 := (P3 3 _ rfl).2
 have p_4 := (P3 4 _ rfl).1
 have p_f4 := (P3 4 _ rfl).2
 have p_5 := (P3 5 _ rfl).1
 have p_f5 := (P3 5 _ rfl).2
 have p_6 := (P3 6 _ rfl).1
 have p_f6 := (P3 6 _ rfl).2
 have p_7 := (P3 7 _ rfl).1
 have p_f7 := (P3 7 _ rfl).2
 have p_8 := (P3 8 _ rfl).1
 have p_f8 := (P3 8 _ rfl).2
 have p_9 := (P3 9 _ rfl).1
 have p_f9 := (P3 9 _ rfl).2
 have p_10 := (P3 10 _ rfl).1
 have p_f10 := (P3 10 _ rfl).2
 have p_11 := (P3 11 _ rfl).1
 have p_f11 := (P3 11 _ rfl).2
 have p_12 := (P3 12 _ rfl).1
 have p_f12 := (P3 12 _ rfl).2
 have p_13 := (P3 13 _ rfl).1
 have p_f13 := (P3 13 _ rfl).2
 have o_0 := (P4 0 _ rfl).1
 have o_f0 := (P4 0 _ rfl).2
 have o_1 := (P4 1 _ rfl).1
 have o_f1 := (P4 1 _ rfl).2
 have o_2 := (P4 2 _ rfl).1
 have o_f2 := (P4 2 _ rfl).2
 have o_3 := (P4 3 _ rfl).1
 have o_f3 := (P4 3 _ rfl).2
 have o_4 := (P4 4 _ rfl).1
 have o_f4 := (P4 4 _ rfl).2
 have o_5 := (P4 5 _ rfl).1
 have o_f5 := (P4 5 _ rfl).2
 have H3 := hide P3; have H4 := hide P4; have HBS := hide BS
 clear P0 P1 P2 P3 P4 BS
 go_wp2
 obtain ⟨Z, hZ⟩ : ∃ Z, Z = ((((((((((((((((((((w1.setCell ⟨S + 1 + 1 + 1, 0, none⟩ (.int .i64 0)).setCell ⟨S + 1 + 1 + 1, 1, none⟩ (.int .i64 0)).setCell ⟨S + 1 + 1 + 1, 2, none⟩ (.int .i64 0)).setCell ⟨S + 1 + 1 + 1, 3, none⟩ (.int .i64 0)).setCell ⟨S + 1 + 1 + 1, 4, none⟩ (.int .i64 0)).setCell ⟨S + 1 + 1 + 1, 5, none⟩ (.int .i64 0)).setCell ⟨S + 1 + 1 + 1, 6, none⟩ (.int .i64 0)).setCell ⟨S + 1 + 1 + 1, 7, none⟩ (.int .i64 0)).setCell ⟨S + 1 + 1 + 1, 8, none⟩ (.int .i64 0)).setCell ⟨S + 1 + 1 + 1, 9, none⟩ (.int .i64 0)).setCell ⟨S + 1 + 1 + 1, 10, none⟩ (.int .i64 0)).setCell ⟨S + 1 + 1 + 1, 11, none⟩ (.int .i64 0)).setCell ⟨S + 1 + 1 + 1, 12, none⟩ (.int .i64 0)).setCell ⟨S + 1 + 1 + 1, 13, none⟩ (.int .i64 0)).setCell ⟨S + 1 + 1 + 1 + 1, 0, none⟩ (.int .i64 0)).setCell ⟨S + 1 + 1 + 1 + 1, 1, none⟩ (.int .i64 0)).setCell ⟨S + 1 + 1 + 1 + 1, 2, none⟩ (.int .i64 0)).setCell ⟨S + 1 + 1 + 1 + 1, 3, none⟩ (.int .i64 0)).setCell ⟨S + 1 + 1 + 1 + 1, 4, none⟩ (.int .i64 0)).setCell ⟨S + 1 + 1 + 1 + 1, 5, none⟩ (.int .i64 0)) := ⟨_, rfl⟩
 have z3 : Blk Z (S + 1 + 1 + 1) [.int .i64 0, .int .i64 0, .int .i64 0, .int .i64 0, .int .i64 0, .int .i64 0, .int .i64 0, .int .i64 0, .int .i64 0, .int .i64 0, .int .i64 0, .int .i64 0, .int .i64 0, .int .i64 0] := by rw [hZ]; exact ((((((((((((((((((((H3.out.set (j := 0) (by simp) (.int .i64 0)).set (j := 1) (by simp) (.int .i64 0)).set (j := 2) (by simp) (.int .i64 0)).set (j := 3) (by simp) (.int .i64 0)).set (j := 4) (by simp) (.int .i64 0)).set (j := 5) (by simp) (.int .i64 0)).set (j := 6) (by simp) (.int .i64 0)).set (j := 7) (by simp) (.int .i64 0)).set (j := 8) (by simp) (.int .i64 0)).set (j := 9) (by simp) (.int .i64 0)).set (j := 10) (by simp) (.int .i64 0)).set (j := 11) (by simp) (.int .i64 0)).set (j := 12) (by simp) (.int .i64 0)).set (j := 13) (by simp) (.int .i64 0)).other ⟨S + 1 + 1 + 1 + 1, 0, none⟩ (.int .i64 0) (by simp only; omega)).other ⟨S + 1 + 1 + 1 + 1, 1, none⟩ (.int .i64 0) (by simp only; omega)).other ⟨S + 1 + 1 + 1 + 1, 2, none⟩ (.int .i64 0) (by simp only; omega)).other ⟨S + 1 + 1 + 1 + 1, 3, none⟩ (.int .i64 0) (by simp only; omega)).other ⟨S + 1 + 1 + 1 + 1, 4, none⟩ (.int .i64 0) (by simp only; omega)).other ⟨S + 1 + 1 + 1 + 1, 5, none⟩ (.int .i64 0) (by simp only; omega))
 have z4 : Blk Z (S + 1 + 1 + 1 + 1) [.int .i64 0, .int .i64 0, .int .i64 0, .int .i64 0, .int .i64 0, .int .i64 0] := by rw [hZ]; exact ((((((((((((((((((((H4.out.other ⟨S + 1 + 1 + 1, 0, none⟩ (.int .i64 0) (by simp only; omega)).other ⟨S + 1 + 1 + 1, 1, none⟩ (.int .i64 0) (by simp only; omega)).other ⟨S + 1 + 1 + 1, 2, none⟩ (.int .i64 0) (by simp only; omega)).other ⟨S + 1 + 1 + 1, 3, none⟩ (.int .i64 0) (by simp only; omega)).other ⟨S + 1 + 1 + 1, 4, none⟩ (.int .i64 0) (by simp only; omega)).other ⟨S + 1 + 1 + 1, 5, none⟩ (.int .i64 0) (by simp only; omega)).other ⟨S + 1 + 1 + 1, 6, none⟩ (.int .i64 0) (by simp only; omega)).other ⟨S + 1 + 1 + 1, 7, none⟩ (.int .i64 0) (by simp only; omega)).other ⟨S + 1 + 1 + 1, 8, none⟩ (.int .i64 0) (by simp only; omega)).other ⟨S + 1 + 1 + 1, 9, none⟩ (.int .i64 0) (by simp only; omega)).other ⟨S + 1 + 1 + 1, 10, none⟩ (.int .i64 0) (by simp only; omega)).other ⟨S + 1 + 1 + 1, 11, none⟩ (.int .i64 0) (by simp only; omega)).other ⟨S + 1 + 1 + 1, 12, none⟩ (.int .i64 0) (by simp only; omega)).other ⟨S + 1 + 1 + 1, 13, none⟩ (.int .i64 0) (by simp only; omega)).set (j := 0) (by simp) (.int .i64 0)).set (j := 1) (by simp) (.int .i64 0)).set (j := 2) (by simp) (.int .i64 0)).set (j := 3) (by simp) (.int .i64 0)).set (j := 4) (by simp) (.int .i64 0)).set (j := 5) (by simp) (.int .i64 0))
 have zB : Below S w Z := by rw [hZ]; exact ((((((((((((((((((((HBS.out.setCell (p := ⟨S + 1 + 1 + 1, 0, none⟩) (by simp only; omega) _).setCell (p := ⟨S + 1 + 1 + 1, 1, none⟩) (by simp only; omega) _).setCell (p := ⟨S + 1 + 1 + 1, 2, none⟩) (by simp only; omega) _).setCell (p := ⟨S + 1 + 1 + 1, 3, none⟩) (by simp only; omega) _).setCell (p := ⟨S + 1 + 1 + 1, 4, none⟩) (by simp only; omega) _).setCell (p := ⟨S + 1 + 1 + 1, 5, none⟩) (by simp only; omega) _).setCell (p := ⟨S + 1 + 1 + 1, 6, none⟩) (by simp only; omega) _).setCell (p := ⟨S + 1 + 1 + 1, 7, none⟩) (by simp only; omega) _).setCell (p := ⟨S + 1 + 1 + 1, 8, none⟩) (by simp only; omega) _).setCell (p := ⟨S + 1 + 1 + 1, 9, none⟩) (by simp only; omega) _).setCell (p := ⟨S + 1 + 1 + 1, 10, none⟩) (by simp only; omega) _).setCell (p := ⟨S + 1 + 1 + 1, 11, none⟩) (by simp only; omega) _).setCell (p := ⟨S + 1 + 1 + 1, 12, none⟩) (by simp only; omega) _).setCell (p := ⟨S + 1 + 1 + 1, 13, none⟩) (by simp only; omega) _).setCell (p := ⟨S + 1 + 1 + 1 + 1, 0, none⟩) (by simp only; omega) _).setCell (p := ⟨S + 1 + 1 + 1 + 1, 1, none⟩) (by simp only; omega) _).setCell (p := ⟨S + 1 + 1 + 1 + 1, 2, none⟩) (by simp only; omega) _).setCell (p := ⟨S + 1 + 1 + 1 + 1, 3, none⟩) (by simp only; omega) _).setCell (p := ⟨S + 1 + 1 + 1 + 1, 4, none⟩) (by simp only; omega) _).setCell (p := ⟨S + 1 + 1 + 1 + 1, 5, none⟩) (by simp only; omega) _)
 rw [← hZ]
 clear hZ
 have y_0 := (z3 0 _ rfl).1
 have y_1 := (z3 1 _ rfl).1
 have y_2 := (z3 2 _ rfl).1
 have y_3 := (z3 3 _ rfl).1
 have y_4 := (z3 4 _ rfl).1
 have y_5 := (z3 5 _ rfl).1
 have y_6 := (z3 6 _ rfl).1
 have y_7 := (z3 7 _ rfl).1
 have y_8 := (z3 8 _ rfl).1
 have y_9 := (z3 9 _ rfl).1
 have y_10 := (z3 10 _ rfl).1
 have y_11 := (z3 11 _ rfl).1
 have y_12 := (z3 12 _ rfl).1
 have y_13 := (z3 13 _ rfl).1
 have v_0 := (z4 0 _ rfl).1
 have v_1 := (z4 1 _ rfl).1
 have v_2 := (z4 2 _ rfl).1
 have v_3 := (z4 3 _ rfl).1
 have v_4 := (z4 4 _ rfl).1
 have v_5 := (z4 5 _ rfl).1
 refine bodyPost_ret (v := .tuple #[.agg #[.int .i64 0, .int .i64 0, .int .i64 0, .int .i64 0, .int .i64 0, .int .i64 0, .int .i64 0, .int .i64 0, .int .i64 0, .int .i64 0, .int .i64 0, .int .i64 0, .int .i64 0, .int .i64 0], .agg #[.int .i64 0, .int .i64 0, .int .i64 0, .int .i64 0, .int .i64 0, .int .i64 0], .int .i64 r]) ?_ rfl ⟨rfl, ?_⟩
 · simp [results, Try.f9, go_sem, y_0, y_1, y_2, y_3, y_4, y_5, y_6, y_7, y_8, y_9, y_10, y_11, y_12, y_13, v_0, v_1, v_2, v_3, v_4, v_5]
 · first | exact zB | (rw [hS]; exact zB)
set_option maxRecDepth 100000 in
set_option maxHeartbeats 8000000 in
theorem pstep_form (k0 k1 R Q J a0 a1 a2 a3 a4 a5 b0 b1 b2 b3 b4 b5 x y l0 l1 : Int) (w : World) (hk : kindsOk k0 k1) (hr : rangeOk R Q J) (hno : ¬ StRight k0 k1 R Q J a0 a1 a2 a3 a4 a5 b0 b1 b2 b3 b4 b5 x y) : Calls Try.prog 9 #[.agg #[.int .i64 k0, .int .i64 k1, .int .i64 R, .int .i64 Q, .int .i64 J], .agg #[.int .i64 a0, .int .i64 a1, .int .i64 a2, .int .i64 a3, .int .i64 a4, .int .i64 a5, .int .i64 b0, .int .i64 b1, .int .i64 b2, .int .i64 b3, .int .i64 b4, .int .i64 b5, .int .i64 x, .int .i64 y], .agg #[.int .i64 l0, .int .i64 l1]] w fun e w' => e = .returned (.tuple #[.agg #[.int .i64 0, .int .i64 0, .int .i64 0, .int .i64 0, .int .i64 0, .int .i64 0, .int .i64 0, .int .i64 0, .int .i64 0, .int .i64 0, .int .i64 0, .int .i64 0, .int .i64 0, .int .i64 0], .agg #[.int .i64 0, .int .i64 0, .int .i64 0, .int .i64 0, .int .i64 0, .int .i64 0], .int .i64 1]) ∧ Below w.heap.size w w' := by
 obtain ⟨S, hS⟩ : ∃ S, w.heap.size = S := ⟨_, rfl⟩
 go_enter Try.func9, Try.ntmps9
 go_wp2_with fail
 obtain ⟨W, hW⟩ : ∃ W, W = ((((w.alloc (.cells #[.int .i64 k0, .int .i64 k1, .int .i64 R, .int .i64 Q, .int .i64 J] 24)).alloc (.cells #[.int .i64 a0, .int .i64 a1, .int .i64 a2, .int .i64 a3, .int .i64 a4, .int .i64 a5, .int .i64 b0, .int .i64 b1, .int .i64 b2, .int .i64 b3, .int .i64 b4, .int .i64 b5, .int .i64 x, .int .i64 y] 29)).alloc (.cells #[.int .i64 l0, .int .i64 l1] 22)).alloc (.cells #[.int .i64 0, .int .i64 0, .int .i64 0, .int .i64 0, .int .i64 0, .int .i64 0, .int .i64 0, .int .i64 0, .int .i64 0, .int .i64 0, .int .i64 0, .int .i64 0, .int .i64 0, .int .i64 0] 29)).alloc (.cells #[.int .i64 0, .int .i64 0, .int .i64 0, .int .i64 0, .int .i64 0, .int .i64 0] 34) := ⟨_, rfl⟩
 rw [← hW]
 have P0 : Blk W (S) [.int .i64 k0, .int .i64 k1, .int .i64 R, .int .i64 Q, .int .i64 J] := by
  have := ((((Blk.new w [.int .i64 k0, .int .i64 k1, .int .i64 R, .int .i64 Q, .int .i64 J] 24).alloc (.cells #[.int .i64 a0, .int .i64 a1, .int .i64 a2, .int .i64 a3, .int .i64 a4, .int .i64 a5, .int .i64 b0, .int .i64 b1, .int .i64 b2, .int .i64 b3, .int .i64 b4, .int .i64 b5, .int .i64 x, .int .i64 y] 29)).alloc (.cells #[.int .i64 l0, .int .i64 l1] 22)).alloc (.cells #[.int .i64 0, .int .i64 0, .int .i64 0, .int .i64 0, .int .i64 0, .int .i64 0, .int .i64 0, .int .i64 0, .int .i64 0, .int .i64 0, .int .i64 0, .int .i64 0, .int .i64 0, .int .i64 0] 29)).alloc (.cells #[.int .i64 0, .int .i64 0, .int .i64 0, .int .i64 0, .int .i64 0, .int .i64 0] 34)
  rw [hW]; simpa [hS] using this
 have P1 : Blk W (S + 1) [.int .i64 a0, .int .i64 a1, .int .i64 a2, .int .i64 a3, .int .i64 a4, .int .i64 a5, .int .i64 b0, .int .i64 b1, .int .i64 b2, .int .i64 b3, .int .i64 b4, .int .i64 b5, .int .i64 x, .int .i64 y] := by
  have := (((Blk.new (w.alloc (.cells #[.int .i64 k0, .int .i64 k1, .int .i64 R, .int .i64 Q, .int .i64 J] 24)) [.int .i64 a0, .int .i64 a1, .int .i64 a2, .int .i64 a3, .int .i64 a4, .int .i64 a5, .int .i64 b0, .int .i64 b1, .int .i64 b2, .int .i64 b3, .int .i64 b4, .int .i64 b5, .int .i64 x, .int .i64 y] 29).alloc (.cells #[.int .i64 l0, .int .i64 l1] 22)).alloc (.cells #[.int .i64 0, .int .i64 0, .int .i64 0, .int .i64 0, .int .i64 0, .int .i64 0, .int .i64 0, .int .i64 0, .int .i64 0, .int .i64 0, .int .i64 0, .int .i64 0, .int .i64 0, .int .i64 0] 29)).alloc (.cells #[.int .i64 0, .int .i64 0, .int .i64 0, .int .i64 0, .int .i64 0, .int .i64 0] 34)
  rw [hW]; simpa [hS] using this
 have P2 : Blk W (S + 1 + 1) [.int .i64 l0, .int .i64 l1] := by
  have := ((Blk.new ((w.alloc (.cells #[.int .i64 k0, .int .i64 k1, .int .i64 R, .int .i64 Q, .int .i64 J] 24)).alloc (.cells #[.int .i64 a0, .int .i64 a1, .int .i64 a2, .int .i64 a3, .int .i64 a4, .int .i64 a5, .int .i64 b0, .int .i64 b1, .int .i64 b2, .int .i64 b3, .int .i64 b4, .int .i64 b5, .int .i64 x, .int .i64 y] 29)) [.int .i64 l0, .int .i64 l1] 22).alloc (.cells #[.int .i64 0, .int .i64 0, .int .i64 0, .int .i64 0, .int .i64 0, .int .i64 0, .int .i64 0, .int .i64 0, .int .i64 0, .int .i64 0, .int .i64 0, .int .i64 0, .int .i64 0, .int .i64 0] 29)).alloc (.cells #[.int .i64 0, .int .i64 0, .int .i64 0, .int .i64 0, .int .i64 0, .int .i64 0] 34)
  rw [hW]; simpa [hS] using this
 have P3 : Blk W (S + 1 + 1 + 1) [.int .i64 0, .int .i64 0, .int .i64 0, .int .i64 0, .int .i64 0, .int .i64 0, .int .i64 0, .int .i64 0, .int .i64 0, .int .i64 0, .int .i64 0, .int .i64 0, .int .i64 0, .int .i64 0] := by
  have := (Blk.new (((w.alloc (.cells #[.int .i64 k0, .int .i64 k1, .int .i64 R, .int .i64 Q, .int .i64 J] 24)).alloc (.cells #[.int .i64 a0, .int .i64 a1, .int .i64 a2, .int .i64 a3, .int .i64 a4, .int .i64 a5, .int .i64 b0, .int .i64 b1, .int .i64 b2, .int .i64 b3, .int .i64 b4, .int .i64 b5, .int .i64 x, .int .i64 y] 29)).alloc (.cells #[.int .i64 l0, .int .i64 l1] 22)) [.int .i64 0, .int .i64 0, .int .i64 0, .int .i64 0, .int .i64 0, .int .i64 0, .int .i64 0, .int .i64 0, .int .i64 0, .int .i64 0, .int .i64 0, .int .i64 0, .int .i64 0, .int .i64 0] 29).alloc (.cells #[.int .i64 0, .int .i64 0, .int .i64 0, .int .i64 0, .int .i64 0, .int .i64 0] 34)
  rw [hW]; simpa [hS] using this
 have P4 : Blk W (S + 1 + 1 + 1 + 1) [.int .i64 0, .int .i64 0, .int .i64 0, .int .i64 0, .int .i64 0, .int .i64 0] := by
  have := Blk.new ((((w.alloc (.cells #[.int .i64 k0, .int .i64 k1, .int .i64 R, .int .i64 Q, .int .i64 J] 24)).alloc (.cells #[.int .i64 a0, .int .i64 a1, .int .i64 a2, .int .i64 a3, .int .i64 a4, .int .i64 a5, .int .i64 b0, .int .i64 b1, .int .i64 b2, .int .i64 b3, .int .i64 b4, .int .i64 b5, .int .i64 x, .int .i64 y] 29)).alloc (.cells #[.int .i64 l0, .int .i64 l1] 22)).alloc (.cells #[.int .i64 0, .int .i64 0, .int .i64 0, .int .i64 0, .int .i64 0, .int .i64 0, .int .i64 0, .int .i64 0, .int .i64 0, .int .i64 0, .int .i64 0, .int .i64 0, .int .i64 0, .int .i64 0] 29)) [.int .i64 0, .int .i64 0, .int .i64 0, .int .i64 0, .int .i64 0, .int .i64 0] 34
  rw [hW]; simpa [hS] using this
 have BS : Below S w W := by rw [hW, ← hS]; exact (((((Below.refl _ _).alloc (by first | exact Nat.le_refl _ | (simp; done) | (simp; omega)) _).alloc (by first | exact Nat.le_refl _ | (simp; done) | (simp; omega)) _).alloc (by first | exact Nat.le_refl _ | (simp; done) | (simp; omega)) _).alloc (by first | exact Nat.le_refl _ | (simp; done) | (simp; omega)) _).alloc (by first | exact Nat.le_refl _ | (simp; done) | (simp; omega)) _
 clear hW
 refine (pwrong_any k0 k1 R Q J W).mono ?_
 rintro e w1 ⟨⟨r', rfl, hr'⟩, hB1⟩
 have BS := BS.trans (hB1.mono (Nat.le_of_lt P0.lt))
 have P4 := P4.below hB1 P4.lt
 have P3 := P3.below hB1 P3.lt
 have P2 := P2.below hB1 P2.lt
 have P1 := P1.below hB1 P1.lt
 have P0 := P0.below hB1 P0.lt
 clear hB1
 obtain rfl := wrongSays_one hr' (.inr (.inr ⟨hk, hr, rfl⟩))
 clear hr'
 have r_0 := (P0 0 _ rfl).1
 have r_1 := (P0 1 _ rfl).1
 have r_2 := (P0 2 _ rfl).1
 have r_3 := (P0 3 _ rfl).1
 have r_4 := (P0 4 _ rfl).1
 have s_0 := (P1 0 _ rfl).1
 have s_1 := (P1 1 _ rfl).1
 have s_2 := (P1 2 _ rfl).1
 have s_3 := (P1 3 _ rfl).1
 have s_4 := (P1 4 _ rfl).1
 have s_5 := (P1 5 _ rfl).1
 have s_6 := (P1 6 _ rfl).1
 have s_7 := (P1 7 _ rfl).1
 have s_8 := (P1 8 _ rfl).1
 have s_9 := (P1 9 _ rfl).1
 have s_10 := (P1 10 _ rfl).1
 have s_11 := (P1 11 _ rfl).1
 have s_12 := (P1 12 _ rfl).1
 have s_13 := (P1 13 _ rfl).1
 have h0 := hide P0; have h1 := hide P1; have h2 := hide P2; have h3 := hide P3; have h4 := hide P4; have hb := hide BS
 have HNO := hide hno
 clear P0 P1 P2 P3 P4 BS hno
 go_wp2_with fail
 have P0 := h0.out; have P1 := h1.out; have P2 := h2.out; have P3 := h3.out; have P4 := h4.out; have BS := hb.out
 clear h0 h1 h2 h3 h4 hb r_0 r_1 r_2 r_3 r_4 s_0 s_1 s_2 s_3 s_4 s_5 s_6 s_7 s_8 s_9 s_10 s_11 s_12 s_13
 refine (callF (pright_any k0 k1 R Q J a0 a1 a2 a3 a4 a5 b0 b1 b2 b3 b4 b5 x y w1) HNO.out).mono ?_
 rintro e w2 ⟨rfl, hB2⟩
 have BS := BS.trans (hB2.mono (Nat.le_of_lt P0.lt))
 have P4 := P4.below hB2 P4.lt
 have P3 := P3.below hB2 P3.lt
 have P2 := P2.below hB2 P2.lt
 have P1 := P1.below hB2 P1.lt
 have P0 := P0.below hB2 P0.lt
 clear hB2
 have p_0 := (P3 0 _ rfl).1
 have p_f0 := (P3 0 _ rfl).2
 have p_1 := (P3 1 _ rfl).1
 have p_f1 := (P3 1 _ rfl).2
 have p_2 := (P3 2 _ rfl).1
 have p_f2 := (P3 2 _ rfl).2
 have p_3 := (P3 3 _ rfl).1
 have p_f3 := (P3 3 _ rfl).2
 have p_4 := (P3 4 _ rfl).1
 have p_f4 := (P3 4 _ rfl).2
 have p_5 := (P3 5 _ rfl).1
 have p_f5 := (P3 5 _ rfl).2
 have p_6 := (P3 6 _ rfl).1
 have p_f6 := (P3 6 _ rfl).2
 have p_7 := (P3 7 _ rfl).1
 have p_f7 := (P3 7 _ rfl).2
 have p_8 := (P3 8 _ rfl).1
 have p_f8 := (P3 8 _ rfl).2
 have p_9 := (P3 9 _ rfl).1
 have p_f9 := (P3 9 _ rfl).2
 have p_10 := (P3 10 _ rfl).1
 have p_f10 := (P3 10 _ rfl).2
 have p_11 := (P3 11 _ rfl).1
 have p_f11 := (P3 11 _ rfl).2
 have p_12 := (P3 12 _ rfl).1
 have p_f12 := (P3 12 _ rfl).2
 have p_13 := (P3 13 _ rfl).1
 have p_f13 := (P3 13 _ rfl).2
 have o_0 := (P4 0 _ rfl).1
 have o_f0 := (P4 0 _ rfl).2
 have o_1 := (P4 1 _ rfl).1
 have o_f1 := (P4 1 _ rfl).2
 have o_2 := (P4 2 _ rfl).1
 have o_f2 := (P4 2 _ rfl).2
 have o_3 := (P4 3 _ rfl).1
 have o_f3 := (P4 3 _ rfl).2
 have o_4 := (P4 4 _ rfl).1
 have o_f4 := (P4 4 _ rfl).2
 have o_5 := (P4 5 _ rfl).1
 have o_f5 := (P4 5 _ rfl).2
 have H3 := hide P3; have H4 := hide P4; have HBS := hide BS
 clear P0 P1 P2 P3 P4 BS
 go_wp2
 obtain ⟨Z, hZ⟩ : ∃ Z, Z = ((((((((((((((((((((w2.setCell ⟨S + 1 + 1 + 1, 0, none⟩ (.int .i64 0)).setCell ⟨S + 1 + 1 + 1, 1, none⟩ (.int .i64 0)).setCell ⟨S + 1 + 1 + 1, 2, none⟩ (.int .i64 0)).setCell ⟨S + 1 + 1 + 1, 3, none⟩ (.int .i64 0)).setCell ⟨S + 1 + 1 + 1, 4, none⟩ (.int .i64 0)).setCell ⟨S + 1 + 1 + 1, 5, none⟩ (.int .i64 0)).setCell ⟨S + 1 + 1 + 1, 6, none⟩ (.int .i64 0)).setCell ⟨S + 1 + 1 + 1, 7, none⟩ (.int .i64 0)).setCell ⟨S + 1 + 1 + 1, 8, none⟩ (.int .i64 0)).setCell ⟨S + 1 + 1 + 1, 9, none⟩ (.int .i64 0)).setCell ⟨S + 1 + 1 + 1, 10, none⟩ (.int .i64 0)).setCell ⟨S + 1 + 1 + 1, 11, none⟩ (.int .i64 0)).setCell ⟨S + 1 + 1 + 1, 12, none⟩ (.int .i64 0)).setCell ⟨S + 1 + 1 + 1, 13, none⟩ (.int .i64 0)).setCell ⟨S + 1 + 1 + 1 + 1, 0, none⟩ (.int .i64 0)).setCell ⟨S + 1 + 1 + 1 + 1, 1, none⟩ (.int .i64 0)).setCell ⟨S + 1 + 1 + 1 + 1, 2, none⟩ (.int .i64 0)).setCell ⟨S + 1 + 1 + 1 + 1, 3, none⟩ (.int .i64 0)).setCell ⟨S + 1 + 1 + 1 + 1, 4, none⟩ (.int .i64 0)).setCell ⟨S + 1 + 1 + 1 + 1, 5, none⟩ (.int .i64 0)) := ⟨_, rfl⟩
 have z3 : Blk Z (S + 1 + 1 + 1) [.int .i64 0, .int .i64 0, .int .i64 0, .int .i64 0, .int .i64 0, .int .i64 0, .int .i64 0, .int .i64 0, .int .i64 0, .int .i64 0, .int .i64 0, .int .i64 0, .int .i64 0, .int .i64 0] := by rw [hZ]; exact ((((((((((((((((((((H3.out.set (j := 0) (by simp) (.int .i64 0)).set (j := 1) (by simp) (.int .i64 0)).set (j := 2) (by simp) (.int .i64 0)).set (j := 3) (by simp) (.int .i64 0)).set (j := 4) (by simp) (.int .i64 0)).set (j := 5) (by simp) (.int .i64 0)).set (j := 6) (by simp) (.int .i64 0)).set (j := 7) (by simp) (.int .i64 0)).set (j := 8) (by simp) (.int .i64 0)).set (j := 9) (by simp) (.int .i64 0)).set (j := 10) (by simp) (.int .i64 0)).set (j := 11) (by simp) (.int .i64 0)).set (j := 12) (by simp) (.int .i64 0)).set (j := 13) (by simp) (.int .i64 0)).other ⟨S + 1 + 1 + 1 + 1, 0, none⟩ (.int .i64 0) (by simp only; omega)).other ⟨S + 1 + 1 + 1 + 1, 1, none⟩ (.int .i64 0) (by simp only; omega)).other ⟨S + 1 + 1 + 1 + 1, 2, none⟩ (.int .i64 0) (by simp only; omega)).other ⟨S + 1 + 1 + 1 + 1, 3, none⟩ (.int .i64 0) (by simp only; omega)).other ⟨S + 1 + 1 + 1 + 1, 4, none⟩ (.int .i64 0) (by simp only; omega)).other ⟨S + 1 + 1 + 1 + 1, 5, none⟩ (.int .i64 0) (by simp only; omega))
 have z4 : Blk Z (S + 1 + 1 + 1 + 1) [.int .i64 0, .int .i64 0, .int .i64 0, .int .i64 0, .int .i64 0, .int .i64 0] := by rw [hZ]; exact ((((((((((((((((((((H4.out.other ⟨S + 1 + 1 + 1, 0, none⟩ (.int .i64 0) (by simp only; omega)).other ⟨S + 1 + 1 + 1, 1, none⟩ (.int .i64 0) (by simp only; omega)).other ⟨S + 1 + 1 + 1, 2, none⟩ (.int .i64 0) (by simp only; omega)).other ⟨S + 1 + 1 + 1, 3, none⟩ (.int .i64 0) (by simp only; omega)).other ⟨S + 1 + 1 + 1, 4, none⟩ (.int .i64 0) (by simp only; omega)).other ⟨S + 1 + 1 + 1, 5, none⟩ (.int .i64 0) (by simp only; omega)).other ⟨S + 1 + 1 + 1, 6, none⟩ (.int .i64 0) (by simp only; omega)).other ⟨S + 1 + 1 + 1, 7, none⟩ (.int .i64 0) (by simp only; omega)).other ⟨S + 1 + 1 + 1, 8, none⟩ (.int .i64 0) (by simp only; omega)).other ⟨S + 1 + 1 + 1, 9, none⟩ (.int .i64 0) (by simp only; omega)).other ⟨S + 1 + 1 + 1, 10, none⟩ (.int .i64 0) (by simp only; omega)).other ⟨S + 1 + 1 + 1, 11, none⟩ (.int .i64 0) (by simp only; omega)).other ⟨S + 1 + 1 + 1, 12, none⟩ (.int .i64 0) (by simp only; omega)).other ⟨S + 1 + 1 + 1, 13, none⟩ (.int .i64 0) (by simp only; omega)).set (j := 0) (by simp) (.int .i64 0)).set (j := 1) (by simp) (.int .i64 0)).set (j := 2) (by simp) (.int .i64 0)).set (j := 3) (by simp) (.int .i64 0)).set (j := 4) (by simp) (.int .i64 0)).set (j := 5) (by simp) (.int .i64 0))
 have zB : Below S w Z := by rw [hZ]; exact ((((((((((((((((((((HBS.out.setCell (p := ⟨S + 1 + 1 + 1, 0, none⟩) (by simp only; omega) _).setCell (p := ⟨S + 1 + 1 + 1, 1, none⟩) (by simp only; omega) _).setCell (p := ⟨S + 1 + 1 + 1, 2, none⟩) (by simp only; omega) _).setCell (p := ⟨S + 1 + 1 + 1, 3, none⟩) (by simp only; omega) _).setCell (p := ⟨S + 1 + 1 + 1, 4, none⟩) (by simp only; omega) _).setCell (p := ⟨S + 1 + 1 + 1, 5, none⟩) (by simp only; omega) _).setCell (p := ⟨S + 1 + 1 + 1, 6, none⟩) (by simp only; omega) _).setCell (p := ⟨S + 1 + 1 + 1, 7, none⟩) (by simp only; omega) _).setCell (p := ⟨S + 1 + 1 + 1, 8, none⟩) (by simp only; omega) _).setCell (p := ⟨S + 1 + 1 + 1, 9, none⟩) (by simp only; omega) _).setCell (p := ⟨S + 1 + 1 + 1, 10, none⟩) (by simp only; omega) _).setCell (p := ⟨S + 1 + 1 + 1, 11, none⟩) (by simp only; omega) _).setCell (p := ⟨S + 1 + 1 + 1, 12, none⟩) (by simp only; omega) _).setCell (p := ⟨S + 1 + 1 + 1, 13, none⟩) (by simp only; omega) _).setCell (p := ⟨S + 1 + 1 + 1 + 1, 0, none⟩) (by simp only; omega) _).setCell (p := ⟨S + 1 + 1 + 1 + 1, 1, none⟩) (by simp only; omega) _).setCell (p := ⟨S + 1 + 1 + 1 + 1, 2, none⟩) (by simp only; omega) _).setCell (p := ⟨S + 1 + 1 + 1 + 1, 3, none⟩) (by simp only; omega) _).setCell (p := ⟨S + 1 + 1 + 1 + 1, 4, none⟩) (by simp only; omega) _).setCell (p := ⟨S + 1 + 1 + 1 + 1, 5, none⟩) (by simp only; omega) _)
 rw [← hZ]
 clear hZ
 have y_0 := (z3 0 _ rfl).1
 have y_1 := (z3 1 _ rfl).1
 have y_2 := (z3 2 _ rfl).1
 have y_3 := (z3 3 _ rfl).1
 have y_4 := (z3 4 _ rfl).1
 have y_5 := (z3 5 _ rfl).1
 have y_6 := (z3 6 _ rfl).1
 have y_7 := (z3 7 _ rfl).1
 have y_8 := (z3 8 _ rfl).1
 have y_9 := (z3 9 _ rfl).1
 have y_10 := (z3 10 _ rfl).1
 have y_11 := (z3 11 _ rfl).1
 have y_12 := (z3 12 _ rfl).1
 have y_13 := (z3 13 _ rfl).1
 have v_0 := (z4 0 _ rfl).1
 have v_1 := (z4 1 _ rfl).1
 have v_2 := (z4 2 _ rfl).1
 have v_3 := (z4 3 _ rfl).1
 have v_4 := (z4 4 _ rfl).1
 have v_5 := (z4 5 _ rfl).1
 refine bodyPost_ret (v := .tuple #[.agg #[.int .i64 0, .int .i64 0, .int .i64 0, .int .i64 0, .int .i64 0, .int .i64 0, .int .i64 0, .int .i64 0, .int .i64 0, .int .i64 0, .int .i64 0, .int .i64 0, .int .i64 0, .int .i64 0], .agg #[.int .i64 0, .int .i64 0, .int .i64 0, .int .i64 0, .int .i64 0, .int .i64 0], .int .i64 1]) ?_ rfl ⟨rfl, ?_⟩
 · simp [results, Try.f9, go_sem, y_0, y_1, y_2, y_3, y_4, y_5, y_6, y_7, y_8, y_9, y_10, y_11, y_12, y_13, v_0, v_1, v_2, v_3, v_4, v_5]
 · first | exact zB | (rw [hS]; exact zB)
end Go.Proofs.Ytmmjopmffpfccaa
