/-
  Lemmas and walks for the statement: Duel4, PlaySpec.
-/
import Derived.Test.YtjjikhaaimfneaaGreatDoorE20
import Derived.Deep.RegionHeld3
import Derived.Deep.DeepCutAuto
import Derived.BigRegion
import Derived.Test.YtjjikhaaimfneaaGreatDoorE19
namespace Go.Proofs.YtjjikhaaimfneaaGreatDoor
open Go.RowKit
set_option linter.unusedSimpArgs false
set_option linter.unusedVariables false
attribute [local go_sem] iteMin iteMax iteMinN iteMaxN
set_option maxRecDepth 100000 in
set_option maxHeartbeats 4000000 in
theorem start_bad (k0 k1 R Q J r : Int) (w : World) (hr : WrongSays k0 k1 R Q J r) (h0 : r ≠ 0) : Calls Tryz.prog 65 #[.agg #[.int .i64 k0, .int .i64 k1, .int .i64 R, .int .i64 Q, .int .i64 J]] w fun e w' => e = .returned (.tuple #[.agg #[.int .i64 0, .int .i64 0, .int .i64 0, .int .i64 0, .int .i64 0, .int .i64 0, .int .i64 0, .int .i64 0, .int .i64 0, .int .i64 0, .int .i64 0, .int .i64 0, .int .i64 0, .int .i64 0], .int .i64 r]) ∧ Below w.heap.size w w' := by
 have h0' : (r == 0) = false := by simp; omega
 obtain ⟨S, hS⟩ : ∃ S, w.heap.size = S := ⟨_, rfl⟩
 go_enter Tryz.func65, Tryz.ntmps65
 go_wp2_with fail
 obtain ⟨W, hW⟩ : ∃ W, W = (w.alloc (.cells #[.int .i64 k0, .int .i64 k1, .int .i64 R, .int .i64 Q, .int .i64 J] 49)).alloc (.cells #[.int .i64 0, .int .i64 0, .int .i64 0, .int .i64 0, .int .i64 0, .int .i64 0, .int .i64 0, .int .i64 0, .int .i64 0, .int .i64 0, .int .i64 0, .int .i64 0, .int .i64 0, .int .i64 0] 133) := ⟨_, rfl⟩
 rw [← hW]
 have b0 : Blk W S [.int .i64 k0, .int .i64 k1, .int .i64 R, .int .i64 Q, .int .i64 J] := by
  have := (Blk.new w [.int .i64 k0, .int .i64 k1, .int .i64 R, .int .i64 Q, .int .i64 J] 49).alloc (.cells #[.int .i64 0, .int .i64 0, .int .i64 0, .int .i64 0, .int .i64 0, .int .i64 0, .int .i64 0, .int .i64 0, .int .i64 0, .int .i64 0, .int .i64 0, .int .i64 0, .int .i64 0, .int .i64 0] 133)
  rw [hW]; simpa [hS] using this
 have b1 : Blk W (S + 1) [.int .i64 0, .int .i64 0, .int .i64 0, .int .i64 0, .int .i64 0, .int .i64 0, .int .i64 0, .int .i64 0, .int .i64 0, .int .i64 0, .int .i64 0, .int .i64 0, .int .i64 0, .int .i64 0] := by
  have := Blk.new (w.alloc (.cells #[.int .i64 k0, .int .i64 k1, .int .i64 R, .int .i64 Q, .int .i64 J] 49)) [.int .i64 0, .int .i64 0, .int .i64 0, .int .i64 0, .int .i64 0, .int .i64 0, .int .i64 0, .int .i64 0, .int .i64 0, .int .i64 0, .int .i64 0, .int .i64 0, .int .i64 0, .int .i64 0] 133
  rw [hW]; simpa [hS] using this
 have BS : Below S w W := by rw [hW, ← hS]; exact ((Below.refl _ _).alloc (Nat.le_refl _) _).alloc (by simp) _
 clear hW
 refine (dwrong_any k0 k1 R Q J W).mono ?_
 rintro e w1 ⟨⟨r', rfl, hr'⟩, hB1⟩
 obtain rfl := wrongSays_one hr hr'
 have P := b1.below hB1 b1.lt
 have BS := BS.trans (hB1.mono (by have := b0.lt; omega))
 clear b0 b1 hB1 hr' hr
 have p_0 := (P 0 _ rfl).1
 have p_f0 := (P 0 _ rfl).2
 have p_1 := (P 1 _ rfl).1
 have p_f1 := (P 1 _ rfl).2
 have p_2 := (P 2 _ rfl).1
 have p_f2 := (P 2 _ rfl).2
 have p_3 := (P 3 _ rfl).1
 have p_f3 := (P 3 _ rfl).2
 have p_4 := (P 4 _ rfl).1
 have p_f4 := (P 4 _ rfl).2
 have p_5 := (P 5 _ rfl).1
 have p_f5 := (P 5 _ rfl).2
 have p_6 := (P 6 _ rfl).1
 have p_f6 := (P 6 _ rfl).2
 have p_7 := (P 7 _ rfl).1
 have p_f7 := (P 7 _ rfl).2
 have p_8 := (P 8 _ rfl).1
 have p_f8 := (P 8 _ rfl).2
 have p_9 := (P 9 _ rfl).1
 have p_f9 := (P 9 _ rfl).2
 have p_10 := (P 10 _ rfl).1
 have p_f10 := (P 10 _ rfl).2
 have p_11 := (P 11 _ rfl).1
 have p_f11 := (P 11 _ rfl).2
 have p_12 := (P 12 _ rfl).1
 have p_f12 := (P 12 _ rfl).2
 have p_13 := (P 13 _ rfl).1
 have p_f13 := (P 13 _ rfl).2
 have HP := hide P; have HBS := hide BS
 clear P BS
 go_wp2
 obtain ⟨Z, hZ⟩ : ∃ Z, Z = ((((((((((((((w1.setCell ⟨S + 1, 0, none⟩ (.int .i64 0)).setCell ⟨S + 1, 1, none⟩ (.int .i64 0)).setCell ⟨S + 1, 2, none⟩ (.int .i64 0)).setCell ⟨S + 1, 3, none⟩ (.int .i64 0)).setCell ⟨S + 1, 4, none⟩ (.int .i64 0)).setCell ⟨S + 1, 5, none⟩ (.int .i64 0)).setCell ⟨S + 1, 6, none⟩ (.int .i64 0)).setCell ⟨S + 1, 7, none⟩ (.int .i64 0)).setCell ⟨S + 1, 8, none⟩ (.int .i64 0)).setCell ⟨S + 1, 9, none⟩ (.int .i64 0)).setCell ⟨S + 1, 10, none⟩ (.int .i64 0)).setCell ⟨S + 1, 11, none⟩ (.int .i64 0)).setCell ⟨S + 1, 12, none⟩ (.int .i64 0)).setCell ⟨S + 1, 13, none⟩ (.int .i64 0)) := ⟨_, rfl⟩
 have z : Blk Z (S + 1) [.int .i64 0, .int .i64 0, .int .i64 0, .int .i64 0, .int .i64 0, .int .i64 0, .int .i64 0, .int .i64 0, .int .i64 0, .int .i64 0, .int .i64 0, .int .i64 0, .int .i64 0, .int .i64 0] := by rw [hZ]; exact ((((((((((((((HP.out.set (j := 0) (by simp) (.int .i64 0)).set (j := 1) (by simp) (.int .i64 0)).set (j := 2) (by simp) (.int .i64 0)).set (j := 3) (by simp) (.int .i64 0)).set (j := 4) (by simp) (.int .i64 0)).set (j := 5) (by simp) (.int .i64 0)).set (j := 6) (by simp) (.int .i64 0)).set (j := 7) (by simp) (.int .i64 0)).set (j := 8) (by simp) (.int .i64 0)).set (j := 9) (by simp) (.int .i64 0)).set (j := 10) (by simp) (.int .i64 0)).set (j := 11) (by simp) (.int .i64 0)).set (j := 12) (by simp) (.int .i64 0)).set (j := 13) (by simp) (.int .i64 0))
 have zB : Below S w Z := by rw [hZ]; exact ((((((((((((((HBS.out.setCell (p := ⟨S + 1, 0, none⟩) (by simp only; omega) _).setCell (p := ⟨S + 1, 1, none⟩) (by simp only; omega) _).setCell (p := ⟨S + 1, 2, none⟩) (by simp only; omega) _).setCell (p := ⟨S + 1, 3, none⟩) (by simp only; omega) _).setCell (p := ⟨S + 1, 4, none⟩) (by simp only; omega) _).setCell (p := ⟨S + 1, 5, none⟩) (by simp only; omega) _).setCell (p := ⟨S + 1, 6, none⟩) (by simp only; omega) _).setCell (p := ⟨S + 1, 7, none⟩) (by simp only; omega) _).setCell (p := ⟨S + 1, 8, none⟩) (by simp only; omega) _).setCell (p := ⟨S + 1, 9, none⟩) (by simp only; omega) _).setCell (p := ⟨S + 1, 10, none⟩) (by simp only; omega) _).setCell (p := ⟨S + 1, 11, none⟩) (by simp only; omega) _).setCell (p := ⟨S + 1, 12, none⟩) (by simp only; omega) _).setCell (p := ⟨S + 1, 13, none⟩) (by simp only; omega) _)
 rw [← hZ]
 clear hZ
 have z_0 := (z 0 _ rfl).1
 have z_1 := (z 1 _ rfl).1
 have z_2 := (z 2 _ rfl).1
 have z_3 := (z 3 _ rfl).1
 have z_4 := (z 4 _ rfl).1
 have z_5 := (z 5 _ rfl).1
 have z_6 := (z 6 _ rfl).1
 have z_7 := (z 7 _ rfl).1
 have z_8 := (z 8 _ rfl).1
 have z_9 := (z 9 _ rfl).1
 have z_10 := (z 10 _ rfl).1
 have z_11 := (z 11 _ rfl).1
 have z_12 := (z 12 _ rfl).1
 have z_13 := (z 13 _ rfl).1
 refine bodyPost_ret (v := .tuple #[.agg #[.int .i64 0, .int .i64 0, .int .i64 0, .int .i64 0, .int .i64 0, .int .i64 0, .int .i64 0, .int .i64 0, .int .i64 0, .int .i64 0, .int .i64 0, .int .i64 0, .int .i64 0, .int .i64 0], .int .i64 r]) ?_ rfl ⟨rfl, ?_⟩
 · simp [results, Tryz.f65, go_sem, z_0, z_1, z_2, z_3, z_4, z_5, z_6, z_7, z_8, z_9, z_10, z_11, z_12, z_13]
 · first | exact zB | (rw [hS]; exact zB)
set_option maxRecDepth 100000 in
set_option maxHeartbeats 4000000 in
theorem pstart_bad (k0 k1 R Q J r : Int) (w : World) (hr : WrongSays k0 k1 R Q J r) (h0 : r ≠ 0) : Calls Tryz.prog 83 #[.agg #[.int .i64 k0, .int .i64 k1, .int .i64 R, .int .i64 Q, .int .i64 J]] w fun e w' => e = .returned (.tuple #[.agg #[.int .i64 0, .int .i64 0, .int .i64 0, .int .i64 0, .int .i64 0, .int .i64 0, .int .i64 0, .int .i64 0, .int .i64 0, .int .i64 0, .int .i64 0, .int .i64 0, .int .i64 0, .int .i64 0], .int .i64 r]) ∧ Below w.heap.size w w' := by
 have h0' : (r == 0) = false := by simp; omega
 obtain ⟨S, hS⟩ : ∃ S, w.heap.size = S := ⟨_, rfl⟩
 go_enter Tryz.func83, Tryz.ntmps83
 go_wp2_with fail
 obtain ⟨W, hW⟩ : ∃ W, W = (w.alloc (.cells #[.int .i64 k0, .int .i64 k1, .int .i64 R, .int .i64 Q, .int .i64 J] 49)).alloc (.cells #[.int .i64 0, .int .i64 0, .int .i64 0, .int .i64 0, .int .i64 0, .int .i64 0, .int .i64 0, .int .i64 0, .int .i64 0, .int .i64 0, .int .i64 0, .int .i64 0, .int .i64 0, .int .i64 0] 133) := ⟨_, rfl⟩
 rw [← hW]
 have b0 : Blk W S [.int .i64 k0, .int .i64 k1, .int .i64 R, .int .i64 Q, .int .i64 J] := by
  have := (Blk.new w [.int .i64 k0, .int .i64 k1, .int .i64 R, .int .i64 Q, .int .i64 J] 49).alloc (.cells #[.int .i64 0, .int .i64 0, .int .i64 0, .int .i64 0, .int .i64 0, .int .i64 0, .int .i64 0, .int .i64 0, .int .i64 0, .int .i64 0, .int .i64 0, .int .i64 0, .int .i64 0, .int .i64 0] 133)
  rw [hW]; simpa [hS] using this
 have b1 : Blk W (S + 1) [.int .i64 0, .int .i64 0, .int .i64 0, .int .i64 0, .int .i64 0, .int .i64 0, .int .i64 0, .int .i64 0, .int .i64 0, .int .i64 0, .int .i64 0, .int .i64 0, .int .i64 0, .int .i64 0] := by
  have := Blk.new (w.alloc (.cells #[.int .i64 k0, .int .i64 k1, .int .i64 R, .int .i64 Q, .int .i64 J] 49)) [.int .i64 0, .int .i64 0, .int .i64 0, .int .i64 0, .int .i64 0, .int .i64 0, .int .i64 0, .int .i64 0, .int .i64 0, .int .i64 0, .int .i64 0, .int .i64 0, .int .i64 0, .int .i64 0] 133
  rw [hW]; simpa [hS] using this
 have BS : Below S w W := by rw [hW, ← hS]; exact ((Below.refl _ _).alloc (Nat.le_refl _) _).alloc (by simp) _
 clear hW
 refine (pwrong_any k0 k1 R Q J W).mono ?_
 rintro e w1 ⟨⟨r', rfl, hr'⟩, hB1⟩
 obtain rfl := wrongSays_one hr hr'
 have P := b1.below hB1 b1.lt
 have BS := BS.trans (hB1.mono (by have := b0.lt; omega))
 clear b0 b1 hB1 hr' hr
 have p_0 := (P 0 _ rfl).1
 have p_f0 := (P 0 _ rfl).2
 have p_1 := (P 1 _ rfl).1
 have p_f1 := (P 1 _ rfl).2
 have p_2 := (P 2 _ rfl).1
 have p_f2 := (P 2 _ rfl).2
 have p_3 := (P 3 _ rfl).1
 have p_f3 := (P 3 _ rfl).2
 have p_4 := (P 4 _ rfl).1
 have p_f4 := (P 4 _ rfl).2
 have p_5 := (P 5 _ rfl).1
 have p_f5 := (P 5 _ rfl).2
 have p_6 := (P 6 _ rfl).1
 have p_f6 := (P 6 _ rfl).2
 have p_7 := (P 7 _ rfl).1
 have p_f7 := (P 7 _ rfl).2
 have p_8 := (P 8 _ rfl).1
 have p_f8 := (P 8 _ rfl).2
 have p_9 := (P 9 _ rfl).1
 have p_f9 := (P 9 _ rfl).2
 have p_10 := (P 10 _ rfl).1
 have p_f10 := (P 10 _ rfl).2
 have p_11 := (P 11 _ rfl).1
 have p_f11 := (P 11 _ rfl).2
 have p_12 := (P 12 _ rfl).1
 have p_f12 := (P 12 _ rfl).2
 have p_13 := (P 13 _ rfl).1
 have p_f13 := (P 13 _ rfl).2
 have HP := hide P; have HBS := hide BS
 clear P BS
 go_wp2
 obtain ⟨Z, hZ⟩ : ∃ Z, Z = ((((((((((((((w1.setCell ⟨S + 1, 0, none⟩ (.int .i64 0)).setCell ⟨S + 1, 1, none⟩ (.int .i64 0)).setCell ⟨S + 1, 2, none⟩ (.int .i64 0)).setCell ⟨S + 1, 3, none⟩ (.int .i64 0)).setCell ⟨S + 1, 4, none⟩ (.int .i64 0)).setCell ⟨S + 1, 5, none⟩ (.int .i64 0)).setCell ⟨S + 1, 6, none⟩ (.int .i64 0)).setCell ⟨S + 1, 7, none⟩ (.int .i64 0)).setCell ⟨S + 1, 8, none⟩ (.int .i64 0)).setCell ⟨S + 1, 9, none⟩ (.int .i64 0)).setCell ⟨S + 1, 10, none⟩ (.int .i64 0)).setCell ⟨S + 1, 11, none⟩ (.int .i64 0)).setCell ⟨S + 1, 12, none⟩ (.int .i64 0)).setCell ⟨S + 1, 13, none⟩ (.int .i64 0)) := ⟨_, rfl⟩
 have z : Blk Z (S + 1) [.int .i64 0, .int .i64 0, .int .i64 0, .int .i64 0, .int .i64 0, .int .i64 0, .int .i64 0, .int .i64 0, .int .i64 0, .int .i64 0, .int .i64 0, .int .i64 0, .int .i64 0, .int .i64 0] := by rw [hZ]; exact ((((((((((((((HP.out.set (j := 0) (by simp) (.int .i64 0)).set (j := 1) (by simp) (.int .i64 0)).set (j := 2) (by simp) (.int .i64 0)).set (j := 3) (by simp) (.int .i64 0)).set (j := 4) (by simp) (.int .i64 0)).set (j := 5) (by simp) (.int .i64 0)).set (j := 6) (by simp) (.int .i64 0)).set (j := 7) (by simp) (.int .i64 0)).set (j := 8) (by simp) (.int .i64 0)).set (j := 9) (by simp) (.int .i64 0)).set (j := 10) (by simp) (.int .i64 0)).set (j := 11) (by simp) (.int .i64 0)).set (j := 12) (by simp) (.int .i64 0)).set (j := 13) (by simp) (.int .i64 0))
 have zB : Below S w Z := by rw [hZ]; exact ((((((((((((((HBS.out.setCell (p := ⟨S + 1, 0, none⟩) (by simp only; omega) _).setCell (p := ⟨S + 1, 1, none⟩) (by simp only; omega) _).setCell (p := ⟨S + 1, 2, none⟩) (by simp only; omega) _).setCell (p := ⟨S + 1, 3, none⟩) (by simp only; omega) _).setCell (p := ⟨S + 1, 4, none⟩) (by simp only; omega) _).setCell (p := ⟨S + 1, 5, none⟩) (by simp only; omega) _).setCell (p := ⟨S + 1, 6, none⟩) (by simp only; omega) _).setCell (p := ⟨S + 1, 7, none⟩) (by simp only; omega) _).setCell (p := ⟨S + 1, 8, none⟩) (by simp only; omega) _).setCell (p := ⟨S + 1, 9, none⟩) (by simp only; omega) _).setCell (p := ⟨S + 1, 10, none⟩) (by simp only; omega) _).setCell (p := ⟨S + 1, 11, none⟩) (by simp only; omega) _).setCell (p := ⟨S + 1, 12, none⟩) (by simp only; omega) _).setCell (p := ⟨S + 1, 13, none⟩) (by simp only; omega) _)
 rw [← hZ]
 clear hZ
 have z_0 := (z 0 _ rfl).1
 have z_1 := (z 1 _ rfl).1
 have z_2 := (z 2 _ rfl).1
 have z_3 := (z 3 _ rfl).1
 have z_4 := (z 4 _ rfl).1
 have z_5 := (z 5 _ rfl).1
 have z_6 := (z 6 _ rfl).1
 have z_7 := (z 7 _ rfl).1
 have z_8 := (z 8 _ rfl).1
 have z_9 := (z 9 _ rfl).1
 have z_10 := (z 10 _ rfl).1
 have z_11 := (z 11 _ rfl).1
 have z_12 := (z 12 _ rfl).1
 have z_13 := (z 13 _ rfl).1
 refine bodyPost_ret (v := .tuple #[.agg #[.int .i64 0, .int .i64 0, .int .i64 0, .int .i64 0, .int .i64 0, .int .i64 0, .int .i64 0, .int .i64 0, .int .i64 0, .int .i64 0, .int .i64 0, .int .i64 0, .int .i64 0, .int .i64 0], .int .i64 r]) ?_ rfl ⟨rfl, ?_⟩
 · simp [results, Tryz.f83, go_sem, z_0, z_1, z_2, z_3, z_4, z_5, z_6, z_7, z_8, z_9, z_10, z_11, z_12, z_13]
 · first | exact zB | (rw [hS]; exact zB)
theorem one_any (k : Int) (w : World) : Calls Tryz.prog 108 #[.int .i64 k] w fun e w' => e = .returned (.agg #[.int .i64 k, .int .i64 1, .int .i64 (-1), .int .i64 0, .int .i64 0, .int .i64 0]) ∧ Below w.heap.size w w' := by
 go_enter Tryz.func108, Tryz.ntmps108
 go_wp2
 have z := Blk.new w [.int .i64 k, .int .i64 1, .int .i64 (-1), .int .i64 0, .int .i64 0, .int .i64 0] 36
 have z0 := (z 0 _ rfl).1; have z1 := (z 1 _ rfl).1; have z2 := (z 2 _ rfl).1; have z3 := (z 3 _ rfl).1; have z4 := (z 4 _ rfl).1; have z5 := (z 5 _ rfl).1
 refine bodyPost_ret (v := .agg #[.int .i64 k, .int .i64 1, .int .i64 (-1), .int .i64 0, .int .i64 0, .int .i64 0]) ?_ rfl ⟨rfl, ?_⟩
 · simp [results, Tryz.f108, go_sem, z0, z1, z2, z3, z4, z5]
 · exact (Below.refl _ _).alloc (Nat.le_refl _) _
set_option maxRecDepth 100000 in
set_option maxHeartbeats 4000000 in
theorem pstart_ok (k0 k1 R Q J : Int) (w : World) (hk : kindsOk k0 k1) (hr : rangeOk R Q J) : Calls Tryz.prog 83 #[.agg #[.int .i64 k0, .int .i64 k1, .int .i64 R, .int .i64 Q, .int .i64 J]] w fun e w' => e = .returned (.tuple #[.agg (startL k0 k1).toArray, .int .i64 0]) ∧ Below w.heap.size w w' := by
 obtain ⟨S, hS⟩ : ∃ S, w.heap.size = S := ⟨_, rfl⟩
 go_enter Tryz.func83, Tryz.ntmps83
 go_wp2_with fail
 obtain ⟨W, hW⟩ : ∃ W, W = (w.alloc (.cells #[.int .i64 k0, .int .i64 k1, .int .i64 R, .int .i64 Q, .int .i64 J] 49)).alloc (.cells #[.int .i64 0, .int .i64 0, .int .i64 0, .int .i64 0, .int .i64 0, .int .i64 0, .int .i64 0, .int .i64 0, .int .i64 0, .int .i64 0, .int .i64 0, .int .i64 0, .int .i64 0, .int .i64 0] 133) := ⟨_, rfl⟩
 rw [← hW]
 have b0 : Blk W S [.int .i64 k0, .int .i64 k1, .int .i64 R, .int .i64 Q, .int .i64 J] := by
  have := (Blk.new w [.int .i64 k0, .int .i64 k1, .int .i64 R, .int .i64 Q, .int .i64 J] 49).alloc (.cells #[.int .i64 0, .int .i64 0, .int .i64 0, .int .i64 0, .int .i64 0, .int .i64 0, .int .i64 0, .int .i64 0, .int .i64 0, .int .i64 0, .int .i64 0, .int .i64 0, .int .i64 0, .int .i64 0] 133)
  rw [hW]; simpa [hS] using this
 have b1 : Blk W (S + 1) [.int .i64 0, .int .i64 0, .int .i64 0, .int .i64 0, .int .i64 0, .int .i64 0, .int .i64 0, .int .i64 0, .int .i64 0, .int .i64 0, .int .i64 0, .int .i64 0, .int .i64 0, .int .i64 0] := by
  have := Blk.new (w.alloc (.cells #[.int .i64 k0, .int .i64 k1, .int .i64 R, .int .i64 Q, .int .i64 J] 49)) [.int .i64 0, .int .i64 0, .int .i64 0, .int .i64 0, .int .i64 0, .int .i64 0, .int .i64 0, .int .i64 0, .int .i64 0, .int .i64 0, .int .i64 0, .int .i64 0, .int .i64 0, .int .i64 0] 133
  rw [hW]; simpa [hS] using this
 have BS : Below S w W := by rw [hW, ← hS]; exact ((Below.refl _ _).alloc (Nat.le_refl _) _).alloc (by simp) _
 clear hW
 refine (pwrong_any k0 k1 R Q J W).mono ?_
 rintro e w1 ⟨hw, hB1⟩
 obtain rfl := hw.ok hk hr
 have R0 := b0.below hB1 b0.lt
 have P := b1.below hB1 b1.lt
 have BS := BS.trans (hB1.mono (by have := b0.lt; omega))
 clear b0 b1 hB1 hw hk hr
 have r0 := (R0 0 _ rfl).1
 have r1 := (R0 1 _ rfl).1
 have hs1 : S + 2 ≤ w1.heap.size := by have := P.lt; omega
 have HC := hide (show ∀ w', Below (S + 1) w1 w' → (w'.cell? ⟨S, 0, none⟩ = some (.int .i64 k0) ∧ w'.cell? ⟨S, 1, none⟩ = some (.int .i64 k1)) from fun w' hb => ⟨(hb.cell (by show S < S + 1; omega)).trans r0, (hb.cell (by show S < S + 1; omega)).trans r1⟩)
 have HP := hide (show ∀ w', Below (S + 2) w1 w' → (w'.cell? ⟨S + 1, 0, none⟩ = some (.int .i64 0) ∧ w'.frozen? ⟨S + 1, 0, none⟩ = false ∧ w'.cell? ⟨S + 1, 1, none⟩ = some (.int .i64 0) ∧ w'.frozen? ⟨S + 1, 1, none⟩ = false ∧ w'.cell? ⟨S + 1, 2, none⟩ = some (.int .i64 0) ∧ w'.frozen? ⟨S + 1, 2, none⟩ = false ∧ w'.cell? ⟨S + 1, 3, none⟩ = some (.int .i64 0) ∧ w'.frozen? ⟨S + 1, 3, none⟩ = false ∧ w'.cell? ⟨S + 1, 4, none⟩ = some (.int .i64 0) ∧ w'.frozen? ⟨S + 1, 4, none⟩ = false ∧ w'.cell? ⟨S + 1, 5, none⟩ = some (.int .i64 0) ∧ w'.frozen? ⟨S + 1, 5, none⟩ = false ∧ w'.cell? ⟨S + 1, 6, none⟩ = some (.int .i64 0) ∧ w'.frozen? ⟨S + 1, 6, none⟩ = false ∧ w'.cell? ⟨S + 1, 7, none⟩ = some (.int .i64 0) ∧ w'.frozen? ⟨S + 1, 7, none⟩ = false ∧ w'.cell? ⟨S + 1, 8, none⟩ = some (.int .i64 0) ∧ w'.frozen? ⟨S + 1, 8, none⟩ = false ∧ w'.cell? ⟨S + 1, 9, none⟩ = some (.int .i64 0) ∧ w'.frozen? ⟨S + 1, 9, none⟩ = false ∧ w'.cell? ⟨S + 1, 10, none⟩ = some (.int .i64 0) ∧ w'.frozen? ⟨S + 1, 10, none⟩ = false ∧ w'.cell? ⟨S + 1, 11, none⟩ = some (.int .i64 0) ∧ w'.frozen? ⟨S + 1, 11, none⟩ = false ∧ w'.cell? ⟨S + 1, 12, none⟩ = some (.int .i64 0) ∧ w'.frozen? ⟨S + 1, 12, none⟩ = false ∧ w'.cell? ⟨S + 1, 13, none⟩ = some (.int .i64 0) ∧ w'.frozen? ⟨S + 1, 13, none⟩ = false) from fun w' hb => by
  have P' := P.below hb (by omega)
  exact ⟨(P' 0 _ rfl).1, (P' 0 _ rfl).2, (P' 1 _ rfl).1, (P' 1 _ rfl).2, (P' 2 _ rfl).1, (P' 2 _ rfl).2, (P' 3 _ rfl).1, (P' 3 _ rfl).2, (P' 4 _ rfl).1, (P' 4 _ rfl).2, (P' 5 _ rfl).1, (P' 5 _ rfl).2, (P' 6 _ rfl).1, (P' 6 _ rfl).2, (P' 7 _ rfl).1, (P' 7 _ rfl).2, (P' 8 _ rfl).1, (P' 8 _ rfl).2, (P' 9 _ rfl).1, (P' 9 _ rfl).2, (P' 10 _ rfl).1, (P' 10 _ rfl).2, (P' 11 _ rfl).1, (P' 11 _ rfl).2, (P' 12 _ rfl).1, (P' 12 _ rfl).2, (P' 13 _ rfl).1, (P' 13 _ rfl).2⟩)
 have HPB := hide (show ∀ w', Below (S + 2) w1 w' → Blk w' (S + 1) [.int .i64 0, .int .i64 0, .int .i64 0, .int .i64 0, .int .i64 0, .int .i64 0, .int .i64 0, .int .i64 0, .int .i64 0, .int .i64 0, .int .i64 0, .int .i64 0, .int .i64 0, .int .i64 0] from fun w' hb => P.below hb (by omega))
 have HBS := hide BS
 clear R0 P BS
 go_upto_region 5 with fail
 go_region_held3 (fun w' => w'.cell? ⟨S, 0, none⟩ = some (.int .i64 k0) ∧ w'.cell? ⟨S, 1, none⟩ = some (.int .i64 k1)) (((try dsimp only); exact HC.out _ (by (repeat' (first | (with_reducible assumption) | (with_reducible exact Below.refl _ _) | (with_reducible refine Below.drew ?_) | (with_reducible refine Below.drewN ?_ _) | (with_reducible refine Below.setCell ?_ ?_ _) | (with_reducible refine Below.trans ?_ (B3'.mono ?_)) | (with_reducible refine Below.trans ?_ (B4'.mono ?_)) | omega | (simp; done) | (simp; omega))))))
  ((go_at_call 108; first | (with_reducible refine (one_any k0 _).mono ?_; rintro e w3 ⟨rfl, B3'⟩; have s3 := B3'.size; (try simp at s3)) | (with_reducible refine (one_any k1 _).mono ?_; rintro e w4 ⟨rfl, B4'⟩; have s4 := B4'.size; (try simp at s4); obtain ⟨p_0, p_f0, p_1, p_f1, p_2, p_f2, p_3, p_f3, p_4, p_f4, p_5, p_f5, p_6, p_f6, p_7, p_f7, p_8, p_f8, p_9, p_f9, p_10, p_f10, p_11, p_f11, p_12, p_f12, p_13, p_f13⟩ := HP.out w4 (by (repeat' (first | (with_reducible assumption) | (with_reducible exact Below.refl _ _) | (with_reducible refine Below.drew ?_) | (with_reducible refine Below.drewN ?_ _) | (with_reducible refine Below.setCell ?_ ?_ _) | (with_reducible refine Below.trans ?_ (B3'.mono ?_)) | (with_reducible refine Below.trans ?_ (B4'.mono ?_)) | omega | (simp; done) | (simp; omega)))))))
 go_wp2_with fail
 have P4 := HPB.out w4 (by (repeat' (first | (with_reducible assumption) | (with_reducible exact Below.refl _ _) | (with_reducible refine Below.drew ?_) | (with_reducible refine Below.drewN ?_ _) | (with_reducible refine Below.setCell ?_ ?_ _) | (with_reducible refine Below.trans ?_ (B3'.mono ?_)) | (with_reducible refine Below.trans ?_ (B4'.mono ?_)) | omega | (simp; done) | (simp; omega))))
 have BS4 : Below S w w4 := HBS.out.trans ((show Below (S + 2) w1 w4 from (by (repeat' (first | (with_reducible assumption) | (with_reducible exact Below.refl _ _) | (with_reducible refine Below.drew ?_) | (with_reducible refine Below.drewN ?_ _) | (with_reducible refine Below.setCell ?_ ?_ _) | (with_reducible refine Below.trans ?_ (B3'.mono ?_)) | (with_reducible refine Below.trans ?_ (B4'.mono ?_)) | omega | (simp; done) | (simp; omega))))).mono (by omega))
 obtain ⟨Z, hZ⟩ : ∃ Z, Z = ((((((((((((((w4.setCell ⟨S + 1, 0, none⟩ (.int .i64 k0)).setCell ⟨S + 1, 1, none⟩ (.int .i64 1)).setCell ⟨S + 1, 2, none⟩ (.int .i64 (-1))).setCell ⟨S + 1, 3, none⟩ (.int .i64 0)).setCell ⟨S + 1, 4, none⟩ (.int .i64 0)).setCell ⟨S + 1, 5, none⟩ (.int .i64 0)).setCell ⟨S + 1, 6, none⟩ (.int .i64 k1)).setCell ⟨S + 1, 7, none⟩ (.int .i64 1)).setCell ⟨S + 1, 8, none⟩ (.int .i64 (-1))).setCell ⟨S + 1, 9, none⟩ (.int .i64 0)).setCell ⟨S + 1, 10, none⟩ (.int .i64 0)).setCell ⟨S + 1, 11, none⟩ (.int .i64 0)).setCell ⟨S + 1, 12, none⟩ (.int .i64 0)).setCell ⟨S + 1, 13, none⟩ (.int .i64 0)) := ⟨_, rfl⟩
 have z : Blk Z (S + 1) [.int .i64 k0, .int .i64 1, .int .i64 (-1), .int .i64 0, .int .i64 0, .int .i64 0, .int .i64 k1, .int .i64 1, .int .i64 (-1), .int .i64 0, .int .i64 0, .int .i64 0, .int .i64 0, .int .i64 0] := by rw [hZ]; exact ((((((((((((((P4.set (j := 0) (by simp) (.int .i64 k0)).set (j := 1) (by simp) (.int .i64 1)).set (j := 2) (by simp) (.int .i64 (-1))).set (j := 3) (by simp) (.int .i64 0)).set (j := 4) (by simp) (.int .i64 0)).set (j := 5) (by simp) (.int .i64 0)).set (j := 6) (by simp) (.int .i64 k1)).set (j := 7) (by simp) (.int .i64 1)).set (j := 8) (by simp) (.int .i64 (-1))).set (j := 9) (by simp) (.int .i64 0)).set (j := 10) (by simp) (.int .i64 0)).set (j := 11) (by simp) (.int .i64 0)).set (j := 12) (by simp) (.int .i64 0)).set (j := 13) (by simp) (.int .i64 0))
 have zB : Below S w Z := by rw [hZ]; exact ((((((((((((((BS4.setCell (p := ⟨S + 1, 0, none⟩) (by simp only; omega) _).setCell (p := ⟨S + 1, 1, none⟩) (by simp only; omega) _).setCell (p := ⟨S + 1, 2, none⟩) (by simp only; omega) _).setCell (p := ⟨S + 1, 3, none⟩) (by simp only; omega) _).setCell (p := ⟨S + 1, 4, none⟩) (by simp only; omega) _).setCell (p := ⟨S + 1, 5, none⟩) (by simp only; omega) _).setCell (p := ⟨S + 1, 6, none⟩) (by simp only; omega) _).setCell (p := ⟨S + 1, 7, none⟩) (by simp only; omega) _).setCell (p := ⟨S + 1, 8, none⟩) (by simp only; omega) _).setCell (p := ⟨S + 1, 9, none⟩) (by simp only; omega) _).setCell (p := ⟨S + 1, 10, none⟩) (by simp only; omega) _).setCell (p := ⟨S + 1, 11, none⟩) (by simp only; omega) _).setCell (p := ⟨S + 1, 12, none⟩) (by simp only; omega) _).setCell (p := ⟨S + 1, 13, none⟩) (by simp only; omega) _)
 have hsm : startL k0 k1 = [.int .i64 k0, .int .i64 1, .int .i64 (-1), .int .i64 0, .int .i64 0, .int .i64 0, .int .i64 k1, .int .i64 1, .int .i64 (-1), .int .i64 0, .int .i64 0, .int .i64 0, .int .i64 0, .int .i64 0] := rfl
 first | rw [← hZ] | (change bodyPost _ _ _ _ _ Z.drew) | (rw [show _ = Z.drew from by rw [hZ]])
 clear hZ
 have z_0 := (z 0 _ rfl).1
 have z_1 := (z 1 _ rfl).1
 have z_2 := (z 2 _ rfl).1
 have z_3 := (z 3 _ rfl).1
 have z_4 := (z 4 _ rfl).1
 have z_5 := (z 5 _ rfl).1
 have z_6 := (z 6 _ rfl).1
 have z_7 := (z 7 _ rfl).1
 have z_8 := (z 8 _ rfl).1
 have z_9 := (z 9 _ rfl).1
 have z_10 := (z 10 _ rfl).1
 have z_11 := (z 11 _ rfl).1
 have z_12 := (z 12 _ rfl).1
 have z_13 := (z 13 _ rfl).1
 refine bodyPost_ret (v := .tuple #[.agg (startL k0 k1).toArray, .int .i64 0]) ?_ rfl ⟨rfl, ?_⟩
 · simp [results, Tryz.f83, go_sem, startL, z_0, z_1, z_2, z_3, z_4, z_5, z_6, z_7, z_8, z_9, z_10, z_11, z_12, z_13]
 · first | exact zB | exact zB.drew | (rw [hS]; exact zB) | (rw [hS]; exact zB.drew)
end Go.Proofs.YtjjikhaaimfneaaGreatDoor
namespace Go.Proofs.YtjjikhaaimfneaaGreatDoor
open Go.RowKit
set_option linter.unusedSimpArgs false
set_option linter.unusedVariables false
noncomputable def stepR (k0 k1 R Q J l0 l1 : Int) : List Int → List Int × List Int × Int
 | [a0, a1, a2, a3, a4, a5, b0, b1, b2, b3, b4, b5, x, y] => (Classical.choose (step_both2 k0 k1 R Q J a0 a1 a2 a3 a4 a5 b0 b1 b2 b3 b4 b5 x y l0 l1), Classical.choose (Classical.choose_spec (step_both2 k0 k1 R Q J a0 a1 a2 a3 a4 a5 b0 b1 b2 b3 b4 b5 x y l0 l1)), Classical.choose (Classical.choose_spec (Classical.choose_spec (step_both2 k0 k1 R Q J a0 a1 a2 a3 a4 a5 b0 b1 b2 b3 b4 b5 x y l0 l1))))
 | _ => (List.replicate 14 0, List.replicate 6 0, 0)
theorem stepR_is (k0 k1 R Q J a0 a1 a2 a3 a4 a5 b0 b1 b2 b3 b4 b5 x y l0 l1 : Int) : StepIs k0 k1 R Q J a0 a1 a2 a3 a4 a5 b0 b1 b2 b3 b4 b5 x y l0 l1 (stepR k0 k1 R Q J l0 l1 [a0, a1, a2, a3, a4, a5, b0, b1, b2, b3, b4, b5, x, y]).1 (stepR k0 k1 R Q J l0 l1 [a0, a1, a2, a3, a4, a5, b0, b1, b2, b3, b4, b5, x, y]).2.1 (stepR k0 k1 R Q J l0 l1 [a0, a1, a2, a3, a4, a5, b0, b1, b2, b3, b4, b5, x, y]).2.2 :=
 (Classical.choose_spec (Classical.choose_spec (Classical.choose_spec (step_both2 k0 k1 R Q J a0 a1 a2 a3 a4 a5 b0 b1 b2 b3 b4 b5 x y l0 l1)))).1
theorem stepR_good (k0 k1 R Q J a0 a1 a2 a3 a4 a5 b0 b1 b2 b3 b4 b5 x y l0 l1 : Int) : StepGood k0 k1 R Q J a0 a1 a2 a3 a4 a5 b0 b1 b2 b3 b4 b5 x y l0 l1 (stepR k0 k1 R Q J l0 l1 [a0, a1, a2, a3, a4, a5, b0, b1, b2, b3, b4, b5, x, y]).1 (stepR k0 k1 R Q J l0 l1 [a0, a1, a2, a3, a4, a5, b0, b1, b2, b3, b4, b5, x, y]).2.1 (stepR k0 k1 R Q J l0 l1 [a0, a1, a2, a3, a4, a5, b0, b1, b2, b3, b4, b5, x, y]).2.2 :=
 (Classical.choose_spec (Classical.choose_spec (Classical.choose_spec (step_both2 k0 k1 R Q J a0 a1 a2 a3 a4 a5 b0 b1 b2 b3 b4 b5 x y l0 l1)))).2
theorem stepR_len (k0 k1 R Q J l0 l1 : Int) (s : List Int) : (stepR k0 k1 R Q J l0 l1 s).1.length = 14 ∧ (stepR k0 k1 R Q J l0 l1 s).2.1.length = 6 ∧ (∀ z ∈ (stepR k0 k1 R Q J l0 l1 s).1, Sml z) ∧ (∀ z ∈ (stepR k0 k1 R Q J l0 l1 s).2.1, Sml z) := by
 by_cases h : s.length = 14
 · obtain ⟨a0, a1, a2, a3, a4, a5, b0, b1, b2, b3, b4, b5, x, y, rfl⟩ := len14 h
   obtain ⟨h1, h2, h3, h4, _, _⟩ := stepR_is k0 k1 R Q J a0 a1 a2 a3 a4 a5 b0 b1 b2 b3 b4 b5 x y l0 l1
   exact ⟨h1, h2, h3, h4⟩
 · have : stepR k0 k1 R Q J l0 l1 s = (List.replicate 14 0, List.replicate 6 0, 0) := by
    unfold stepR
    split
    · exact absurd rfl h
    · rfl
   rw [this]
   exact ⟨rfl, rfl, zero_sml _, zero_sml _⟩
def startI (k0 k1 : Int) : List Int := [k0, 1, -1, 0, 0, 0, k1, 1, -1, 0, 0, 0, 0, 0]
section
variable (k0 k1 R Q J : Int) (es : List P2)
def lateAt (k : Nat) : P2 := es.getD k ⟨0, 0⟩
noncomputable def stS : Nat → List Int
 | 0 => startI k0 k1
 | k + 1 => (stepR k0 k1 R Q J (lateAt es k).x (lateAt es k).y (stS k)).1
noncomputable def stU (k : Nat) : List Int := (stepR k0 k1 R Q J (lateAt es k).x (lateAt es k).y (stS k0 k1 R Q J es k)).2.1
noncomputable def stE (k : Nat) : Int := (stepR k0 k1 R Q J (lateAt es k).x (lateAt es k).y (stS k0 k1 R Q J es k)).2.2
def r6of (l : List Int) : R6 := ⟨l.getD 0 0, l.getD 1 0, l.getD 2 0, l.getD 3 0, l.getD 4 0, l.getD 5 0⟩
noncomputable def rounds6 (k : Nat) : List R6 := (List.range k).map fun j => r6of (stU k0 k1 R Q J es j)
def Small6 (r : R6) : Prop := Sml r.x0 ∧ Sml r.x1 ∧ Sml r.x2 ∧ Sml r.x3 ∧ Sml r.x4 ∧ Sml r.x5
def PlaySays (n : Nat) (L : List R6) (ss : List Int) (r : Int) : Prop :=
 ((∀ j, j < n → stE k0 k1 R Q J es j = 0) ∧ L = rounds6 k0 k1 R Q J es n ∧ ss = stS k0 k1 R Q J es n ∧ r = 0) ∨
 (∃ m, m < n ∧ (∀ j, j < m → stE k0 k1 R Q J es j = 0) ∧ stE k0 k1 R Q J es m ≠ 0 ∧ L = [] ∧ ss = List.replicate 14 0 ∧ r = stE k0 k1 R Q J es m)
def Played (n : Nat) (e : Ending) (w : World) : Prop := ∃ L ss r a c, PlaySays k0 k1 R Q J es n L ss r ∧ e = .returned (.tuple #[.slice a L.length c, .agg (ss.map (Value.int .i64)).toArray, .int .i64 r]) ∧ RoundsAt w a L.length c L
end
theorem Blk.grown {W W' : World} {row : Option Nat} {b : Nat} {vs : List Value} (h : Blk W b vs) (hg : W.grownBy W' row) (hne : some b ≠ row) : Blk W' b vs := fun j v hj => by
 have hl := World.block_lt_of_cell? W _ (h j v hj).1
 have he : W'.heap[b]? = W.heap[b]? := hg.block b hl hne
 exact ⟨(World.cell?_of_block (w := W) he).trans (h j v hj).1, (World.frozen?_of_block (w := W) he).trans (h j v hj).2⟩
end Go.Proofs.YtjjikhaaimfneaaGreatDoor
