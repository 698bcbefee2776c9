/-
  WALKS: duel.Play and PPlay at wrong rules.
-/
import Derived.Test.YtmmjopmffpfccaaPlaySpec
import Derived.Test.YtmmjopmffpfccaaDuel4
namespace Go.Proofs.Ytmmjopmffpfccaa
open Go.RowKit
set_option linter.unusedSimpArgs false
set_option linter.unusedVariables false

attribute [local go_sem] iteMin iteMax iteMinN iteMaxN

set_option maxRecDepth 100000 in
set_option maxHeartbeats 4000000 in
theorem play_wrong (k0 k1 R Q J r : Int) (a : Option Addr) (n c : Nat) (w : World) (hw : WrongSays k0 k1 R Q J r) (h0 : r ≠ 0) :
    Calls Try.prog 14 #[.agg #[.int .i64 k0, .int .i64 k1, .int .i64 R, .int .i64 Q, .int .i64 J], .slice a n c] w fun e w' => e = .returned (.tuple #[.slice none 0 0, .agg #[.int .i64 0, .int .i64 0, .int .i64 0, .int .i64 0, .int .i64 0, .int .i64 0, .int .i64 0, .int .i64 0, .int .i64 0, .int .i64 0, .int .i64 0, .int .i64 0, .int .i64 0, .int .i64 0], .int .i64 r]) ∧ Below w.heap.size w w' := by
  obtain ⟨S, hS⟩ : ∃ S, w.heap.size = S := ⟨_, rfl⟩
  go_enter Try.func14, Try.ntmps14
  go_wp2_with fail
  obtain ⟨W, hW⟩ : ∃ W, W = (w.alloc (.cells #[.int .i64 k0, .int .i64 k1, .int .i64 R, .int .i64 Q, .int .i64 J] 24)).alloc (.cells #[.int .i64 0, .int .i64 0, .int .i64 0, .int .i64 0, .int .i64 0, .int .i64 0, .int .i64 0, .int .i64 0, .int .i64 0, .int .i64 0, .int .i64 0, .int .i64 0, .int .i64 0, .int .i64 0] 29) := ⟨_, rfl⟩
  rw [← hW]
  have BR : Blk W S [.int .i64 k0, .int .i64 k1, .int .i64 R, .int .i64 Q, .int .i64 J] := by
    have := (Blk.new w [.int .i64 k0, .int .i64 k1, .int .i64 R, .int .i64 Q, .int .i64 J] 24).alloc (.cells #[.int .i64 0, .int .i64 0, .int .i64 0, .int .i64 0, .int .i64 0, .int .i64 0, .int .i64 0, .int .i64 0, .int .i64 0, .int .i64 0, .int .i64 0, .int .i64 0, .int .i64 0, .int .i64 0] 29)
    rw [hW]; simpa [hS] using this
  have BZ : Blk W (S + 1) [.int .i64 0, .int .i64 0, .int .i64 0, .int .i64 0, .int .i64 0, .int .i64 0, .int .i64 0, .int .i64 0, .int .i64 0, .int .i64 0, .int .i64 0, .int .i64 0, .int .i64 0, .int .i64 0] := by
    have := Blk.new (w.alloc (.cells #[.int .i64 k0, .int .i64 k1, .int .i64 R, .int .i64 Q, .int .i64 J] 24)) [.int .i64 0, .int .i64 0, .int .i64 0, .int .i64 0, .int .i64 0, .int .i64 0, .int .i64 0, .int .i64 0, .int .i64 0, .int .i64 0, .int .i64 0, .int .i64 0, .int .i64 0, .int .i64 0] 29
    rw [hW]; simpa [hS] using this
  have BS : Below S w W := by rw [hW, ← hS]; exact ((Below.refl _ _).alloc (Nat.le_refl _) _).alloc (by simp) _
  have HST : w.heap.size + 2 = W.heap.size := by rw [hW]; simp
  clear hW
  refine (start_bad k0 k1 R Q J r W hw h0).mono ?_
  rintro e w1 ⟨rfl, hA⟩
  have BS := BS.trans (hA.mono (Nat.le_of_lt BR.lt))
  have BZ := BZ.below hA BZ.lt
  have BR := BR.below hA BR.lt
  have h0' : (r == 0) = false := by simp; omega
  clear hw h0
  obtain ⟨X, hX⟩ : ∃ X, X = w1.alloc (.cells #[.int .i64 0, .int .i64 0, .int .i64 0, .int .i64 0, .int .i64 0, .int .i64 0, .int .i64 0, .int .i64 0, .int .i64 0, .int .i64 0, .int .i64 0, .int .i64 0, .int .i64 0, .int .i64 0] 29) := ⟨_, rfl⟩
  have BS := BS.alloc (Nat.le_of_lt BR.lt) (.cells #[.int .i64 0, .int .i64 0, .int .i64 0, .int .i64 0, .int .i64 0, .int .i64 0, .int .i64 0, .int .i64 0, .int .i64 0, .int .i64 0, .int .i64 0, .int .i64 0, .int .i64 0, .int .i64 0] 29)
  have BZ := BZ.alloc (.cells #[.int .i64 0, .int .i64 0, .int .i64 0, .int .i64 0, .int .i64 0, .int .i64 0, .int .i64 0, .int .i64 0, .int .i64 0, .int .i64 0, .int .i64 0, .int .i64 0, .int .i64 0, .int .i64 0] 29)
  rw [← hX] at BS BZ
  have HXX := hide hX
  clear hX hA HST BR
  have HZ := hide BZ; have HBS := hide BS
  clear BZ BS
  go_upto_region 2 with fail
  rw [← HXX.out]
  clear HXX
  have p_0 := (HZ.out 0 _ rfl).1
  have p_f0 := (HZ.out 0 _ rfl).2
  have p_1 := (HZ.out 1 _ rfl).1
  have p_f1 := (HZ.out 1 _ rfl).2
  have p_2 := (HZ.out 2 _ rfl).1
  have p_f2 := (HZ.out 2 _ rfl).2
  have p_3 := (HZ.out 3 _ rfl).1
  have p_f3 := (HZ.out 3 _ rfl).2
  have p_4 := (HZ.out 4 _ rfl).1
  have p_f4 := (HZ.out 4 _ rfl).2
  have p_5 := (HZ.out 5 _ rfl).1
  have p_f5 := (HZ.out 5 _ rfl).2
  have p_6 := (HZ.out 6 _ rfl).1
  have p_f6 := (HZ.out 6 _ rfl).2
  have p_7 := (HZ.out 7 _ rfl).1
  have p_f7 := (HZ.out 7 _ rfl).2
  have p_8 := (HZ.out 8 _ rfl).1
  have p_f8 := (HZ.out 8 _ rfl).2
  have p_9 := (HZ.out 9 _ rfl).1
  have p_f9 := (HZ.out 9 _ rfl).2
  have p_10 := (HZ.out 10 _ rfl).1
  have p_f10 := (HZ.out 10 _ rfl).2
  have p_11 := (HZ.out 11 _ rfl).1
  have p_f11 := (HZ.out 11 _ rfl).2
  have p_12 := (HZ.out 12 _ rfl).1
  have p_f12 := (HZ.out 12 _ rfl).2
  have p_13 := (HZ.out 13 _ rfl).1
  have p_f13 := (HZ.out 13 _ rfl).2
  go_wp2
  obtain ⟨Z, hZ⟩ : ∃ Z, Z = ((((((((((((((X.setCell ⟨S + 1, 0, none⟩ (.int .i64 0)).setCell ⟨S + 1, 1, none⟩ (.int .i64 0)).setCell ⟨S + 1, 2, none⟩ (.int .i64 0)).setCell ⟨S + 1, 3, none⟩ (.int .i64 0)).setCell ⟨S + 1, 4, none⟩ (.int .i64 0)).setCell ⟨S + 1, 5, none⟩ (.int .i64 0)).setCell ⟨S + 1, 6, none⟩ (.int .i64 0)).setCell ⟨S + 1, 7, none⟩ (.int .i64 0)).setCell ⟨S + 1, 8, none⟩ (.int .i64 0)).setCell ⟨S + 1, 9, none⟩ (.int .i64 0)).setCell ⟨S + 1, 10, none⟩ (.int .i64 0)).setCell ⟨S + 1, 11, none⟩ (.int .i64 0)).setCell ⟨S + 1, 12, none⟩ (.int .i64 0)).setCell ⟨S + 1, 13, none⟩ (.int .i64 0)) := ⟨_, rfl⟩
  have z3 : Blk Z (S + 1) [.int .i64 0, .int .i64 0, .int .i64 0, .int .i64 0, .int .i64 0, .int .i64 0, .int .i64 0, .int .i64 0, .int .i64 0, .int .i64 0, .int .i64 0, .int .i64 0, .int .i64 0, .int .i64 0] := by rw [hZ]; exact ((((((((((((((HZ.out.set (j := 0) (by simp) (.int .i64 0)).set (j := 1) (by simp) (.int .i64 0)).set (j := 2) (by simp) (.int .i64 0)).set (j := 3) (by simp) (.int .i64 0)).set (j := 4) (by simp) (.int .i64 0)).set (j := 5) (by simp) (.int .i64 0)).set (j := 6) (by simp) (.int .i64 0)).set (j := 7) (by simp) (.int .i64 0)).set (j := 8) (by simp) (.int .i64 0)).set (j := 9) (by simp) (.int .i64 0)).set (j := 10) (by simp) (.int .i64 0)).set (j := 11) (by simp) (.int .i64 0)).set (j := 12) (by simp) (.int .i64 0)).set (j := 13) (by simp) (.int .i64 0))
  have zB : Below S w Z := by rw [hZ]; exact ((((((((((((((HBS.out.setCell (p := ⟨S + 1, 0, none⟩) (by simp only; omega) _).setCell (p := ⟨S + 1, 1, none⟩) (by simp only; omega) _).setCell (p := ⟨S + 1, 2, none⟩) (by simp only; omega) _).setCell (p := ⟨S + 1, 3, none⟩) (by simp only; omega) _).setCell (p := ⟨S + 1, 4, none⟩) (by simp only; omega) _).setCell (p := ⟨S + 1, 5, none⟩) (by simp only; omega) _).setCell (p := ⟨S + 1, 6, none⟩) (by simp only; omega) _).setCell (p := ⟨S + 1, 7, none⟩) (by simp only; omega) _).setCell (p := ⟨S + 1, 8, none⟩) (by simp only; omega) _).setCell (p := ⟨S + 1, 9, none⟩) (by simp only; omega) _).setCell (p := ⟨S + 1, 10, none⟩) (by simp only; omega) _).setCell (p := ⟨S + 1, 11, none⟩) (by simp only; omega) _).setCell (p := ⟨S + 1, 12, none⟩) (by simp only; omega) _).setCell (p := ⟨S + 1, 13, none⟩) (by simp only; omega) _)
  rw [← hZ]
  clear hZ
  have y_0 := (z3 0 _ rfl).1
  have y_1 := (z3 1 _ rfl).1
  have y_2 := (z3 2 _ rfl).1
  have y_3 := (z3 3 _ rfl).1
  have y_4 := (z3 4 _ rfl).1
  have y_5 := (z3 5 _ rfl).1
  have y_6 := (z3 6 _ rfl).1
  have y_7 := (z3 7 _ rfl).1
  have y_8 := (z3 8 _ rfl).1
  have y_9 := (z3 9 _ rfl).1
  have y_10 := (z3 10 _ rfl).1
  have y_11 := (z3 11 _ rfl).1
  have y_12 := (z3 12 _ rfl).1
  have y_13 := (z3 13 _ rfl).1
  refine bodyPost_ret (v := .tuple #[.slice none 0 0, .agg #[.int .i64 0, .int .i64 0, .int .i64 0, .int .i64 0, .int .i64 0, .int .i64 0, .int .i64 0, .int .i64 0, .int .i64 0, .int .i64 0, .int .i64 0, .int .i64 0, .int .i64 0, .int .i64 0], .int .i64 r]) ?_ rfl ⟨rfl, ?_⟩
  · simp [results, Try.f14, go_sem, y_0, y_1, y_2, y_3, y_4, y_5, y_6, y_7, y_8, y_9, y_10, y_11, y_12, y_13]
  · first | exact zB | (rw [hS]; exact zB)

set_option maxRecDepth 100000 in
set_option maxHeartbeats 4000000 in
theorem pplay_wrong (k0 k1 R Q J r : Int) (a : Option Addr) (n c : Nat) (w : World) (hw : WrongSays k0 k1 R Q J r) (h0 : r ≠ 0) :
    Calls Try.prog 15 #[.agg #[.int .i64 k0, .int .i64 k1, .int .i64 R, .int .i64 Q, .int .i64 J], .slice a n c] w fun e w' => e = .returned (.tuple #[.slice none 0 0, .agg #[.int .i64 0, .int .i64 0, .int .i64 0, .int .i64 0, .int .i64 0, .int .i64 0, .int .i64 0, .int .i64 0, .int .i64 0, .int .i64 0, .int .i64 0, .int .i64 0, .int .i64 0, .int .i64 0], .int .i64 r]) ∧ Below w.heap.size w w' := by
  obtain ⟨S, hS⟩ : ∃ S, w.heap.size = S := ⟨_, rfl⟩
  go_enter Try.func15, Try.ntmps15
  go_wp2_with fail
  obtain ⟨W, hW⟩ : ∃ W, W = (w.alloc (.cells #[.int .i64 k0, .int .i64 k1, .int .i64 R, .int .i64 Q, .int .i64 J] 24)).alloc (.cells #[.int .i64 0, .int .i64 0, .int .i64 0, .int .i64 0, .int .i64 0, .int .i64 0, .int .i64 0, .int .i64 0, .int .i64 0, .int .i64 0, .int .i64 0, .int .i64 0, .int .i64 0, .int .i64 0] 29) := ⟨_, rfl⟩
  rw [← hW]
  have BR : Blk W S [.int .i64 k0, .int .i64 k1, .int .i64 R, .int .i64 Q, .int .i64 J] := by
    have := (Blk.new w [.int .i64 k0, .int .i64 k1, .int .i64 R, .int .i64 Q, .int .i64 J] 24).alloc (.cells #[.int .i64 0, .int .i64 0, .int .i64 0, .int .i64 0, .int .i64 0, .int .i64 0, .int .i64 0, .int .i64 0, .int .i64 0, .int .i64 0, .int .i64 0, .int .i64 0, .int .i64 0, .int .i64 0] 29)
    rw [hW]; simpa [hS] using this
  have BZ : Blk W (S + 1) [.int .i64 0, .int .i64 0, .int .i64 0, .int .i64 0, .int .i64 0, .int .i64 0, .int .i64 0, .int .i64 0, .int .i64 0, .int .i64 0, .int .i64 0, .int .i64 0, .int .i64 0, .int .i64 0] := by
    have := Blk.new (w.alloc (.cells #[.int .i64 k0, .int .i64 k1, .int .i64 R, .int .i64 Q, .int .i64 J] 24)) [.int .i64 0, .int .i64 0, .int .i64 0, .int .i64 0, .int .i64 0, .int .i64 0, .int .i64 0, .int .i64 0, .int .i64 0, .int .i64 0, .int .i64 0, .int .i64 0, .int .i64 0, .int .i64 0] 29
    rw [hW]; simpa [hS] using this
  have BS : Below S w W := by rw [hW, ← hS]; exact ((Below.refl _ _).alloc (Nat.le_refl _) _).alloc (by simp) _
  have HST : w.heap.size + 2 = W.heap.size := by rw [hW]; simp
  clear hW
  refine (pstart_bad k0 k1 R Q J r W hw h0).mono ?_
  rintro e w1 ⟨rfl, hA⟩
  have BS := BS.trans (hA.mono (Nat.le_of_lt BR.lt))
  have BZ := BZ.below hA BZ.lt
  have BR := BR.below hA BR.lt
  have h0' : (r == 0) = false := by simp; omega
  clear hw h0
  obtain ⟨X, hX⟩ : ∃ X, X = w1.alloc (.cells #[.int .i64 0, .int .i64 0, .int .i64 0, .int .i64 0, .int .i64 0, .int .i64 0, .int .i64 0, .int .i64 0, .int .i64 0, .int .i64 0, .int .i64 0, .int .i64 0, .int .i64 0, .int .i64 0] 29) := ⟨_, rfl⟩
  have BS := BS.alloc (Nat.le_of_lt BR.lt) (.cells #[.int .i64 0, .int .i64 0, .int .i64 0, .int .i64 0, .int .i64 0, .int .i64 0, .int .i64 0, .int .i64 0, .int .i64 0, .int .i64 0, .int .i64 0, .int .i64 0, .int .i64 0, .int .i64 0] 29)
  have BZ := BZ.alloc (.cells #[.int .i64 0, .int .i64 0, .int .i64 0, .int .i64 0, .int .i64 0, .int .i64 0, .int .i64 0, .int .i64 0, .int .i64 0, .int .i64 0, .int .i64 0, .int .i64 0, .int .i64 0, .int .i64 0] 29)
  rw [← hX] at BS BZ
  have HXX := hide hX
  clear hX hA HST BR
  have HZ := hide BZ; have HBS := hide BS
  clear BZ BS
  go_wp2
  rw [← HXX.out]
  go_loopw [8, 10] (fun ev i wr => ev = .int .i64 r ∧ i = .int .i64 0 ∧ wr = X) (fun _ _ _ => 0)
  case atStart => exact ⟨rfl, rfl, rfl⟩
  case round =>
    obtain ⟨rfl, rfl, rfl⟩ := hrel
    have h0'' : ((r : Int) != 0) = true := by simp; intro e; rw [e] at h0'; simp at h0'
    by_cases hn : 0 < n
    · have p_0 := (HZ.out 0 _ rfl).1
      have p_f0 := (HZ.out 0 _ rfl).2
      have p_1 := (HZ.out 1 _ rfl).1
      have p_f1 := (HZ.out 1 _ rfl).2
      have p_2 := (HZ.out 2 _ rfl).1
      have p_f2 := (HZ.out 2 _ rfl).2
      have p_3 := (HZ.out 3 _ rfl).1
      have p_f3 := (HZ.out 3 _ rfl).2
      have p_4 := (HZ.out 4 _ rfl).1
      have p_f4 := (HZ.out 4 _ rfl).2
      have p_5 := (HZ.out 5 _ rfl).1
      have p_f5 := (HZ.out 5 _ rfl).2
      have p_6 := (HZ.out 6 _ rfl).1
      have p_f6 := (HZ.out 6 _ rfl).2
      have p_7 := (HZ.out 7 _ rfl).1
      have p_f7 := (HZ.out 7 _ rfl).2
      have p_8 := (HZ.out 8 _ rfl).1
      have p_f8 := (HZ.out 8 _ rfl).2
      have p_9 := (HZ.out 9 _ rfl).1
      have p_f9 := (HZ.out 9 _ rfl).2
      have p_10 := (HZ.out 10 _ rfl).1
      have p_f10 := (HZ.out 10 _ rfl).2
      have p_11 := (HZ.out 11 _ rfl).1
      have p_f11 := (HZ.out 11 _ rfl).2
      have p_12 := (HZ.out 12 _ rfl).1
      have p_f12 := (HZ.out 12 _ rfl).2
      have p_13 := (HZ.out 13 _ rfl).1
      have p_f13 := (HZ.out 13 _ rfl).2
      have hn' : (0 : Int) < (n : Int) := by omega
      go_wp2
      obtain ⟨Z, hZ⟩ : ∃ Z, Z = ((((((((((((((wr.setCell ⟨S + 1, 0, none⟩ (.int .i64 0)).setCell ⟨S + 1, 1, none⟩ (.int .i64 0)).setCell ⟨S + 1, 2, none⟩ (.int .i64 0)).setCell ⟨S + 1, 3, none⟩ (.int .i64 0)).setCell ⟨S + 1, 4, none⟩ (.int .i64 0)).setCell ⟨S + 1, 5, none⟩ (.int .i64 0)).setCell ⟨S + 1, 6, none⟩ (.int .i64 0)).setCell ⟨S + 1, 7, none⟩ (.int .i64 0)).setCell ⟨S + 1, 8, none⟩ (.int .i64 0)).setCell ⟨S + 1, 9, none⟩ (.int .i64 0)).setCell ⟨S + 1, 10, none⟩ (.int .i64 0)).setCell ⟨S + 1, 11, none⟩ (.int .i64 0)).setCell ⟨S + 1, 12, none⟩ (.int .i64 0)).setCell ⟨S + 1, 13, none⟩ (.int .i64 0)) := ⟨_, rfl⟩
      have z3 : Blk Z (S + 1) [.int .i64 0, .int .i64 0, .int .i64 0, .int .i64 0, .int .i64 0, .int .i64 0, .int .i64 0, .int .i64 0, .int .i64 0, .int .i64 0, .int .i64 0, .int .i64 0, .int .i64 0, .int .i64 0] := by rw [hZ]; exact ((((((((((((((HZ.out.set (j := 0) (by simp) (.int .i64 0)).set (j := 1) (by simp) (.int .i64 0)).set (j := 2) (by simp) (.int .i64 0)).set (j := 3) (by simp) (.int .i64 0)).set (j := 4) (by simp) (.int .i64 0)).set (j := 5) (by simp) (.int .i64 0)).set (j := 6) (by simp) (.int .i64 0)).set (j := 7) (by simp) (.int .i64 0)).set (j := 8) (by simp) (.int .i64 0)).set (j := 9) (by simp) (.int .i64 0)).set (j := 10) (by simp) (.int .i64 0)).set (j := 11) (by simp) (.int .i64 0)).set (j := 12) (by simp) (.int .i64 0)).set (j := 13) (by simp) (.int .i64 0))
      have zB : Below S w Z := by rw [hZ]; exact ((((((((((((((HBS.out.setCell (p := ⟨S + 1, 0, none⟩) (by simp only; omega) _).setCell (p := ⟨S + 1, 1, none⟩) (by simp only; omega) _).setCell (p := ⟨S + 1, 2, none⟩) (by simp only; omega) _).setCell (p := ⟨S + 1, 3, none⟩) (by simp only; omega) _).setCell (p := ⟨S + 1, 4, none⟩) (by simp only; omega) _).setCell (p := ⟨S + 1, 5, none⟩) (by simp only; omega) _).setCell (p := ⟨S + 1, 6, none⟩) (by simp only; omega) _).setCell (p := ⟨S + 1, 7, none⟩) (by simp only; omega) _).setCell (p := ⟨S + 1, 8, none⟩) (by simp only; omega) _).setCell (p := ⟨S + 1, 9, none⟩) (by simp only; omega) _).setCell (p := ⟨S + 1, 10, none⟩) (by simp only; omega) _).setCell (p := ⟨S + 1, 11, none⟩) (by simp only; omega) _).setCell (p := ⟨S + 1, 12, none⟩) (by simp only; omega) _).setCell (p := ⟨S + 1, 13, none⟩) (by simp only; omega) _)
      rw [← hZ]
      clear hZ
      have y_0 := (z3 0 _ rfl).1
      have y_1 := (z3 1 _ rfl).1
      have y_2 := (z3 2 _ rfl).1
      have y_3 := (z3 3 _ rfl).1
      have y_4 := (z3 4 _ rfl).1
      have y_5 := (z3 5 _ rfl).1
      have y_6 := (z3 6 _ rfl).1
      have y_7 := (z3 7 _ rfl).1
      have y_8 := (z3 8 _ rfl).1
      have y_9 := (z3 9 _ rfl).1
      have y_10 := (z3 10 _ rfl).1
      have y_11 := (z3 11 _ rfl).1
      have y_12 := (z3 12 _ rfl).1
      have y_13 := (z3 13 _ rfl).1
      refine bodyPost_ret (v := .tuple #[.slice none 0 0, .agg #[.int .i64 0, .int .i64 0, .int .i64 0, .int .i64 0, .int .i64 0, .int .i64 0, .int .i64 0, .int .i64 0, .int .i64 0, .int .i64 0, .int .i64 0, .int .i64 0, .int .i64 0, .int .i64 0], .int .i64 r]) ?_ rfl ⟨rfl, ?_⟩
      · simp [results, Try.f15, go_sem, y_0, y_1, y_2, y_3, y_4, y_5, y_6, y_7, y_8, y_9, y_10, y_11, y_12, y_13]
      · first | exact zB | (rw [hS]; exact zB)
    · have p_0 := (HZ.out 0 _ rfl).1
      have p_f0 := (HZ.out 0 _ rfl).2
      have p_1 := (HZ.out 1 _ rfl).1
      have p_f1 := (HZ.out 1 _ rfl).2
      have p_2 := (HZ.out 2 _ rfl).1
      have p_f2 := (HZ.out 2 _ rfl).2
      have p_3 := (HZ.out 3 _ rfl).1
      have p_f3 := (HZ.out 3 _ rfl).2
      have p_4 := (HZ.out 4 _ rfl).1
      have p_f4 := (HZ.out 4 _ rfl).2
      have p_5 := (HZ.out 5 _ rfl).1
      have p_f5 := (HZ.out 5 _ rfl).2
      have p_6 := (HZ.out 6 _ rfl).1
      have p_f6 := (HZ.out 6 _ rfl).2
      have p_7 := (HZ.out 7 _ rfl).1
      have p_f7 := (HZ.out 7 _ rfl).2
      have p_8 := (HZ.out 8 _ rfl).1
      have p_f8 := (HZ.out 8 _ rfl).2
      have p_9 := (HZ.out 9 _ rfl).1
      have p_f9 := (HZ.out 9 _ rfl).2
      have p_10 := (HZ.out 10 _ rfl).1
      have p_f10 := (HZ.out 10 _ rfl).2
      have p_11 := (HZ.out 11 _ rfl).1
      have p_f11 := (HZ.out 11 _ rfl).2
      have p_12 := (HZ.out 12 _ rfl).1
      have p_f12 := (HZ.out 12 _ rfl).2
      have p_13 := (HZ.out 13 _ rfl).1
      have p_f13 := (HZ.out 13 _ rfl).2
      obtain rfl : n = 0 := by omega
      go_wp2
      obtain ⟨Z, hZ⟩ : ∃ Z, Z = ((((((((((((((wr.setCell ⟨S + 1, 0, none⟩ (.int .i64 0)).setCell ⟨S + 1, 1, none⟩ (.int .i64 0)).setCell ⟨S + 1, 2, none⟩ (.int .i64 0)).setCell ⟨S + 1, 3, none⟩ (.int .i64 0)).setCell ⟨S + 1, 4, none⟩ (.int .i64 0)).setCell ⟨S + 1, 5, none⟩ (.int .i64 0)).setCell ⟨S + 1, 6, none⟩ (.int .i64 0)).setCell ⟨S + 1, 7, none⟩ (.int .i64 0)).setCell ⟨S + 1, 8, none⟩ (.int .i64 0)).setCell ⟨S + 1, 9, none⟩ (.int .i64 0)).setCell ⟨S + 1, 10, none⟩ (.int .i64 0)).setCell ⟨S + 1, 11, none⟩ (.int .i64 0)).setCell ⟨S + 1, 12, none⟩ (.int .i64 0)).setCell ⟨S + 1, 13, none⟩ (.int .i64 0)) := ⟨_, rfl⟩
      have z3 : Blk Z (S + 1) [.int .i64 0, .int .i64 0, .int .i64 0, .int .i64 0, .int .i64 0, .int .i64 0, .int .i64 0, .int .i64 0, .int .i64 0, .int .i64 0, .int .i64 0, .int .i64 0, .int .i64 0, .int .i64 0] := by rw [hZ]; exact ((((((((((((((HZ.out.set (j := 0) (by simp) (.int .i64 0)).set (j := 1) (by simp) (.int .i64 0)).set (j := 2) (by simp) (.int .i64 0)).set (j := 3) (by simp) (.int .i64 0)).set (j := 4) (by simp) (.int .i64 0)).set (j := 5) (by simp) (.int .i64 0)).set (j := 6) (by simp) (.int .i64 0)).set (j := 7) (by simp) (.int .i64 0)).set (j := 8) (by simp) (.int .i64 0)).set (j := 9) (by simp) (.int .i64 0)).set (j := 10) (by simp) (.int .i64 0)).set (j := 11) (by simp) (.int .i64 0)).set (j := 12) (by simp) (.int .i64 0)).set (j := 13) (by simp) (.int .i64 0))
      have zB : Below S w Z := by rw [hZ]; exact ((((((((((((((HBS.out.setCell (p := ⟨S + 1, 0, none⟩) (by simp only; omega) _).setCell (p := ⟨S + 1, 1, none⟩) (by simp only; omega) _).setCell (p := ⟨S + 1, 2, none⟩) (by simp only; omega) _).setCell (p := ⟨S + 1, 3, none⟩) (by simp only; omega) _).setCell (p := ⟨S + 1, 4, none⟩) (by simp only; omega) _).setCell (p := ⟨S + 1, 5, none⟩) (by simp only; omega) _).setCell (p := ⟨S + 1, 6, none⟩) (by simp only; omega) _).setCell (p := ⟨S + 1, 7, none⟩) (by simp only; omega) _).setCell (p := ⟨S + 1, 8, none⟩) (by simp only; omega) _).setCell (p := ⟨S + 1, 9, none⟩) (by simp only; omega) _).setCell (p := ⟨S + 1, 10, none⟩) (by simp only; omega) _).setCell (p := ⟨S + 1, 11, none⟩) (by simp only; omega) _).setCell (p := ⟨S + 1, 12, none⟩) (by simp only; omega) _).setCell (p := ⟨S + 1, 13, none⟩) (by simp only; omega) _)
      rw [← hZ]
      clear hZ
      have y_0 := (z3 0 _ rfl).1
      have y_1 := (z3 1 _ rfl).1
      have y_2 := (z3 2 _ rfl).1
      have y_3 := (z3 3 _ rfl).1
      have y_4 := (z3 4 _ rfl).1
      have y_5 := (z3 5 _ rfl).1
      have y_6 := (z3 6 _ rfl).1
      have y_7 := (z3 7 _ rfl).1
      have y_8 := (z3 8 _ rfl).1
      have y_9 := (z3 9 _ rfl).1
      have y_10 := (z3 10 _ rfl).1
      have y_11 := (z3 11 _ rfl).1
      have y_12 := (z3 12 _ rfl).1
      have y_13 := (z3 13 _ rfl).1
      refine bodyPost_ret (v := .tuple #[.slice none 0 0, .agg #[.int .i64 0, .int .i64 0, .int .i64 0, .int .i64 0, .int .i64 0, .int .i64 0, .int .i64 0, .int .i64 0, .int .i64 0, .int .i64 0, .int .i64 0, .int .i64 0, .int .i64 0, .int .i64 0], .int .i64 r]) ?_ rfl ⟨rfl, ?_⟩
      · simp [results, Try.f15, go_sem, y_0, y_1, y_2, y_3, y_4, y_5, y_6, y_7, y_8, y_9, y_10, y_11, y_12, y_13]
      · first | exact zB | (rw [hS]; exact zB)

end Go.Proofs.Ytmmjopmffpfccaa
