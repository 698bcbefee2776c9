/-
  Lemmas and walks for the statement: Find.
-/
import Derived.Test.YtjjikhaaimfneaaGreatDoorE23
namespace Go.Proofs.YtjjikhaaimfneaaGreatDoor
open Go.RowKit
set_option linter.unusedSimpArgs false
set_option linter.unusedVariables false
attribute [local go_sem] iteMin iteMax iteMinN iteMaxN
set_option maxRecDepth 100000 in
set_option maxHeartbeats 4000000 in
theorem find_old (PB MB B : Nat) (v1 v2 v3 : Value) (ss : List (List Int)) (fr : List Int) (bys : List P2) (a0 a1 a2 a3 a4 a5 a6 a7 a8 a9 a10 a11 a12 a13 fo x y : Int) (w : World) (hSp : Spc w PB MB B v1 v2 v3 ss fr bys) (hg : Gd [a0, a1, a2, a3, a4, a5, a6, a7, a8, a9, a10, a11, a12, a13]) (i : Nat) (hi : ss[i]? = some [a0, a1, a2, a3, a4, a5, a6, a7, a8, a9, a10, a11, a12, a13]) :
 Calls Tryz.prog 66 #[.pointer (some ⟨PB, 0, none⟩), .agg #[.int .i64 a0, .int .i64 a1, .int .i64 a2, .int .i64 a3, .int .i64 a4, .int .i64 a5, .int .i64 a6, .int .i64 a7, .int .i64 a8, .int .i64 a9, .int .i64 a10, .int .i64 a11, .int .i64 a12, .int .i64 a13], .int .i64 fo, .agg #[.int .i64 x, .int .i64 y]] w fun e w' => e = .returned (.tuple #[.int .i64 (i : Int), .bool true]) ∧ Below w.heap.size w w' := by
 obtain ⟨S, hS⟩ : ∃ S, w.heap.size = S := ⟨_, rfl⟩
 have HSP := hide hSp
 have HG := hide hg
 go_enter Tryz.func66, Tryz.ntmps66
 go_upto_region 1 with fail
 obtain ⟨X, hX⟩ : ∃ X, X = (w.alloc (.cells #[.int .i64 a0, .int .i64 a1, .int .i64 a2, .int .i64 a3, .int .i64 a4, .int .i64 a5, .int .i64 a6, .int .i64 a7, .int .i64 a8, .int .i64 a9, .int .i64 a10, .int .i64 a11, .int .i64 a12, .int .i64 a13] 133)).alloc (.cells #[.int .i64 x, .int .i64 y] 47) := ⟨_, rfl⟩
 rw [← hX]
 have BA : Blk X S [.int .i64 a0, .int .i64 a1, .int .i64 a2, .int .i64 a3, .int .i64 a4, .int .i64 a5, .int .i64 a6, .int .i64 a7, .int .i64 a8, .int .i64 a9, .int .i64 a10, .int .i64 a11, .int .i64 a12, .int .i64 a13] := by
  have := (Blk.new w [.int .i64 a0, .int .i64 a1, .int .i64 a2, .int .i64 a3, .int .i64 a4, .int .i64 a5, .int .i64 a6, .int .i64 a7, .int .i64 a8, .int .i64 a9, .int .i64 a10, .int .i64 a11, .int .i64 a12, .int .i64 a13] 133).alloc (.cells #[.int .i64 x, .int .i64 y] 47)
  rw [hX]; simpa [hS] using this
 have BP : Blk X (S + 1) [.int .i64 x, .int .i64 y] := by
  have := Blk.new (w.alloc (.cells #[.int .i64 a0, .int .i64 a1, .int .i64 a2, .int .i64 a3, .int .i64 a4, .int .i64 a5, .int .i64 a6, .int .i64 a7, .int .i64 a8, .int .i64 a9, .int .i64 a10, .int .i64 a11, .int .i64 a12, .int .i64 a13] 133)) [.int .i64 x, .int .i64 y] 47
  rw [hX]; simpa [hS] using this
 have hWX : Below w.heap.size w X := by rw [hX]; exact ((Below.refl _ _).alloc (Nat.le_refl _) _).alloc (by simp) _
 have hsX : X.heap.size = S + 2 := by rw [hX, ← hS]; simp
 have HSX := hide (HSP.out.below hWX)
 have HBA := hide BA
 have HBP := hide BP
 have HWX := hide hWX
 clear hX BA BP hWX HSP hSp hg
 have hlk : ∀ m : Nat, (Instr.lookup 94 (.map (some MB)) (.agg #[.int .i64 a0, .int .i64 a1, .int .i64 a2, .int .i64 a3, .int .i64 a4, .int .i64 a5, .int .i64 a6, .int .i64 a7, .int .i64 a8, .int .i64 a9, .int .i64 a10, .int .i64 a11, .int .i64 a12, .int .i64 a13]) true).run Tryz.prog (X.drewN m) = .ok (.tuple #[.int .i64 (i : Int), .bool true]) (X.drewN m) := fun m => (HSX.out.below (Go.below_drewN (Below.refl _ _) m)).mp.look HG.out hi
 have p0 := HSX.out.c0
 have s_0 := (HBA.out 0 _ rfl).1
 have s_1 := (HBA.out 1 _ rfl).1
 have s_2 := (HBA.out 2 _ rfl).1
 have s_3 := (HBA.out 3 _ rfl).1
 have s_4 := (HBA.out 4 _ rfl).1
 have s_5 := (HBA.out 5 _ rfl).1
 have s_6 := (HBA.out 6 _ rfl).1
 have s_7 := (HBA.out 7 _ rfl).1
 have s_8 := (HBA.out 8 _ rfl).1
 have s_9 := (HBA.out 9 _ rfl).1
 have s_10 := (HBA.out 10 _ rfl).1
 have s_11 := (HBA.out 11 _ rfl).1
 have s_12 := (HBA.out 12 _ rfl).1
 have s_13 := (HBA.out 13 _ rfl).1
 clear hi HSX HBA HBP HG
 go_quiet (fail)
 go_wp2
 refine bodyPost_ret (v := .tuple #[.int .i64 (i : Int), .bool true]) (by simp [results, Tryz.f66, go_sem]) rfl ?_
 exact ⟨rfl, Go.below_drewN HWX.out _⟩
set_option maxRecDepth 100000 in
set_option maxHeartbeats 4000000 in
theorem find_full (PB MB B : Nat) (v1 v2 v3 : Value) (ss : List (List Int)) (fr : List Int) (bys : List P2) (a0 a1 a2 a3 a4 a5 a6 a7 a8 a9 a10 a11 a12 a13 fo x y : Int) (w : World) (hSp : Spc w PB MB B v1 v2 v3 ss fr bys) (hg : Gd [a0, a1, a2, a3, a4, a5, a6, a7, a8, a9, a10, a11, a12, a13]) (hn : [a0, a1, a2, a3, a4, a5, a6, a7, a8, a9, a10, a11, a12, a13] ∉ ss) (hl : ss.length = 300) :
 Calls Tryz.prog 66 #[.pointer (some ⟨PB, 0, none⟩), .agg #[.int .i64 a0, .int .i64 a1, .int .i64 a2, .int .i64 a3, .int .i64 a4, .int .i64 a5, .int .i64 a6, .int .i64 a7, .int .i64 a8, .int .i64 a9, .int .i64 a10, .int .i64 a11, .int .i64 a12, .int .i64 a13], .int .i64 fo, .agg #[.int .i64 x, .int .i64 y]] w fun e w' => e = .returned (.tuple #[.int .i64 0, .bool false]) ∧ Below w.heap.size w w' := by
 obtain ⟨S, hS⟩ : ∃ S, w.heap.size = S := ⟨_, rfl⟩
 have HSP := hide hSp
 have HG := hide hg
 go_enter Tryz.func66, Tryz.ntmps66
 go_upto_region 1 with fail
 obtain ⟨X, hX⟩ : ∃ X, X = (w.alloc (.cells #[.int .i64 a0, .int .i64 a1, .int .i64 a2, .int .i64 a3, .int .i64 a4, .int .i64 a5, .int .i64 a6, .int .i64 a7, .int .i64 a8, .int .i64 a9, .int .i64 a10, .int .i64 a11, .int .i64 a12, .int .i64 a13] 133)).alloc (.cells #[.int .i64 x, .int .i64 y] 47) := ⟨_, rfl⟩
 rw [← hX]
 have BA : Blk X S [.int .i64 a0, .int .i64 a1, .int .i64 a2, .int .i64 a3, .int .i64 a4, .int .i64 a5, .int .i64 a6, .int .i64 a7, .int .i64 a8, .int .i64 a9, .int .i64 a10, .int .i64 a11, .int .i64 a12, .int .i64 a13] := by
  have := (Blk.new w [.int .i64 a0, .int .i64 a1, .int .i64 a2, .int .i64 a3, .int .i64 a4, .int .i64 a5, .int .i64 a6, .int .i64 a7, .int .i64 a8, .int .i64 a9, .int .i64 a10, .int .i64 a11, .int .i64 a12, .int .i64 a13] 133).alloc (.cells #[.int .i64 x, .int .i64 y] 47)
  rw [hX]; simpa [hS] using this
 have BP : Blk X (S + 1) [.int .i64 x, .int .i64 y] := by
  have := Blk.new (w.alloc (.cells #[.int .i64 a0, .int .i64 a1, .int .i64 a2, .int .i64 a3, .int .i64 a4, .int .i64 a5, .int .i64 a6, .int .i64 a7, .int .i64 a8, .int .i64 a9, .int .i64 a10, .int .i64 a11, .int .i64 a12, .int .i64 a13] 133)) [.int .i64 x, .int .i64 y] 47
  rw [hX]; simpa [hS] using this
 have hWX : Below w.heap.size w X := by rw [hX]; exact ((Below.refl _ _).alloc (Nat.le_refl _) _).alloc (by simp) _
 have hsX : X.heap.size = S + 2 := by rw [hX, ← hS]; simp
 have HSX := hide (HSP.out.below hWX)
 have HBA := hide BA
 have HBP := hide BP
 have HWX := hide hWX
 clear hX BA BP hWX HSP hSp hg
 obtain ⟨cc, hlk⟩ : ∃ cc : Int, ∀ m : Nat, (Instr.lookup 94 (.map (some MB)) (.agg #[.int .i64 a0, .int .i64 a1, .int .i64 a2, .int .i64 a3, .int .i64 a4, .int .i64 a5, .int .i64 a6, .int .i64 a7, .int .i64 a8, .int .i64 a9, .int .i64 a10, .int .i64 a11, .int .i64 a12, .int .i64 a13]) true).run Tryz.prog (X.drewN m) = .ok (.tuple #[.int .i64 cc, .bool false]) (X.drewN m) := HSX.out.mp.missN HG.out hn
 obtain ⟨q1, d1, e1⟩ := sliceShape HSX.out.r1
 rw [hl] at e1
 have p0 := HSX.out.c0
 have p1 := HSX.out.c1
 rw [e1] at p1
 have s_0 := (HBA.out 0 _ rfl).1
 have s_1 := (HBA.out 1 _ rfl).1
 have s_2 := (HBA.out 2 _ rfl).1
 have s_3 := (HBA.out 3 _ rfl).1
 have s_4 := (HBA.out 4 _ rfl).1
 have s_5 := (HBA.out 5 _ rfl).1
 have s_6 := (HBA.out 6 _ rfl).1
 have s_7 := (HBA.out 7 _ rfl).1
 have s_8 := (HBA.out 8 _ rfl).1
 have s_9 := (HBA.out 9 _ rfl).1
 have s_10 := (HBA.out 10 _ rfl).1
 have s_11 := (HBA.out 11 _ rfl).1
 have s_12 := (HBA.out 12 _ rfl).1
 have s_13 := (HBA.out 13 _ rfl).1
 clear hn hl HSX HBA HBP HG e1
 go_quiet (fail)
 go_wp2
 refine bodyPost_ret (v := .tuple #[.int .i64 0, .bool false]) (by simp [results, Tryz.f66, go_sem]) rfl ?_
 exact ⟨rfl, Go.below_drewN HWX.out _⟩
end Go.Proofs.YtjjikhaaimfneaaGreatDoor
