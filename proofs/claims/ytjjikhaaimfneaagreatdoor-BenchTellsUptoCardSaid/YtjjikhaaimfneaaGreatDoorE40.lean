/-
  Lemmas and walks for the statement: VSo.
-/
import Derived.Test.YtjjikhaaimfneaaGreatDoorE32
import Derived.Test.YtjjikhaaimfneaaGreatDoorE39
namespace Go.Proofs.YtjjikhaaimfneaaGreatDoor
open Go.RowKit
set_option linter.unusedSimpArgs false
set_option linter.unusedVariables false
attribute [local go_sem] iteMin iteMax iteMinN iteMaxN
def SofOk (X : Sx) (w : World) (e : Ending) (w' : World) : Prop := ∃ v0 v1 v2 v3 v4 B, e = .returned (.tuple #[.agg #[v0, v1, v2, v3, v4], .int .i64 0]) ∧ Below w.heap.size w w' ∧
 w'.ownsRow B 133 14 v0 X.states.length (flatS X.states) ∧ w'.ownsRow B 3 1 v1 X.edges.length ((fromsE X.edges).map (Value.int .i64)) ∧ w'.ownsRow B 3 1 v2 X.edges.length ((tosE X.edges).map (Value.int .i64)) ∧ w'.ownsRow B 47 2 v3 X.edges.length (flat2 (latesE X.edges)) ∧ w'.ownsRow B 92 6 v4 X.edges.length (flatU X.edges)
set_option maxRecDepth 100000 in
set_option maxHeartbeats 4000000 in
theorem sof_wrong (k0 k1 R Q J r : Int) (w : World) (hw : WrongSays k0 k1 R Q J r) (h0 : r ≠ 0) :
 Calls Tryz.prog 58 #[.agg #[.int .i64 k0, .int .i64 k1, .int .i64 R, .int .i64 Q, .int .i64 J]] w fun e w' => e = .returned (.tuple #[.agg #[.slice none 0 0, .slice none 0 0, .slice none 0 0, .slice none 0 0, .slice none 0 0], .int .i64 r]) ∧ Below w.heap.size w w' := by
 have h0' : ((r : Int) != 0) = true := by simpa using h0
 have HW := hide hw
 have H0 := hide h0
 clear hw h0
 obtain ⟨S, hS⟩ : ∃ S, w.heap.size = S := ⟨_, rfl⟩
 go_enter Tryz.func58, Tryz.ntmps58
 go_wp2_with fail
 obtain ⟨W, hW⟩ : ∃ W, W = (w.alloc (.cells #[.int .i64 k0, .int .i64 k1, .int .i64 R, .int .i64 Q, .int .i64 J] 49)).alloc (.cells #[.slice none 0 0, .slice none 0 0, .slice none 0 0, .slice none 0 0, .slice none 0 0] 118) := ⟨_, rfl⟩
 rw [← hW]
 have b1 : Blk W (S + 1) [.slice none 0 0, .slice none 0 0, .slice none 0 0, .slice none 0 0, .slice none 0 0] := by
  have := Blk.new (w.alloc (.cells #[.int .i64 k0, .int .i64 k1, .int .i64 R, .int .i64 Q, .int .i64 J] 49)) [.slice none 0 0, .slice none 0 0, .slice none 0 0, .slice none 0 0, .slice none 0 0] 118
  rw [hW]; simpa [hS] using this
 have hWB : Below S w W := by rw [hW, ← hS]; exact ((Below.refl _ _).alloc (Nat.le_refl _) _).alloc (by simp) _
 refine (pstart_bad k0 k1 R Q J r W HW.out H0.out).mono ?_
 rintro e w1 ⟨rfl, hA⟩
 have B1 := b1.below hA b1.lt
 have hB := hide (hWB.trans (hA.mono (by have := hWB.size; omega)))
 clear hW b1 hWB hA
 obtain ⟨z0, zf0⟩ := B1 0 _ rfl
 obtain ⟨z1, zf1⟩ := B1 1 _ rfl
 obtain ⟨z2, zf2⟩ := B1 2 _ rfl
 obtain ⟨z3, zf3⟩ := B1 3 _ rfl
 obtain ⟨z4, zf4⟩ := B1 4 _ rfl
 have hlt : S + 1 < w1.heap.size := B1.lt
 have HB1 := hide B1
 clear B1
 go_wp2
 obtain ⟨Z, hZ⟩ : ∃ Z, Z = ((((w1.setCell ⟨S + 1, 0, none⟩ (.slice none 0 0)).setCell ⟨S + 1, 1, none⟩ (.slice none 0 0)).setCell ⟨S + 1, 2, none⟩ (.slice none 0 0)).setCell ⟨S + 1, 3, none⟩ (.slice none 0 0)).setCell ⟨S + 1, 4, none⟩ (.slice none 0 0) := ⟨_, rfl⟩
 rw [← hZ]
 obtain ⟨⟨y0, y1, y2, y3, y4⟩, hcz⟩ := set5 HB1.out hZ
 obtain ⟨Z2, hZ2⟩ : ∃ Z2, Z2 = Z.alloc (.cells #[.int .i64 0, .int .i64 0, .int .i64 0, .int .i64 0, .int .i64 0, .int .i64 0, .int .i64 0, .int .i64 0, .int .i64 0, .int .i64 0, .int .i64 0, .int .i64 0, .int .i64 0, .int .i64 0] 133) := ⟨_, rfl⟩
 rw [← hZ2]
 have k : ∀ {p : Addr} {v : Value}, Z.cell? p = some v → Z2.cell? p = some v := fun {p v} h => by rw [hZ2]; exact (((Below.refl Z.heap.size Z).alloc (Nat.le_refl _) _).cell (World.block_lt_of_cell? Z _ h)).trans h
 have y0 := k y0; have y1 := k y1; have y2 := k y2; have y3 := k y3; have y4 := k y4
 have hBZ : Below S w Z := ⟨hcz.os.trans hB.out.os, hcz.tape.trans hB.out.tape, hcz.output.trans hB.out.output, Nat.le_trans (by have := hB.out.size; omega) hcz.size, fun b hb => (hcz.block b (by omega) (by omega)).trans (hB.out.block b hb)⟩
 refine bodyPost_ret (v := .tuple #[.agg #[.slice none 0 0, .slice none 0 0, .slice none 0 0, .slice none 0 0, .slice none 0 0], .int .i64 r]) ?_ rfl ⟨rfl, ?_⟩
 · simp [results, Tryz.f58, go_sem, y0, y1, y2, y3, y4]
 · rw [hS, hZ2]; exact hBZ.alloc (by have := hcz.size; omega) _
theorem sof_srch {k0 k1 R Q J r : Int} {X : Sx} (h : Srch k0 k1 R Q J r X) (w : World) :
 Calls Tryz.prog 58 #[.agg #[.int .i64 k0, .int .i64 k1, .int .i64 R, .int .i64 Q, .int .i64 J]] w fun e w' => (r ≠ 0 ∧ e = .returned (.tuple #[.agg #[.slice none 0 0, .slice none 0 0, .slice none 0 0, .slice none 0 0, .slice none 0 0], .int .i64 r]) ∧ Below w.heap.size w w') ∨ (r = 0 ∧ SofOk X w e w') := by
 rcases h with ⟨h0, _, hw, _⟩ | ⟨q, kk, rfl, hk, hr, hE, ho⟩
 · exact (sof_wrong k0 k1 R Q J r w hw h0).mono fun e w' ⟨h1, h2⟩ => .inl ⟨h0, h1, h2⟩
 · refine (sof_run k0 k1 R Q q w hk hr).mono ?_
   rintro e w' ⟨kk', hE', hb, hh⟩
   obtain rfl := hE.one hE'
   rcases ho with ⟨hf, rfl⟩ | ⟨hf, rfl, rfl⟩
   · rcases hh with ⟨PB, B, v0, v1, v2, v3, v4, hf', _⟩ | ⟨_, rfl⟩
     · rw [hf] at hf'; cases hf'
     · exact .inl ⟨by omega, rfl, hb⟩
   · rcases hh with ⟨PB, B, v0, v1, v2, v3, v4, hf', rfl, hRS⟩ | ⟨hf', _⟩
     · exact .inr ⟨rfl, v0, v1, v2, v3, v4, B, rfl, hb, hRS.sp.r0, hRS.sp.r1, hRS.sp.r2, hRS.sp.r3, hRS.sp.r4⟩
     · rw [hf] at hf'; cases hf'
end Go.Proofs.YtjjikhaaimfneaaGreatDoor
