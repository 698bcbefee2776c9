/-
  Lemmas and walks for the statement: Lk2, LkBad.
-/
import Derived.Test.YtagbikgfkakbfaaQ12
import Derived.Test.YtagbikgfkakbfaaQ13
namespace Go.Proofs.Ytagbikgfkakbfaa
open Go.RowKit
set_option linter.unusedSimpArgs false
set_option linter.unusedVariables false
attribute [local go_sem] iteMin iteMax iteMinN iteMaxN
set_option maxRecDepth 100000 in
set_option maxHeartbeats 8000000 in
theorem oright_any (R Q a b c d : Int) (w : World) :
 Calls Try.prog 45 #[.int .i64 R, .int .i64 Q, .agg #[.int .i64 a, .int .i64 b], .agg #[.int .i64 c, .int .i64 d]] w fun e w' => IsB (LinkOk R Q a b c d) e ∧ Below w.heap.size w w' := by
 have hB : Below w.heap.size w ((w.alloc (.cells #[.int .i64 a, .int .i64 b] 22)).alloc (.cells #[.int .i64 c, .int .i64 d] 22)) := ((Below.refl _ _).alloc (Nat.le_refl _) _).alloc (by simp) _
 go_enter Try.func45, Try.ntmps45
 have HB := hide hB
 clear hB
 have i0 : ∀ w : World, (Instr.index 22 (.agg #[.int .i64 c, .int .i64 d]) (.int .i64 0)).run Try.prog w = .ok (.int .i64 c) w := fun _ => by kernel_rfl
 have i1 : ∀ w : World, (Instr.index 22 (.agg #[.int .i64 c, .int .i64 d]) (.int .i64 1)).run Try.prog w = .ok (.int .i64 d) w := fun _ => by kernel_rfl
 by_cases h0 : 1 ≤ R
 case neg => (go_wp2; refine wp_loop_rounds 3 ?_; rw [rounds_succ]; go_wp2; rw [rounds_succ]; go_wp2; rw [rounds_succ]; go_wp2; go_ret; first | exact ⟨IsB.f (by unfold LinkOk; omega), HB.out⟩ | exact ⟨IsB.d (by unfold LinkOk; simp; omega), HB.out⟩)
 by_cases h1 : R ≤ 12
 case neg => (go_wp2; refine wp_loop_rounds 3 ?_; rw [rounds_succ]; go_wp2; rw [rounds_succ]; go_wp2; rw [rounds_succ]; go_wp2; go_ret; first | exact ⟨IsB.f (by unfold LinkOk; omega), HB.out⟩ | exact ⟨IsB.d (by unfold LinkOk; simp; omega), HB.out⟩)
 by_cases h2 : 0 ≤ Q
 case neg => (go_wp2; refine wp_loop_rounds 3 ?_; rw [rounds_succ]; go_wp2; rw [rounds_succ]; go_wp2; rw [rounds_succ]; go_wp2; go_ret; first | exact ⟨IsB.f (by unfold LinkOk; omega), HB.out⟩ | exact ⟨IsB.d (by unfold LinkOk; simp; omega), HB.out⟩)
 by_cases h3 : Q ≤ 16
 case neg => (go_wp2; refine wp_loop_rounds 3 ?_; rw [rounds_succ]; go_wp2; rw [rounds_succ]; go_wp2; rw [rounds_succ]; go_wp2; go_ret; first | exact ⟨IsB.f (by unfold LinkOk; omega), HB.out⟩ | exact ⟨IsB.d (by unfold LinkOk; simp; omega), HB.out⟩)
 by_cases h4 : 0 ≤ a
 case neg => (go_wp2; refine wp_loop_rounds 3 ?_; rw [rounds_succ]; go_wp2; rw [rounds_succ]; go_wp2; rw [rounds_succ]; go_wp2; go_ret; first | exact ⟨IsB.f (by unfold LinkOk; omega), HB.out⟩ | exact ⟨IsB.d (by unfold LinkOk; simp; omega), HB.out⟩)
 by_cases h5 : 0 ≤ b
 case neg => (go_wp2; refine wp_loop_rounds 3 ?_; rw [rounds_succ]; go_wp2; rw [rounds_succ]; go_wp2; rw [rounds_succ]; go_wp2; go_ret; first | exact ⟨IsB.f (by unfold LinkOk; omega), HB.out⟩ | exact ⟨IsB.d (by unfold LinkOk; simp; omega), HB.out⟩)
 by_cases h6 : a ≤ 16
 case neg => (go_wp2; refine wp_loop_rounds 3 ?_; rw [rounds_succ]; go_wp2; rw [rounds_succ]; go_wp2; rw [rounds_succ]; go_wp2; go_ret; first | exact ⟨IsB.f (by unfold LinkOk; omega), HB.out⟩ | exact ⟨IsB.d (by unfold LinkOk; simp; omega), HB.out⟩)
 have e8 : wrap64 (16 - min a 16) = 16 - a := by unfold wrap64; omega
 have e8' : wrap64 (16 - a) = 16 - a := by unfold wrap64; omega
 have e8'' : min a 16 = a := by omega
 by_cases h8 : b ≤ 16 - a
 case neg => (go_wp2; refine wp_loop_rounds 3 ?_; rw [rounds_succ]; go_wp2; rw [rounds_succ]; go_wp2; rw [rounds_succ]; go_wp2; go_ret; first | exact ⟨IsB.f (by unfold LinkOk; omega), HB.out⟩ | exact ⟨IsB.d (by unfold LinkOk; simp; omega), HB.out⟩)
 by_cases h9 : 0 ≤ c
 case neg => (go_wp2; refine wp_loop_rounds 3 ?_; rw [rounds_succ]; go_wp2; rw [rounds_succ]; go_wp2; rw [rounds_succ]; go_wp2; go_ret; first | exact ⟨IsB.f (by unfold LinkOk; omega), HB.out⟩ | exact ⟨IsB.d (by unfold LinkOk; simp; omega), HB.out⟩)
 by_cases h10 : c ≤ 12
 case neg => (go_wp2; refine wp_loop_rounds 3 ?_; rw [rounds_succ]; go_wp2; rw [rounds_succ]; go_wp2; rw [rounds_succ]; go_wp2; go_ret; first | exact ⟨IsB.f (by unfold LinkOk; omega), HB.out⟩ | exact ⟨IsB.d (by unfold LinkOk; simp; omega), HB.out⟩)
 by_cases h11 : 0 ≤ d
 case neg => (go_wp2; refine wp_loop_rounds 3 ?_; rw [rounds_succ]; go_wp2; rw [rounds_succ]; go_wp2; rw [rounds_succ]; go_wp2; go_ret; first | exact ⟨IsB.f (by unfold LinkOk; omega), HB.out⟩ | exact ⟨IsB.d (by unfold LinkOk; simp; omega), HB.out⟩)
 by_cases h12 : d ≤ 12
 case neg => (go_wp2; refine wp_loop_rounds 3 ?_; rw [rounds_succ]; go_wp2; rw [rounds_succ]; go_wp2; rw [rounds_succ]; go_wp2; go_ret; first | exact ⟨IsB.f (by unfold LinkOk; omega), HB.out⟩ | exact ⟨IsB.d (by unfold LinkOk; simp; omega), HB.out⟩)
 go_wp2
 refine wp_loop_rounds 3 ?_
 rw [rounds_succ]
 go_wp2
 rw [rounds_succ]
 go_wp2
 rw [rounds_succ]
 go_wp2
 go_ret
 exact ⟨IsB.d (by unfold LinkOk; simp; omega), HB.out⟩
end Go.Proofs.Ytagbikgfkakbfaa
namespace Go.Proofs.Ytagbikgfkakbfaa
open Go.RowKit
set_option linter.unusedSimpArgs false
set_option linter.unusedVariables false
attribute [local go_sem] iteMin iteMax iteMinN iteMaxN
def PassBad (e : Ending) : Prop := e = .returned (.tuple #[.agg #[.int .i64 0, .int .i64 0, .int .i64 0, .int .i64 0, .int .i64 0, .int .i64 0], .agg #[.int .i64 0, .int .i64 0], .int .i64 2])
set_option maxRecDepth 100000 in
set_option maxHeartbeats 4000000 in
theorem lpass_bad (R Q a b c d : Int) (w : World) (ha : a ≤ 9223372036854775807) (hb : b ≤ 9223372036854775807) (hno : ¬ LinkOk R Q a b c d) :
 Calls Try.prog 51 #[.int .i64 R, .int .i64 Q, .agg #[.int .i64 a, .int .i64 b], .agg #[.int .i64 c, .int .i64 d]] w fun e w' => PassBad e ∧ Below w.heap.size w w' := by
 have HNO := hide hno
 clear hno
 obtain ⟨S, hS⟩ : ∃ S, w.heap.size = S := ⟨_, rfl⟩
 go_enter Try.func51, Try.ntmps51
 go_wp2_with fail
 obtain ⟨W, hW⟩ : ∃ W, W = ((((((w.alloc (.cells #[.int .i64 R] 3)).alloc (.cells #[.int .i64 Q] 3)).alloc (.cells #[.int .i64 a, .int .i64 b] 22)).alloc (.cells #[.int .i64 c, .int .i64 d] 22)).alloc (.cells #[.int .i64 0, .int .i64 0, .int .i64 0, .int .i64 0, .int .i64 0, .int .i64 0] 71)).alloc (.cells #[.int .i64 0, .int .i64 0] 22)) := ⟨_, rfl⟩
 rw [← hW]
 have hWB : Below S w W := by rw [hW, ← hS]; exact ((((((Below.refl _ _).alloc (Nat.le_refl _) _).alloc (by simp) _).alloc (by simp; omega) _).alloc (by simp; omega) _).alloc (by simp; omega) _).alloc (by simp; omega) _
 have hWs : W.heap.size = S + 6 := by rw [hW, ← hS]; simp
 have b4 : Blk W (S + 1 + 1 + 1 + 1) [.int .i64 0, .int .i64 0, .int .i64 0, .int .i64 0, .int .i64 0, .int .i64 0] := by
  have := (Blk.new ((((w.alloc (.cells #[.int .i64 R] 3)).alloc (.cells #[.int .i64 Q] 3)).alloc (.cells #[.int .i64 a, .int .i64 b] 22)).alloc (.cells #[.int .i64 c, .int .i64 d] 22)) [.int .i64 0, .int .i64 0, .int .i64 0, .int .i64 0, .int .i64 0, .int .i64 0] 71).alloc (.cells #[.int .i64 0, .int .i64 0] 22)
  rw [hW]; simpa [hS] using this
 have b5 : Blk W (S + 1 + 1 + 1 + 1 + 1) [.int .i64 0, .int .i64 0] := by
  have := Blk.new (((((w.alloc (.cells #[.int .i64 R] 3)).alloc (.cells #[.int .i64 Q] 3)).alloc (.cells #[.int .i64 a, .int .i64 b] 22)).alloc (.cells #[.int .i64 c, .int .i64 d] 22)).alloc (.cells #[.int .i64 0, .int .i64 0, .int .i64 0, .int .i64 0, .int .i64 0, .int .i64 0] 71)) [.int .i64 0, .int .i64 0] 22
  rw [hW]; simpa [hS] using this
 clear hW
 refine (callF (lright_any R Q a b c d W ha hb) HNO.out).mono ?_
 rintro e w1 ⟨rfl, hB1⟩
 have x4 := b4.below hB1 (by omega)
 have x5 := b5.below hB1 (by omega)
 have e0 := (x4 0 _ rfl).1; have e1 := (x4 1 _ rfl).1; have e2 := (x4 2 _ rfl).1; have e3 := (x4 3 _ rfl).1; have e4 := (x4 4 _ rfl).1; have e5 := (x4 5 _ rfl).1
 have e6 := (x5 0 _ rfl).1; have e7 := (x5 1 _ rfl).1
 have f0 := (x4 0 _ rfl).2; have f1 := (x4 1 _ rfl).2; have f2 := (x4 2 _ rfl).2; have f3 := (x4 3 _ rfl).2; have f4 := (x4 4 _ rfl).2; have f5 := (x4 5 _ rfl).2
 have f6 := (x5 0 _ rfl).2; have f7 := (x5 1 _ rfl).2
 have HB := hide (hWB.trans (hB1.mono (by omega)))
 have H4 := hide x4; have H5 := hide x5
 clear b4 b5 x4 x5 hB1 hWB
 go_wp2
 obtain ⟨Z, hZ⟩ : ∃ Z, Z = ((((((((w1.setCell ⟨S + 1 + 1 + 1 + 1, 0, none⟩ (.int .i64 0)).setCell ⟨S + 1 + 1 + 1 + 1, 1, none⟩ (.int .i64 0)).setCell ⟨S + 1 + 1 + 1 + 1, 2, none⟩ (.int .i64 0)).setCell ⟨S + 1 + 1 + 1 + 1, 3, none⟩ (.int .i64 0)).setCell ⟨S + 1 + 1 + 1 + 1, 4, none⟩ (.int .i64 0)).setCell ⟨S + 1 + 1 + 1 + 1, 5, none⟩ (.int .i64 0)).setCell ⟨S + 1 + 1 + 1 + 1 + 1, 0, none⟩ (.int .i64 0)).setCell ⟨S + 1 + 1 + 1 + 1 + 1, 1, none⟩ (.int .i64 0)) := ⟨_, rfl⟩
 have z4 : Blk Z (S + 1 + 1 + 1 + 1) [.int .i64 0, .int .i64 0, .int .i64 0, .int .i64 0, .int .i64 0, .int .i64 0] := by rw [hZ]; exact ((((((((H4.out.set (j := 0) (by simp) (.int .i64 0)).set (j := 1) (by simp) (.int .i64 0)).set (j := 2) (by simp) (.int .i64 0)).set (j := 3) (by simp) (.int .i64 0)).set (j := 4) (by simp) (.int .i64 0)).set (j := 5) (by simp) (.int .i64 0)).other ⟨S + 1 + 1 + 1 + 1 + 1, 0, none⟩ (.int .i64 0) (by simp only; omega)).other ⟨S + 1 + 1 + 1 + 1 + 1, 1, none⟩ (.int .i64 0) (by simp only; omega))
 have z5 : Blk Z (S + 1 + 1 + 1 + 1 + 1) [.int .i64 0, .int .i64 0] := by rw [hZ]; exact ((((((((H5.out.other ⟨S + 1 + 1 + 1 + 1, 0, none⟩ (.int .i64 0) (by simp only; omega)).other ⟨S + 1 + 1 + 1 + 1, 1, none⟩ (.int .i64 0) (by simp only; omega)).other ⟨S + 1 + 1 + 1 + 1, 2, none⟩ (.int .i64 0) (by simp only; omega)).other ⟨S + 1 + 1 + 1 + 1, 3, none⟩ (.int .i64 0) (by simp only; omega)).other ⟨S + 1 + 1 + 1 + 1, 4, none⟩ (.int .i64 0) (by simp only; omega)).other ⟨S + 1 + 1 + 1 + 1, 5, none⟩ (.int .i64 0) (by simp only; omega)).set (j := 0) (by simp) (.int .i64 0)).set (j := 1) (by simp) (.int .i64 0))
 have zB : Below S w Z := by rw [hZ]; exact ((((((((HB.out.setCell (p := ⟨S + 1 + 1 + 1 + 1, 0, none⟩) (by simp only; omega) _).setCell (p := ⟨S + 1 + 1 + 1 + 1, 1, none⟩) (by simp only; omega) _).setCell (p := ⟨S + 1 + 1 + 1 + 1, 2, none⟩) (by simp only; omega) _).setCell (p := ⟨S + 1 + 1 + 1 + 1, 3, none⟩) (by simp only; omega) _).setCell (p := ⟨S + 1 + 1 + 1 + 1, 4, none⟩) (by simp only; omega) _).setCell (p := ⟨S + 1 + 1 + 1 + 1, 5, none⟩) (by simp only; omega) _).setCell (p := ⟨S + 1 + 1 + 1 + 1 + 1, 0, none⟩) (by simp only; omega) _).setCell (p := ⟨S + 1 + 1 + 1 + 1 + 1, 1, none⟩) (by simp only; omega) _)
 rw [← hZ]
 clear hZ
 have w0 := (z4 0 _ rfl).1; have w1' := (z4 1 _ rfl).1; have w2 := (z4 2 _ rfl).1; have w3 := (z4 3 _ rfl).1; have w4 := (z4 4 _ rfl).1; have w5 := (z4 5 _ rfl).1
 have w6 := (z5 0 _ rfl).1; have w7 := (z5 1 _ rfl).1
 refine bodyPost_ret (v := .tuple #[.agg #[.int .i64 0, .int .i64 0, .int .i64 0, .int .i64 0, .int .i64 0, .int .i64 0], .agg #[.int .i64 0, .int .i64 0], .int .i64 2]) ?_ rfl ⟨rfl, ?_⟩
 · simp [results, Try.f51, go_sem, w0, w1', w2, w3, w4, w5, w6, w7]
 · rw [hS]; exact zB
set_option maxRecDepth 100000 in
set_option maxHeartbeats 4000000 in
theorem upto_any (n a b c d : Nat) (w : World) (hn : n ≤ 100) (ha : a ≤ 100) (hb : b ≤ 100) (hc : c ≤ 100) (hd : d ≤ 100) :
 Calls Try.prog 46 #[.int .i64 n, .agg #[.int .i64 a, .int .i64 b], .agg #[.int .i64 c, .int .i64 d]] w fun e w' => (∃ f t : Nat, e = .returned (.agg #[.int .i64 f, .int .i64 t]) ∧ UpC a b c d n f t) ∧ Below w.heap.size w w' := by
 obtain ⟨S, hS⟩ : ∃ S, w.heap.size = S := ⟨_, rfl⟩
 have hn0 : (0 : Int) ≤ (n : Int) := Int.natCast_nonneg _
 have ha0 : (0 : Int) ≤ (a : Int) := Int.natCast_nonneg _
 have hb0 : (0 : Int) ≤ (b : Int) := Int.natCast_nonneg _
 have hc0 : (0 : Int) ≤ (c : Int) := Int.natCast_nonneg _
 have hd0 : (0 : Int) ≤ (d : Int) := Int.natCast_nonneg _
 go_enter Try.func46, Try.ntmps46
 go_wp2
 · rename_i hw
   obtain ⟨x, hx⟩ : ∃ x : Nat, min (n : Int) (a : Int) + (((n : Int) - (min (n : Int) (a : Int) + min ((n : Int) - min (n : Int) (a : Int)) (b : Int))) + 1) / 2 = (x : Int) := ⟨(min (n : Int) (a : Int) + (((n : Int) - (min (n : Int) (a : Int) + min ((n : Int) - min (n : Int) (a : Int)) (b : Int))) + 1) / 2).toNat, by omega⟩
   obtain ⟨y, hy⟩ : ∃ y : Nat, min ((n : Int) - min (n : Int) (a : Int)) (b : Int) + ((n : Int) - (min (n : Int) (a : Int) + min ((n : Int) - min (n : Int) (a : Int)) (b : Int))) / 2 = (y : Int) := ⟨(min ((n : Int) - min (n : Int) (a : Int)) (b : Int) + ((n : Int) - (min (n : Int) (a : Int) + min ((n : Int) - min (n : Int) (a : Int)) (b : Int))) / 2).toNat, by omega⟩
   rw [hx, hy]
   refine bodyPost_ret (v := .agg #[.int .i64 x, .int .i64 y]) ?_ rfl ⟨⟨x, y, rfl, ?_⟩, ?_⟩
   · have z := (Blk.new ((w.alloc (.cells #[.int .i64 a, .int .i64 b] 22)).alloc (.cells #[.int .i64 c, .int .i64 d] 22)) [.int .i64 x, .int .i64 y] 22).alloc (.cells #[.int .i64 (min (n : Int) (a : Int)), .int .i64 (min ((n : Int) - min (n : Int) (a : Int)) (b : Int))] 22)
     have z0 := (z 0 _ rfl).1
     have z1 := (z 1 _ rfl).1
     simp only [World.size_alloc, hS] at z0 z1
     simp [results, Try.f46, go_sem, z0, z1]
   · unfold UpC AltC
     refine ⟨⟨fun h => ?_, fun h => ⟨fun h' => ?_, fun h' => ?_⟩⟩, ?_, ?_⟩ <;> omega
   · rw [hS]
     exact (((((Below.refl S w).alloc (by omega) _).alloc (by simp; omega) _).alloc (by simp; omega) _).alloc (by simp; omega) _)
 · rename_i hw
   obtain ⟨x, hx⟩ : ∃ x : Nat, min (n : Int) (a : Int) + min ((n : Int) - (min (n : Int) (a : Int) + min ((n : Int) - min (n : Int) (a : Int)) (b : Int))) ((c : Int) + (d : Int)) - min (c : Int) (d : Int) = (x : Int) := ⟨(min (n : Int) (a : Int) + min ((n : Int) - (min (n : Int) (a : Int) + min ((n : Int) - min (n : Int) (a : Int)) (b : Int))) ((c : Int) + (d : Int)) - min (c : Int) (d : Int)).toNat, by omega⟩
   obtain ⟨y, hy⟩ : ∃ y : Nat, min ((n : Int) - min (n : Int) (a : Int)) (b : Int) + min (c : Int) (d : Int) = (y : Int) := ⟨(min ((n : Int) - min (n : Int) (a : Int)) (b : Int) + min (c : Int) (d : Int)).toNat, by omega⟩
   rw [hx, hy]
   refine bodyPost_ret (v := .agg #[.int .i64 x, .int .i64 y]) ?_ rfl ⟨⟨x, y, rfl, ?_⟩, ?_⟩
   · have z := (Blk.new ((w.alloc (.cells #[.int .i64 a, .int .i64 b] 22)).alloc (.cells #[.int .i64 c, .int .i64 d] 22)) [.int .i64 x, .int .i64 y] 22).alloc (.cells #[.int .i64 (min (n : Int) (a : Int)), .int .i64 (min ((n : Int) - min (n : Int) (a : Int)) (b : Int))] 22)
     have z0 := (z 0 _ rfl).1
     have z1 := (z 1 _ rfl).1
     simp only [World.size_alloc, hS] at z0 z1
     simp [results, Try.f46, go_sem, z0, z1]
   · unfold UpC AltC
     refine ⟨⟨fun h => ?_, fun h => ⟨fun h' => ?_, fun h' => ?_⟩⟩, ?_, ?_⟩ <;> omega
   · rw [hS]
     exact (((((Below.refl S w).alloc (by omega) _).alloc (by simp; omega) _).alloc (by simp; omega) _).alloc (by simp; omega) _)
 · rename_i hw
   obtain ⟨x, hx⟩ : ∃ x : Nat, min (n : Int) (a : Int) + min (c : Int) (d : Int) = (x : Int) := ⟨(min (n : Int) (a : Int) + min (c : Int) (d : Int)).toNat, by omega⟩
   obtain ⟨y, hy⟩ : ∃ y : Nat, min ((n : Int) - min (n : Int) (a : Int)) (b : Int) + min ((n : Int) - (min (n : Int) (a : Int) + min ((n : Int) - min (n : Int) (a : Int)) (b : Int))) ((c : Int) + (d : Int)) - min (c : Int) (d : Int) = (y : Int) := ⟨(min ((n : Int) - min (n : Int) (a : Int)) (b : Int) + min ((n : Int) - (min (n : Int) (a : Int) + min ((n : Int) - min (n : Int) (a : Int)) (b : Int))) ((c : Int) + (d : Int)) - min (c : Int) (d : Int)).toNat, by omega⟩
   rw [hx, hy]
   refine bodyPost_ret (v := .agg #[.int .i64 x, .int .i64 y]) ?_ rfl ⟨⟨x, y, rfl, ?_⟩, ?_⟩
   · have z := (Blk.new ((w.alloc (.cells #[.int .i64 a, .int .i64 b] 22)).alloc (.cells #[.int .i64 c, .int .i64 d] 22)) [.int .i64 x, .int .i64 y] 22).alloc (.cells #[.int .i64 (min (n : Int) (a : Int)), .int .i64 (min ((n : Int) - min (n : Int) (a : Int)) (b : Int))] 22)
     have z0 := (z 0 _ rfl).1
     have z1 := (z 1 _ rfl).1
     simp only [World.size_alloc, hS] at z0 z1
     simp [results, Try.f46, go_sem, z0, z1]
   · unfold UpC AltC
     refine ⟨⟨fun h => ?_, fun h => ⟨fun h' => ?_, fun h' => ?_⟩⟩, ?_, ?_⟩ <;> omega
   · rw [hS]
     exact (((((Below.refl S w).alloc (by omega) _).alloc (by simp; omega) _).alloc (by simp; omega) _).alloc (by simp; omega) _)
end Go.Proofs.Ytagbikgfkakbfaa
