/-
  THE WALK of DuelSteps.
-/
import Derived.Test.YtmmjopmffpfccaaDuel13
import Derived.Test.YtmmjopmffpfccaaDuel4
import Derived.Test.YtmmjopmffpfccaaEqS
import Derived.Deep.DeepCutAuto
namespace Go.Proofs.Ytmmjopmffpfccaa
open Go.RowKit
set_option linter.unusedSimpArgs false
set_option linter.unusedVariables false

attribute [local go_sem] iteMin iteMax iteMinN iteMaxN

set_option maxRecDepth 100000 in
set_option maxHeartbeats 8000000 in
theorem ds_walk (k0 k1 R Q J a0 a1 a2 a3 a4 a5 b0 b1 b2 b3 b4 b5 x y l0 l1 : Int) (s0' s1' s2' s3' s4' s5' s6' s7' s8' s9' s10' s11' s12' s13' t0' t1' t2' t3' t4' t5' t6' t7' t8' t9' t10' t11' t12' t13' u0' u1' u2' u3' u4' u5' n1 n2 r : Int) (t : Bool) (ws0' : (Lit.int .i64 s0').wf = true) (ws1' : (Lit.int .i64 s1').wf = true) (ws2' : (Lit.int .i64 s2').wf = true) (ws3' : (Lit.int .i64 s3').wf = true) (ws4' : (Lit.int .i64 s4').wf = true) (ws5' : (Lit.int .i64 s5').wf = true) (ws6' : (Lit.int .i64 s6').wf = true) (ws7' : (Lit.int .i64 s7').wf = true) (ws8' : (Lit.int .i64 s8').wf = true) (ws9' : (Lit.int .i64 s9').wf = true) (ws10' : (Lit.int .i64 s10').wf = true) (ws11' : (Lit.int .i64 s11').wf = true) (ws12' : (Lit.int .i64 s12').wf = true) (ws13' : (Lit.int .i64 s13').wf = true) (wt0' : (Lit.int .i64 t0').wf = true) (wt1' : (Lit.int .i64 t1').wf = true) (wt2' : (Lit.int .i64 t2').wf = true) (wt3' : (Lit.int .i64 t3').wf = true) (wt4' : (Lit.int .i64 t4').wf = true) (wt5' : (Lit.int .i64 t5').wf = true) (wt6' : (Lit.int .i64 t6').wf = true) (wt7' : (Lit.int .i64 t7').wf = true) (wt8' : (Lit.int .i64 t8').wf = true) (wt9' : (Lit.int .i64 t9').wf = true) (wt10' : (Lit.int .i64 t10').wf = true) (wt11' : (Lit.int .i64 t11').wf = true) (wt12' : (Lit.int .i64 t12').wf = true) (wt13' : (Lit.int .i64 t13').wf = true) (wu0' : (Lit.int .i64 u0').wf = true) (wu1' : (Lit.int .i64 u1').wf = true) (wu2' : (Lit.int .i64 u2').wf = true) (wu3' : (Lit.int .i64 u3').wf = true) (wu4' : (Lit.int .i64 u4').wf = true) (wu5' : (Lit.int .i64 u5').wf = true)
    (h1 : ∀ w : World, Calls Try.prog 6 #[.agg #[.int .i64 k0, .int .i64 k1, .int .i64 R, .int .i64 Q, .int .i64 J]] w fun e w' => e = .returned (.tuple #[.agg #[.int .i64 s0', .int .i64 s1', .int .i64 s2', .int .i64 s3', .int .i64 s4', .int .i64 s5', .int .i64 s6', .int .i64 s7', .int .i64 s8', .int .i64 s9', .int .i64 s10', .int .i64 s11', .int .i64 s12', .int .i64 s13'], .int .i64 n1]) ∧ Below w.heap.size w w')
    (h2 : ∀ w : World, Calls Try.prog 7 #[.agg #[.int .i64 k0, .int .i64 k1, .int .i64 R, .int .i64 Q, .int .i64 J]] w fun e w' => e = .returned (.tuple #[.agg #[.int .i64 s0', .int .i64 s1', .int .i64 s2', .int .i64 s3', .int .i64 s4', .int .i64 s5', .int .i64 s6', .int .i64 s7', .int .i64 s8', .int .i64 s9', .int .i64 s10', .int .i64 s11', .int .i64 s12', .int .i64 s13'], .int .i64 n1]) ∧ Below w.heap.size w w')
    (h3 : ∀ w : World, Calls Try.prog 8 #[.agg #[.int .i64 k0, .int .i64 k1, .int .i64 R, .int .i64 Q, .int .i64 J], .agg #[.int .i64 a0, .int .i64 a1, .int .i64 a2, .int .i64 a3, .int .i64 a4, .int .i64 a5, .int .i64 b0, .int .i64 b1, .int .i64 b2, .int .i64 b3, .int .i64 b4, .int .i64 b5, .int .i64 x, .int .i64 y], .agg #[.int .i64 l0, .int .i64 l1]] w fun e w' => e = .returned (.tuple #[.agg #[.int .i64 t0', .int .i64 t1', .int .i64 t2', .int .i64 t3', .int .i64 t4', .int .i64 t5', .int .i64 t6', .int .i64 t7', .int .i64 t8', .int .i64 t9', .int .i64 t10', .int .i64 t11', .int .i64 t12', .int .i64 t13'], .agg #[.int .i64 u0', .int .i64 u1', .int .i64 u2', .int .i64 u3', .int .i64 u4', .int .i64 u5'], .int .i64 n2]) ∧ Below w.heap.size w w')
    (h4 : ∀ w : World, Calls Try.prog 9 #[.agg #[.int .i64 k0, .int .i64 k1, .int .i64 R, .int .i64 Q, .int .i64 J], .agg #[.int .i64 a0, .int .i64 a1, .int .i64 a2, .int .i64 a3, .int .i64 a4, .int .i64 a5, .int .i64 b0, .int .i64 b1, .int .i64 b2, .int .i64 b3, .int .i64 b4, .int .i64 b5, .int .i64 x, .int .i64 y], .agg #[.int .i64 l0, .int .i64 l1]] w fun e w' => e = .returned (.tuple #[.agg #[.int .i64 t0', .int .i64 t1', .int .i64 t2', .int .i64 t3', .int .i64 t4', .int .i64 t5', .int .i64 t6', .int .i64 t7', .int .i64 t8', .int .i64 t9', .int .i64 t10', .int .i64 t11', .int .i64 t12', .int .i64 t13'], .agg #[.int .i64 u0', .int .i64 u1', .int .i64 u2', .int .i64 u3', .int .i64 u4', .int .i64 u5'], .int .i64 n2]) ∧ Below w.heap.size w w')
    (h5 : ∀ w : World, Calls Try.prog 10 #[.agg #[.int .i64 k0, .int .i64 k1, .int .i64 R, .int .i64 Q, .int .i64 J]] w fun e w' => e = .returned (.int .i64 r) ∧ Below w.heap.size w w')
    (h6 : ∀ w : World, Calls Try.prog 11 #[.agg #[.int .i64 k0, .int .i64 k1, .int .i64 R, .int .i64 Q, .int .i64 J]] w fun e w' => e = .returned (.int .i64 r) ∧ Below w.heap.size w w')
    (h7 : ∀ w : World, Calls Try.prog 12 #[.agg #[.int .i64 k0, .int .i64 k1, .int .i64 R, .int .i64 Q, .int .i64 J], .agg #[.int .i64 a0, .int .i64 a1, .int .i64 a2, .int .i64 a3, .int .i64 a4, .int .i64 a5, .int .i64 b0, .int .i64 b1, .int .i64 b2, .int .i64 b3, .int .i64 b4, .int .i64 b5, .int .i64 x, .int .i64 y]] w fun e w' => e = .returned (.bool t) ∧ Below w.heap.size w w')
    (h8 : ∀ w : World, Calls Try.prog 13 #[.agg #[.int .i64 k0, .int .i64 k1, .int .i64 R, .int .i64 Q, .int .i64 J], .agg #[.int .i64 a0, .int .i64 a1, .int .i64 a2, .int .i64 a3, .int .i64 a4, .int .i64 a5, .int .i64 b0, .int .i64 b1, .int .i64 b2, .int .i64 b3, .int .i64 b4, .int .i64 b5, .int .i64 x, .int .i64 y]] w fun e w' => e = .returned (.bool t) ∧ Below w.heap.size w w')
    (w : World) : Calls Try.prog 3 #[.agg #[.int .i64 k0, .int .i64 k1, .int .i64 R, .int .i64 Q, .int .i64 J], .agg #[.int .i64 a0, .int .i64 a1, .int .i64 a2, .int .i64 a3, .int .i64 a4, .int .i64 a5, .int .i64 b0, .int .i64 b1, .int .i64 b2, .int .i64 b3, .int .i64 b4, .int .i64 b5, .int .i64 x, .int .i64 y], .agg #[.int .i64 l0, .int .i64 l1]] w fun e w' => e = .returned (.bool true) ∧ Below w.heap.size w w' := by
  have H1 := hide h1
  have H2 := hide h2
  have H3 := hide h3
  have H4 := hide h4
  have H5 := hide h5
  have H6 := hide h6
  have H7 := hide h7
  have H8 := hide h8
  clear h1 h2 h3 h4 h5 h6 h7 h8
  obtain ⟨S, hS⟩ : ∃ S, w.heap.size = S := ⟨_, rfl⟩
  go_enter Try.func3, Try.ntmps3
  go_wp2_with fail
  obtain ⟨W, hW⟩ : ∃ W, W = ((w.alloc (.cells #[.int .i64 k0, .int .i64 k1, .int .i64 R, .int .i64 Q, .int .i64 J] 24)).alloc (.cells #[.int .i64 a0, .int .i64 a1, .int .i64 a2, .int .i64 a3, .int .i64 a4, .int .i64 a5, .int .i64 b0, .int .i64 b1, .int .i64 b2, .int .i64 b3, .int .i64 b4, .int .i64 b5, .int .i64 x, .int .i64 y] 29)).alloc (.cells #[.int .i64 l0, .int .i64 l1] 22) := ⟨_, rfl⟩
  rw [← hW]
  have P0 : Blk W (S) [.int .i64 k0, .int .i64 k1, .int .i64 R, .int .i64 Q, .int .i64 J] := by
    have := ((Blk.new w [.int .i64 k0, .int .i64 k1, .int .i64 R, .int .i64 Q, .int .i64 J] 24).alloc (.cells #[.int .i64 a0, .int .i64 a1, .int .i64 a2, .int .i64 a3, .int .i64 a4, .int .i64 a5, .int .i64 b0, .int .i64 b1, .int .i64 b2, .int .i64 b3, .int .i64 b4, .int .i64 b5, .int .i64 x, .int .i64 y] 29)).alloc (.cells #[.int .i64 l0, .int .i64 l1] 22)
    rw [hW]; simpa [hS] using this
  have P1 : Blk W (S + 1) [.int .i64 a0, .int .i64 a1, .int .i64 a2, .int .i64 a3, .int .i64 a4, .int .i64 a5, .int .i64 b0, .int .i64 b1, .int .i64 b2, .int .i64 b3, .int .i64 b4, .int .i64 b5, .int .i64 x, .int .i64 y] := by
    have := (Blk.new (w.alloc (.cells #[.int .i64 k0, .int .i64 k1, .int .i64 R, .int .i64 Q, .int .i64 J] 24)) [.int .i64 a0, .int .i64 a1, .int .i64 a2, .int .i64 a3, .int .i64 a4, .int .i64 a5, .int .i64 b0, .int .i64 b1, .int .i64 b2, .int .i64 b3, .int .i64 b4, .int .i64 b5, .int .i64 x, .int .i64 y] 29).alloc (.cells #[.int .i64 l0, .int .i64 l1] 22)
    rw [hW]; simpa [hS] using this
  have P2 : Blk W (S + 1 + 1) [.int .i64 l0, .int .i64 l1] := by
    have := Blk.new ((w.alloc (.cells #[.int .i64 k0, .int .i64 k1, .int .i64 R, .int .i64 Q, .int .i64 J] 24)).alloc (.cells #[.int .i64 a0, .int .i64 a1, .int .i64 a2, .int .i64 a3, .int .i64 a4, .int .i64 a5, .int .i64 b0, .int .i64 b1, .int .i64 b2, .int .i64 b3, .int .i64 b4, .int .i64 b5, .int .i64 x, .int .i64 y] 29)) [.int .i64 l0, .int .i64 l1] 22
    rw [hW]; simpa [hS] using this
  have BS : Below S w W := by rw [hW, ← hS]; exact (((Below.refl _ _).alloc (by first | exact Nat.le_refl _ | (simp; done) | (simp; omega)) _).alloc (by first | exact Nat.le_refl _ | (simp; done) | (simp; omega)) _).alloc (by first | exact Nat.le_refl _ | (simp; done) | (simp; omega)) _
  clear hW
  refine (H1.out W).mono ?_
  rintro e u1 ⟨rfl, hA1⟩
  have BS := BS.trans (hA1.mono (Nat.le_of_lt P0.lt))
  have P2 := P2.below hA1 P2.lt
  have P1 := P1.below hA1 P1.lt
  have P0 := P0.below hA1 P0.lt
  obtain ⟨T1, hT1⟩ : ∃ T, u1.heap.size = T := ⟨_, rfl⟩
  have hBX : Below T1 u1 (u1.alloc (.cells #[.int .i64 s0', .int .i64 s1', .int .i64 s2', .int .i64 s3', .int .i64 s4', .int .i64 s5', .int .i64 s6', .int .i64 s7', .int .i64 s8', .int .i64 s9', .int .i64 s10', .int .i64 s11', .int .i64 s12', .int .i64 s13'] 29)) := by rw [← hT1]; exact (Below.refl _ _).alloc (Nat.le_refl _) _
  obtain ⟨X1, hX1⟩ : ∃ X, X = (u1.alloc (.cells #[.int .i64 s0', .int .i64 s1', .int .i64 s2', .int .i64 s3', .int .i64 s4', .int .i64 s5', .int .i64 s6', .int .i64 s7', .int .i64 s8', .int .i64 s9', .int .i64 s10', .int .i64 s11', .int .i64 s12', .int .i64 s13'] 29)) := ⟨_, rfl⟩
  have Q1 : Blk X1 (T1) [.int .i64 s0', .int .i64 s1', .int .i64 s2', .int .i64 s3', .int .i64 s4', .int .i64 s5', .int .i64 s6', .int .i64 s7', .int .i64 s8', .int .i64 s9', .int .i64 s10', .int .i64 s11', .int .i64 s12', .int .i64 s13'] := by
    have := Blk.new u1 [.int .i64 s0', .int .i64 s1', .int .i64 s2', .int .i64 s3', .int .i64 s4', .int .i64 s5', .int .i64 s6', .int .i64 s7', .int .i64 s8', .int .i64 s9', .int .i64 s10', .int .i64 s11', .int .i64 s12', .int .i64 s13'] 29
    rw [hX1]; simpa [hT1] using this
  rw [← hX1] at hBX
  have BS := BS.trans (hBX.mono (by rw [← hT1]; exact Nat.le_of_lt P0.lt))
  have P2 := P2.below hBX (by rw [← hT1]; exact P2.lt)
  have P1 := P1.below hBX (by rw [← hT1]; exact P1.lt)
  have P0 := P0.below hBX (by rw [← hT1]; exact P0.lt)
  have P0z0 := (P0 0 _ rfl).1
  have P0z1 := (P0 1 _ rfl).1
  have P0z2 := (P0 2 _ rfl).1
  have P0z3 := (P0 3 _ rfl).1
  have P0z4 := (P0 4 _ rfl).1
  rw [hX1] at P0z0 P0z1 P0z2 P0z3 P0z4
  have HX := hide hX1
  clear hX1 hBX hA1
  have HP0 := hide P0
  have HP1 := hide P1
  have HP2 := hide P2
  have HQ1 := hide Q1
  have HBS := hide BS
  clear BS P0 P1 P2 Q1
  go_wp2_with fail
  rw [← HX.out]
  clear HX P0z0 P0z1 P0z2 P0z3 P0z4
  have P0 := HP0.out
  have P1 := HP1.out
  have P2 := HP2.out
  have Q1 := HQ1.out
  have BS := HBS.out
  clear HBS HP0 HP1 HP2 HQ1
  refine (H2.out X1).mono ?_
  rintro e u2 ⟨rfl, hA2⟩
  have BS := BS.trans (hA2.mono (Nat.le_of_lt P0.lt))
  have Q1 := Q1.below hA2 Q1.lt
  have P2 := P2.below hA2 P2.lt
  have P1 := P1.below hA2 P1.lt
  have P0 := P0.below hA2 P0.lt
  obtain ⟨T2, hT2⟩ : ∃ T, u2.heap.size = T := ⟨_, rfl⟩
  have hBX : Below T2 u2 (u2.alloc (.cells #[.int .i64 s0', .int .i64 s1', .int .i64 s2', .int .i64 s3', .int .i64 s4', .int .i64 s5', .int .i64 s6', .int .i64 s7', .int .i64 s8', .int .i64 s9', .int .i64 s10', .int .i64 s11', .int .i64 s12', .int .i64 s13'] 29)) := by rw [← hT2]; exact (Below.refl _ _).alloc (Nat.le_refl _) _
  obtain ⟨X2, hX2⟩ : ∃ X, X = (u2.alloc (.cells #[.int .i64 s0', .int .i64 s1', .int .i64 s2', .int .i64 s3', .int .i64 s4', .int .i64 s5', .int .i64 s6', .int .i64 s7', .int .i64 s8', .int .i64 s9', .int .i64 s10', .int .i64 s11', .int .i64 s12', .int .i64 s13'] 29)) := ⟨_, rfl⟩
  have Q2 : Blk X2 (T2) [.int .i64 s0', .int .i64 s1', .int .i64 s2', .int .i64 s3', .int .i64 s4', .int .i64 s5', .int .i64 s6', .int .i64 s7', .int .i64 s8', .int .i64 s9', .int .i64 s10', .int .i64 s11', .int .i64 s12', .int .i64 s13'] := by
    have := Blk.new u2 [.int .i64 s0', .int .i64 s1', .int .i64 s2', .int .i64 s3', .int .i64 s4', .int .i64 s5', .int .i64 s6', .int .i64 s7', .int .i64 s8', .int .i64 s9', .int .i64 s10', .int .i64 s11', .int .i64 s12', .int .i64 s13'] 29
    rw [hX2]; simpa [hT2] using this
  rw [← hX2] at hBX
  have BS := BS.trans (hBX.mono (by rw [← hT2]; exact Nat.le_of_lt P0.lt))
  have Q1 := Q1.below hBX (by rw [← hT2]; exact Q1.lt)
  have P2 := P2.below hBX (by rw [← hT2]; exact P2.lt)
  have P1 := P1.below hBX (by rw [← hT2]; exact P1.lt)
  have P0 := P0.below hBX (by rw [← hT2]; exact P0.lt)
  have P0z0 := (P0 0 _ rfl).1
  have P0z1 := (P0 1 _ rfl).1
  have P0z2 := (P0 2 _ rfl).1
  have P0z3 := (P0 3 _ rfl).1
  have P0z4 := (P0 4 _ rfl).1
  have P1z0 := (P1 0 _ rfl).1
  have P1z1 := (P1 1 _ rfl).1
  have P1z2 := (P1 2 _ rfl).1
  have P1z3 := (P1 3 _ rfl).1
  have P1z4 := (P1 4 _ rfl).1
  have P1z5 := (P1 5 _ rfl).1
  have P1z6 := (P1 6 _ rfl).1
  have P1z7 := (P1 7 _ rfl).1
  have P1z8 := (P1 8 _ rfl).1
  have P1z9 := (P1 9 _ rfl).1
  have P1z10 := (P1 10 _ rfl).1
  have P1z11 := (P1 11 _ rfl).1
  have P1z12 := (P1 12 _ rfl).1
  have P1z13 := (P1 13 _ rfl).1
  have P2z0 := (P2 0 _ rfl).1
  have P2z1 := (P2 1 _ rfl).1
  rw [hX2] at P0z0 P0z1 P0z2 P0z3 P0z4 P1z0 P1z1 P1z2 P1z3 P1z4 P1z5 P1z6 P1z7 P1z8 P1z9 P1z10 P1z11 P1z12 P1z13 P2z0 P2z1
  have HX := hide hX2
  clear hX2 hBX hA2
  have HP0 := hide P0
  have HP1 := hide P1
  have HP2 := hide P2
  have HQ1 := hide Q1
  have HQ2 := hide Q2
  have HBS := hide BS
  clear BS P0 P1 P2 Q1 Q2
  go_wp2_with fail
  rw [← HX.out]
  clear HX P0z0 P0z1 P0z2 P0z3 P0z4 P1z0 P1z1 P1z2 P1z3 P1z4 P1z5 P1z6 P1z7 P1z8 P1z9 P1z10 P1z11 P1z12 P1z13 P2z0 P2z1
  have P0 := HP0.out
  have P1 := HP1.out
  have P2 := HP2.out
  have Q1 := HQ1.out
  have Q2 := HQ2.out
  have BS := HBS.out
  clear HBS HP0 HP1 HP2 HQ1 HQ2
  refine (H3.out X2).mono ?_
  rintro e u3 ⟨rfl, hA3⟩
  have BS := BS.trans (hA3.mono (Nat.le_of_lt P0.lt))
  have Q2 := Q2.below hA3 Q2.lt
  have Q1 := Q1.below hA3 Q1.lt
  have P2 := P2.below hA3 P2.lt
  have P1 := P1.below hA3 P1.lt
  have P0 := P0.below hA3 P0.lt
  obtain ⟨T3, hT3⟩ : ∃ T, u3.heap.size = T := ⟨_, rfl⟩
  have hBX : Below T3 u3 ((u3.alloc (.cells #[.int .i64 t0', .int .i64 t1', .int .i64 t2', .int .i64 t3', .int .i64 t4', .int .i64 t5', .int .i64 t6', .int .i64 t7', .int .i64 t8', .int .i64 t9', .int .i64 t10', .int .i64 t11', .int .i64 t12', .int .i64 t13'] 29)).alloc (.cells #[.int .i64 u0', .int .i64 u1', .int .i64 u2', .int .i64 u3', .int .i64 u4', .int .i64 u5'] 34)) := by rw [← hT3]; exact ((Below.refl _ _).alloc (Nat.le_refl _) _).alloc (by simp) _
  obtain ⟨X3, hX3⟩ : ∃ X, X = ((u3.alloc (.cells #[.int .i64 t0', .int .i64 t1', .int .i64 t2', .int .i64 t3', .int .i64 t4', .int .i64 t5', .int .i64 t6', .int .i64 t7', .int .i64 t8', .int .i64 t9', .int .i64 t10', .int .i64 t11', .int .i64 t12', .int .i64 t13'] 29)).alloc (.cells #[.int .i64 u0', .int .i64 u1', .int .i64 u2', .int .i64 u3', .int .i64 u4', .int .i64 u5'] 34)) := ⟨_, rfl⟩
  have Q3 : Blk X3 (T3) [.int .i64 t0', .int .i64 t1', .int .i64 t2', .int .i64 t3', .int .i64 t4', .int .i64 t5', .int .i64 t6', .int .i64 t7', .int .i64 t8', .int .i64 t9', .int .i64 t10', .int .i64 t11', .int .i64 t12', .int .i64 t13'] := by
    have := (Blk.new u3 [.int .i64 t0', .int .i64 t1', .int .i64 t2', .int .i64 t3', .int .i64 t4', .int .i64 t5', .int .i64 t6', .int .i64 t7', .int .i64 t8', .int .i64 t9', .int .i64 t10', .int .i64 t11', .int .i64 t12', .int .i64 t13'] 29).alloc (.cells #[.int .i64 u0', .int .i64 u1', .int .i64 u2', .int .i64 u3', .int .i64 u4', .int .i64 u5'] 34)
    rw [hX3]; simpa [hT3] using this
  have Q4 : Blk X3 (T3 + 1) [.int .i64 u0', .int .i64 u1', .int .i64 u2', .int .i64 u3', .int .i64 u4', .int .i64 u5'] := by
    have := Blk.new (u3.alloc (.cells #[.int .i64 t0', .int .i64 t1', .int .i64 t2', .int .i64 t3', .int .i64 t4', .int .i64 t5', .int .i64 t6', .int .i64 t7', .int .i64 t8', .int .i64 t9', .int .i64 t10', .int .i64 t11', .int .i64 t12', .int .i64 t13'] 29)) [.int .i64 u0', .int .i64 u1', .int .i64 u2', .int .i64 u3', .int .i64 u4', .int .i64 u5'] 34
    rw [hX3]; simpa [hT3] using this
  rw [← hX3] at hBX
  have BS := BS.trans (hBX.mono (by rw [← hT3]; exact Nat.le_of_lt P0.lt))
  have Q2 := Q2.below hBX (by rw [← hT3]; exact Q2.lt)
  have Q1 := Q1.below hBX (by rw [← hT3]; exact Q1.lt)
  have P2 := P2.below hBX (by rw [← hT3]; exact P2.lt)
  have P1 := P1.below hBX (by rw [← hT3]; exact P1.lt)
  have P0 := P0.below hBX (by rw [← hT3]; exact P0.lt)
  have P0z0 := (P0 0 _ rfl).1
  have P0z1 := (P0 1 _ rfl).1
  have P0z2 := (P0 2 _ rfl).1
  have P0z3 := (P0 3 _ rfl).1
  have P0z4 := (P0 4 _ rfl).1
  have P1z0 := (P1 0 _ rfl).1
  have P1z1 := (P1 1 _ rfl).1
  have P1z2 := (P1 2 _ rfl).1
  have P1z3 := (P1 3 _ rfl).1
  have P1z4 := (P1 4 _ rfl).1
  have P1z5 := (P1 5 _ rfl).1
  have P1z6 := (P1 6 _ rfl).1
  have P1z7 := (P1 7 _ rfl).1
  have P1z8 := (P1 8 _ rfl).1
  have P1z9 := (P1 9 _ rfl).1
  have P1z10 := (P1 10 _ rfl).1
  have P1z11 := (P1 11 _ rfl).1
  have P1z12 := (P1 12 _ rfl).1
  have P1z13 := (P1 13 _ rfl).1
  have P2z0 := (P2 0 _ rfl).1
  have P2z1 := (P2 1 _ rfl).1
  rw [hX3] at P0z0 P0z1 P0z2 P0z3 P0z4 P1z0 P1z1 P1z2 P1z3 P1z4 P1z5 P1z6 P1z7 P1z8 P1z9 P1z10 P1z11 P1z12 P1z13 P2z0 P2z1
  have HX := hide hX3
  clear hX3 hBX hA3
  have HP0 := hide P0
  have HP1 := hide P1
  have HP2 := hide P2
  have HQ1 := hide Q1
  have HQ2 := hide Q2
  have HQ3 := hide Q3
  have HQ4 := hide Q4
  have HBS := hide BS
  clear BS P0 P1 P2 Q1 Q2 Q3 Q4
  go_wp2_with fail
  rw [← HX.out]
  clear HX P0z0 P0z1 P0z2 P0z3 P0z4 P1z0 P1z1 P1z2 P1z3 P1z4 P1z5 P1z6 P1z7 P1z8 P1z9 P1z10 P1z11 P1z12 P1z13 P2z0 P2z1
  have P0 := HP0.out
  have P1 := HP1.out
  have P2 := HP2.out
  have Q1 := HQ1.out
  have Q2 := HQ2.out
  have Q3 := HQ3.out
  have Q4 := HQ4.out
  have BS := HBS.out
  clear HBS HP0 HP1 HP2 HQ1 HQ2 HQ3 HQ4
  refine (H4.out X3).mono ?_
  rintro e u4 ⟨rfl, hA4⟩
  have BS := BS.trans (hA4.mono (Nat.le_of_lt P0.lt))
  have Q4 := Q4.below hA4 Q4.lt
  have Q3 := Q3.below hA4 Q3.lt
  have Q2 := Q2.below hA4 Q2.lt
  have Q1 := Q1.below hA4 Q1.lt
  have P2 := P2.below hA4 P2.lt
  have P1 := P1.below hA4 P1.lt
  have P0 := P0.below hA4 P0.lt
  obtain ⟨T4, hT4⟩ : ∃ T, u4.heap.size = T := ⟨_, rfl⟩
  have hBX : Below T4 u4 ((u4.alloc (.cells #[.int .i64 t0', .int .i64 t1', .int .i64 t2', .int .i64 t3', .int .i64 t4', .int .i64 t5', .int .i64 t6', .int .i64 t7', .int .i64 t8', .int .i64 t9', .int .i64 t10', .int .i64 t11', .int .i64 t12', .int .i64 t13'] 29)).alloc (.cells #[.int .i64 u0', .int .i64 u1', .int .i64 u2', .int .i64 u3', .int .i64 u4', .int .i64 u5'] 34)) := by rw [← hT4]; exact ((Below.refl _ _).alloc (Nat.le_refl _) _).alloc (by simp) _
  obtain ⟨X4, hX4⟩ : ∃ X, X = ((u4.alloc (.cells #[.int .i64 t0', .int .i64 t1', .int .i64 t2', .int .i64 t3', .int .i64 t4', .int .i64 t5', .int .i64 t6', .int .i64 t7', .int .i64 t8', .int .i64 t9', .int .i64 t10', .int .i64 t11', .int .i64 t12', .int .i64 t13'] 29)).alloc (.cells #[.int .i64 u0', .int .i64 u1', .int .i64 u2', .int .i64 u3', .int .i64 u4', .int .i64 u5'] 34)) := ⟨_, rfl⟩
  have Q5 : Blk X4 (T4) [.int .i64 t0', .int .i64 t1', .int .i64 t2', .int .i64 t3', .int .i64 t4', .int .i64 t5', .int .i64 t6', .int .i64 t7', .int .i64 t8', .int .i64 t9', .int .i64 t10', .int .i64 t11', .int .i64 t12', .int .i64 t13'] := by
    have := (Blk.new u4 [.int .i64 t0', .int .i64 t1', .int .i64 t2', .int .i64 t3', .int .i64 t4', .int .i64 t5', .int .i64 t6', .int .i64 t7', .int .i64 t8', .int .i64 t9', .int .i64 t10', .int .i64 t11', .int .i64 t12', .int .i64 t13'] 29).alloc (.cells #[.int .i64 u0', .int .i64 u1', .int .i64 u2', .int .i64 u3', .int .i64 u4', .int .i64 u5'] 34)
    rw [hX4]; simpa [hT4] using this
  have Q6 : Blk X4 (T4 + 1) [.int .i64 u0', .int .i64 u1', .int .i64 u2', .int .i64 u3', .int .i64 u4', .int .i64 u5'] := by
    have := Blk.new (u4.alloc (.cells #[.int .i64 t0', .int .i64 t1', .int .i64 t2', .int .i64 t3', .int .i64 t4', .int .i64 t5', .int .i64 t6', .int .i64 t7', .int .i64 t8', .int .i64 t9', .int .i64 t10', .int .i64 t11', .int .i64 t12', .int .i64 t13'] 29)) [.int .i64 u0', .int .i64 u1', .int .i64 u2', .int .i64 u3', .int .i64 u4', .int .i64 u5'] 34
    rw [hX4]; simpa [hT4] using this
  rw [← hX4] at hBX
  have BS := BS.trans (hBX.mono (by rw [← hT4]; exact Nat.le_of_lt P0.lt))
  have Q4 := Q4.below hBX (by rw [← hT4]; exact Q4.lt)
  have Q3 := Q3.below hBX (by rw [← hT4]; exact Q3.lt)
  have Q2 := Q2.below hBX (by rw [← hT4]; exact Q2.lt)
  have Q1 := Q1.below hBX (by rw [← hT4]; exact Q1.lt)
  have P2 := P2.below hBX (by rw [← hT4]; exact P2.lt)
  have P1 := P1.below hBX (by rw [← hT4]; exact P1.lt)
  have P0 := P0.below hBX (by rw [← hT4]; exact P0.lt)
  have HX := hide hX4
  clear hX4 hBX hA4
  have HP0 := hide P0
  have HP1 := hide P1
  have HP2 := hide P2
  have HQ1 := hide Q1
  have HQ2 := hide Q2
  have HQ3 := hide Q3
  have HQ4 := hide Q4
  have HQ5 := hide Q5
  have HQ6 := hide Q6
  have HBS := hide BS
  clear BS P0 P1 P2 Q1 Q2 Q3 Q4 Q5 Q6
  go_upto_region 5 with fail
  rw [← HX.out]
  clear HX 
  have P0 := HP0.out
  have P1 := HP1.out
  have P2 := HP2.out
  have Q1 := HQ1.out
  have Q2 := HQ2.out
  have Q3 := HQ3.out
  have Q4 := HQ4.out
  have Q5 := HQ5.out
  have Q6 := HQ6.out
  have BS := HBS.out
  clear HBS HP0 HP1 HP2 HQ1 HQ2 HQ3 HQ4 HQ5 HQ6
  have F0 : ∀ q : Beyond X4, q.w.cell? ⟨S, 0, none⟩ = some (.int .i64 k0) := fun q => q.cell P0.lt (P0 0 _ rfl).1
  have F1 : ∀ q : Beyond X4, q.w.cell? ⟨S, 1, none⟩ = some (.int .i64 k1) := fun q => q.cell P0.lt (P0 1 _ rfl).1
  have F2 : ∀ q : Beyond X4, q.w.cell? ⟨S, 2, none⟩ = some (.int .i64 R) := fun q => q.cell P0.lt (P0 2 _ rfl).1
  have F3 : ∀ q : Beyond X4, q.w.cell? ⟨S, 3, none⟩ = some (.int .i64 Q) := fun q => q.cell P0.lt (P0 3 _ rfl).1
  have F4 : ∀ q : Beyond X4, q.w.cell? ⟨S, 4, none⟩ = some (.int .i64 J) := fun q => q.cell P0.lt (P0 4 _ rfl).1
  have F5 : ∀ q : Beyond X4, q.w.cell? ⟨S + 1, 0, none⟩ = some (.int .i64 a0) := fun q => q.cell P1.lt (P1 0 _ rfl).1
  have F6 : ∀ q : Beyond X4, q.w.cell? ⟨S + 1, 1, none⟩ = some (.int .i64 a1) := fun q => q.cell P1.lt (P1 1 _ rfl).1
  have F7 : ∀ q : Beyond X4, q.w.cell? ⟨S + 1, 2, none⟩ = some (.int .i64 a2) := fun q => q.cell P1.lt (P1 2 _ rfl).1
  have F8 : ∀ q : Beyond X4, q.w.cell? ⟨S + 1, 3, none⟩ = some (.int .i64 a3) := fun q => q.cell P1.lt (P1 3 _ rfl).1
  have F9 : ∀ q : Beyond X4, q.w.cell? ⟨S + 1, 4, none⟩ = some (.int .i64 a4) := fun q => q.cell P1.lt (P1 4 _ rfl).1
  have F10 : ∀ q : Beyond X4, q.w.cell? ⟨S + 1, 5, none⟩ = some (.int .i64 a5) := fun q => q.cell P1.lt (P1 5 _ rfl).1
  have F11 : ∀ q : Beyond X4, q.w.cell? ⟨S + 1, 6, none⟩ = some (.int .i64 b0) := fun q => q.cell P1.lt (P1 6 _ rfl).1
  have F12 : ∀ q : Beyond X4, q.w.cell? ⟨S + 1, 7, none⟩ = some (.int .i64 b1) := fun q => q.cell P1.lt (P1 7 _ rfl).1
  have F13 : ∀ q : Beyond X4, q.w.cell? ⟨S + 1, 8, none⟩ = some (.int .i64 b2) := fun q => q.cell P1.lt (P1 8 _ rfl).1
  have F14 : ∀ q : Beyond X4, q.w.cell? ⟨S + 1, 9, none⟩ = some (.int .i64 b3) := fun q => q.cell P1.lt (P1 9 _ rfl).1
  have F15 : ∀ q : Beyond X4, q.w.cell? ⟨S + 1, 10, none⟩ = some (.int .i64 b4) := fun q => q.cell P1.lt (P1 10 _ rfl).1
  have F16 : ∀ q : Beyond X4, q.w.cell? ⟨S + 1, 11, none⟩ = some (.int .i64 b5) := fun q => q.cell P1.lt (P1 11 _ rfl).1
  have F17 : ∀ q : Beyond X4, q.w.cell? ⟨S + 1, 12, none⟩ = some (.int .i64 x) := fun q => q.cell P1.lt (P1 12 _ rfl).1
  have F18 : ∀ q : Beyond X4, q.w.cell? ⟨S + 1, 13, none⟩ = some (.int .i64 y) := fun q => q.cell P1.lt (P1 13 _ rfl).1
  have F19 : ∀ q : Beyond X4, q.w.cell? ⟨S + 1 + 1, 0, none⟩ = some (.int .i64 l0) := fun q => q.cell P2.lt (P2 0 _ rfl).1
  have F20 : ∀ q : Beyond X4, q.w.cell? ⟨S + 1 + 1, 1, none⟩ = some (.int .i64 l1) := fun q => q.cell P2.lt (P2 1 _ rfl).1
  have F21 : ∀ q : Beyond X4, q.w.cell? ⟨T1, 0, none⟩ = some (.int .i64 s0') := fun q => q.cell Q1.lt (Q1 0 _ rfl).1
  have F22 : ∀ q : Beyond X4, q.w.cell? ⟨T1, 1, none⟩ = some (.int .i64 s1') := fun q => q.cell Q1.lt (Q1 1 _ rfl).1
  have F23 : ∀ q : Beyond X4, q.w.cell? ⟨T1, 2, none⟩ = some (.int .i64 s2') := fun q => q.cell Q1.lt (Q1 2 _ rfl).1
  have F24 : ∀ q : Beyond X4, q.w.cell? ⟨T1, 3, none⟩ = some (.int .i64 s3') := fun q => q.cell Q1.lt (Q1 3 _ rfl).1
  have F25 : ∀ q : Beyond X4, q.w.cell? ⟨T1, 4, none⟩ = some (.int .i64 s4') := fun q => q.cell Q1.lt (Q1 4 _ rfl).1
  have F26 : ∀ q : Beyond X4, q.w.cell? ⟨T1, 5, none⟩ = some (.int .i64 s5') := fun q => q.cell Q1.lt (Q1 5 _ rfl).1
  have F27 : ∀ q : Beyond X4, q.w.cell? ⟨T1, 6, none⟩ = some (.int .i64 s6') := fun q => q.cell Q1.lt (Q1 6 _ rfl).1
  have F28 : ∀ q : Beyond X4, q.w.cell? ⟨T1, 7, none⟩ = some (.int .i64 s7') := fun q => q.cell Q1.lt (Q1 7 _ rfl).1
  have F29 : ∀ q : Beyond X4, q.w.cell? ⟨T1, 8, none⟩ = some (.int .i64 s8') := fun q => q.cell Q1.lt (Q1 8 _ rfl).1
  have F30 : ∀ q : Beyond X4, q.w.cell? ⟨T1, 9, none⟩ = some (.int .i64 s9') := fun q => q.cell Q1.lt (Q1 9 _ rfl).1
  have F31 : ∀ q : Beyond X4, q.w.cell? ⟨T1, 10, none⟩ = some (.int .i64 s10') := fun q => q.cell Q1.lt (Q1 10 _ rfl).1
  have F32 : ∀ q : Beyond X4, q.w.cell? ⟨T1, 11, none⟩ = some (.int .i64 s11') := fun q => q.cell Q1.lt (Q1 11 _ rfl).1
  have F33 : ∀ q : Beyond X4, q.w.cell? ⟨T1, 12, none⟩ = some (.int .i64 s12') := fun q => q.cell Q1.lt (Q1 12 _ rfl).1
  have F34 : ∀ q : Beyond X4, q.w.cell? ⟨T1, 13, none⟩ = some (.int .i64 s13') := fun q => q.cell Q1.lt (Q1 13 _ rfl).1
  have F35 : ∀ q : Beyond X4, q.w.cell? ⟨T2, 0, none⟩ = some (.int .i64 s0') := fun q => q.cell Q2.lt (Q2 0 _ rfl).1
  have F36 : ∀ q : Beyond X4, q.w.cell? ⟨T2, 1, none⟩ = some (.int .i64 s1') := fun q => q.cell Q2.lt (Q2 1 _ rfl).1
  have F37 : ∀ q : Beyond X4, q.w.cell? ⟨T2, 2, none⟩ = some (.int .i64 s2') := fun q => q.cell Q2.lt (Q2 2 _ rfl).1
  have F38 : ∀ q : Beyond X4, q.w.cell? ⟨T2, 3, none⟩ = some (.int .i64 s3') := fun q => q.cell Q2.lt (Q2 3 _ rfl).1
  have F39 : ∀ q : Beyond X4, q.w.cell? ⟨T2, 4, none⟩ = some (.int .i64 s4') := fun q => q.cell Q2.lt (Q2 4 _ rfl).1
  have F40 : ∀ q : Beyond X4, q.w.cell? ⟨T2, 5, none⟩ = some (.int .i64 s5') := fun q => q.cell Q2.lt (Q2 5 _ rfl).1
  have F41 : ∀ q : Beyond X4, q.w.cell? ⟨T2, 6, none⟩ = some (.int .i64 s6') := fun q => q.cell Q2.lt (Q2 6 _ rfl).1
  have F42 : ∀ q : Beyond X4, q.w.cell? ⟨T2, 7, none⟩ = some (.int .i64 s7') := fun q => q.cell Q2.lt (Q2 7 _ rfl).1
  have F43 : ∀ q : Beyond X4, q.w.cell? ⟨T2, 8, none⟩ = some (.int .i64 s8') := fun q => q.cell Q2.lt (Q2 8 _ rfl).1
  have F44 : ∀ q : Beyond X4, q.w.cell? ⟨T2, 9, none⟩ = some (.int .i64 s9') := fun q => q.cell Q2.lt (Q2 9 _ rfl).1
  have F45 : ∀ q : Beyond X4, q.w.cell? ⟨T2, 10, none⟩ = some (.int .i64 s10') := fun q => q.cell Q2.lt (Q2 10 _ rfl).1
  have F46 : ∀ q : Beyond X4, q.w.cell? ⟨T2, 11, none⟩ = some (.int .i64 s11') := fun q => q.cell Q2.lt (Q2 11 _ rfl).1
  have F47 : ∀ q : Beyond X4, q.w.cell? ⟨T2, 12, none⟩ = some (.int .i64 s12') := fun q => q.cell Q2.lt (Q2 12 _ rfl).1
  have F48 : ∀ q : Beyond X4, q.w.cell? ⟨T2, 13, none⟩ = some (.int .i64 s13') := fun q => q.cell Q2.lt (Q2 13 _ rfl).1
  have F49 : ∀ q : Beyond X4, q.w.cell? ⟨T3, 0, none⟩ = some (.int .i64 t0') := fun q => q.cell Q3.lt (Q3 0 _ rfl).1
  have F50 : ∀ q : Beyond X4, q.w.cell? ⟨T3, 1, none⟩ = some (.int .i64 t1') := fun q => q.cell Q3.lt (Q3 1 _ rfl).1
  have F51 : ∀ q : Beyond X4, q.w.cell? ⟨T3, 2, none⟩ = some (.int .i64 t2') := fun q => q.cell Q3.lt (Q3 2 _ rfl).1
  have F52 : ∀ q : Beyond X4, q.w.cell? ⟨T3, 3, none⟩ = some (.int .i64 t3') := fun q => q.cell Q3.lt (Q3 3 _ rfl).1
  have F53 : ∀ q : Beyond X4, q.w.cell? ⟨T3, 4, none⟩ = some (.int .i64 t4') := fun q => q.cell Q3.lt (Q3 4 _ rfl).1
  have F54 : ∀ q : Beyond X4, q.w.cell? ⟨T3, 5, none⟩ = some (.int .i64 t5') := fun q => q.cell Q3.lt (Q3 5 _ rfl).1
  have F55 : ∀ q : Beyond X4, q.w.cell? ⟨T3, 6, none⟩ = some (.int .i64 t6') := fun q => q.cell Q3.lt (Q3 6 _ rfl).1
  have F56 : ∀ q : Beyond X4, q.w.cell? ⟨T3, 7, none⟩ = some (.int .i64 t7') := fun q => q.cell Q3.lt (Q3 7 _ rfl).1
  have F57 : ∀ q : Beyond X4, q.w.cell? ⟨T3, 8, none⟩ = some (.int .i64 t8') := fun q => q.cell Q3.lt (Q3 8 _ rfl).1
  have F58 : ∀ q : Beyond X4, q.w.cell? ⟨T3, 9, none⟩ = some (.int .i64 t9') := fun q => q.cell Q3.lt (Q3 9 _ rfl).1
  have F59 : ∀ q : Beyond X4, q.w.cell? ⟨T3, 10, none⟩ = some (.int .i64 t10') := fun q => q.cell Q3.lt (Q3 10 _ rfl).1
  have F60 : ∀ q : Beyond X4, q.w.cell? ⟨T3, 11, none⟩ = some (.int .i64 t11') := fun q => q.cell Q3.lt (Q3 11 _ rfl).1
  have F61 : ∀ q : Beyond X4, q.w.cell? ⟨T3, 12, none⟩ = some (.int .i64 t12') := fun q => q.cell Q3.lt (Q3 12 _ rfl).1
  have F62 : ∀ q : Beyond X4, q.w.cell? ⟨T3, 13, none⟩ = some (.int .i64 t13') := fun q => q.cell Q3.lt (Q3 13 _ rfl).1
  have F63 : ∀ q : Beyond X4, q.w.cell? ⟨T3 + 1, 0, none⟩ = some (.int .i64 u0') := fun q => q.cell Q4.lt (Q4 0 _ rfl).1
  have F64 : ∀ q : Beyond X4, q.w.cell? ⟨T3 + 1, 1, none⟩ = some (.int .i64 u1') := fun q => q.cell Q4.lt (Q4 1 _ rfl).1
  have F65 : ∀ q : Beyond X4, q.w.cell? ⟨T3 + 1, 2, none⟩ = some (.int .i64 u2') := fun q => q.cell Q4.lt (Q4 2 _ rfl).1
  have F66 : ∀ q : Beyond X4, q.w.cell? ⟨T3 + 1, 3, none⟩ = some (.int .i64 u3') := fun q => q.cell Q4.lt (Q4 3 _ rfl).1
  have F67 : ∀ q : Beyond X4, q.w.cell? ⟨T3 + 1, 4, none⟩ = some (.int .i64 u4') := fun q => q.cell Q4.lt (Q4 4 _ rfl).1
  have F68 : ∀ q : Beyond X4, q.w.cell? ⟨T3 + 1, 5, none⟩ = some (.int .i64 u5') := fun q => q.cell Q4.lt (Q4 5 _ rfl).1
  have F69 : ∀ q : Beyond X4, q.w.cell? ⟨T4, 0, none⟩ = some (.int .i64 t0') := fun q => q.cell Q5.lt (Q5 0 _ rfl).1
  have F70 : ∀ q : Beyond X4, q.w.cell? ⟨T4, 1, none⟩ = some (.int .i64 t1') := fun q => q.cell Q5.lt (Q5 1 _ rfl).1
  have F71 : ∀ q : Beyond X4, q.w.cell? ⟨T4, 2, none⟩ = some (.int .i64 t2') := fun q => q.cell Q5.lt (Q5 2 _ rfl).1
  have F72 : ∀ q : Beyond X4, q.w.cell? ⟨T4, 3, none⟩ = some (.int .i64 t3') := fun q => q.cell Q5.lt (Q5 3 _ rfl).1
  have F73 : ∀ q : Beyond X4, q.w.cell? ⟨T4, 4, none⟩ = some (.int .i64 t4') := fun q => q.cell Q5.lt (Q5 4 _ rfl).1
  have F74 : ∀ q : Beyond X4, q.w.cell? ⟨T4, 5, none⟩ = some (.int .i64 t5') := fun q => q.cell Q5.lt (Q5 5 _ rfl).1
  have F75 : ∀ q : Beyond X4, q.w.cell? ⟨T4, 6, none⟩ = some (.int .i64 t6') := fun q => q.cell Q5.lt (Q5 6 _ rfl).1
  have F76 : ∀ q : Beyond X4, q.w.cell? ⟨T4, 7, none⟩ = some (.int .i64 t7') := fun q => q.cell Q5.lt (Q5 7 _ rfl).1
  have F77 : ∀ q : Beyond X4, q.w.cell? ⟨T4, 8, none⟩ = some (.int .i64 t8') := fun q => q.cell Q5.lt (Q5 8 _ rfl).1
  have F78 : ∀ q : Beyond X4, q.w.cell? ⟨T4, 9, none⟩ = some (.int .i64 t9') := fun q => q.cell Q5.lt (Q5 9 _ rfl).1
  have F79 : ∀ q : Beyond X4, q.w.cell? ⟨T4, 10, none⟩ = some (.int .i64 t10') := fun q => q.cell Q5.lt (Q5 10 _ rfl).1
  have F80 : ∀ q : Beyond X4, q.w.cell? ⟨T4, 11, none⟩ = some (.int .i64 t11') := fun q => q.cell Q5.lt (Q5 11 _ rfl).1
  have F81 : ∀ q : Beyond X4, q.w.cell? ⟨T4, 12, none⟩ = some (.int .i64 t12') := fun q => q.cell Q5.lt (Q5 12 _ rfl).1
  have F82 : ∀ q : Beyond X4, q.w.cell? ⟨T4, 13, none⟩ = some (.int .i64 t13') := fun q => q.cell Q5.lt (Q5 13 _ rfl).1
  have F83 : ∀ q : Beyond X4, q.w.cell? ⟨T4 + 1, 0, none⟩ = some (.int .i64 u0') := fun q => q.cell Q6.lt (Q6 0 _ rfl).1
  have F84 : ∀ q : Beyond X4, q.w.cell? ⟨T4 + 1, 1, none⟩ = some (.int .i64 u1') := fun q => q.cell Q6.lt (Q6 1 _ rfl).1
  have F85 : ∀ q : Beyond X4, q.w.cell? ⟨T4 + 1, 2, none⟩ = some (.int .i64 u2') := fun q => q.cell Q6.lt (Q6 2 _ rfl).1
  have F86 : ∀ q : Beyond X4, q.w.cell? ⟨T4 + 1, 3, none⟩ = some (.int .i64 u3') := fun q => q.cell Q6.lt (Q6 3 _ rfl).1
  have F87 : ∀ q : Beyond X4, q.w.cell? ⟨T4 + 1, 4, none⟩ = some (.int .i64 u4') := fun q => q.cell Q6.lt (Q6 4 _ rfl).1
  have F88 : ∀ q : Beyond X4, q.w.cell? ⟨T4 + 1, 5, none⟩ = some (.int .i64 u5') := fun q => q.cell Q6.lt (Q6 5 _ rfl).1
  have E1 := eqState ws0' ws1' ws2' ws3' ws4' ws5' ws6' ws7' ws8' ws9' ws10' ws11' ws12' ws13'
  have E2 := eqState wt0' wt1' wt2' wt3' wt4' wt5' wt6' wt7' wt8' wt9' wt10' wt11' wt12' wt13'
  have E3 := eqRound wu0' wu1' wu2' wu3' wu4' wu5'
  have HBS := hide BS
  clear BS P0 P1 P2 Q1 Q2 Q3 Q4 Q5 Q6
  refine wp_region_beyond (by kernel_rfl) (by kernel_rfl) ?_
  repeat (first | go_big_quiet_step (first | (go_at_call 10; exact beyondCall (H5.out _)) | (go_at_call 11; exact beyondCall (H6.out _)) | (go_at_call 12; exact beyondCall (H7.out _)) | (go_at_call 13; exact beyondCall (H8.out _))) | quiet_step (first | (go_at_call 10; exact beyondCall (H5.out _)) | (go_at_call 11; exact beyondCall (H6.out _)) | (go_at_call 12; exact beyondCall (H7.out _)) | (go_at_call 13; exact beyondCall (H8.out _))))
  refine wpQuiet_nil ?_
  intro _ hw'
  obtain ⟨pq, hw''⟩ := hw'
  subst hw''
  go_wp2
  go_ret
  exact ⟨by first | rfl | simp, by first | exact HBS.out.trans (pq.h.mono HBS.out.size) | (rw [hS]; exact HBS.out.trans (pq.h.mono (by rw [← hS]; exact HBS.out.size)))⟩

end Go.Proofs.Ytmmjopmffpfccaa
