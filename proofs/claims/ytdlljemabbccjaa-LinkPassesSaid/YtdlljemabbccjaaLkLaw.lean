/-
  THE WALK of LinkPasses; the reference's OPass at arguments that are not right.
-/
import Derived.Test.YtdlljemabbccjaaLkRef
import Derived.Test.YtdlljemabbccjaaEqD
namespace Go.Proofs.Ytdlljemabbccjaa
open Go.RowKit
set_option linter.unusedSimpArgs false
set_option linter.unusedVariables false

set_option maxRecDepth 100000 in
set_option maxHeartbeats 4000000 in
theorem opass_bad (R Q a b c d : Int) (w : World) (hno : ¬ LinkOk R Q a b c d) :
    Calls Try.prog 35 #[.int .i64 R, .int .i64 Q, .agg #[.int .i64 a, .int .i64 b], .agg #[.int .i64 c, .int .i64 d]] w fun e w' => PassBad e ∧ Below w.heap.size w w' := by
  have HNO := hide hno
  clear hno
  obtain ⟨S, hS⟩ : ∃ S, w.heap.size = S := ⟨_, rfl⟩
  go_enter Try.func35, Try.ntmps35
  go_wp2_with fail
  obtain ⟨W, hW⟩ : ∃ W, W = ((((w.alloc (.cells #[.int .i64 a, .int .i64 b] 44)).alloc (.cells #[.int .i64 c, .int .i64 d] 44)).alloc (.cells #[.int .i64 0, .int .i64 0, .int .i64 0, .int .i64 0, .int .i64 0, .int .i64 0] 46)).alloc (.cells #[.int .i64 0, .int .i64 0] 44)) := ⟨_, rfl⟩
  rw [← hW]
  have hWB : Below S w W := by rw [hW, ← hS]; exact ((((Below.refl _ _).alloc (Nat.le_refl _) _).alloc (by simp) _).alloc (by simp; omega) _).alloc (by simp; omega) _
  have hWs : W.heap.size = S + 4 := by rw [hW, ← hS]; simp
  have b4 : Blk W (S + 1 + 1) [.int .i64 0, .int .i64 0, .int .i64 0, .int .i64 0, .int .i64 0, .int .i64 0] := by
    have := (Blk.new ((w.alloc (.cells #[.int .i64 a, .int .i64 b] 44)).alloc (.cells #[.int .i64 c, .int .i64 d] 44)) [.int .i64 0, .int .i64 0, .int .i64 0, .int .i64 0, .int .i64 0, .int .i64 0] 46).alloc (.cells #[.int .i64 0, .int .i64 0] 44)
    rw [hW]; simpa [hS] using this
  have b5 : Blk W (S + 1 + 1 + 1) [.int .i64 0, .int .i64 0] := by
    have := Blk.new (((w.alloc (.cells #[.int .i64 a, .int .i64 b] 44)).alloc (.cells #[.int .i64 c, .int .i64 d] 44)).alloc (.cells #[.int .i64 0, .int .i64 0, .int .i64 0, .int .i64 0, .int .i64 0, .int .i64 0] 46)) [.int .i64 0, .int .i64 0] 44
    rw [hW]; simpa [hS] using this
  clear hW
  refine (callF (oright_any R Q a b c d W) HNO.out).mono ?_
  rintro e w1 ⟨rfl, hB1⟩
  have x4 := b4.below hB1 (by omega)
  have x5 := b5.below hB1 (by omega)
  have e0 := (x4 0 _ rfl).1; have e1 := (x4 1 _ rfl).1; have e2 := (x4 2 _ rfl).1; have e3 := (x4 3 _ rfl).1; have e4 := (x4 4 _ rfl).1; have e5 := (x4 5 _ rfl).1
  have e6 := (x5 0 _ rfl).1; have e7 := (x5 1 _ rfl).1
  have f0 := (x4 0 _ rfl).2; have f1 := (x4 1 _ rfl).2; have f2 := (x4 2 _ rfl).2; have f3 := (x4 3 _ rfl).2; have f4 := (x4 4 _ rfl).2; have f5 := (x4 5 _ rfl).2
  have f6 := (x5 0 _ rfl).2; have f7 := (x5 1 _ rfl).2
  have HB := hide (hWB.trans (hB1.mono (by omega)))
  have H4 := hide x4; have H5 := hide x5
  clear b4 b5 x4 x5 hB1 hWB
  go_wp2
  obtain ⟨Z, hZ⟩ : ∃ Z, Z = ((((((((w1.setCell ⟨S + 1 + 1, 0, none⟩ (.int .i64 0)).setCell ⟨S + 1 + 1, 1, none⟩ (.int .i64 0)).setCell ⟨S + 1 + 1, 2, none⟩ (.int .i64 0)).setCell ⟨S + 1 + 1, 3, none⟩ (.int .i64 0)).setCell ⟨S + 1 + 1, 4, none⟩ (.int .i64 0)).setCell ⟨S + 1 + 1, 5, none⟩ (.int .i64 0)).setCell ⟨S + 1 + 1 + 1, 0, none⟩ (.int .i64 0)).setCell ⟨S + 1 + 1 + 1, 1, none⟩ (.int .i64 0)) := ⟨_, rfl⟩
  have z4 : Blk Z (S + 1 + 1) [.int .i64 0, .int .i64 0, .int .i64 0, .int .i64 0, .int .i64 0, .int .i64 0] := by rw [hZ]; exact ((((((((H4.out.set (j := 0) (by simp) (.int .i64 0)).set (j := 1) (by simp) (.int .i64 0)).set (j := 2) (by simp) (.int .i64 0)).set (j := 3) (by simp) (.int .i64 0)).set (j := 4) (by simp) (.int .i64 0)).set (j := 5) (by simp) (.int .i64 0)).other ⟨S + 1 + 1 + 1, 0, none⟩ (.int .i64 0) (by simp only; omega)).other ⟨S + 1 + 1 + 1, 1, none⟩ (.int .i64 0) (by simp only; omega))
  have z5 : Blk Z (S + 1 + 1 + 1) [.int .i64 0, .int .i64 0] := by rw [hZ]; exact ((((((((H5.out.other ⟨S + 1 + 1, 0, none⟩ (.int .i64 0) (by simp only; omega)).other ⟨S + 1 + 1, 1, none⟩ (.int .i64 0) (by simp only; omega)).other ⟨S + 1 + 1, 2, none⟩ (.int .i64 0) (by simp only; omega)).other ⟨S + 1 + 1, 3, none⟩ (.int .i64 0) (by simp only; omega)).other ⟨S + 1 + 1, 4, none⟩ (.int .i64 0) (by simp only; omega)).other ⟨S + 1 + 1, 5, none⟩ (.int .i64 0) (by simp only; omega)).set (j := 0) (by simp) (.int .i64 0)).set (j := 1) (by simp) (.int .i64 0))
  have zB : Below S w Z := by rw [hZ]; exact ((((((((HB.out.setCell (p := ⟨S + 1 + 1, 0, none⟩) (by simp only; omega) _).setCell (p := ⟨S + 1 + 1, 1, none⟩) (by simp only; omega) _).setCell (p := ⟨S + 1 + 1, 2, none⟩) (by simp only; omega) _).setCell (p := ⟨S + 1 + 1, 3, none⟩) (by simp only; omega) _).setCell (p := ⟨S + 1 + 1, 4, none⟩) (by simp only; omega) _).setCell (p := ⟨S + 1 + 1, 5, none⟩) (by simp only; omega) _).setCell (p := ⟨S + 1 + 1 + 1, 0, none⟩) (by simp only; omega) _).setCell (p := ⟨S + 1 + 1 + 1, 1, none⟩) (by simp only; omega) _)
  rw [← hZ]
  clear hZ
  have w0 := (z4 0 _ rfl).1; have w1' := (z4 1 _ rfl).1; have w2 := (z4 2 _ rfl).1; have w3 := (z4 3 _ rfl).1; have w4 := (z4 4 _ rfl).1; have w5 := (z4 5 _ rfl).1
  have w6 := (z5 0 _ rfl).1; have w7 := (z5 1 _ rfl).1
  refine bodyPost_ret (v := .tuple #[.agg #[.int .i64 0, .int .i64 0, .int .i64 0, .int .i64 0, .int .i64 0, .int .i64 0], .agg #[.int .i64 0, .int .i64 0], .int .i64 2]) ?_ rfl ⟨rfl, ?_⟩
  · simp [results, Try.f35, go_sem, w0, w1', w2, w3, w4, w5, w6, w7]
  · rw [hS]; exact zB

set_option maxRecDepth 100000 in
set_option maxHeartbeats 4000000 in
theorem lp_walk (R Q a b c d x0 x1 x2 x3 x4 x5 y0 y1 n : Int) (t : Bool) (v0 : (Lit.int .i64 x0).wf = true) (v1 : (Lit.int .i64 x1).wf = true) (v2 : (Lit.int .i64 x2).wf = true) (v3 : (Lit.int .i64 x3).wf = true) (v4 : (Lit.int .i64 x4).wf = true) (v5 : (Lit.int .i64 x5).wf = true) (v6 : (Lit.int .i64 y0).wf = true) (v7 : (Lit.int .i64 y1).wf = true)
    (h1 : ∀ w : World, Calls Try.prog 34 #[.int .i64 R, .int .i64 Q, .agg #[.int .i64 a, .int .i64 b], .agg #[.int .i64 c, .int .i64 d]] w fun e w' => e = .returned (.tuple #[.agg #[.int .i64 x0, .int .i64 x1, .int .i64 x2, .int .i64 x3, .int .i64 x4, .int .i64 x5], .agg #[.int .i64 y0, .int .i64 y1], .int .i64 n]) ∧ Below w.heap.size w w')
    (h2 : ∀ w : World, Calls Try.prog 35 #[.int .i64 R, .int .i64 Q, .agg #[.int .i64 a, .int .i64 b], .agg #[.int .i64 c, .int .i64 d]] w fun e w' => e = .returned (.tuple #[.agg #[.int .i64 x0, .int .i64 x1, .int .i64 x2, .int .i64 x3, .int .i64 x4, .int .i64 x5], .agg #[.int .i64 y0, .int .i64 y1], .int .i64 n]) ∧ Below w.heap.size w w')
    (h3 : ∀ w : World, Calls Try.prog 36 #[.int .i64 R, .int .i64 Q, .agg #[.int .i64 a, .int .i64 b], .agg #[.int .i64 c, .int .i64 d]] w fun e w' => e = .returned (.bool t) ∧ Below w.heap.size w w')
    (h4 : ∀ w : World, Calls Try.prog 37 #[.int .i64 R, .int .i64 Q, .agg #[.int .i64 a, .int .i64 b], .agg #[.int .i64 c, .int .i64 d]] w fun e w' => e = .returned (.bool t) ∧ Below w.heap.size w w') (w : World) :
    Calls Try.prog 7 #[.int .i64 R, .int .i64 Q, .agg #[.int .i64 a, .int .i64 b], .agg #[.int .i64 c, .int .i64 d]] w fun e w' => e = .returned (.bool true) ∧ Below w.heap.size w w' := by
  have H1 := hide h1
  have H2 := hide h2
  have H3 := hide h3
  have H4 := hide h4
  clear h1 h2 h3 h4
  obtain ⟨S, hS⟩ : ∃ S, w.heap.size = S := ⟨_, rfl⟩
  go_enter Try.func7, Try.ntmps7
  go_wp2_with fail
  obtain ⟨W, hW⟩ : ∃ W, W = (w.alloc (.cells #[.int .i64 a, .int .i64 b] 44)).alloc (.cells #[.int .i64 c, .int .i64 d] 44) := ⟨_, rfl⟩
  rw [← hW]
  have hWB : Below S w W := by rw [hW, ← hS]; exact ((Below.refl _ _).alloc (Nat.le_refl _) _).alloc (by simp) _
  have hWs : W.heap.size = S + 2 := by rw [hW, ← hS]; simp
  have b0 : Blk W S [.int .i64 a, .int .i64 b] := by
    have := (Blk.new w [.int .i64 a, .int .i64 b] 44).alloc (.cells #[.int .i64 c, .int .i64 d] 44)
    rw [hW]; simpa [hS] using this
  have b1 : Blk W (S + 1) [.int .i64 c, .int .i64 d] := by
    have := Blk.new (w.alloc (.cells #[.int .i64 a, .int .i64 b] 44)) [.int .i64 c, .int .i64 d] 44
    rw [hW]; simpa [hS] using this
  clear hW
  refine (H1.out W).mono ?_
  rintro e w1 ⟨rfl, hB1⟩
  have h1s := hB1.size
  have p0 := b0.below hB1 (by omega)
  have p1 := b1.below hB1 (by omega)
  have hB1' : Below S w w1 := hWB.trans (hB1.mono (by omega))
  clear b0 b1 hB1 hWB
  obtain ⟨T, hT⟩ : ∃ T, w1.heap.size = T := ⟨_, rfl⟩
  rw [hT] at h1s
  obtain ⟨X, hX⟩ : ∃ X, X = (w1.alloc (.cells #[.int .i64 x0, .int .i64 x1, .int .i64 x2, .int .i64 x3, .int .i64 x4, .int .i64 x5] 46)).alloc (.cells #[.int .i64 y0, .int .i64 y1] 44) := ⟨_, rfl⟩
  have hXB : Below T w1 X := by rw [hX, ← hT]; exact ((Below.refl _ _).alloc (Nat.le_refl _) _).alloc (by simp) _
  have hXs : X.heap.size = T + 2 := by rw [hX, ← hT]; simp
  have q0 := p0.below hXB (show S < T by omega)
  have q1 := p1.below hXB (show S + 1 < T by omega)
  have q2 : Blk X T [.int .i64 x0, .int .i64 x1, .int .i64 x2, .int .i64 x3, .int .i64 x4, .int .i64 x5] := by
    have := (Blk.new w1 [.int .i64 x0, .int .i64 x1, .int .i64 x2, .int .i64 x3, .int .i64 x4, .int .i64 x5] 46).alloc (.cells #[.int .i64 y0, .int .i64 y1] 44)
    rw [hX]; simpa [hT] using this
  have q3 : Blk X (T + 1) [.int .i64 y0, .int .i64 y1] := by
    have := Blk.new (w1.alloc (.cells #[.int .i64 x0, .int .i64 x1, .int .i64 x2, .int .i64 x3, .int .i64 x4, .int .i64 x5] 46)) [.int .i64 y0, .int .i64 y1] 44
    rw [hX]; simpa [hT] using this
  have hXB' : Below S w X := hB1'.trans (hXB.mono (by omega))
  have HX := hide hX
  have r0 := (q0 0 _ rfl).1
  have r1 := (q0 1 _ rfl).1
  have r2 := (q1 0 _ rfl).1
  have r3 := (q1 1 _ rfl).1
  rw [hX] at r0 r1 r2 r3
  clear hX p0 p1 hXB hB1'
  go_wp2_with fail
  rw [← HX.out]
  clear r0 r1 r2 r3
  refine (H2.out X).mono ?_
  rintro e w2 ⟨rfl, hB2⟩
  have h2s := hB2.size
  have u0 := q0.below hB2 (by omega)
  have u1 := q1.below hB2 (by omega)
  have u2 := q2.below hB2 (by omega)
  have u3 := q3.below hB2 (by omega)
  have hB2' : Below S w w2 := hXB'.trans (hB2.mono (by omega))
  obtain ⟨U, hU⟩ : ∃ U, w2.heap.size = U := ⟨_, rfl⟩
  rw [hU] at h2s
  clear q0 q1 q2 q3 hB2 hXB'
  go_upto_region 3 with fail
  obtain ⟨W3, hW3⟩ : ∃ W3, W3 = (w2.alloc (.cells #[.int .i64 x0, .int .i64 x1, .int .i64 x2, .int .i64 x3, .int .i64 x4, .int .i64 x5] 46)).alloc (.cells #[.int .i64 y0, .int .i64 y1] 44) := ⟨_, rfl⟩
  rw [← hW3]
  have hB3 : Below U w2 W3 := by rw [hW3, ← hU]; exact ((Below.refl _ _).alloc (Nat.le_refl _) _).alloc (by simp) _
  have hs3 : W3.heap.size = U + 2 := by rw [hW3, ← hU]; simp
  have z0 := u0.below hB3 (show S < U by omega)
  have z1 := u1.below hB3 (show S + 1 < U by omega)
  have z2 := u2.below hB3 (show T < U by omega)
  have z3 := u3.below hB3 (show T + 1 < U by omega)
  have z4 : Blk W3 U [.int .i64 x0, .int .i64 x1, .int .i64 x2, .int .i64 x3, .int .i64 x4, .int .i64 x5] := by
    have := (Blk.new w2 [.int .i64 x0, .int .i64 x1, .int .i64 x2, .int .i64 x3, .int .i64 x4, .int .i64 x5] 46).alloc (.cells #[.int .i64 y0, .int .i64 y1] 44)
    rw [hW3]; simpa [hU] using this
  have z5 : Blk W3 (U + 1) [.int .i64 y0, .int .i64 y1] := by
    have := Blk.new (w2.alloc (.cells #[.int .i64 x0, .int .i64 x1, .int .i64 x2, .int .i64 x3, .int .i64 x4, .int .i64 x5] 46)) [.int .i64 y0, .int .i64 y1] 44
    rw [hW3]; simpa [hU] using this
  have HB3 := hide (hB2'.trans (hB3.mono (by omega)))
  have F0 : ∀ q : Beyond W3, q.w.cell? ⟨S, 0, none⟩ = some (.int .i64 a) := fun q => q.cell (by show S < _; omega) (z0 0 _ rfl).1
  have F1 : ∀ q : Beyond W3, q.w.cell? ⟨S, 1, none⟩ = some (.int .i64 b) := fun q => q.cell (by show S < _; omega) (z0 1 _ rfl).1
  have F2 : ∀ q : Beyond W3, q.w.cell? ⟨S + 1, 0, none⟩ = some (.int .i64 c) := fun q => q.cell (by show S + 1 < _; omega) (z1 0 _ rfl).1
  have F3 : ∀ q : Beyond W3, q.w.cell? ⟨S + 1, 1, none⟩ = some (.int .i64 d) := fun q => q.cell (by show S + 1 < _; omega) (z1 1 _ rfl).1
  have F4 : ∀ q : Beyond W3, q.w.cell? ⟨T, 0, none⟩ = some (.int .i64 x0) := fun q => q.cell (by show T < _; omega) (z2 0 _ rfl).1
  have F5 : ∀ q : Beyond W3, q.w.cell? ⟨T, 1, none⟩ = some (.int .i64 x1) := fun q => q.cell (by show T < _; omega) (z2 1 _ rfl).1
  have F6 : ∀ q : Beyond W3, q.w.cell? ⟨T, 2, none⟩ = some (.int .i64 x2) := fun q => q.cell (by show T < _; omega) (z2 2 _ rfl).1
  have F7 : ∀ q : Beyond W3, q.w.cell? ⟨T, 3, none⟩ = some (.int .i64 x3) := fun q => q.cell (by show T < _; omega) (z2 3 _ rfl).1
  have F8 : ∀ q : Beyond W3, q.w.cell? ⟨T, 4, none⟩ = some (.int .i64 x4) := fun q => q.cell (by show T < _; omega) (z2 4 _ rfl).1
  have F9 : ∀ q : Beyond W3, q.w.cell? ⟨T, 5, none⟩ = some (.int .i64 x5) := fun q => q.cell (by show T < _; omega) (z2 5 _ rfl).1
  have F10 : ∀ q : Beyond W3, q.w.cell? ⟨T + 1, 0, none⟩ = some (.int .i64 y0) := fun q => q.cell (by show T + 1 < _; omega) (z3 0 _ rfl).1
  have F11 : ∀ q : Beyond W3, q.w.cell? ⟨T + 1, 1, none⟩ = some (.int .i64 y1) := fun q => q.cell (by show T + 1 < _; omega) (z3 1 _ rfl).1
  have F12 : ∀ q : Beyond W3, q.w.cell? ⟨U, 0, none⟩ = some (.int .i64 x0) := fun q => q.cell (by show U < _; omega) (z4 0 _ rfl).1
  have F13 : ∀ q : Beyond W3, q.w.cell? ⟨U, 1, none⟩ = some (.int .i64 x1) := fun q => q.cell (by show U < _; omega) (z4 1 _ rfl).1
  have F14 : ∀ q : Beyond W3, q.w.cell? ⟨U, 2, none⟩ = some (.int .i64 x2) := fun q => q.cell (by show U < _; omega) (z4 2 _ rfl).1
  have F15 : ∀ q : Beyond W3, q.w.cell? ⟨U, 3, none⟩ = some (.int .i64 x3) := fun q => q.cell (by show U < _; omega) (z4 3 _ rfl).1
  have F16 : ∀ q : Beyond W3, q.w.cell? ⟨U, 4, none⟩ = some (.int .i64 x4) := fun q => q.cell (by show U < _; omega) (z4 4 _ rfl).1
  have F17 : ∀ q : Beyond W3, q.w.cell? ⟨U, 5, none⟩ = some (.int .i64 x5) := fun q => q.cell (by show U < _; omega) (z4 5 _ rfl).1
  have F18 : ∀ q : Beyond W3, q.w.cell? ⟨U + 1, 0, none⟩ = some (.int .i64 y0) := fun q => q.cell (by show U + 1 < _; omega) (z5 0 _ rfl).1
  have F19 : ∀ q : Beyond W3, q.w.cell? ⟨U + 1, 1, none⟩ = some (.int .i64 y1) := fun q => q.cell (by show U + 1 < _; omega) (z5 1 _ rfl).1
  clear hW3 u0 u1 u2 u3 z0 z1 z2 z3 z4 z5 hB3 hB2' h1s h2s
  have E1 := eqRound v0 v1 v2 v3 v4 v5
  have E2 := eqPair v6 v7
  refine wp_region_beyond (by kernel_rfl) (by kernel_rfl) ?_
  repeat (first | go_big_quiet_step (first | (go_at_call 36; exact beyondCall (H3.out _)) | (go_at_call 37; exact beyondCall (H4.out _))) | quiet_step (first | (go_at_call 36; exact beyondCall (H3.out _)) | (go_at_call 37; exact beyondCall (H4.out _))))
  refine wpQuiet_nil ?_
  intro _ hw'
  obtain ⟨pq, hw''⟩ := hw'
  subst hw''
  go_wp2
  go_ret
  exact ⟨by first | rfl | simp, by rw [hS]; exact HB3.out.trans (pq.h.mono (by rw [← hS]; exact HB3.out.size))⟩

theorem tally_one {R Q : Nat} {pre : List Bool} {x : Bool} {p q r p' q' r' : Nat} (h : Tally R Q pre x p q r) (h' : Tally R Q pre x p' q' r') : p = p' ∧ q = q' ∧ r = r' := by
  unfold Tally at *; omega
theorem wf_le {x : Int} (h : (Lit.int .i64 x).wf = true) : x ≤ 9223372036854775807 := by
  simp only [Lit.wf, IntKind.min, IntKind.max, IntKind.signed, IntKind.bits, Bool.and_eq_true, decide_eq_true_eq, if_true] at h
  omega
theorem nat_wf (n : Nat) (h : n ≤ 1000000) : (Lit.int .i64 (n : Int)).wf = true := by
  simp only [Lit.wf, IntKind.min, IntKind.max, IntKind.signed, IntKind.bits, Bool.and_eq_true, decide_eq_true_eq, if_true]
  omega
theorem rightIs {p : Prop} [Decidable p] {P : Program} {f : FuncId} {args : Array Value} {w : World} {Q : World → Prop} (h : Calls P f args w fun e w' => IsB p e ∧ Q w') : Calls P f args w fun e w' => e = .returned (.bool (decide p)) ∧ Q w' := by
  by_cases hp : p
  · rw [decide_eq_true hp]; exact callT h hp
  · rw [decide_eq_false hp]; exact callF h hp
theorem pass_detF {R Q a b c d : Nat} {e : Ending} {p0 p1 q0 q1 r0 r1 : Nat} (h0 : Tally R Q (rowB a b c d) false p0 q0 r0) (h1 : Tally R Q (rowB a b c d) true p1 q1 r1) (h : PassEnds R Q a b c d e) :
    e = .returned (.tuple #[.agg #[.int .i64 c, .int .i64 d, .int .i64 p0, .int .i64 p1, .int .i64 r0, .int .i64 r1], .agg #[.int .i64 q0, .int .i64 q1], .int .i64 0]) := by
  obtain ⟨p0', p1', q0', q1', r0', r1', he, k0, k1⟩ := h
  obtain ⟨rfl, rfl, rfl⟩ := tally_one h0 k0
  obtain ⟨rfl, rfl, rfl⟩ := tally_one h1 k1
  exact he
theorem tally_ex (R Q : Nat) (pre : List Bool) (x : Bool) : ∃ p q r, Tally R Q pre x p q r := by
  have l1 : List.count x (List.take R pre) ≤ List.count x (List.take (R + Q) pre) := by
    have e : List.take R pre = List.take R (List.take (R + Q) pre) := by rw [List.take_take, Nat.min_eq_left (by omega)]
    rw [e]; exact (List.take_sublist _ _).count_le x
  have l2 : List.count x (List.take (R + Q) pre) ≤ List.count x pre := (List.take_sublist _ _).count_le x
  exact ⟨List.count x (List.take R pre), List.count x (List.take (R + Q) pre) - List.count x (List.take R pre), List.count x pre - List.count x (List.take (R + Q) pre), rfl, by omega, by omega⟩
/-- what Pass answers, of any arguments -/
def passV (R Q a b c d : Int) (v : Value) : Prop := ∃ x0 x1 x2 x3 x4 x5 y0 y1 n : Int, v = .tuple #[.agg #[.int .i64 x0, .int .i64 x1, .int .i64 x2, .int .i64 x3, .int .i64 x4, .int .i64 x5], .agg #[.int .i64 y0, .int .i64 y1], .int .i64 n] ∧ ∀ w : World,
  (Calls Try.prog 34 #[.int .i64 R, .int .i64 Q, .agg #[.int .i64 a, .int .i64 b], .agg #[.int .i64 c, .int .i64 d]] w fun e w' => e = .returned v ∧ Below w.heap.size w w') ∧ (Calls Try.prog 35 #[.int .i64 R, .int .i64 Q, .agg #[.int .i64 a, .int .i64 b], .agg #[.int .i64 c, .int .i64 d]] w fun e w' => e = .returned v ∧ Below w.heap.size w w')
theorem linkPassesW (R Q a b c d : Int) (w : World) (ha : a ≤ 9223372036854775807) (hb : b ≤ 9223372036854775807) :
    Calls Try.prog 7 #[.int .i64 R, .int .i64 Q, .agg #[.int .i64 a, .int .i64 b], .agg #[.int .i64 c, .int .i64 d]] w fun e w' => e = .returned (.bool true) ∧ Below w.heap.size w w' := by
  by_cases hok : LinkOk R Q a b c d
  · have hbd := hok
    unfold LinkOk at hbd
    obtain ⟨R, rfl⟩ : ∃ n : Nat, R = (n : Int) := ⟨R.toNat, by omega⟩
    obtain ⟨Q, rfl⟩ : ∃ n : Nat, Q = (n : Int) := ⟨Q.toNat, by omega⟩
    obtain ⟨a, rfl⟩ : ∃ n : Nat, a = (n : Int) := ⟨a.toNat, by omega⟩
    obtain ⟨b, rfl⟩ : ∃ n : Nat, b = (n : Int) := ⟨b.toNat, by omega⟩
    obtain ⟨c, rfl⟩ : ∃ n : Nat, c = (n : Int) := ⟨c.toNat, by omega⟩
    obtain ⟨d, rfl⟩ : ∃ n : Nat, d = (n : Int) := ⟨d.toNat, by omega⟩
    obtain ⟨p0, q0, r0, t0⟩ := tally_ex R Q (rowB a b c d) false
    obtain ⟨p1, q1, r1, t1⟩ := tally_ex R Q (rowB a b c d) true
    have s0 := tally_small t0
    have s1 := tally_small t1
    rw [row_len] at s0 s1
    exact lp_walk R Q a b c d c d p0 p1 r0 r1 q0 q1 0 true (nat_wf _ (by omega)) (nat_wf _ (by omega)) (nat_wf _ (by omega)) (nat_wf _ (by omega)) (nat_wf _ (by omega)) (nat_wf _ (by omega)) (nat_wf _ (by omega)) (nat_wf _ (by omega)) (fun w => (lpass_ok R Q a b c d w hok).mono fun e w' ⟨h, hB⟩ => ⟨pass_detF t0 t1 h, hB⟩) (fun w => (opass_ok R Q a b c d w hok).mono fun e w' ⟨h, hB⟩ => ⟨pass_detF t0 t1 h, hB⟩)
      (fun w => callT (lright_any R Q a b c d w (by omega) (by omega)) hok) (fun w => callT (oright_any R Q a b c d w) hok) w
  · exact lp_walk R Q a b c d 0 0 0 0 0 0 0 0 2 false rfl rfl rfl rfl rfl rfl rfl rfl (fun w => lpass_bad R Q a b c d w ha hb hok) (fun w => opass_bad R Q a b c d w hok)
      (fun w => callF (lright_any R Q a b c d w ha hb) hok) (fun w => callF (oright_any R Q a b c d w) hok) w

end Go.Proofs.Ytdlljemabbccjaa
