/-
  Lemmas and walks for the statement: LkPass.
-/
import Derived.Test.YtjjikhaaimfneaaGreatDoorU02
import Derived.RangeFuncFrom
import Derived.BigRegionIn
namespace Go.Proofs.YtjjikhaaimfneaaGreatDoor
open Go.RowKit Go.Shelf
set_option linter.unusedSimpArgs false
set_option linter.unusedVariables false
attribute [local go_sem] Oper.semAt_some iteMaxN iteMax
def Blk (W : World) (b : Nat) (vs : List Value) : Prop := ∀ j v, vs[j]? = some v → W.cell? ⟨b, j, none⟩ = some v ∧ W.frozen? ⟨b, j, none⟩ = false
theorem Blk.new (w : World) (vs : List Value) (t : TypeId) : Blk (w.alloc (.cells vs.toArray t)) w.heap.size vs := fun j v hj => by
 have key : ∀ (W : World) (b : Nat), W.heap[b]? = some (.cells vs.toArray t (0, 0)) → W.cell? ⟨b, j, none⟩ = some v ∧ W.frozen? ⟨b, j, none⟩ = false := fun W b h => ⟨by simp [World.cell?, h, hj], by simp [World.frozen?, h]⟩
 exact key _ _ (World.alloc_heap_new w (.cells vs.toArray t))
theorem Blk.lt {W : World} {b : Nat} {v : Value} {vs : List Value} (h : Blk W b (v :: vs)) : b < W.heap.size := World.block_lt_of_cell? W _ (h 0 v rfl).1
theorem Blk.below {B : Nat} {W W' : World} {b : Nat} {vs : List Value} (h : Blk W b vs) (hb : Below B W W') (hlt : b < B) : Blk W' b vs := fun j v hj =>
 ⟨(hb.cell (p := ⟨b, j, none⟩) hlt).trans (h j v hj).1, (hb.frozen (p := ⟨b, j, none⟩) hlt).trans (h j v hj).2⟩
theorem Blk.alloc {W : World} {b : Nat} {vs : List Value} (h : Blk W b vs) (o : Obj) : Blk (W.alloc o) b vs := fun j v hj =>
 have hb := (Below.refl W.heap.size W).alloc (Nat.le_refl _) o
 have hl := World.block_lt_of_cell? W _ (h j v hj).1
 ⟨(hb.cell (p := ⟨b, j, none⟩) hl).trans (h j v hj).1, (hb.frozen (p := ⟨b, j, none⟩) hl).trans (h j v hj).2⟩
theorem Blk.set {W : World} {b j : Nat} {vs : List Value} (h : Blk W b vs) (hj : j < vs.length) (x : Value) : Blk (W.setCell ⟨b, j, none⟩ x) b (vs.set j x) := fun i v hi => by
 rw [World.frozen?_setCell]
 by_cases hij : i = j
 · subst hij
   rw [List.getElem?_set_self hj] at hi
   injection hi with hi; subst hi
   exact ⟨World.cell?_setCell_same' _ _ _ (by rw [(h i _ (List.getElem?_eq_getElem hj)).1]; rfl), (h i _ (List.getElem?_eq_getElem hj)).2⟩
 · rw [List.getElem?_set_ne (Ne.symm hij)] at hi
   exact ⟨by rw [World.cell?_setCell_other _ _ _ _ (fun e => by injection e with _ e; omega)]; exact (h i v hi).1, (h i v hi).2⟩
theorem Blk.other {W : World} {b : Nat} {vs : List Value} (h : Blk W b vs) (p : Addr) (x : Value) (hp : p.block ≠ b) : Blk (W.setCell p x) b vs := fun i v hi => by
 rw [World.frozen?_setCell]
 exact ⟨by rw [World.cell?_setCell_other _ _ _ _ (fun e => by subst e; exact hp rfl)]; exact (h i v hi).1, (h i v hi).2⟩
theorem Blk.drew {W : World} {b : Nat} {vs : List Value} (h : Blk W b vs) : Blk W.drew b vs := h
theorem Blk.kept {W W' : World} {row : Option Nat} {b : Nat} {vs : List Value} (h : Blk W b vs) (hg : W.grownBy W' row) (hrow : ∀ r, row = some r → ∃ o : Obj, W.heap[r]? = some o ∧ o.isCells = false) : Blk W' b vs := fun i v hi =>
 ⟨cell_kept (h i v hi).1 hg hrow, (frozen_kept (h i v hi).1 hg hrow).trans (h i v hi).2⟩
def PassEnds (R Q a b c d : Nat) (e : Ending) : Prop := ∃ p0 p1 q0 q1 r0 r1 : Nat,
 e = .returned (.tuple #[.agg #[.int .i64 c, .int .i64 d, .int .i64 p0, .int .i64 p1, .int .i64 r0, .int .i64 r1], .agg #[.int .i64 q0, .int .i64 q1], .int .i64 0]) ∧
 Tally R Q (rowB a b c d) false p0 q0 r0 ∧ Tally R Q (rowB a b c d) true p1 q1 r1
def PassI (S T R Q c d : Nat) (pre : List Bool) (W : World) : Prop := ∃ p0 p1 q0 q1 r0 r1 : Nat, Hid (Tally R Q pre false p0 q0 r0 ∧ Tally R Q pre true p1 q1 r1) ∧
 Blk W S [.int .i64 R] ∧ Blk W (S + 1) [.int .i64 Q] ∧ Blk W (S + 1 + 1 + 1 + 1) [.int .i64 0, .int .i64 0, .int .i64 0, .int .i64 0, .int .i64 0, .int .i64 0] ∧ Blk W (S + 1 + 1 + 1 + 1 + 1) [.int .i64 0, .int .i64 0] ∧
 Blk W T [.int .i64 c, .int .i64 d, .int .i64 p0, .int .i64 p1, .int .i64 r0, .int .i64 r1] ∧ Blk W (T + 1) [.int .i64 q0, .int .i64 q1] ∧ Blk W (T + 1 + 1) [.int .i64 pre.length]
theorem passI_own (S T R Q c d : Nat) : Own (PassI S T R Q c d) := fun s A B row hs hg hr => by
 obtain ⟨p0, p1, q0, q1, r0, r1, hT, h0, h1, h2, h3, h4, h5, h6⟩ := hs
 exact ⟨p0, p1, q0, q1, r0, r1, hT, h0.kept hg hr, h1.kept hg hr, h2.kept hg hr, h3.kept hg hr, h4.kept hg hr, h5.kept hg hr, h6.kept hg hr⟩
set_option maxRecDepth 100000 in
set_option maxHeartbeats 4000000 in
theorem lpass_ok (R Q a b c d : Nat) (w : World) (hok : LinkOk R Q a b c d) :
 Calls Tryz.prog 90 #[.int .i64 R, .int .i64 Q, .agg #[.int .i64 a, .int .i64 b], .agg #[.int .i64 c, .int .i64 d]] w fun e w' => PassEnds R Q a b c d e ∧ Below w.heap.size w w' := by
 have hbd := hok
 unfold LinkOk at hbd
 have HOK := hide hok
 have ha : a ≤ 100 := by omega
 have hb : b ≤ 100 := by omega
 have hc : c ≤ 100 := by omega
 have hd : d ≤ 100 := by omega
 clear hok
 refine (callsIn_wide (n := 6)).1 ?_
 refine callsIn_of_wp_marks Tryz.func90 rfl trivial ?_ rfl
 simp only [Tryz.ntmps90, List.size_toArray, List.length_cons, List.length_nil, Nat.reduceAdd, Nat.reduceSub, Array.replicate_succ, Array.replicate_zero, List.push_toArray, List.append_toArray, List.nil_append, List.cons_append]
 obtain ⟨S, hS⟩ : ∃ S, w.heap.size = S := ⟨_, rfl⟩
 gi_wp2_with fail
 obtain ⟨W, hW⟩ : ∃ W, W = ((((((w.alloc (.cells #[.int .i64 R] 3)).alloc (.cells #[.int .i64 Q] 3)).alloc (.cells #[.int .i64 a, .int .i64 b] 47)).alloc (.cells #[.int .i64 c, .int .i64 d] 47)).alloc (.cells #[.int .i64 0, .int .i64 0, .int .i64 0, .int .i64 0, .int .i64 0, .int .i64 0] 92)).alloc (.cells #[.int .i64 0, .int .i64 0] 47)) := ⟨_, rfl⟩
 rw [← hW]
 have hWB : Below S w W := by rw [hW, ← hS]; exact ((((((Below.refl _ _).alloc (Nat.le_refl _) _).alloc (by simp) _).alloc (by simp; omega) _).alloc (by simp; omega) _).alloc (by simp; omega) _).alloc (by simp; omega) _
 have hWs : W.heap.size = S + 6 := by rw [hW, ← hS]; simp
 have b0 : Blk W S [.int .i64 R] := by rw [hW, ← hS]; exact (((((Blk.new w [_] _).alloc _).alloc _).alloc _).alloc _).alloc _
 have b1 : Blk W (S + 1) [.int .i64 Q] := by
  have := ((((Blk.new (w.alloc (.cells #[.int .i64 R] 3)) [.int .i64 Q] 3).alloc (.cells #[.int .i64 a, .int .i64 b] 47)).alloc (.cells #[.int .i64 c, .int .i64 d] 47)).alloc (.cells #[.int .i64 0, .int .i64 0, .int .i64 0, .int .i64 0, .int .i64 0, .int .i64 0] 92)).alloc (.cells #[.int .i64 0, .int .i64 0] 47)
  rw [hW]; simpa [hS] using this
 have b2 : Blk W (S + 1 + 1) [.int .i64 a, .int .i64 b] := by
  have := (((Blk.new ((w.alloc (.cells #[.int .i64 R] 3)).alloc (.cells #[.int .i64 Q] 3)) [.int .i64 a, .int .i64 b] 47).alloc (.cells #[.int .i64 c, .int .i64 d] 47)).alloc (.cells #[.int .i64 0, .int .i64 0, .int .i64 0, .int .i64 0, .int .i64 0, .int .i64 0] 92)).alloc (.cells #[.int .i64 0, .int .i64 0] 47)
  rw [hW]; simpa [hS] using this
 have b3 : Blk W (S + 1 + 1 + 1) [.int .i64 c, .int .i64 d] := by
  have := ((Blk.new (((w.alloc (.cells #[.int .i64 R] 3)).alloc (.cells #[.int .i64 Q] 3)).alloc (.cells #[.int .i64 a, .int .i64 b] 47)) [.int .i64 c, .int .i64 d] 47).alloc (.cells #[.int .i64 0, .int .i64 0, .int .i64 0, .int .i64 0, .int .i64 0, .int .i64 0] 92)).alloc (.cells #[.int .i64 0, .int .i64 0] 47)
  rw [hW]; simpa [hS] using this
 have b4 : Blk W (S + 1 + 1 + 1 + 1) [.int .i64 0, .int .i64 0, .int .i64 0, .int .i64 0, .int .i64 0, .int .i64 0] := by
  have := (Blk.new ((((w.alloc (.cells #[.int .i64 R] 3)).alloc (.cells #[.int .i64 Q] 3)).alloc (.cells #[.int .i64 a, .int .i64 b] 47)).alloc (.cells #[.int .i64 c, .int .i64 d] 47)) [.int .i64 0, .int .i64 0, .int .i64 0, .int .i64 0, .int .i64 0, .int .i64 0] 92).alloc (.cells #[.int .i64 0, .int .i64 0] 47)
  rw [hW]; simpa [hS] using this
 have b5 : Blk W (S + 1 + 1 + 1 + 1 + 1) [.int .i64 0, .int .i64 0] := by
  have := Blk.new (((((w.alloc (.cells #[.int .i64 R] 3)).alloc (.cells #[.int .i64 Q] 3)).alloc (.cells #[.int .i64 a, .int .i64 b] 47)).alloc (.cells #[.int .i64 c, .int .i64 d] 47)).alloc (.cells #[.int .i64 0, .int .i64 0, .int .i64 0, .int .i64 0, .int .i64 0, .int .i64 0] 92)) [.int .i64 0, .int .i64 0] 47
  rw [hW]; simpa [hS] using this
 clear hW
 refine ⟨trivial, (callsIn_wide.2 (callT (lright_any R Q a b c d W (by omega) (by omega)) HOK.out)).mono ?_⟩
 rintro e w1 ⟨rfl, hB1⟩
 have h1s := hB1.size
 have HB1 := hide (hWB.trans (hB1.mono (by omega)))
 have B0 := hide (b0.below hB1 (by omega)); have B1 := hide (b1.below hB1 (by omega)); have B2 := hide (b2.below hB1 (by omega)); have B3 := hide (b3.below hB1 (by omega)); have B4 := hide (b4.below hB1 (by omega)); have B5 := hide (b5.below hB1 (by omega))
 clear b0 b1 b2 b3 b4 b5 hB1 hWB
 have c20 := (B2.out 0 _ rfl).1
 have c21 := (B2.out 1 _ rfl).1
 have c30 := (B3.out 0 _ rfl).1
 have c31 := (B3.out 1 _ rfl).1
 obtain ⟨T, hT⟩ : ∃ T, w1.heap.size = T := ⟨_, rfl⟩
 rw [hT] at h1s
 obtain ⟨X, hX⟩ : ∃ X, X = ((w1.alloc (.cells #[.int .i64 c, .int .i64 d, .int .i64 0, .int .i64 0, .int .i64 0, .int .i64 0] 92)).alloc (.cells #[.int .i64 0, .int .i64 0] 47)).alloc (.cells #[.int .i64 0] 3) := ⟨_, rfl⟩
 have hBX : Below T w1 X := by rw [hX, ← hT]; exact (((Below.refl _ _).alloc (Nat.le_refl _) _).alloc (by simp) _).alloc (by simp; omega) _
 have d20 := (hBX.cell (p := ⟨S + 1 + 1, 0, none⟩) (by show S + 1 + 1 < T; omega)).trans c20
 have d21 := (hBX.cell (p := ⟨S + 1 + 1, 1, none⟩) (by show S + 1 + 1 < T; omega)).trans c21
 have d30 := (hBX.cell (p := ⟨S + 1 + 1 + 1, 0, none⟩) (by show S + 1 + 1 + 1 < T; omega)).trans c30
 have d31 := (hBX.cell (p := ⟨S + 1 + 1 + 1, 1, none⟩) (by show S + 1 + 1 + 1 < T; omega)).trans c31
 have HX := hide hX
 rw [hX] at d20 d21 d30 d31
 clear hX
 gi_wp2_with fail
 rw [← HX.out]
 have hXs : X.heap.size = T + 1 + 1 + 1 := by rw [HX.out, ← hT]; simp
 refine ⟨trivial, (line_in Fence.wide _ trivial rfl a b c d X).mono ?_⟩
 rintro e w2 ⟨rfl, rfl⟩
 rw [hXs]
 obtain ⟨Y, hY⟩ : ∃ Y, Y = (X.alloc (.cells #[.int .i64 a, .int .i64 b] 47)).alloc (.cells #[.int .i64 c, .int .i64 d] 47) := ⟨_, rfl⟩
 have hBY : Below (T + 1 + 1 + 1) X Y := by rw [hY, ← hXs]; exact ((Below.refl _ _).alloc (Nat.le_refl _) _).alloc (by simp) _
 have hYs : Y.heap.size = T + 1 + 1 + 1 + 1 + 1 := by rw [hY]; simp [hXs]
 have y0 := B0.out.below (hBX.trans (hBY.mono (by omega))) (show S < T by omega)
 have y1 := B1.out.below (hBX.trans (hBY.mono (by omega))) (show S + 1 < T by omega)
 have y2 := B2.out.below (hBX.trans (hBY.mono (by omega))) (show S + 1 + 1 < T by omega)
 have y3 := B3.out.below (hBX.trans (hBY.mono (by omega))) (show S + 1 + 1 + 1 < T by omega)
 have y4 := B4.out.below (hBX.trans (hBY.mono (by omega))) (show S + 1 + 1 + 1 + 1 < T by omega)
 have y5 := B5.out.below (hBX.trans (hBY.mono (by omega))) (show S + 1 + 1 + 1 + 1 + 1 < T by omega)
 have y6 : Blk Y T [.int .i64 c, .int .i64 d, .int .i64 0, .int .i64 0, .int .i64 0, .int .i64 0] := by
  have := ((((Blk.new w1 [.int .i64 c, .int .i64 d, .int .i64 0, .int .i64 0, .int .i64 0, .int .i64 0] 92).alloc (.cells #[.int .i64 0, .int .i64 0] 47)).alloc (.cells #[.int .i64 0] 3)).alloc (.cells #[.int .i64 a, .int .i64 b] 47)).alloc (.cells #[.int .i64 c, .int .i64 d] 47)
  rw [hY, HX.out]; simpa [hT] using this
 have y7 : Blk Y (T + 1) [.int .i64 0, .int .i64 0] := by
  have := (((Blk.new (w1.alloc (.cells #[.int .i64 c, .int .i64 d, .int .i64 0, .int .i64 0, .int .i64 0, .int .i64 0] 92)) [.int .i64 0, .int .i64 0] 47).alloc (.cells #[.int .i64 0] 3)).alloc (.cells #[.int .i64 a, .int .i64 b] 47)).alloc (.cells #[.int .i64 c, .int .i64 d] 47)
  rw [hY, HX.out]; simpa [hT] using this
 have y8 : Blk Y (T + 1 + 1) [.int .i64 0] := by
  have := ((Blk.new ((w1.alloc (.cells #[.int .i64 c, .int .i64 d, .int .i64 0, .int .i64 0, .int .i64 0, .int .i64 0] 92)).alloc (.cells #[.int .i64 0, .int .i64 0] 47)) [.int .i64 0] 3).alloc (.cells #[.int .i64 a, .int .i64 b] 47)).alloc (.cells #[.int .i64 c, .int .i64 d] 47)
  rw [hY, HX.out]; simpa [hT] using this
 have y9 : Blk Y (T + 1 + 1 + 1) [.int .i64 a, .int .i64 b] := by
  have := (Blk.new X [.int .i64 a, .int .i64 b] 47).alloc (.cells #[.int .i64 c, .int .i64 d] 47)
  rw [hY]; simpa [hXs] using this
 have y10 : Blk Y (T + 1 + 1 + 1 + 1) [.int .i64 c, .int .i64 d] := by
  have := Blk.new (X.alloc (.cells #[.int .i64 a, .int .i64 b] 47)) [.int .i64 c, .int .i64 d] 47
  rw [hY]; simpa [hXs] using this
 have HBY : Hid (Below S w Y) := hide (HB1.out.trans ((hBX.trans (hBY.mono (by omega))).mono (by omega)))
 rw [← hY]
 clear hY hBY hBX d20 d21 d30 d31 c20 c21 c30 c31
 gi_wp2_with fail
 refine wpIn_rangeFunc_ownF (F := Fence.wide) rfl (by omega) (gf := 144) (lb := #[.pointer (some ⟨T + 1 + 1 + 1, 0, none⟩), .pointer (some ⟨T + 1 + 1 + 1 + 1, 0, none⟩)]) rfl trivial (enters_of Tryz.func144 (by kernel_rfl) rfl)
  (line_stops Fence.wide _ trivial rfl (by omega) (T + 1 + 1 + 1) (T + 1 + 1 + 1 + 1) a b c d ha hb hc hd Y (by omega) (by omega) (y9 0 _ rfl).1 (y9 1 _ rfl).1 (y10 0 _ rfl).1 (y10 1 _ rfl).1) (fun h k => h.trans k) (fun W l o o' => kpC_b (w := Y) W l o o') (Below.refl _ _) (fun _ => rfl)
  (fun pre W => PassI S T R Q c d pre W ∧ Below S w W)
  (fun _ _ _ => False)
  (OwnFrom.and (Own.from (passI_own S T R Q c d) _) (ownFrom_below (by omega) (by omega)))
  (fun _ _ _ _ _ hs _ _ => hs)
  ⟨⟨0, 0, 0, 0, 0, 0, hide ⟨tally_nil _ _ _, tally_nil _ _ _⟩, y0, y1, y4, y5, y6, y7, y8⟩, HBY.out⟩
  ?a1 ?assign ?body ?done ?stop
 case assign =>
  intro l x W K hK
  gi_wp2
  exact hK
 case body =>
  rintro l pre x W ⟨hI, hB⟩ hlen
  obtain ⟨p0, p1, q0, q1, r0, r1, HT, b0, b1, b4, b5, b6, b7, b8⟩ := hI
  have s0 := tally_small HT.out.1
  have s1 := tally_small HT.out.2
  obtain ⟨L, hL⟩ : ∃ L, pre.length = L := ⟨_, rfl⟩
  rw [hL] at b8
  have HL := hide hL
  rw [hL] at s0 s1 hlen
  have hTS : S + 6 ≤ T := by omega
  have e0 := (b0 0 _ rfl).1
  have e1 := (b1 0 _ rfl).1
  have e8 := (b8 0 _ rfl).1
  have f8 := (b8 0 _ rfl).2
  have g0 := (b6 2 _ rfl).1
  have g1 := (b6 3 _ rfl).1
  have g2 := (b6 4 _ rfl).1
  have g3 := (b6 5 _ rfl).1
  have u0 := (b6 2 _ rfl).2
  have u1 := (b6 3 _ rfl).2
  have u2 := (b6 4 _ rfl).2
  have u3 := (b6 5 _ rfl).2
  have g4 := (b7 0 _ rfl).1
  have g5 := (b7 1 _ rfl).1
  have u4 := (b7 0 _ rfl).2
  have u5 := (b7 1 _ rfl).2
  have p0' : (0 : Int) ≤ (p0 : Int) ∧ (p0 : Int) ≤ 100 := by omega
  have p1' : (0 : Int) ≤ (p1 : Int) ∧ (p1 : Int) ≤ 100 := by omega
  have q0' : (0 : Int) ≤ (q0 : Int) ∧ (q0 : Int) ≤ 100 := by omega
  have q1' : (0 : Int) ≤ (q1 : Int) ∧ (q1 : Int) ≤ 100 := by omega
  have r0' : (0 : Int) ≤ (r0 : Int) ∧ (r0 : Int) ≤ 100 := by omega
  have r1' : (0 : Int) ≤ (r1 : Int) ∧ (r1 : Int) ≤ 100 := by omega
  have L' : (0 : Int) ≤ (L : Int) ∧ (L : Int) ≤ 100 := by omega
  have HB := hide hB
  have H0 := hide b0; have H1 := hide b1; have H4 := hide b4; have H5 := hide b5; have H6 := hide b6; have H7 := hide b7; have H8 := hide b8
  have hR2 : (R : Int) ≤ 12 := by omega
  have hQ2 : (Q : Int) ≤ 16 := by omega
  clear b0 b1 b4 b5 b6 b7 b8 hB y0 y1 y2 y3 y4 y5 y6 y7 y8 y9 y10 hbd hL
  cases x
  · simp only [bi_f, bi_t]
    rcases (show L < R ∨ (R ≤ L ∧ L < R + Q) ∨ R + Q ≤ L by omega) with hw | hw | hw
    · have hw1 : (L : Int) < (R : Int) := by omega
      gi_wp2
      exact ⟨(KeepsOthers.setCell _ _ _).trans (KeepsOthers.setCell _ _ _), ((KpC.refl _ _ W).set ⟨T, 2, none⟩ (.int .i64 ((p0 + 1 : Nat) : Int)) (by simp only; omega) (by simp only; omega)).set ⟨T + 1 + 1, 0, none⟩ (.int .i64 ((L + 1 : Nat) : Int)) (by simp only; omega) (by simp only; omega), ⟨(p0 + 1), p1, q0, q1, r0, r1, hide ⟨tally_came HT.out.1 (by rw [HL.out]; exact hw), tally_other HT.out.2 (by simp)⟩, ((H0.out.other ⟨T, 2, none⟩ (.int .i64 ((p0 + 1 : Nat) : Int)) (by simp only; omega)).other ⟨T + 1 + 1, 0, none⟩ (.int .i64 ((L + 1 : Nat) : Int)) (by simp only; omega)), ((H1.out.other ⟨T, 2, none⟩ (.int .i64 ((p0 + 1 : Nat) : Int)) (by simp only; omega)).other ⟨T + 1 + 1, 0, none⟩ (.int .i64 ((L + 1 : Nat) : Int)) (by simp only; omega)), ((H4.out.other ⟨T, 2, none⟩ (.int .i64 ((p0 + 1 : Nat) : Int)) (by simp only; omega)).other ⟨T + 1 + 1, 0, none⟩ (.int .i64 ((L + 1 : Nat) : Int)) (by simp only; omega)), ((H5.out.other ⟨T, 2, none⟩ (.int .i64 ((p0 + 1 : Nat) : Int)) (by simp only; omega)).other ⟨T + 1 + 1, 0, none⟩ (.int .i64 ((L + 1 : Nat) : Int)) (by simp only; omega)), ((H6.out.set (j := 2) (by simp) (.int .i64 ((p0 + 1 : Nat) : Int))).other ⟨T + 1 + 1, 0, none⟩ (.int .i64 ((L + 1 : Nat) : Int)) (by simp only; omega)), ((H7.out.other ⟨T, 2, none⟩ (.int .i64 ((p0 + 1 : Nat) : Int)) (by simp only; omega)).other ⟨T + 1 + 1, 0, none⟩ (.int .i64 ((L + 1 : Nat) : Int)) (by simp only; omega)), (by have := ((H8.out.other ⟨T, 2, none⟩ (.int .i64 ((p0 + 1 : Nat) : Int)) (by simp only; omega)).set (j := 0) (by simp) (.int .i64 ((L + 1 : Nat) : Int))); rw [show (pre ++ [false]).length = L + 1 by simp [HL.out]]; exact this)⟩, (HB.out.setCell (p := ⟨T, 2, none⟩) (by simp only; omega) (.int .i64 ((p0 + 1 : Nat) : Int))).setCell (p := ⟨T + 1 + 1, 0, none⟩) (by simp only; omega) (.int .i64 ((L + 1 : Nat) : Int))⟩
    · have hw1 : ¬ (L : Int) < (R : Int) := by omega
      have hw2 : (L : Int) < (R : Int) + (Q : Int) := by omega
      gi_wp2
      exact ⟨(KeepsOthers.setCell _ _ _).trans (KeepsOthers.setCell _ _ _), ((KpC.refl _ _ W).set ⟨T + 1, 0, none⟩ (.int .i64 ((q0 + 1 : Nat) : Int)) (by simp only; omega) (by simp only; omega)).set ⟨T + 1 + 1, 0, none⟩ (.int .i64 ((L + 1 : Nat) : Int)) (by simp only; omega) (by simp only; omega), ⟨p0, p1, (q0 + 1), q1, r0, r1, hide ⟨tally_left HT.out.1 (by rw [HL.out]; exact hw.1) (by rw [HL.out]; exact hw.2), tally_other HT.out.2 (by simp)⟩, ((H0.out.other ⟨T + 1, 0, none⟩ (.int .i64 ((q0 + 1 : Nat) : Int)) (by simp only; omega)).other ⟨T + 1 + 1, 0, none⟩ (.int .i64 ((L + 1 : Nat) : Int)) (by simp only; omega)), ((H1.out.other ⟨T + 1, 0, none⟩ (.int .i64 ((q0 + 1 : Nat) : Int)) (by simp only; omega)).other ⟨T + 1 + 1, 0, none⟩ (.int .i64 ((L + 1 : Nat) : Int)) (by simp only; omega)), ((H4.out.other ⟨T + 1, 0, none⟩ (.int .i64 ((q0 + 1 : Nat) : Int)) (by simp only; omega)).other ⟨T + 1 + 1, 0, none⟩ (.int .i64 ((L + 1 : Nat) : Int)) (by simp only; omega)), ((H5.out.other ⟨T + 1, 0, none⟩ (.int .i64 ((q0 + 1 : Nat) : Int)) (by simp only; omega)).other ⟨T + 1 + 1, 0, none⟩ (.int .i64 ((L + 1 : Nat) : Int)) (by simp only; omega)), ((H6.out.other ⟨T + 1, 0, none⟩ (.int .i64 ((q0 + 1 : Nat) : Int)) (by simp only; omega)).other ⟨T + 1 + 1, 0, none⟩ (.int .i64 ((L + 1 : Nat) : Int)) (by simp only; omega)), ((H7.out.set (j := 0) (by simp) (.int .i64 ((q0 + 1 : Nat) : Int))).other ⟨T + 1 + 1, 0, none⟩ (.int .i64 ((L + 1 : Nat) : Int)) (by simp only; omega)), (by have := ((H8.out.other ⟨T + 1, 0, none⟩ (.int .i64 ((q0 + 1 : Nat) : Int)) (by simp only; omega)).set (j := 0) (by simp) (.int .i64 ((L + 1 : Nat) : Int))); rw [show (pre ++ [false]).length = L + 1 by simp [HL.out]]; exact this)⟩, (HB.out.setCell (p := ⟨T + 1, 0, none⟩) (by simp only; omega) (.int .i64 ((q0 + 1 : Nat) : Int))).setCell (p := ⟨T + 1 + 1, 0, none⟩) (by simp only; omega) (.int .i64 ((L + 1 : Nat) : Int))⟩
    · have hw1 : ¬ (L : Int) < (R : Int) := by omega
      have hw2 : ¬ (L : Int) < (R : Int) + (Q : Int) := by omega
      gi_wp2
      exact ⟨(KeepsOthers.setCell _ _ _).trans (KeepsOthers.setCell _ _ _), ((KpC.refl _ _ W).set ⟨T, 4, none⟩ (.int .i64 ((r0 + 1 : Nat) : Int)) (by simp only; omega) (by simp only; omega)).set ⟨T + 1 + 1, 0, none⟩ (.int .i64 ((L + 1 : Nat) : Int)) (by simp only; omega) (by simp only; omega), ⟨p0, p1, q0, q1, (r0 + 1), r1, hide ⟨tally_lost HT.out.1 (by rw [HL.out]; exact hw), tally_other HT.out.2 (by simp)⟩, ((H0.out.other ⟨T, 4, none⟩ (.int .i64 ((r0 + 1 : Nat) : Int)) (by simp only; omega)).other ⟨T + 1 + 1, 0, none⟩ (.int .i64 ((L + 1 : Nat) : Int)) (by simp only; omega)), ((H1.out.other ⟨T, 4, none⟩ (.int .i64 ((r0 + 1 : Nat) : Int)) (by simp only; omega)).other ⟨T + 1 + 1, 0, none⟩ (.int .i64 ((L + 1 : Nat) : Int)) (by simp only; omega)), ((H4.out.other ⟨T, 4, none⟩ (.int .i64 ((r0 + 1 : Nat) : Int)) (by simp only; omega)).other ⟨T + 1 + 1, 0, none⟩ (.int .i64 ((L + 1 : Nat) : Int)) (by simp only; omega)), ((H5.out.other ⟨T, 4, none⟩ (.int .i64 ((r0 + 1 : Nat) : Int)) (by simp only; omega)).other ⟨T + 1 + 1, 0, none⟩ (.int .i64 ((L + 1 : Nat) : Int)) (by simp only; omega)), ((H6.out.set (j := 4) (by simp) (.int .i64 ((r0 + 1 : Nat) : Int))).other ⟨T + 1 + 1, 0, none⟩ (.int .i64 ((L + 1 : Nat) : Int)) (by simp only; omega)), ((H7.out.other ⟨T, 4, none⟩ (.int .i64 ((r0 + 1 : Nat) : Int)) (by simp only; omega)).other ⟨T + 1 + 1, 0, none⟩ (.int .i64 ((L + 1 : Nat) : Int)) (by simp only; omega)), (by have := ((H8.out.other ⟨T, 4, none⟩ (.int .i64 ((r0 + 1 : Nat) : Int)) (by simp only; omega)).set (j := 0) (by simp) (.int .i64 ((L + 1 : Nat) : Int))); rw [show (pre ++ [false]).length = L + 1 by simp [HL.out]]; exact this)⟩, (HB.out.setCell (p := ⟨T, 4, none⟩) (by simp only; omega) (.int .i64 ((r0 + 1 : Nat) : Int))).setCell (p := ⟨T + 1 + 1, 0, none⟩) (by simp only; omega) (.int .i64 ((L + 1 : Nat) : Int))⟩
  · simp only [bi_f, bi_t]
    rcases (show L < R ∨ (R ≤ L ∧ L < R + Q) ∨ R + Q ≤ L by omega) with hw | hw | hw
    · have hw1 : (L : Int) < (R : Int) := by omega
      gi_wp2
      exact ⟨(KeepsOthers.setCell _ _ _).trans (KeepsOthers.setCell _ _ _), ((KpC.refl _ _ W).set ⟨T, 3, none⟩ (.int .i64 ((p1 + 1 : Nat) : Int)) (by simp only; omega) (by simp only; omega)).set ⟨T + 1 + 1, 0, none⟩ (.int .i64 ((L + 1 : Nat) : Int)) (by simp only; omega) (by simp only; omega), ⟨p0, (p1 + 1), q0, q1, r0, r1, hide ⟨tally_other HT.out.1 (by simp), tally_came HT.out.2 (by rw [HL.out]; exact hw)⟩, ((H0.out.other ⟨T, 3, none⟩ (.int .i64 ((p1 + 1 : Nat) : Int)) (by simp only; omega)).other ⟨T + 1 + 1, 0, none⟩ (.int .i64 ((L + 1 : Nat) : Int)) (by simp only; omega)), ((H1.out.other ⟨T, 3, none⟩ (.int .i64 ((p1 + 1 : Nat) : Int)) (by simp only; omega)).other ⟨T + 1 + 1, 0, none⟩ (.int .i64 ((L + 1 : Nat) : Int)) (by simp only; omega)), ((H4.out.other ⟨T, 3, none⟩ (.int .i64 ((p1 + 1 : Nat) : Int)) (by simp only; omega)).other ⟨T + 1 + 1, 0, none⟩ (.int .i64 ((L + 1 : Nat) : Int)) (by simp only; omega)), ((H5.out.other ⟨T, 3, none⟩ (.int .i64 ((p1 + 1 : Nat) : Int)) (by simp only; omega)).other ⟨T + 1 + 1, 0, none⟩ (.int .i64 ((L + 1 : Nat) : Int)) (by simp only; omega)), ((H6.out.set (j := 3) (by simp) (.int .i64 ((p1 + 1 : Nat) : Int))).other ⟨T + 1 + 1, 0, none⟩ (.int .i64 ((L + 1 : Nat) : Int)) (by simp only; omega)), ((H7.out.other ⟨T, 3, none⟩ (.int .i64 ((p1 + 1 : Nat) : Int)) (by simp only; omega)).other ⟨T + 1 + 1, 0, none⟩ (.int .i64 ((L + 1 : Nat) : Int)) (by simp only; omega)), (by have := ((H8.out.other ⟨T, 3, none⟩ (.int .i64 ((p1 + 1 : Nat) : Int)) (by simp only; omega)).set (j := 0) (by simp) (.int .i64 ((L + 1 : Nat) : Int))); rw [show (pre ++ [true]).length = L + 1 by simp [HL.out]]; exact this)⟩, (HB.out.setCell (p := ⟨T, 3, none⟩) (by simp only; omega) (.int .i64 ((p1 + 1 : Nat) : Int))).setCell (p := ⟨T + 1 + 1, 0, none⟩) (by simp only; omega) (.int .i64 ((L + 1 : Nat) : Int))⟩
    · have hw1 : ¬ (L : Int) < (R : Int) := by omega
      have hw2 : (L : Int) < (R : Int) + (Q : Int) := by omega
      gi_wp2
      exact ⟨(KeepsOthers.setCell _ _ _).trans (KeepsOthers.setCell _ _ _), ((KpC.refl _ _ W).set ⟨T + 1, 1, none⟩ (.int .i64 ((q1 + 1 : Nat) : Int)) (by simp only; omega) (by simp only; omega)).set ⟨T + 1 + 1, 0, none⟩ (.int .i64 ((L + 1 : Nat) : Int)) (by simp only; omega) (by simp only; omega), ⟨p0, p1, q0, (q1 + 1), r0, r1, hide ⟨tally_other HT.out.1 (by simp), tally_left HT.out.2 (by rw [HL.out]; exact hw.1) (by rw [HL.out]; exact hw.2)⟩, ((H0.out.other ⟨T + 1, 1, none⟩ (.int .i64 ((q1 + 1 : Nat) : Int)) (by simp only; omega)).other ⟨T + 1 + 1, 0, none⟩ (.int .i64 ((L + 1 : Nat) : Int)) (by simp only; omega)), ((H1.out.other ⟨T + 1, 1, none⟩ (.int .i64 ((q1 + 1 : Nat) : Int)) (by simp only; omega)).other ⟨T + 1 + 1, 0, none⟩ (.int .i64 ((L + 1 : Nat) : Int)) (by simp only; omega)), ((H4.out.other ⟨T + 1, 1, none⟩ (.int .i64 ((q1 + 1 : Nat) : Int)) (by simp only; omega)).other ⟨T + 1 + 1, 0, none⟩ (.int .i64 ((L + 1 : Nat) : Int)) (by simp only; omega)), ((H5.out.other ⟨T + 1, 1, none⟩ (.int .i64 ((q1 + 1 : Nat) : Int)) (by simp only; omega)).other ⟨T + 1 + 1, 0, none⟩ (.int .i64 ((L + 1 : Nat) : Int)) (by simp only; omega)), ((H6.out.other ⟨T + 1, 1, none⟩ (.int .i64 ((q1 + 1 : Nat) : Int)) (by simp only; omega)).other ⟨T + 1 + 1, 0, none⟩ (.int .i64 ((L + 1 : Nat) : Int)) (by simp only; omega)), ((H7.out.set (j := 1) (by simp) (.int .i64 ((q1 + 1 : Nat) : Int))).other ⟨T + 1 + 1, 0, none⟩ (.int .i64 ((L + 1 : Nat) : Int)) (by simp only; omega)), (by have := ((H8.out.other ⟨T + 1, 1, none⟩ (.int .i64 ((q1 + 1 : Nat) : Int)) (by simp only; omega)).set (j := 0) (by simp) (.int .i64 ((L + 1 : Nat) : Int))); rw [show (pre ++ [true]).length = L + 1 by simp [HL.out]]; exact this)⟩, (HB.out.setCell (p := ⟨T + 1, 1, none⟩) (by simp only; omega) (.int .i64 ((q1 + 1 : Nat) : Int))).setCell (p := ⟨T + 1 + 1, 0, none⟩) (by simp only; omega) (.int .i64 ((L + 1 : Nat) : Int))⟩
    · have hw1 : ¬ (L : Int) < (R : Int) := by omega
      have hw2 : ¬ (L : Int) < (R : Int) + (Q : Int) := by omega
      gi_wp2
      exact ⟨(KeepsOthers.setCell _ _ _).trans (KeepsOthers.setCell _ _ _), ((KpC.refl _ _ W).set ⟨T, 5, none⟩ (.int .i64 ((r1 + 1 : Nat) : Int)) (by simp only; omega) (by simp only; omega)).set ⟨T + 1 + 1, 0, none⟩ (.int .i64 ((L + 1 : Nat) : Int)) (by simp only; omega) (by simp only; omega), ⟨p0, p1, q0, q1, r0, (r1 + 1), hide ⟨tally_other HT.out.1 (by simp), tally_lost HT.out.2 (by rw [HL.out]; exact hw)⟩, ((H0.out.other ⟨T, 5, none⟩ (.int .i64 ((r1 + 1 : Nat) : Int)) (by simp only; omega)).other ⟨T + 1 + 1, 0, none⟩ (.int .i64 ((L + 1 : Nat) : Int)) (by simp only; omega)), ((H1.out.other ⟨T, 5, none⟩ (.int .i64 ((r1 + 1 : Nat) : Int)) (by simp only; omega)).other ⟨T + 1 + 1, 0, none⟩ (.int .i64 ((L + 1 : Nat) : Int)) (by simp only; omega)), ((H4.out.other ⟨T, 5, none⟩ (.int .i64 ((r1 + 1 : Nat) : Int)) (by simp only; omega)).other ⟨T + 1 + 1, 0, none⟩ (.int .i64 ((L + 1 : Nat) : Int)) (by simp only; omega)), ((H5.out.other ⟨T, 5, none⟩ (.int .i64 ((r1 + 1 : Nat) : Int)) (by simp only; omega)).other ⟨T + 1 + 1, 0, none⟩ (.int .i64 ((L + 1 : Nat) : Int)) (by simp only; omega)), ((H6.out.set (j := 5) (by simp) (.int .i64 ((r1 + 1 : Nat) : Int))).other ⟨T + 1 + 1, 0, none⟩ (.int .i64 ((L + 1 : Nat) : Int)) (by simp only; omega)), ((H7.out.other ⟨T, 5, none⟩ (.int .i64 ((r1 + 1 : Nat) : Int)) (by simp only; omega)).other ⟨T + 1 + 1, 0, none⟩ (.int .i64 ((L + 1 : Nat) : Int)) (by simp only; omega)), (by have := ((H8.out.other ⟨T, 5, none⟩ (.int .i64 ((r1 + 1 : Nat) : Int)) (by simp only; omega)).set (j := 0) (by simp) (.int .i64 ((L + 1 : Nat) : Int))); rw [show (pre ++ [true]).length = L + 1 by simp [HL.out]]; exact this)⟩, (HB.out.setCell (p := ⟨T, 5, none⟩) (by simp only; omega) (.int .i64 ((r1 + 1 : Nat) : Int))).setCell (p := ⟨T + 1 + 1, 0, none⟩) (by simp only; omega) (.int .i64 ((L + 1 : Nat) : Int))⟩
 case done =>
  rintro D ys W hD rfl ⟨hI, hB⟩ hK
  obtain ⟨p0, p1, q0, q1, r0, r1, HT, b0, b1, b4, b5, b6, b7, b8⟩ := hI
  have e0 := (b6 0 _ rfl).1
  have e1 := (b6 1 _ rfl).1
  have e2 := (b6 2 _ rfl).1
  have e3 := (b6 3 _ rfl).1
  have e4 := (b6 4 _ rfl).1
  have e5 := (b6 5 _ rfl).1
  have f0 := (b7 0 _ rfl).1
  have f1 := (b7 1 _ rfl).1
  have g0 := (b4 0 _ rfl).2
  have g1 := (b4 1 _ rfl).2
  have g2 := (b4 2 _ rfl).2
  have g3 := (b4 3 _ rfl).2
  have g4 := (b4 4 _ rfl).2
  have g5 := (b4 5 _ rfl).2
  have j0 := (b5 0 _ rfl).2
  have j1 := (b5 1 _ rfl).2
  have l0 := (b4 0 _ rfl).1
  have l1 := (b4 1 _ rfl).1
  have l2 := (b4 2 _ rfl).1
  have l3 := (b4 3 _ rfl).1
  have l4 := (b4 4 _ rfl).1
  have l5 := (b4 5 _ rfl).1
  have m0 := (b5 0 _ rfl).1
  have m1 := (b5 1 _ rfl).1
  have H4 := hide b4; have H5 := hide b5; have H6 := hide b6; have H7 := hide b7
  have HB := hide hB
  have HK := hide hK
  have hTS : S + 6 ≤ T := by omega
  clear b0 b1 b4 b5 b6 b7 b8 hB hK y0 y1 y2 y3 y4 y5 y6 y7 y8 y9 y10 hbd
  gi_wp2
  gi_region
  gi_wp2
  obtain ⟨Z, hZ⟩ : ∃ Z, Z = ((((((((W.setCell ⟨S + 1 + 1 + 1 + 1, 0, none⟩ (.int .i64 c)).setCell ⟨S + 1 + 1 + 1 + 1, 1, none⟩ (.int .i64 d)).setCell ⟨S + 1 + 1 + 1 + 1, 2, none⟩ (.int .i64 p0)).setCell ⟨S + 1 + 1 + 1 + 1, 3, none⟩ (.int .i64 p1)).setCell ⟨S + 1 + 1 + 1 + 1, 4, none⟩ (.int .i64 r0)).setCell ⟨S + 1 + 1 + 1 + 1, 5, none⟩ (.int .i64 r1)).setCell ⟨S + 1 + 1 + 1 + 1 + 1, 0, none⟩ (.int .i64 q0)).setCell ⟨S + 1 + 1 + 1 + 1 + 1, 1, none⟩ (.int .i64 q1)).drew := ⟨_, rfl⟩
  have hk : Z.heap[D]? = some (.deferred (some [])) := by
   rw [hZ]
   exact ((((((((((KeepsOthers.setCell _ _ _).trans (KeepsOthers.setCell _ _ _)).trans (KeepsOthers.setCell _ _ _)).trans (KeepsOthers.setCell _ _ _)).trans (KeepsOthers.setCell _ _ _)).trans (KeepsOthers.setCell _ _ _)).trans (KeepsOthers.setCell _ _ _)).trans (KeepsOthers.setCell _ _ _))).trans (KeepsOthers.drew _)).same D _ HK.out rfl
  have z4 : Blk Z (S + 1 + 1 + 1 + 1) [.int .i64 c, .int .i64 d, .int .i64 p0, .int .i64 p1, .int .i64 r0, .int .i64 r1] := by rw [hZ]; exact Blk.drew ((((((((H4.out.set (j := 0) (by simp) (.int .i64 c)).set (j := 1) (by simp) (.int .i64 d)).set (j := 2) (by simp) (.int .i64 p0)).set (j := 3) (by simp) (.int .i64 p1)).set (j := 4) (by simp) (.int .i64 r0)).set (j := 5) (by simp) (.int .i64 r1)).other ⟨S + 1 + 1 + 1 + 1 + 1, 0, none⟩ (.int .i64 q0) (by simp only; omega)).other ⟨S + 1 + 1 + 1 + 1 + 1, 1, none⟩ (.int .i64 q1) (by simp only; omega))
  have z5 : Blk Z (S + 1 + 1 + 1 + 1 + 1) [.int .i64 q0, .int .i64 q1] := by rw [hZ]; exact Blk.drew ((((((((H5.out.other ⟨S + 1 + 1 + 1 + 1, 0, none⟩ (.int .i64 c) (by simp only; omega)).other ⟨S + 1 + 1 + 1 + 1, 1, none⟩ (.int .i64 d) (by simp only; omega)).other ⟨S + 1 + 1 + 1 + 1, 2, none⟩ (.int .i64 p0) (by simp only; omega)).other ⟨S + 1 + 1 + 1 + 1, 3, none⟩ (.int .i64 p1) (by simp only; omega)).other ⟨S + 1 + 1 + 1 + 1, 4, none⟩ (.int .i64 r0) (by simp only; omega)).other ⟨S + 1 + 1 + 1 + 1, 5, none⟩ (.int .i64 r1) (by simp only; omega)).set (j := 0) (by simp) (.int .i64 q0)).set (j := 1) (by simp) (.int .i64 q1))
  have zB : Below S w Z := by rw [hZ]; exact ((((((((HB.out.setCell (p := ⟨S + 1 + 1 + 1 + 1, 0, none⟩) (by simp only; omega) _).setCell (p := ⟨S + 1 + 1 + 1 + 1, 1, none⟩) (by simp only; omega) _).setCell (p := ⟨S + 1 + 1 + 1 + 1, 2, none⟩) (by simp only; omega) _).setCell (p := ⟨S + 1 + 1 + 1 + 1, 3, none⟩) (by simp only; omega) _).setCell (p := ⟨S + 1 + 1 + 1 + 1, 4, none⟩) (by simp only; omega) _).setCell (p := ⟨S + 1 + 1 + 1 + 1, 5, none⟩) (by simp only; omega) _).setCell (p := ⟨S + 1 + 1 + 1 + 1 + 1, 0, none⟩) (by simp only; omega) _).setCell (p := ⟨S + 1 + 1 + 1 + 1 + 1, 1, none⟩) (by simp only; omega) _).drew
  rw [← hZ]
  clear hZ
  refine ⟨by simp, .inl ⟨_, _, rfl, run_takeDeferred hk, ?_⟩⟩
  have x4 := z4.kept (grownBy_putObj' Z D (.deferred none)) (fun r e => by cases e; exact ⟨_, hk, rfl⟩)
  have x5 := z5.kept (grownBy_putObj' Z D (.deferred none)) (fun r e => by cases e; exact ⟨_, hk, rfl⟩)
  have w0 := (x4 0 _ rfl).1; have w1' := (x4 1 _ rfl).1; have w2 := (x4 2 _ rfl).1; have w3 := (x4 3 _ rfl).1; have w4 := (x4 4 _ rfl).1; have w5 := (x4 5 _ rfl).1
  have w6 := (x5 0 _ rfl).1; have w7 := (x5 1 _ rfl).1
  refine ⟨.tuple #[.agg #[.int .i64 c, .int .i64 d, .int .i64 p0, .int .i64 p1, .int .i64 r0, .int .i64 r1], .agg #[.int .i64 q0, .int .i64 q1], .int .i64 0], ?_, ⟨p0, p1, q0, q1, r0, r1, rfl, HT.out.1, HT.out.2⟩, ?_⟩
  · simp [results, Tryz.f90, go_sem, w0, w1', w2, w3, w4, w5, w6, w7]
  · rw [hS]
    exact zB.trans (belowK_b (w := Y) (by omega) Z D _ _ hD hk rfl rfl)
 case stop =>
  rintro D c pre W _ _ h _
  exact h.elim
end Go.Proofs.YtjjikhaaimfneaaGreatDoor
