/-
  Lemmas and walks for the statement: StGraph, StFl, VSr, VGr, PGraph, PPot, PCycle, PNum.
-/
import Derived.Test.YtagbikgfkakbfaaQ33
import Derived.Test.YtagbikgfkakbfaaQ32
import Derived.Test.YtagbikgfkakbfaaQ24
import Derived.Test.YtagbikgfkakbfaaQ01
namespace Go.Proofs.Ytagbikgfkakbfaa
open Go.RowKit
set_option linter.unusedSimpArgs false
set_option linter.unusedVariables false
attribute [local go_sem] iteMin iteMax iteMinN iteMaxN
def GraphEnds (k0 k1 R Q : Int) (q : Nat) (who ratio : Int) (e : Ending) (w' : World) : Prop :=
 ∃ kk, SxEnds (step := stp k0 k1 R Q q) (startI k0 k1) (q + 1) kk ∧
  (((rnds k0 k1 R Q q kk).full = false ∧ ∃ v B, e = .returned (.tuple #[.agg #[.int .i64 (rnds k0 k1 R Q q kk).states.length, v], .int .i64 0]) ∧ w'.ownsRow B 66 3 v (rnds k0 k1 R Q q kk).edges.length (flatE who ratio (rnds k0 k1 R Q q kk).edges)) ∨
   ((rnds k0 k1 R Q q kk).full = true ∧ e = .returned (.tuple #[.agg #[.int .i64 0, .slice none 0 0], .int .i64 4])))
set_option maxRecDepth 100000 in
set_option maxHeartbeats 4000000 in
theorem graph_range (k0 k1 R Q J who ratio : Int) (w : World) (hb : who < 0 ∨ 1 < who ∨ ratio < 1 ∨ 100 < ratio) :
 Calls Try.prog 14 #[.agg #[.int .i64 k0, .int .i64 k1, .int .i64 R, .int .i64 Q, .int .i64 J], .int .i64 who, .int .i64 ratio] w fun e w' => e = .returned (.tuple #[.agg #[.int .i64 0, .slice none 0 0], .int .i64 2]) ∧ Below w.heap.size w w' := by
 rcases (show who < 0 ∨ (0 ≤ who ∧ 1 < who) ∨ (0 ≤ who ∧ who ≤ 1 ∧ ratio < 1) ∨ (0 ≤ who ∧ who ≤ 1 ∧ 1 ≤ ratio ∧ 100 < ratio) by omega) with h | ⟨g, h⟩ | ⟨g, g', h⟩ | ⟨g, g', g'', h⟩
 all_goals
  clear hb
  go_enter Try.func14, Try.ntmps14
  go_wp2
  refine bodyPost_ret (v := .tuple #[.agg #[.int .i64 0, .slice none 0 0], .int .i64 2]) (by simp [results, Try.f14, go_sem]) rfl ⟨rfl, ?_⟩
  exact by (repeat' (first | (with_reducible exact Below.refl _ _) | (with_reducible refine Below.alloc ?_ ?_ _) | (with_reducible refine Below.setCell ?_ ?_ _) | omega | (simp; done) | (simp; omega)))
set_option maxRecDepth 100000 in
set_option maxHeartbeats 4000000 in
theorem graph_wrong (k0 k1 R Q J who ratio r : Int) (w : World) (hb : 0 ≤ who ∧ who ≤ 1 ∧ 1 ≤ ratio ∧ ratio ≤ 100) (hw : WrongSays k0 k1 R Q J r) (h0 : r ≠ 0) :
 Calls Try.prog 14 #[.agg #[.int .i64 k0, .int .i64 k1, .int .i64 R, .int .i64 Q, .int .i64 J], .int .i64 who, .int .i64 ratio] w fun e w' => e = .returned (.tuple #[.agg #[.int .i64 0, .slice none 0 0], .int .i64 r]) ∧ Below w.heap.size w w' := by
 have h0' : ((r : Int) != 0) = true := by simpa using h0
 have HW := hide hw
 have H0 := hide h0
 clear hw h0
 obtain ⟨S, hS⟩ : ∃ S, w.heap.size = S := ⟨_, rfl⟩
 obtain ⟨g0, g1, g2, g3⟩ := hb
 go_enter Try.func14, Try.ntmps14
 go_wp2_with fail
 obtain ⟨W, hW⟩ : ∃ W, W = ((((w.alloc (.cells #[.int .i64 k0, .int .i64 k1, .int .i64 R, .int .i64 Q, .int .i64 J] 24)).alloc (.cells #[.int .i64 who] 3)).alloc (.cells #[.int .i64 ratio] 3)).alloc (.cells #[.int .i64 0, .slice none 0 0] 56)).alloc (.cells #[.int .i64 0, .slice none 0 0] 56) := ⟨_, rfl⟩
 rw [← hW]
 have hWB : Below S w W := by rw [hW, ← hS]; exact (((((Below.refl _ _).alloc (Nat.le_refl _) _).alloc (by simp) _).alloc (by simp; omega) _).alloc (by simp; omega) _).alloc (by simp; omega) _
 have hWs : W.heap.size = S + 5 := by rw [hW, ← hS]; simp
 have b0 : Blk W (S) [.int .i64 k0, .int .i64 k1, .int .i64 R, .int .i64 Q, .int .i64 J] := by
  have := (((((Blk.new w [.int .i64 k0, .int .i64 k1, .int .i64 R, .int .i64 Q, .int .i64 J] 24).alloc (.cells #[.int .i64 who] 3)).alloc (.cells #[.int .i64 ratio] 3)).alloc (.cells #[.int .i64 0, .slice none 0 0] 56)).alloc (.cells #[.int .i64 0, .slice none 0 0] 56))
  rw [hW]; simpa [hS] using this
 have b1 : Blk W (S + 1) [.int .i64 who] := by
  have := ((((Blk.new (w.alloc (.cells #[.int .i64 k0, .int .i64 k1, .int .i64 R, .int .i64 Q, .int .i64 J] 24)) [.int .i64 who] 3).alloc (.cells #[.int .i64 ratio] 3)).alloc (.cells #[.int .i64 0, .slice none 0 0] 56)).alloc (.cells #[.int .i64 0, .slice none 0 0] 56))
  rw [hW]; simpa [hS] using this
 have b2 : Blk W (S + 1 + 1) [.int .i64 ratio] := by
  have := (((Blk.new ((w.alloc (.cells #[.int .i64 k0, .int .i64 k1, .int .i64 R, .int .i64 Q, .int .i64 J] 24)).alloc (.cells #[.int .i64 who] 3)) [.int .i64 ratio] 3).alloc (.cells #[.int .i64 0, .slice none 0 0] 56)).alloc (.cells #[.int .i64 0, .slice none 0 0] 56))
  rw [hW]; simpa [hS] using this
 have b3 : Blk W (S + 1 + 1 + 1) [.int .i64 0, .slice none 0 0] := by
  have := ((Blk.new (((w.alloc (.cells #[.int .i64 k0, .int .i64 k1, .int .i64 R, .int .i64 Q, .int .i64 J] 24)).alloc (.cells #[.int .i64 who] 3)).alloc (.cells #[.int .i64 ratio] 3)) [.int .i64 0, .slice none 0 0] 56).alloc (.cells #[.int .i64 0, .slice none 0 0] 56))
  rw [hW]; simpa [hS] using this
 have b4 : Blk W (S + 1 + 1 + 1 + 1) [.int .i64 0, .slice none 0 0] := by
  have := (Blk.new ((((w.alloc (.cells #[.int .i64 k0, .int .i64 k1, .int .i64 R, .int .i64 Q, .int .i64 J] 24)).alloc (.cells #[.int .i64 who] 3)).alloc (.cells #[.int .i64 ratio] 3)).alloc (.cells #[.int .i64 0, .slice none 0 0] 56)) [.int .i64 0, .slice none 0 0] 56)
  rw [hW]; simpa [hS] using this
 refine (each_wrong _ _ k0 k1 R Q J r W HW.out H0.out).mono ?_
 rintro e w1 ⟨rfl, hA⟩
 have b3 := b3.below hA b3.lt
 have hB := hide (hWB.trans (hA.mono (by omega)))
 have B3 := hide b3
 have e4 := (b3 0 _ rfl).1
 have e5 := (b3 1 _ rfl).1
 have f4 := (b3 0 _ rfl).2
 have f5 := (b3 1 _ rfl).2
 clear hW hA b0 b1 b2 b3 b4 hWs hWB
 go_wp2
 have z3 : Blk ((w1.setCell ⟨S + 1 + 1 + 1, 0, none⟩ (.int .i64 0)).setCell ⟨S + 1 + 1 + 1, 1, none⟩ (.slice none 0 0)) (S + 1 + 1 + 1) [.int .i64 0, .slice none 0 0] := (B3.out.set (j := 0) (by simp) (.int .i64 0)).set (j := 1) (by simp) (.slice none 0 0)
 have y2 := (z3 0 _ rfl).1
 have y3 := (z3 1 _ rfl).1
 refine bodyPost_ret (v := .tuple #[.agg #[.int .i64 0, .slice none 0 0], .int .i64 r]) ?_ rfl ⟨rfl, ?_⟩
 · simp [results, Try.f14, go_sem, y2, y3]
 · rw [hS]
   exact (hB.out.setCell (by simp only; omega) _).setCell (by simp only; omega) _
set_option maxRecDepth 100000 in
set_option maxHeartbeats 4000000 in
theorem graph_run (k0 k1 R Q : Int) (q : Nat) (who ratio : Int) (w : World) (hb : 0 ≤ who ∧ who ≤ 1 ∧ 1 ≤ ratio ∧ ratio ≤ 100) (hk : kindsOk k0 k1) (hr : rangeOk R Q (q : Int)) :
 Calls Try.prog 14 #[.agg #[.int .i64 k0, .int .i64 k1, .int .i64 R, .int .i64 Q, .int .i64 (q : Int)], .int .i64 who, .int .i64 ratio] w fun e w' => GraphEnds k0 k1 R Q q who ratio e w' ∧ Below w.heap.size w w' := by
 have HK := hide hk
 have HR := hide hr
 have HB := hide hb
 clear hk hr
 obtain ⟨S, hS⟩ : ∃ S, w.heap.size = S := ⟨_, rfl⟩
 obtain ⟨g0, g1, g2, g3⟩ := hb
 go_enter Try.func14, Try.ntmps14
 go_wp2_with fail
 obtain ⟨W, hW⟩ : ∃ W, W = ((((w.alloc (.cells #[.int .i64 k0, .int .i64 k1, .int .i64 R, .int .i64 Q, .int .i64 (q : Int)] 24)).alloc (.cells #[.int .i64 who] 3)).alloc (.cells #[.int .i64 ratio] 3)).alloc (.cells #[.int .i64 0, .slice none 0 0] 56)).alloc (.cells #[.int .i64 0, .slice none 0 0] 56) := ⟨_, rfl⟩
 rw [← hW]
 have hWB : Below S w W := by rw [hW, ← hS]; exact (((((Below.refl _ _).alloc (Nat.le_refl _) _).alloc (by simp) _).alloc (by simp; omega) _).alloc (by simp; omega) _).alloc (by simp; omega) _
 have hWs : W.heap.size = S + 5 := by rw [hW, ← hS]; simp
 have b0 : Blk W (S) [.int .i64 k0, .int .i64 k1, .int .i64 R, .int .i64 Q, .int .i64 (q : Int)] := by
  have := (((((Blk.new w [.int .i64 k0, .int .i64 k1, .int .i64 R, .int .i64 Q, .int .i64 (q : Int)] 24).alloc (.cells #[.int .i64 who] 3)).alloc (.cells #[.int .i64 ratio] 3)).alloc (.cells #[.int .i64 0, .slice none 0 0] 56)).alloc (.cells #[.int .i64 0, .slice none 0 0] 56))
  rw [hW]; simpa [hS] using this
 have b1 : Blk W (S + 1) [.int .i64 who] := by
  have := ((((Blk.new (w.alloc (.cells #[.int .i64 k0, .int .i64 k1, .int .i64 R, .int .i64 Q, .int .i64 (q : Int)] 24)) [.int .i64 who] 3).alloc (.cells #[.int .i64 ratio] 3)).alloc (.cells #[.int .i64 0, .slice none 0 0] 56)).alloc (.cells #[.int .i64 0, .slice none 0 0] 56))
  rw [hW]; simpa [hS] using this
 have b2 : Blk W (S + 1 + 1) [.int .i64 ratio] := by
  have := (((Blk.new ((w.alloc (.cells #[.int .i64 k0, .int .i64 k1, .int .i64 R, .int .i64 Q, .int .i64 (q : Int)] 24)).alloc (.cells #[.int .i64 who] 3)) [.int .i64 ratio] 3).alloc (.cells #[.int .i64 0, .slice none 0 0] 56)).alloc (.cells #[.int .i64 0, .slice none 0 0] 56))
  rw [hW]; simpa [hS] using this
 have b3 : Blk W (S + 1 + 1 + 1) [.int .i64 0, .slice none 0 0] := by
  have := ((Blk.new (((w.alloc (.cells #[.int .i64 k0, .int .i64 k1, .int .i64 R, .int .i64 Q, .int .i64 (q : Int)] 24)).alloc (.cells #[.int .i64 who] 3)).alloc (.cells #[.int .i64 ratio] 3)) [.int .i64 0, .slice none 0 0] 56).alloc (.cells #[.int .i64 0, .slice none 0 0] 56))
  rw [hW]; simpa [hS] using this
 have b4 : Blk W (S + 1 + 1 + 1 + 1) [.int .i64 0, .slice none 0 0] := by
  have := (Blk.new ((((w.alloc (.cells #[.int .i64 k0, .int .i64 k1, .int .i64 R, .int .i64 Q, .int .i64 (q : Int)] 24)).alloc (.cells #[.int .i64 who] 3)).alloc (.cells #[.int .i64 ratio] 3)).alloc (.cells #[.int .i64 0, .slice none 0 0] 56)) [.int .i64 0, .slice none 0 0] 56)
  rw [hW]; simpa [hS] using this
 have h44 : W.heap[S + 1 + 1 + 1 + 1]? = some (.cells [.int .i64 0, .slice none 0 0].toArray 56 (0, 0)) := by
  have := heap_new ((((w.alloc (.cells #[.int .i64 k0, .int .i64 k1, .int .i64 R, .int .i64 Q, .int .i64 (q : Int)] 24)).alloc (.cells #[.int .i64 who] 3)).alloc (.cells #[.int .i64 ratio] 3)).alloc (.cells #[.int .i64 0, .slice none 0 0] 56)) (.cells #[.int .i64 0, .slice none 0 0] 56)
  rw [hW]; simpa [hS] using this
 have gr : GrAt who ratio (S + 1 + 1 + 1 + 1) (S + 1) (S + 1 + 1) (.slice none 0 0) [] W := ⟨(b4 0 _ rfl).1, (b4 1 _ rfl).1, fun j => froz_heap h44, (b1 0 _ rfl).1, (b2 0 _ rfl).1, ⟨by simp [flatE], .inl ⟨rfl, rfl⟩⟩, by omega, by omega⟩
 refine (each_run 25 #[.pointer (some ⟨S + 1 + 1 + 1 + 1, 0, none⟩), .pointer (some ⟨S + 1, 0, none⟩), .pointer (some ⟨S + 1 + 1, 0, none⟩)] (TG who ratio (S + 1 + 1 + 1 + 1) (S + 1) (S + 1 + 1)) (graph1_tell who ratio (by have := HB.out; omega) (by have := HB.out; omega) _ _ _) k0 k1 R Q q W (GFoot (S + 1 + 1 + 1 + 1) (S + 1) (S + 1 + 1) (.slice none 0 0)) ⟨_, gr, rfl⟩ HK.out HR.out).mono ?_
 have nf : ∀ b, (b < S + 1 ∨ b = S + 1 + 1 + 1) → ¬ GFoot (S + 1 + 1 + 1 + 1) (S + 1) (S + 1 + 1) (.slice none 0 0) b := fun b hb hf => by
  rcases hf with h | h | h | h
  · omega
  · omega
  · omega
  · cases h
 have kb : ∀ (w1 : World), Chg W w1 (GFoot (S + 1 + 1 + 1 + 1) (S + 1) (S + 1 + 1) (.slice none 0 0)) → Blk w1 (S + 1 + 1 + 1) [.int .i64 0, .slice none 0 0] ∧ Below S w w1 := fun w1 hc => by
  have he : w1.heap[S + 1 + 1 + 1]? = W.heap[S + 1 + 1 + 1]? := hc.block _ (by omega) (nf _ (.inr rfl))
  refine ⟨fun j v hj => ⟨(World.cell?_of_block (w := W) (a := ⟨S + 1 + 1 + 1, j, none⟩) he).trans (b3 j v hj).1, (World.frozen?_of_block (w := W) (a := ⟨S + 1 + 1 + 1, j, none⟩) he).trans (b3 j v hj).2⟩, hWB.trans ⟨hc.os, hc.tape, hc.output, hc.size, fun b hb => hc.block b (by omega) (nf b (.inl (by omega)))⟩⟩
 have KB := hide kb
 clear hW b0 b1 b2 b3 b4 gr nf kb hWB h44
 rintro e w1 ⟨kk, hends, ⟨PB, MB, B, v1, v2, v3, F, hf, rfl, hE⟩ | ⟨hf, rfl, hc⟩⟩
 · have p1 := hE.sp.c1
   obtain ⟨a1, c1, e1⟩ := sliceShape hE.sp.r1
   rw [e1] at p1
   obtain ⟨v, g, hF⟩ := hE.tl
   obtain ⟨a2, c2, e2⟩ := sliceShape g.row
   subst e2
   obtain ⟨n, hn⟩ : ∃ n, (rnds k0 k1 R Q q kk).states.length = n := ⟨_, rfl⟩
   obtain ⟨m, hm⟩ : ∃ m, (rnds k0 k1 R Q q kk).edges.length = m := ⟨_, rfl⟩
   rw [hn] at p1
   obtain ⟨bb, hBB⟩ := KB.out _ hE.chg
   have q0 := g.c0
   have q1 := g.c1
   have qf0 := g.fz 0
   have qf1 := g.fz 1
   rw [hm] at q1
   have e4 := (bb 0 _ rfl).1
   have e5 := (bb 1 _ rfl).1
   have f4 := (bb 0 _ rfl).2
   have f5 := (bb 1 _ rfl).2
   have rw' := g.row
   have dq : ¬ S + 1 + 1 + 1 + 1 = S + 1 + 1 + 1 := by omega
   rw [hm] at rw'
   have HRW := hide rw'
   have HBB := hide hBB
   have HB3 := hide bb
   have HN := hide hends
   have HF := hide hf
   have HN' := hide hn
   have HM := hide hm
   clear hE hends hf e1 g hF rw' hBB bb hn hm hWs HB KB
   go_wp2
   obtain ⟨Z, hZ⟩ : ∃ Z, Z = ((w1.setCell ⟨S + 1 + 1 + 1 + 1, 0, none⟩ (.int .i64 n)).setCell ⟨S + 1 + 1 + 1, 0, none⟩ (.int .i64 n)).setCell ⟨S + 1 + 1 + 1, 1, none⟩ (.slice a2 m c2) := ⟨_, rfl⟩
   rw [← hZ]
   have z3 : Blk Z (S + 1 + 1 + 1) [.int .i64 n, .slice a2 m c2] := by
    rw [hZ]; exact ((HB3.out.other ⟨S + 1 + 1 + 1 + 1, 0, none⟩ (.int .i64 n) (by simp only; omega)).set (j := 0) (by simp) (.int .i64 n)).set (j := 1) (by simp) (.slice a2 m c2)
   have y2 := (z3 0 _ rfl).1
   have y3 := (z3 1 _ rfl).1
   have hrow : Z.ownsRow (S + 1 + 1 + 1 + 1 + 1) 66 3 (.slice a2 m c2) m (flatE who ratio (rnds k0 k1 R Q q kk).edges) := by
    refine rows_kept HRW.out (fun b hb => ?_)
    have := rows_lt HRW.out b hb
    rw [hZ, Below.heap_setCell _ _ _ _ (by simp only; omega), Below.heap_setCell _ _ _ _ (by simp only; omega), Below.heap_setCell _ _ _ _ (by simp only; omega)]
   refine bodyPost_ret (v := .tuple #[.agg #[.int .i64 n, .slice a2 m c2], .int .i64 0]) ?_ rfl ⟨⟨kk, HN.out, .inl ⟨HF.out, .slice a2 m c2, _, by rw [HN'.out], by rw [HM.out]; exact hrow⟩⟩, ?_⟩
   · simp [results, Try.f14, go_sem, y2, y3]
   · rw [hS, hZ]
     exact ((HBB.out.setCell (by simp only; omega) _).setCell (by simp only; omega) _).setCell (by simp only; omega) _
 · obtain ⟨bb, hBB⟩ := KB.out _ hc
   have e4 := (bb 0 _ rfl).1
   have e5 := (bb 1 _ rfl).1
   have f4 := (bb 0 _ rfl).2
   have f5 := (bb 1 _ rfl).2
   have HBB := hide hBB
   have HB3 := hide bb
   have HN := hide hends
   have HF := hide hf
   clear hc hends hf hBB bb hWs HB KB
   go_wp2
   have z3 : Blk ((w1.setCell ⟨S + 1 + 1 + 1, 0, none⟩ (.int .i64 0)).setCell ⟨S + 1 + 1 + 1, 1, none⟩ (.slice none 0 0)) (S + 1 + 1 + 1) [.int .i64 0, .slice none 0 0] := (HB3.out.set (j := 0) (by simp) (.int .i64 0)).set (j := 1) (by simp) (.slice none 0 0)
   have y2 := (z3 0 _ rfl).1
   have y3 := (z3 1 _ rfl).1
   refine bodyPost_ret (v := .tuple #[.agg #[.int .i64 0, .slice none 0 0], .int .i64 4]) ?_ rfl ⟨⟨kk, HN.out, .inr ⟨HF.out, rfl⟩⟩, ?_⟩
   · simp [results, Try.f14, go_sem, y2, y3]
   · rw [hS]
     exact (HBB.out.setCell (by simp only; omega) _).setCell (by simp only; omega) _
end Go.Proofs.Ytagbikgfkakbfaa
namespace Go.Proofs.Ytagbikgfkakbfaa
open Go.RowKit
set_option linter.unusedSimpArgs false
set_option linter.unusedVariables false
theorem latesP_ok {q n : Nat} (hn : n ≤ (q + 1) * (q + 1)) : ∀ l ∈ latesP (q + 1) n, 0 ≤ l.x ∧ l.x ≤ (q : Int) ∧ 0 ≤ l.y ∧ l.y ≤ (q : Int) := by
 intro l hl
 simp only [latesP, List.mem_map, List.mem_range] at hl
 obtain ⟨e, he, rfl⟩ := hl
 have h1 : e / (q + 1) < q + 1 := Nat.div_lt_of_lt_mul (by omega)
 have h2 : e % (q + 1) < q + 1 := Nat.mod_lt _ (by omega)
 dsimp only
 generalize e / (q + 1) = a at *
 generalize e % (q + 1) = b at *
 omega
def Edg.fl (E : Edg) : Nat × P2 := (E.f, E.l)
section
variable {step : List Int → P2 → List Int × List Int}
theorem Sx.go_fl (B : Sx) (k : Nat) (l : P2) (h : (B.go step k l).full = false) : (B.go step k l).edges.map Edg.fl = B.edges.map Edg.fl ++ [(k, l)] := by
 unfold Sx.go at h ⊢
 (repeat' split at h) <;> (repeat' split) <;> simp_all [Edg.fl]
theorem Sx.walk_fl {B : Sx} {k : Nat} {ls : List P2} (h : (B.walk step k ls).full = false) : (B.walk step k ls).edges.map Edg.fl = B.edges.map Edg.fl ++ ls.map (fun l => (k, l)) := by
 induction ls generalizing B with
 | nil => simp [Sx.walk]
 | cons l ls ih =>
   have h1 : ((B.go step k l).walk step k ls).full = false := h
   have h2 := ih h1
   have h3 := Sx.go_fl B k l (Sx.walk_open h1)
   show ((B.go step k l).walk step k ls).edges.map Edg.fl = _
   rw [h2, h3]; simp
end
def flOf (N n : Nat) : List (Nat × P2) := (List.range n).flatMap fun k => (latesP N (N * N)).map fun l => (k, l)
theorem flOf_succ (N n : Nat) : flOf N (n + 1) = flOf N n ++ (latesP N (N * N)).map fun l => (n, l) := by simp [flOf, List.range_succ]
theorem sx_fl {k0 k1 R Q : Int} {q n : Nat} (h : ∀ j, j < n → (rnds k0 k1 R Q q j).full = false) (hf : (rnds k0 k1 R Q q n).full = false) : (rnds k0 k1 R Q q n).edges.map Edg.fl = flOf (q + 1) n := by
 induction n with
 | zero => simp [rnds, rounds, flOf]
 | succ n ih =>
   have h1 := ih (fun j hj => h j (by omega)) (h n (by omega))
   rw [rnds_succ] at hf ⊢
   rw [Sx.walk_fl hf, h1, flOf_succ]
theorem flOf_mem {q n : Nat} {p : Nat × P2} (h : p ∈ flOf (q + 1) n) : p.1 < n ∧ 0 ≤ p.2.x ∧ p.2.x ≤ (q : Int) ∧ 0 ≤ p.2.y ∧ p.2.y ≤ (q : Int) := by
 simp only [flOf, List.mem_flatMap, List.mem_range, List.mem_map] at h
 obtain ⟨k, hk, l, hl, rfl⟩ := h
 exact ⟨hk, latesP_ok (Nat.le_refl _) l hl⟩
theorem edge_late {es : List Edg} {q n : Nat} (h : es.map Edg.fl = flOf (q + 1) n) {E : Edg} (hE : E ∈ es) : 0 ≤ E.l.x ∧ E.l.x ≤ (q : Int) ∧ 0 ≤ E.l.y ∧ E.l.y ≤ (q : Int) := by
 have : E.fl ∈ flOf (q + 1) n := by rw [← h]; exact List.mem_map_of_mem hE
 exact (flOf_mem this).2
theorem rows_below {w w' : World} {B n : Nat} {e : TypeId} {size : Nat} {v : Value} {xs : List Value} (h : w.ownsRow B e size v n xs) (hb : Below w.heap.size w w') : w'.ownsRow B e size v n xs :=
 rows_kept h (fun g hg => hb.block g (rows_lt h g hg).2)
theorem wayB_len (fr : List Int) (bys : List P2) : ∀ f n, (wayB fr bys f n).length ≤ f
 | 0, _ => Nat.le_refl _
 | f + 1, n => by
   simp only [wayB]
   split
   · exact Nat.zero_le _
   · simp only [List.length_cons]; have := wayB_len fr bys f (fr.getD n 0).toNat; omega
theorem wayB_mem {G U : List Int → Prop} {X : Sx} (h : SxOk G U X) : ∀ f n, n < X.states.length → ∀ p ∈ wayB X.fr X.bys f n, ∃ E ∈ X.edges, p = E.l
 | 0, n, _, p, hp => by simp [wayB] at hp
 | f + 1, n, hn, p, hp => by
   simp only [wayB] at hp
   split at hp
   · cases hp
   · rename_i h0
     obtain ⟨e, E, h1, h2, h3, h4, _, h6⟩ := h.born n (by omega) hn
     rcases List.mem_cons.1 hp with rfl | hp
     · exact ⟨E, List.mem_of_getElem? h1, by rw [List.getD_eq_getElem?_getD, h4]; rfl⟩
     · have e : (X.fr.getD n 0).toNat = E.f := by rw [List.getD_eq_getElem?_getD, h3]; simp
       rw [e] at hp
       exact wayB_mem h f E.f (by omega) p hp
theorem flat2_S (l : List P2) : flat2 l = flatS (l.map fun p => [p.x, p.y]) := by simp [flat2, flatS, List.flatMap_map]
theorem flatE_S (who ratio : Int) (es : List Edg) : flatE who ratio es = flatS (es.map fun E => [(E.f : Int), (E.t : Int), wtE who ratio E.us]) := by simp [flatE, flatS, List.flatMap_map]
theorem wtE_sml {who ratio : Int} {us : List Int} (hu : UU us) (hw : who = 0 ∨ who = 1) (hr : 1 ≤ ratio ∧ ratio ≤ 100) : -10000 ≤ wtE who ratio us ∧ wtE who ratio us ≤ 100 := by
 obtain ⟨h6, h1⟩ := hu
 obtain ⟨x0, x1, x2, x3, x4, x5, rfl⟩ := len6 h6
 have h2 := h1 x2 (by simp)
 have h3 := h1 x3 (by simp)
 have key : ∀ a b : Int, 0 ≤ a ∧ a ≤ 100 → 0 ≤ b ∧ b ≤ 100 → -10000 ≤ a - ratio * b ∧ a - ratio * b ≤ 100 := fun a b ha hb => by
  have m1 : 0 ≤ ratio * b := Int.mul_nonneg (by omega) (by omega)
  have m2 : ratio * b ≤ 100 * 100 := Int.le_trans (Int.mul_le_mul_of_nonneg_right hr.2 (by omega)) (Int.mul_le_mul_of_nonneg_left hb.2 (by omega))
  omega
 rcases hw with rfl | rfl
 · exact key x2 x3 h2 h3
 · exact key x3 x2 h3 h2
end Go.Proofs.Ytagbikgfkakbfaa
namespace Go.Proofs.Ytagbikgfkakbfaa
open Go.RowKit
set_option linter.unusedSimpArgs false
set_option linter.unusedVariables false
section
variable {k0 k1 R Q : Int} {q : Nat}
theorem sx_upto (hk : kindsOk k0 k1) (hr : rangeOk R Q (q : Int)) {n : Nat} (h : ∀ j, j < n → (rnds k0 k1 R Q q j).full = false ∧ j < (rnds k0 k1 R Q q j).states.length) : SxOk (GG k0 k1 R Q q) UU (rnds k0 k1 R Q q n) := by
 induction n with
 | zero => exact start_good hk hr
 | succ n ih =>
   have h1 := ih (fun j hj => h j (by omega))
   have h2 := (h n (by omega)).2
   rw [rnds_succ]
   exact h1.walk h2 (fun l hl s hs => stp_good (latesP_ok (Nat.le_refl _) l hl) hs)
theorem sx_edges {n : Nat} (h : ∀ j, j < n → (rnds k0 k1 R Q q j).full = false) (hf : (rnds k0 k1 R Q q n).full = false) : (rnds k0 k1 R Q q n).edges.length = n * ((q + 1) * (q + 1)) := by
 induction n with
 | zero => simp [rnds, rounds]
 | succ n ih =>
   have h1 := ih (fun j hj => h j (by omega)) (h n (by omega))
   rw [rnds_succ] at hf ⊢
   rw [Sx.walk_edges hf, h1, latesP_len]; exact (Nat.succ_mul n _).symm
theorem sx_ex (hk : kindsOk k0 k1) (hr : rangeOk R Q (q : Int)) : ∃ kk, SxEnds (step := stp k0 k1 R Q q) (startI k0 k1) (q + 1) kk := by
 have key : ∀ n, (∃ kk, SxEnds (step := stp k0 k1 R Q q) (startI k0 k1) (q + 1) kk) ∨ (∀ j, j < n → (rnds k0 k1 R Q q j).full = false ∧ j < (rnds k0 k1 R Q q j).states.length) := by
  intro n
  induction n with
  | zero => exact .inr fun j hj => absurd hj (by omega)
  | succ n ih =>
    rcases ih with h | h
    · exact .inl h
    · by_cases hc : (rnds k0 k1 R Q q n).full = false ∧ n < (rnds k0 k1 R Q q n).states.length
      · refine .inr fun j hj => ?_
        rcases (show j < n ∨ j = n by omega) with h' | rfl
        · exact h j h'
        · exact hc
      · refine .inl ⟨n, h, ?_⟩
        by_cases hf : (rnds k0 k1 R Q q n).full = false
        · exact .inr (fun h' => hc ⟨hf, h'⟩)
        · refine .inl ?_
          cases h9 : (rnds k0 k1 R Q q n).full with
          | true => exact h9
          | false => exact (hf h9).elim
 rcases key 301 with h | h
 · exact h
 · have h1 := (h 300 (by omega)).2
   have h2 := (sx_upto hk hr (n := 300) (fun j hj => h j (by omega))).most
   omega
theorem SxOk.weak {G G' U : List Int → Prop} {B : Sx} (h : SxOk G U B) (hg : ∀ s, G s → G' s) : SxOk G' U B := ⟨h.flen, h.blen, h.one, h.most, h.nodup, fun s hs => hg s (h.good s hs), h.tos, h.born⟩
end
def SxStep (step : List Int → P2 → List Int × List Int) (B : Sx) : Prop := ∀ (e : Nat) (E : Edg), B.edges[e]? = some E → ∃ s s', B.states[E.f]? = some s ∧ B.states[E.t]? = some s' ∧ step s E.l = (s', E.us)
section
variable {step : List Int → P2 → List Int × List Int}
theorem SxStep.go {B : Sx} {k : Nat} {l : P2} (h : SxStep step B) (hk : k < B.states.length) (hd : B.states.Nodup) : SxStep step (B.go step k l) := by
 cases hf : B.full with
 | true => rw [Sx.go_full hf]; exact h
 | false =>
   obtain ⟨s, hs⟩ : ∃ s, B.states[k]? = some s := ⟨_, List.getElem?_eq_getElem hk⟩
   obtain ⟨nx, us, he⟩ : ∃ nx us, step s l = (nx, us) := ⟨_, _, rfl⟩
   by_cases hm : nx ∈ B.states
   · obtain ⟨i, hi⟩ := List.mem_iff_getElem?.1 hm
     rw [Sx.go_old hf hs he hi hd]
     intro e E hE
     rcases app_getX hE with ⟨_, hE⟩ | ⟨_, rfl⟩
     · exact h e E hE
     · exact ⟨s, nx, hs, hi, he⟩
   · by_cases hl : B.states.length = 300
     · rw [Sx.go_stop hf hs he hm hl]; exact h
     · rw [Sx.go_new hf hs he hm hl]
       intro e E hE
       rcases app_getX hE with ⟨_, hE⟩ | ⟨_, rfl⟩
       · obtain ⟨s1, s2, h1, h2, h3⟩ := h e E hE
         exact ⟨s1, s2, get_appX h1, get_appX h2, h3⟩
       · exact ⟨s, nx, get_appX hs, List.getElem?_concat_length, he⟩
theorem SxStep.walk {G U : List Int → Prop} {B : Sx} {k : Nat} {ls : List P2} (h : SxStep step B) (ho : SxOk G U B) (hk : k < B.states.length) (hG : ∀ l ∈ ls, ∀ s, G s → G (step s l).1 ∧ U (step s l).2) : SxStep step (B.walk step k ls) := by
 induction ls generalizing B with
 | nil => exact h
 | cons l ls ih =>
   cases hf : B.full with
   | true => rw [Sx.walk_full hf]; exact h
   | false => exact ih (B := B.go step k l) (h.go hk ho.nodup) (ho.go hf hk (hG l (by simp))) (Nat.lt_of_lt_of_le hk (Sx.go_mono B k l)) (fun l' hl' => hG l' (by simp [hl']))
theorem Sx.go_first {B : Sx} {k : Nat} {l : P2} {s : List Int} (h : B.states[0]? = some s) : (B.go step k l).states[0]? = some s := by
 unfold Sx.go
 (repeat' split) <;> first | exact h | exact get_appX h
theorem Sx.walk_first {B : Sx} {k : Nat} {ls : List P2} {s : List Int} (h : B.states[0]? = some s) : (B.walk step k ls).states[0]? = some s := by
 induction ls generalizing B with
 | nil => exact h
 | cons l ls ih => exact ih (B := B.go step k l) (Sx.go_first h)
end
section
variable {k0 k1 R Q : Int} {q : Nat}
theorem sx_step (hk : kindsOk k0 k1) (hr : rangeOk R Q (q : Int)) {n : Nat} (h : ∀ j, j < n → (rnds k0 k1 R Q q j).full = false ∧ j < (rnds k0 k1 R Q q j).states.length) : SxStep (stp k0 k1 R Q q) (rnds k0 k1 R Q q n) ∧ (rnds k0 k1 R Q q n).states[0]? = some (startI k0 k1) := by
 induction n with
 | zero => exact ⟨fun e E hE => by simp [rnds, rounds] at hE, by simp [rnds, rounds]⟩
 | succ n ih =>
   obtain ⟨h1, h3⟩ := ih (fun j hj => h j (by omega))
   have h2 := (h n (by omega)).2
   rw [rnds_succ]
   exact ⟨h1.walk (sx_upto hk hr (fun j hj => h j (by omega))) h2 (fun l hl s hs => stp_good (latesP_ok (Nat.le_refl _) l hl) hs), Sx.walk_first h3⟩
end
structure SrGood (k0 k1 R Q J : Int) (X : Sx) : Prop where
 ok : SxOk Gd UU X
 kinds : kindsOk k0 k1
 range : rangeOk R Q J
 fl : ∃ q : Nat, J = q ∧ q ≤ 3 ∧ X.edges.map Edg.fl = flOf (q + 1) X.states.length ∧ SxStep (stp k0 k1 R Q q) X
 pos : 0 < X.edges.length
 most : X.edges.length ≤ 4800
 first : X.states[0]? = some (startI k0 k1)
section
variable {k0 k1 R Q : Int} {q kk : Nat}
theorem good_facts (hk : kindsOk k0 k1) (hr : rangeOk R Q (q : Int)) (hE : SxEnds (step := stp k0 k1 R Q q) (startI k0 k1) (q + 1) kk) (hf : (rnds k0 k1 R Q q kk).full = false) : SrGood k0 k1 R Q (q : Int) (rnds k0 k1 R Q q kk) := by
 have hq : q ≤ 3 := by unfold rangeOk at hr; omega
 have hok := sx_upto hk hr hE.1
 have hed := sx_edges (fun j hj => (hE.1 j hj).1) hf
 have hm := hok.most
 have h1 := hok.one
 have hle : (rnds k0 k1 R Q q kk).states.length ≤ kk := by
  rcases hE.2 with h | h
  · have h' : (rnds k0 k1 R Q q kk).full = true := h
    rw [hf] at h'; cases h'
  · exact Nat.le_of_not_lt h
 have hk3 : kk ≤ 300 := by
  rcases (show kk = 0 ∨ 0 < kk by omega) with h | h
  · omega
  · have h2 := (hE.1 (kk - 1) (by omega)).2
    have h3 := (sx_upto hk hr (n := kk - 1) (fun j hj => hE.1 j (by omega))).most
    have h4 : kk - 1 < (rnds k0 k1 R Q q (kk - 1)).states.length := h2
    omega
 have hq1 : 1 ≤ (q + 1) * (q + 1) := Nat.mul_le_mul (show 1 ≤ q + 1 by omega) (show 1 ≤ q + 1 by omega)
 have hq2 : (q + 1) * (q + 1) ≤ 4 * 4 := Nat.mul_le_mul (by omega) (by omega)
 obtain ⟨hst, hfi⟩ := sx_step hk hr hE.1
 refine ⟨hok.weak (fun s h => h.2), hk, hr, ⟨q, rfl, hq, ?_, hst⟩, ?_, ?_, hfi⟩
 · have hge : kk ≤ (rnds k0 k1 R Q q kk).states.length := by
    rcases (show kk = 0 ∨ 0 < kk by omega) with h | h
    · omega
    · have h2 : kk - 1 < (rnds k0 k1 R Q q (kk - 1)).states.length := (hE.1 (kk - 1) (by omega)).2
      have h3 := Sx.walk_mono (step := stp k0 k1 R Q q) (rnds k0 k1 R Q q (kk - 1)) (kk - 1) (latesP (q + 1) ((q + 1) * (q + 1)))
      rw [← rnds_succ, show kk - 1 + 1 = kk by omega] at h3
      omega
   rw [sx_fl (fun j hj => (hE.1 j hj).1) hf, show (rnds k0 k1 R Q q kk).states.length = kk by omega]
 · rw [hed]; exact Nat.mul_pos (by omega) (by omega)
 · rw [hed]; exact Nat.le_trans (Nat.mul_le_mul hk3 hq2) (by decide)
end
def Srch (k0 k1 R Q J r : Int) (X : Sx) : Prop :=
 (r ≠ 0 ∧ (r = 5 ∨ r = 2) ∧ WrongSays k0 k1 R Q J r ∧ ¬ (kindsOk k0 k1 ∧ rangeOk R Q J)) ∨
 (∃ q kk : Nat, J = (q : Int) ∧ kindsOk k0 k1 ∧ rangeOk R Q (q : Int) ∧ SxEnds (step := stp k0 k1 R Q q) (startI k0 k1) (q + 1) kk ∧ (((rnds k0 k1 R Q q kk).full = true ∧ r = 4) ∨ ((rnds k0 k1 R Q q kk).full = false ∧ r = 0 ∧ X = rnds k0 k1 R Q q kk)))
theorem srch_ex (k0 k1 R Q J : Int) : ∃ r X, Srch k0 k1 R Q J r X := by
 by_cases hok : kindsOk k0 k1 ∧ rangeOk R Q J
 case neg =>
  by_cases hk : kindsOk k0 k1
  · exact ⟨2, ⟨[], [], [], [], false⟩, .inl ⟨by omega, .inr rfl, .inr (.inl ⟨hk, fun h => hok ⟨hk, h⟩, rfl⟩), hok⟩⟩
  · exact ⟨5, ⟨[], [], [], [], false⟩, .inl ⟨by omega, .inl rfl, .inl ⟨hk, rfl⟩, hok⟩⟩
 obtain ⟨hk, hr⟩ := hok
 obtain ⟨q, rfl⟩ : ∃ q : Nat, J = (q : Int) := ⟨J.toNat, by unfold rangeOk at hr; omega⟩
 obtain ⟨kk, hE⟩ := sx_ex hk hr
 cases hf : (rnds k0 k1 R Q q kk).full with
 | true => exact ⟨4, ⟨[], [], [], [], false⟩, .inr ⟨q, kk, rfl, hk, hr, hE, .inl ⟨hf, rfl⟩⟩⟩
 | false => exact ⟨0, _, .inr ⟨q, kk, rfl, hk, hr, hE, .inr ⟨hf, rfl, rfl⟩⟩⟩
theorem srch_good {k0 k1 R Q J : Int} {X : Sx} (h : Srch k0 k1 R Q J 0 X) : SrGood k0 k1 R Q J X := by
 rcases h with ⟨h0, _⟩ | ⟨q, kk, rfl, hk, hr, hE, ⟨_, h1⟩ | ⟨hf, _, rfl⟩⟩
 · exact absurd rfl h0
 · cases h1
 · exact good_facts hk hr hE hf
theorem srch_err {k0 k1 R Q J r : Int} {X : Sx} (h : Srch k0 k1 R Q J r X) (h0 : r ≠ 0) : r = 5 ∨ r = 2 ∨ r = 4 := by
 rcases h with ⟨_, h1 | h1, _⟩ | ⟨q, kk, _, _, _, _, ⟨_, h1⟩ | ⟨_, h1, _⟩⟩
 · exact .inl h1
 · exact .inr (.inl h1)
 · exact .inr (.inr h1)
 · exact absurd h1 h0
theorem srch_ok {k0 k1 R Q J r : Int} {X : Sx} (h : Srch k0 k1 R Q J r X) (h0 : r = 0 ∨ r = 4) : kindsOk k0 k1 ∧ rangeOk R Q J := by
 rcases h with ⟨_, h1 | h1, _⟩ | ⟨q, kk, rfl, hk, hr, _⟩
 · omega
 · omega
 · exact ⟨hk, hr⟩
end Go.Proofs.Ytagbikgfkakbfaa
namespace Go.Proofs.Ytagbikgfkakbfaa
open Go.RowKit
set_option linter.unusedSimpArgs false
set_option linter.unusedVariables false
def LeadOk (X : Sx) (n : Int) (w : World) (e : Ending) (w' : World) : Prop :=
 ((n < 0 ∨ (X.states.length : Int) ≤ n) ∧ e = .returned (.tuple #[.slice none 0 0, .int .i64 3]) ∨ ∃ m : Nat, n = m ∧ m < X.states.length ∧ ∃ v B, e = .returned (.tuple #[v, .int .i64 0]) ∧ w'.ownsRow B 22 2 v (wayB X.fr X.bys m m).reverse.length (flat2 (wayB X.fr X.bys m m).reverse)) ∧ Below w.heap.size w w'
def GrfOk (X : Sx) (who ratio : Int) (w : World) (e : Ending) (w' : World) : Prop := ∃ v B, e = .returned (.tuple #[.agg #[.int .i64 X.states.length, v], .int .i64 0]) ∧ w'.ownsRow B 66 3 v X.edges.length (flatE who ratio X.edges) ∧ Below w.heap.size w w'
def badArgs (who ratio : Int) : Prop := who < 0 ∨ (0 ≤ who ∧ 1 < who) ∨ (0 ≤ who ∧ who ≤ 1 ∧ ratio < 1) ∨ (0 ≤ who ∧ who ≤ 1 ∧ 1 ≤ ratio ∧ 100 < ratio)
def goodArgs (who ratio : Int) : Prop := 0 ≤ who ∧ who ≤ 1 ∧ 1 ≤ ratio ∧ ratio ≤ 100
theorem lead_srch {k0 k1 R Q J r : Int} {X : Sx} (h : Srch k0 k1 R Q J r X) (n : Int) (w : World) :
 Calls Try.prog 18 #[.agg #[.int .i64 k0, .int .i64 k1, .int .i64 R, .int .i64 Q, .int .i64 J], .int .i64 n] w fun e w' => (r ≠ 0 ∧ e = .returned (.tuple #[.slice none 0 0, .int .i64 r]) ∧ Below w.heap.size w w') ∨ (r = 0 ∧ LeadOk X n w e w') := by
 rcases h with ⟨h0, _, hw, _⟩ | ⟨q, kk, rfl, hk, hr, hE, ho⟩
 · exact (lead_wrong k0 k1 R Q J n r w hw h0).mono fun e w' ⟨h1, h2⟩ => .inl ⟨h0, h1, h2⟩
 · refine (lead_run k0 k1 R Q q n w hk hr).mono ?_
   rintro e w' ⟨⟨kk', hE', hh⟩, hb⟩
   obtain rfl := hE.one hE'
   rcases ho with ⟨hf, rfl⟩ | ⟨hf, rfl, rfl⟩
   · rcases hh with ⟨hf', _⟩ | ⟨hf', _⟩ | ⟨_, rfl⟩
     · rw [hf] at hf'; cases hf'
     · rw [hf] at hf'; cases hf'
     · exact .inl ⟨by omega, rfl, hb⟩
   · rcases hh with ⟨hf', m, h1, h2, v, B, rfl, h⟩ | ⟨hf', h1, rfl⟩ | ⟨hf', _⟩
     · exact .inr ⟨rfl, .inr ⟨m, h1, h2, v, B, rfl, h⟩, hb⟩
     · exact .inr ⟨rfl, .inl ⟨h1, rfl⟩, hb⟩
     · rw [hf] at hf'; cases hf'
theorem graph_srch {k0 k1 R Q J r : Int} {X : Sx} (h : Srch k0 k1 R Q J r X) (who ratio : Int) (w : World) (hg : goodArgs who ratio) :
 Calls Try.prog 14 #[.agg #[.int .i64 k0, .int .i64 k1, .int .i64 R, .int .i64 Q, .int .i64 J], .int .i64 who, .int .i64 ratio] w fun e w' => (r ≠ 0 ∧ e = .returned (.tuple #[.agg #[.int .i64 0, .slice none 0 0], .int .i64 r]) ∧ Below w.heap.size w w') ∨ (r = 0 ∧ GrfOk X who ratio w e w') := by
 rcases h with ⟨h0, _, hw, _⟩ | ⟨q, kk, rfl, hk, hr, hE, ho⟩
 · exact (graph_wrong k0 k1 R Q J who ratio r w hg hw h0).mono fun e w' ⟨h1, h2⟩ => .inl ⟨h0, h1, h2⟩
 · refine (graph_run k0 k1 R Q q who ratio w hg hk hr).mono ?_
   rintro e w' ⟨⟨kk', hE', hh⟩, hb⟩
   obtain rfl := hE.one hE'
   rcases ho with ⟨hf, rfl⟩ | ⟨hf, rfl, rfl⟩
   · rcases hh with ⟨hf', _⟩ | ⟨_, rfl⟩
     · rw [hf] at hf'; cases hf'
     · exact .inl ⟨by omega, rfl, hb⟩
   · rcases hh with ⟨hf', v, B, rfl, h⟩ | ⟨hf', _⟩
     · exact .inr ⟨rfl, v, B, rfl, h, hb⟩
     · rw [hf] at hf'; cases hf'
end Go.Proofs.Ytagbikgfkakbfaa
namespace Go.Proofs.Ytagbikgfkakbfaa
open Go.RowKit
set_option linter.unusedSimpArgs false
set_option linter.unusedVariables false
def EdgeOk (N : Int) (e : GE) : Prop := 0 ≤ e.src ∧ e.src < N ∧ 0 ≤ e.dst ∧ e.dst < N ∧ -1048576 ≤ e.wt ∧ e.wt ≤ 1048576
def GraphOk (N : Int) (es : List GE) : Prop := (0 ≤ N ∧ N ≤ 300 ∧ es.length ≤ 4800) ∧ ∀ e ∈ es, EdgeOk N e
end Go.Proofs.Ytagbikgfkakbfaa
namespace Go.Proofs.Ytagbikgfkakbfaa
open Go.RowKit
set_option linter.unusedSimpArgs false
set_option linter.unusedVariables false
structure PE where
 src : Nat
 dst : Nat
 wt : Int
def upd {α : Type} (f : Nat → α) (i : Nat) (x : α) : Nat → α := fun j => if j = i then x else f j
def Pot (es : List PE) (p : Nat → Int) : Prop := (∀ v, 0 ≤ p v) ∧ ∀ e ∈ es, p e.src + e.wt ≤ p e.dst
/-! ### the in-place rounds -/
structure PS where
 m : Nat → Int
 b : Nat → Int
 last : Int
def pstep (s : PS) (k : Nat) (e : PE) : PS :=
 if s.m e.dst < s.m e.src + e.wt then ⟨upd s.m e.dst (s.m e.src + e.wt), upd s.b e.dst k, e.dst⟩ else s
def prun : List PE → Nat → PS → PS
 | [], _, s => s
 | e :: es, k, s => prun es (k + 1) (pstep s k e)
def pround (es : List PE) (s : PS) : PS := prun es 0 { s with last := -1 }
def psolve (es : List PE) : Nat → PS → PS
 | 0, s => s
 | n + 1, s => if (pround es s).last < 0 then pround es s else psolve es n (pround es s)
def pzero : PS := ⟨fun _ => 0, fun _ => -1, -1⟩
theorem pstep_le (s : PS) (k : Nat) (e : PE) (v : Nat) : s.m v ≤ (pstep s k e).m v := by
 unfold pstep; split
 · simp only [upd]; split
   · subst v; omega
   · omega
 · omega
theorem prun_le (es : List PE) : ∀ (k : Nat) (s : PS) (v : Nat), s.m v ≤ (prun es k s).m v := by
 induction es with
 | nil => intro k s v; exact Int.le_refl _
 | cons e es ih => intro k s v; exact Int.le_trans (pstep_le s k e v) (ih _ _ v)
theorem pround_le (es : List PE) (s : PS) (v : Nat) : s.m v ≤ (pround es s).m v := prun_le es 0 { s with last := -1 } v
theorem pstep_pot {s : PS} {p : Nat → Int} {es : List PE} (hp : Pot es p) (k : Nat) {e : PE} (he : e ∈ es) (hs : ∀ v, s.m v ≤ p v) (v : Nat) : (pstep s k e).m v ≤ p v := by
 unfold pstep; split
 · simp only [upd]; split
   · subst v; have := hp.2 e he; have := hs e.src; omega
   · exact hs v
 · exact hs v
theorem prun_pot {p : Nat → Int} {es : List PE} (hp : Pot es p) : ∀ (l : List PE) (k : Nat) (s : PS), (∀ e ∈ l, e ∈ es) → (∀ v, s.m v ≤ p v) → ∀ v, (prun l k s).m v ≤ p v := by
 intro l
 induction l with
 | nil => intro k s _ hs v; exact hs v
 | cons e l ih => intro k s hl hs v; exact ih _ _ (fun x hx => hl x (List.mem_cons_of_mem _ hx)) (pstep_pot hp k (hl e (by simp)) hs) v
theorem pround_pot {p : Nat → Int} {es : List PE} (hp : Pot es p) {s : PS} (hs : ∀ v, s.m v ≤ p v) (v : Nat) : (pround es s).m v ≤ p v :=
 prun_pot hp es 0 { s with last := -1 } (fun _ h => h) hs v
theorem pstep_last (s : PS) (k : Nat) (e : PE) : (pstep s k e).last = s.last ∨ (pstep s k e).last = e.dst := by
 unfold pstep; split <;> simp
theorem prun_last_ge (es : List PE) : ∀ (k : Nat) (s : PS), 0 ≤ s.last → 0 ≤ (prun es k s).last := by
 induction es with
 | nil => intro k s h; exact h
 | cons e es ih =>
   intro k s h
   refine ih _ _ ?_
   rcases pstep_last s k e with h1 | h1 <;> rw [h1] <;> omega
theorem prun_still (es : List PE) : ∀ (k : Nat) (s : PS), (prun es k s).last < 0 → prun es k s = s ∧ ∀ e ∈ es, s.m e.src + e.wt ≤ s.m e.dst := by
 induction es with
 | nil => intro k s h; exact ⟨rfl, by simp⟩
 | cons e es ih =>
   intro k s h
   have hn : ¬ s.m e.dst < s.m e.src + e.wt := by
    intro hlt
    have h1 : (pstep s k e).last = e.dst := by simp [pstep, hlt]
    have := prun_last_ge es (k + 1) (pstep s k e) (by rw [h1]; omega)
    simp only [prun] at h
    omega
   have hs : pstep s k e = s := by simp [pstep, hn]
   simp only [prun, hs] at h ⊢
   obtain ⟨h1, h2⟩ := ih (k + 1) s h
   refine ⟨h1, fun x hx => ?_⟩
   rcases List.mem_cons.1 hx with rfl | hx
   · omega
   · exact h2 x hx
theorem psolve_le_pot {p : Nat → Int} {es : List PE} (hp : Pot es p) : ∀ (n : Nat) (s : PS), (∀ v, s.m v ≤ p v) → ∀ v, (psolve es n s).m v ≤ p v := by
 intro n
 induction n with
 | zero => intro s hs v; exact hs v
 | succ n ih =>
   intro s hs v
   unfold psolve; split
   · exact pround_pot hp hs v
   · exact ih _ (pround_pot hp hs) v
theorem psolve_ge (es : List PE) : ∀ (n : Nat) (s : PS) (v : Nat), s.m v ≤ (psolve es n s).m v := by
 intro n
 induction n with
 | zero => intro s v; exact Int.le_refl _
 | succ n ih =>
   intro s v
   unfold psolve; split
   · exact pround_le es s v
   · exact Int.le_trans (pround_le es s v) (ih _ v)
theorem psolve_done (es : List PE) : ∀ (n : Nat) (s : PS), 0 < n → (psolve es n s).last < 0 → ∀ e ∈ es, (psolve es n s).m e.src + e.wt ≤ (psolve es n s).m e.dst := by
 intro n
 induction n with
 | zero => intro s h; omega
 | succ n ih =>
   intro s _ h
   unfold psolve at h ⊢
   split at h
   · rename_i h1
     rw [if_pos h1]
     obtain ⟨h2, h3⟩ := prun_still es 0 { s with last := -1 } h1
     have e : pround es s = { s with last := -1 } := h2
     rw [e]
     exact h3
   · rename_i h1
     rw [if_neg h1]
     cases n with
     | zero => exact absurd h h1
     | succ n => exact ih _ (by omega) h
theorem psolve_pot (es : List PE) (n : Nat) (h : (psolve es (n + 1) pzero).last < 0) : Pot es (psolve es (n + 1) pzero).m :=
 ⟨fun v => psolve_ge es (n + 1) pzero v, psolve_done es (n + 1) pzero (by omega) h⟩
/-! ### the rounds of the reference: all at once -/
def sfold (es : List PE) (m : Nat → Int) (nx : Nat → Int) : Nat → Int :=
 es.foldl (fun nx e => upd nx e.dst (max (nx e.dst) (m e.src + e.wt))) nx
def sround (es : List PE) (m : Nat → Int) : Nat → Int := sfold es m m
def siter (es : List PE) : Nat → Nat → Int
 | 0 => fun _ => 0
 | k + 1 => sround es (siter es k)
theorem sfold_ge (m : Nat → Int) (es : List PE) : ∀ (nx : Nat → Int) (v : Nat), nx v ≤ sfold es m nx v := by
 induction es with
 | nil => intro nx v; exact Int.le_refl _
 | cons e es ih =>
   intro nx v
   refine Int.le_trans ?_ (ih (upd nx e.dst (max (nx e.dst) (m e.src + e.wt))) v)
   simp only [upd]; split
   · subst v; omega
   · omega
theorem sfold_edge (m : Nat → Int) (es : List PE) : ∀ (nx : Nat → Int), ∀ e ∈ es, m e.src + e.wt ≤ sfold es m nx e.dst := by
 induction es with
 | nil => intro nx e h; simp at h
 | cons d es ih =>
   intro nx e h
   rcases List.mem_cons.1 h with rfl | h
   · refine Int.le_trans ?_ (sfold_ge m es (upd nx e.dst (max (nx e.dst) (m e.src + e.wt))) e.dst)
     simp [upd]; omega
   · exact ih _ e h
theorem sfold_from (m : Nat → Int) (es : List PE) : ∀ (nx : Nat → Int) (v : Nat), sfold es m nx v = nx v ∨ ∃ e ∈ es, e.dst = v ∧ sfold es m nx v = m e.src + e.wt := by
 induction es with
 | nil => intro nx v; exact .inl rfl
 | cons d es ih =>
   intro nx v
   rcases ih (upd nx d.dst (max (nx d.dst) (m d.src + d.wt))) v with h | ⟨e, he, hv, h⟩
   · simp only [sfold, List.foldl_cons] at h ⊢
     rw [h]
     by_cases hv : v = d.dst
     · subst hv
       simp only [upd, if_pos]
       rcases Int.le_total (nx d.dst) (m d.src + d.wt) with h1 | h1
       · exact .inr ⟨d, by simp, rfl, by omega⟩
       · exact .inl (by omega)
     · exact .inl (by simp [upd, hv])
   · exact .inr ⟨e, List.mem_cons_of_mem _ he, hv, h⟩
theorem siter_mono (es : List PE) (k : Nat) (v : Nat) : siter es k v ≤ siter es (k + 1) v := sfold_ge _ es _ v
theorem siter_le (es : List PE) (j k : Nat) (h : j ≤ k) (v : Nat) : siter es j v ≤ siter es k v := by
 induction h with
 | refl => exact Int.le_refl _
 | step _ ih => exact Int.le_trans ih (siter_mono es _ v)
theorem siter_pot {es : List PE} {p : Nat → Int} (hp : Pot es p) (k : Nat) : ∀ v, siter es k v ≤ p v := by
 induction k with
 | zero => exact hp.1
 | succ k ih =>
   intro v
   rcases sfold_from (siter es k) es (siter es k) v with h | ⟨e, he, hv, h⟩
   · show sfold es (siter es k) (siter es k) v ≤ p v
     rw [h]; exact ih v
   · show sfold es (siter es k) (siter es k) v ≤ p v
     rw [h, ← hv]
     have := hp.2 e he; have := ih e.src; omega
/-! ### pigeons; chains; walks -/
theorem pigeon : ∀ (N : Nat) (f : Nat → Nat), (∀ i, i ≤ N → f i < N) → ∃ i j, i < j ∧ j ≤ N ∧ f i = f j := by
 intro N
 induction N with
 | zero => intro f h; exact absurd (h 0 (Nat.le_refl _)) (by omega)
 | succ N ih =>
   intro f h
   by_cases hc : ∃ i, i ≤ N ∧ f i = f (N + 1)
   · obtain ⟨i, hi, he⟩ := hc
     exact ⟨i, N + 1, by omega, Nat.le_refl _, he⟩
   · have hne : ∀ i, i ≤ N → f i ≠ f (N + 1) := fun i hi he => hc ⟨i, hi, he⟩
     have hl := h (N + 1) (Nat.le_refl _)
     obtain ⟨i, j, hij, hj, he⟩ := ih (fun i => if f (N + 1) < f i then f i - 1 else f i) (by
      intro i hi
      have h1 := hne i hi
      have h2 := h i (by omega)
      show (if f (N + 1) < f i then f i - 1 else f i) < N
      split <;> omega)
     refine ⟨i, j, hij, by omega, ?_⟩
     have h1 := hne i (by omega)
     have h2 := hne j (by omega)
     have h3 : (if f (N + 1) < f i then f i - 1 else f i) = (if f (N + 1) < f j then f j - 1 else f j) := he
     split at h3 <;> split at h3 <;> omega
def IsWalk (es : List PE) : Nat → List PE → Nat → Prop
 | u, [], v => u = v
 | u, e :: l, v => e ∈ es ∧ e.src = u ∧ IsWalk es e.dst l v
def wsum (l : List PE) : Int := (l.map PE.wt).sum
theorem wsum_nil : wsum [] = 0 := rfl
theorem wsum_cons (e : PE) (l : List PE) : wsum (e :: l) = e.wt + wsum l := by simp [wsum]
theorem wsum_append (a b : List PE) : wsum (a ++ b) = wsum a + wsum b := by simp [wsum]
theorem IsWalk.append {es : List PE} : ∀ {a b : List PE} {u v x : Nat}, IsWalk es u a v → IsWalk es v b x → IsWalk es u (a ++ b) x := by
 intro a
 induction a with
 | nil => intro b u v x h1 h2; have : u = v := h1; subst this; exact h2
 | cons e a ih => intro b u v x h1 h2; exact ⟨h1.1, h1.2.1, ih h1.2.2 h2⟩
theorem IsWalk.pot {es : List PE} {p : Nat → Int} (hp : ∀ e ∈ es, p e.src + e.wt ≤ p e.dst) : ∀ {l : List PE} {u v : Nat}, IsWalk es u l v → p u + wsum l ≤ p v := by
 intro l
 induction l with
 | nil => intro u v h; have : u = v := h; subst this; simp [wsum]
 | cons e l ih =>
   intro u v h
   have h1 := ih h.2.2
   have h2 := hp e h.1
   have h3 := h.2.1
   subst h3
   rw [wsum_cons]; omega
theorem pot_no_cycle {es : List PE} {p : Nat → Int} (hp : Pot es p) {l : List PE} {u : Nat} (h : IsWalk es u l u) : wsum l ≤ 0 := by
 have := IsWalk.pot hp.2 h; omega
theorem siter_walk (es : List PE) : ∀ (k v : Nat), ∃ u l, IsWalk es u l v ∧ l.length ≤ k ∧ siter es k v = wsum l := by
 intro k
 induction k with
 | zero => intro v; exact ⟨v, [], rfl, Nat.le_refl _, rfl⟩
 | succ k ih =>
   intro v
   rcases sfold_from (siter es k) es (siter es k) v with h | ⟨e, he, hv, h⟩
   · obtain ⟨u, l, h1, h2, h3⟩ := ih v
     exact ⟨u, l, h1, by omega, h.trans h3⟩
   · obtain ⟨u, l, h1, h2, h3⟩ := ih e.src
     refine ⟨u, l ++ [e], IsWalk.append h1 ⟨he, rfl, hv⟩, by simp; omega, ?_⟩
     rw [wsum_append, wsum_cons, wsum_nil, ← h3]
     show sfold es (siter es k) (siter es k) v = _
     rw [h]; omega
theorem siter_ge_walk_aux (es : List PE) : ∀ (l : List PE) (k u v : Nat), IsWalk es u l v → siter es k u + wsum l ≤ siter es (k + l.length) v := by
 intro l
 induction l with
 | nil => intro k u v h; have : u = v := h; subst this; simp [wsum]
 | cons e l ih =>
   intro k u v h
   have h1 := ih (k + 1) e.dst v h.2.2
   have h2 : siter es k e.src + e.wt ≤ siter es (k + 1) e.dst := sfold_edge (siter es k) es (siter es k) e h.1
   have h3 := h.2.1
   subst h3
   rw [wsum_cons, List.length_cons, show k + (l.length + 1) = k + 1 + l.length from by omega]
   omega
theorem siter_ge_walk (es : List PE) {l : List PE} {k u v : Nat} (h : IsWalk es u l v) (hk : l.length ≤ k) : wsum l ≤ siter es k v := by
 have h1 := siter_ge_walk_aux es l 0 u v h
 have h2 := siter_le es (0 + l.length) k (by omega) v
 have h3 : siter es 0 u = 0 := rfl
 omega
theorem siter_chain (es : List PE) : ∀ (k v : Nat), siter es k v < siter es (k + 1) v → ∃ c : Nat → Nat, c (k + 1) = v ∧
 ∀ i, i ≤ k → siter es i (c (i + 1)) < siter es (i + 1) (c (i + 1)) ∧ ∃ e ∈ es, e.src = c i ∧ e.dst = c (i + 1) ∧ siter es (i + 1) (c (i + 1)) = siter es i (c i) + e.wt := by
 intro k
 induction k with
 | zero =>
   intro v h
   rcases sfold_from (siter es 0) es (siter es 0) v with h1 | ⟨e, he, hv, h1⟩
   · have h2 : siter es (0 + 1) v = siter es 0 v := h1; omega
   · refine ⟨fun i => if i = 0 then e.src else v, rfl, fun i hi => ?_⟩
     obtain rfl : i = 0 := by omega
     exact ⟨h, e, he, rfl, hv, h1⟩
 | succ k ih =>
   intro v h
   rcases sfold_from (siter es (k + 1)) es (siter es (k + 1)) v with h1 | ⟨e, he, hv, h1⟩
   · have h2 : siter es (k + 1 + 1) v = siter es (k + 1) v := h1; omega
   · have h2 : siter es (k + 1 + 1) v = siter es (k + 1) e.src + e.wt := h1
     have h3 : siter es k e.src + e.wt ≤ siter es (k + 1) e.dst := sfold_edge (siter es k) es (siter es k) e he
     rw [hv] at h3
     obtain ⟨c, hc, hi⟩ := ih e.src (by omega)
     refine ⟨fun i => if i = k + 1 + 1 then v else c i, by simp, fun i hi' => ?_⟩
     by_cases hk : i = k + 1
     · subst hk
       have a : (fun i => if i = k + 1 + 1 then v else c i) (k + 1) = c (k + 1) := by simp
       have b : (fun i => if i = k + 1 + 1 then v else c i) (k + 1 + 1) = v := by simp
       rw [a, b, hc]
       exact ⟨h, e, he, rfl, hv, h2⟩
     · have a : (fun i => if i = k + 1 + 1 then v else c i) i = c i := by simp; omega
       have b : (fun i => if i = k + 1 + 1 then v else c i) (i + 1) = c (i + 1) := by simp; omega
       rw [a, b]
       exact hi i (by omega)
theorem chain_walk {es : List PE} {c : Nat → Nat} {S : Nat → Nat → Int} {k : Nat} (hc : ∀ i, i ≤ k → ∃ e ∈ es, e.src = c i ∧ e.dst = c (i + 1) ∧ S (i + 1) (c (i + 1)) = S i (c i) + e.wt) (i : Nat) :
 ∀ d, i + d ≤ k + 1 → ∃ l, IsWalk es (c i) l (c (i + d)) ∧ l.length = d ∧ S (i + d) (c (i + d)) = S i (c i) + wsum l := by
 intro d
 induction d with
 | zero => intro _; exact ⟨[], rfl, rfl, by simp [wsum]⟩
 | succ d ih =>
   intro h
   obtain ⟨l, h1, h2, h3⟩ := ih (by omega)
   obtain ⟨e, he, ha, hb, hd⟩ := hc (i + d) (by omega)
   refine ⟨l ++ [e], IsWalk.append h1 ⟨he, ha, hb⟩, by simp [h2], ?_⟩
   rw [wsum_append, wsum_cons, wsum_nil]
   show S (i + d + 1) (c (i + d + 1)) = _
   omega
def Inside (N : Nat) (es : List PE) : Prop := ∀ e ∈ es, e.src < N ∧ e.dst < N
theorem siter_cycle {es : List PE} {N k v : Nat} (hin : Inside N es) (hN : N ≤ k + 1) (h : siter es k v < siter es (k + 1) v) :
 ∃ u l, IsWalk es u l u ∧ 1 ≤ l.length ∧ l.length ≤ N ∧ 0 < wsum l := by
 obtain ⟨c, hc, hi⟩ := siter_chain es k v h
 have hlt : ∀ i, i ≤ k + 1 → c i < N := by
  intro i hik
  rcases Nat.lt_or_ge i (k + 1) with h1 | h1
  · obtain ⟨_, e, he, ha, _, _⟩ := hi i (by omega)
    rw [← ha]; exact (hin e he).1
  · obtain rfl : i = k + 1 := by omega
    obtain ⟨_, e, he, _, hb, _⟩ := hi k (by omega)
    rw [← hb]; exact (hin e he).2
 obtain ⟨i, j, hij, hj, he⟩ := pigeon N c (fun i hi => hlt i (by omega))
 obtain ⟨l, h1, h2, h3⟩ := chain_walk (S := siter es) (fun i hik => (hi i hik).2) i (j - i) (by omega)
 rw [show i + (j - i) = j from by omega] at h1 h3
 rw [he] at h1 h3
 refine ⟨c j, l, h1, by omega, by omega, ?_⟩
 have h4 := (hi (j - 1) (by omega)).1
 rw [show j - 1 + 1 = j from by omega] at h4
 have h5 := siter_le es i (j - 1) (by omega) (c j)
 omega
theorem siter_still {es : List PE} {N k : Nat} {p : Nat → Int} (hin : Inside N es) (hN : N ≤ k + 1) (hp : Pot es p) (v : Nat) : siter es (k + 1) v = siter es k v := by
 rcases Int.lt_or_le (siter es k v) (siter es (k + 1) v) with h | h
 · obtain ⟨u, l, h1, _, _, h4⟩ := siter_cycle hin hN h
   have := pot_no_cycle hp h1; omega
 · have := siter_mono es k v; omega
theorem siter_fix {es : List PE} {k : Nat} (h : ∀ v, siter es (k + 1) v = siter es k v) : Pot es (siter es k) :=
 ⟨fun v => by have := siter_le es 0 k (by omega) v; exact this, fun e he => by
  have h1 : siter es k e.src + e.wt ≤ siter es (k + 1) e.dst := sfold_edge (siter es k) es (siter es k) e he
  rw [h] at h1; exact h1⟩
theorem siter_fix_mem {es : List PE} {k : Nat} (h : ∀ e ∈ es, siter es (k + 1) e.dst = siter es k e.dst) : Pot es (siter es k) :=
 ⟨fun v => by have := siter_le es 0 k (by omega) v; exact this, fun e he => by
  have h1 : siter es k e.src + e.wt ≤ siter es (k + 1) e.dst := sfold_edge (siter es k) es (siter es k) e he
  rw [h e he] at h1; exact h1⟩
theorem prun_edge (es : List PE) : ∀ (k : Nat) (s : PS) (m : Nat → Int), (∀ v, m v ≤ s.m v) → ∀ e ∈ es, m e.src + e.wt ≤ (prun es k s).m e.dst := by
 induction es with
 | nil => intro k s m _ e h; simp at h
 | cons d es ih =>
   intro k s m hm e h
   rcases List.mem_cons.1 h with rfl | h
   · refine Int.le_trans ?_ (prun_le es (k + 1) (pstep s k e) e.dst)
     have := hm e.src
     unfold pstep; split
     · simp [upd]; omega
     · omega
   · exact ih (k + 1) (pstep s k d) m (fun v => Int.le_trans (hm v) (pstep_le s k d v)) e h
theorem pround_ge_sround (es : List PE) (s : PS) (m : Nat → Int) (hm : ∀ v, m v ≤ s.m v) (v : Nat) : sround es m v ≤ (pround es s).m v := by
 rcases sfold_from m es m v with h | ⟨e, he, hv, h⟩
 · show sfold es m m v ≤ _
   rw [h]; exact Int.le_trans (hm v) (pround_le es s v)
 · show sfold es m m v ≤ _
   rw [h, ← hv]; exact prun_edge es 0 { s with last := -1 } m hm e he
def piter (es : List PE) : Nat → PS
 | 0 => pzero
 | k + 1 => pround es (piter es k)
theorem piter_ge_siter (es : List PE) (k : Nat) (v : Nat) : siter es k v ≤ (piter es k).m v := by
 induction k generalizing v with
 | zero => exact Int.le_refl _
 | succ k ih => exact pround_ge_sround es (piter es k) (siter es k) ih v
theorem piter_pot {es : List PE} {p : Nat → Int} (hp : Pot es p) (k : Nat) : ∀ v, (piter es k).m v ≤ p v := by
 induction k with
 | zero => exact hp.1
 | succ k ih => exact pround_pot hp ih
theorem piter_eq {es : List PE} {N k : Nat} {p : Nat → Int} (hin : Inside N es) (hN : N ≤ k + 1) (hp : Pot es p) (v : Nat) : (piter es k).m v = siter es k v := by
 have h1 := siter_fix (siter_still (k := k) hin hN hp)
 have h2 := piter_pot h1 k v
 have h3 := piter_ge_siter es k v
 omega
/-! ### in place: by which edge a node got more; a time for each turn -/
def PInv (es : List PE) (q k : Nat) (s : PS) : Prop :=
 ∃ T : Nat → Nat,
  (∀ v, T v ≤ q * es.length + k) ∧
  (∀ v, (T v = 0 ∧ s.b v = -1) ∨ (0 < T v ∧ ∃ (j : Nat) (e : PE), es[j]? = some e ∧ s.b v = (j : Int) ∧ e.dst = v ∧ s.m v ≤ s.m e.src + e.wt ∧ (T v ≤ T e.src → s.m v < s.m e.src + e.wt) ∧ T v ≤ T e.src + es.length)) ∧
  (∀ (j : Nat) (e : PE), es[j]? = some e → (if j < k then T e.src < q * es.length + j + 1 else 0 < q ∧ T e.src + es.length < q * es.length + j + 1) → s.m e.src + e.wt ≤ s.m e.dst) ∧
  (s.last = -1 ∨ ∃ v : Nat, s.last = (v : Int) ∧ q * es.length < T v)
theorem PInv.zero (es : List PE) : PInv es 0 0 pzero :=
 ⟨fun _ => 0, fun v => by simp, fun v => .inl ⟨rfl, rfl⟩, fun j e _ h => by simp at h, .inl rfl⟩
theorem PInv.next {es : List PE} {q : Nat} {s : PS} (h : PInv es q es.length s) : PInv es (q + 1) 0 { s with last := -1 } := by
 obtain ⟨T, h1, h2, h3, _⟩ := h
 have e1 : (q + 1) * es.length = q * es.length + es.length := by rw [Nat.add_mul, Nat.one_mul]
 refine ⟨T, fun v => by have := h1 v; omega, h2, fun j e hj hc => ?_, .inl rfl⟩
 have hl : j < es.length := (List.getElem?_eq_some_iff.1 hj).1
 refine h3 j e hj ?_
 rw [if_pos hl]
 simp only [Nat.not_lt_zero, if_false] at hc
 omega
theorem PInv.step {es : List PE} {q k : Nat} {s : PS} {e : PE} (he : es[k]? = some e) (h : PInv es q k s) : PInv es q (k + 1) (pstep s k e) := by
 obtain ⟨T, h1, h2, h3, h4⟩ := h
 have hl : k < es.length := (List.getElem?_eq_some_iff.1 he).1
 by_cases hu : s.m e.dst < s.m e.src + e.wt
 · have hs : pstep s k e = ⟨upd s.m e.dst (s.m e.src + e.wt), upd s.b e.dst k, e.dst⟩ := by simp [pstep, hu]
   have hT : q * es.length + k + 1 ≤ T e.src + es.length := by
    rcases Nat.lt_or_ge (T e.src + es.length) (q * es.length + k + 1) with hc | hc
    · have := h3 k e he (by
       rw [if_neg (by omega)]
       refine ⟨?_, hc⟩
       rcases Nat.eq_zero_or_pos q with h0 | h0
       · subst h0; simp at hc; omega
       · exact h0)
      omega
    · exact hc
   rw [hs]
   refine ⟨upd T e.dst (q * es.length + k + 1), fun v => ?_, fun v => ?_, fun j d hj hc => ?_, .inr ⟨e.dst, rfl, ?_⟩⟩
   · have := h1 v
     simp only [upd]; split <;> omega
   · by_cases hv : v = e.dst
     · subst hv
       refine .inr ⟨by simp [upd], k, e, he, by simp [upd], rfl, ?_, ?_, ?_⟩
       · simp only [upd, if_pos]
         split
         · rename_i hsd; rw [hsd] at hu ⊢; omega
         · omega
       · simp only [upd, if_pos]
         intro hle
         split at hle
         · rename_i hsd; rw [if_pos hsd]; rw [hsd] at hu ⊢; omega
         · have := h1 e.src; omega
       · simp only [upd, if_pos]
         split <;> omega
     · have hv' : ∀ (α : Type) (f : Nat → α) (x : α), upd f e.dst x v = f v := fun α f x => by simp [upd, hv]
       rcases h2 v with ⟨ha, hb⟩ | ⟨hp, j, d, hj, hb, hd, hm, hst, hlim⟩
       · exact .inl ⟨(hv' _ _ _).trans ha, (hv' _ _ _).trans hb⟩
       · refine .inr ⟨by rw [hv']; exact hp, j, d, hj, (hv' _ _ _).trans hb, hd, ?_, ?_, ?_⟩
         · show upd s.m e.dst (s.m e.src + e.wt) v ≤ upd s.m e.dst (s.m e.src + e.wt) d.src + d.wt
           rw [hv']
           simp only [upd]; split
           · rename_i hsd; rw [hsd] at hm; omega
           · exact hm
         · show upd T e.dst (q * es.length + k + 1) v ≤ upd T e.dst (q * es.length + k + 1) d.src → upd s.m e.dst (s.m e.src + e.wt) v < upd s.m e.dst (s.m e.src + e.wt) d.src + d.wt
           rw [hv', hv']
           simp only [upd]
           split
           · rename_i hsd; rw [hsd] at hm; intro _; omega
           · exact hst
         · rw [hv']
           have := h1 v
           simp only [upd]; split <;> omega
   · show upd s.m e.dst (s.m e.src + e.wt) d.src + d.wt ≤ upd s.m e.dst (s.m e.src + e.wt) d.dst
     have hjl : j < es.length := (List.getElem?_eq_some_iff.1 hj).1
     have hsrc : d.src ≠ e.dst := by
      intro hsd
      have ht : upd T e.dst (q * es.length + k + 1) d.src = q * es.length + k + 1 := by simp [upd, hsd]
      rw [ht] at hc
      split at hc <;> omega
     have ht : upd T e.dst (q * es.length + k + 1) d.src = T d.src := by simp [upd, hsrc]
     have hm0 : upd s.m e.dst (s.m e.src + e.wt) d.src = s.m d.src := by simp [upd, hsrc]
     rw [ht] at hc
     rw [hm0]
     by_cases hjk : j = k
     · subst hjk
       obtain rfl : e = d := by rw [he] at hj; injection hj
       simp [upd]
     · have h5 := h3 j d hj (by
        by_cases h6 : j < k
        · rw [if_pos h6]; rw [if_pos (by omega)] at hc; exact hc
        · rw [if_neg h6]; rw [if_neg (by omega)] at hc; exact hc)
       simp only [upd]; split
       · rename_i hdd; rw [hdd] at h5; omega
       · exact h5
   · simp [upd]; omega
 · have hs : pstep s k e = s := by simp [pstep, hu]
   rw [hs]
   refine ⟨T, fun v => by have := h1 v; omega, h2, fun j d hj hc => ?_, h4⟩
   by_cases hjk : j = k
   · subst hjk
     obtain rfl : e = d := by rw [he] at hj; injection hj
     omega
   · refine h3 j d hj ?_
     by_cases h6 : j < k
     · rw [if_pos h6]; rw [if_pos (by omega)] at hc; exact hc
     · rw [if_neg h6]; rw [if_neg (by omega)] at hc; exact hc
theorem PInv.run {es : List PE} {q : Nat} : ∀ (l : List PE) (k : Nat) (s : PS), es.drop k = l → k ≤ es.length → PInv es q k s → PInv es q es.length (prun l k s) := by
 intro l
 induction l with
 | nil =>
   intro k s hd hk h
   have : es.length ≤ k := List.drop_eq_nil_iff.1 hd
   obtain rfl : k = es.length := by omega
   exact h
 | cons e l ih =>
   intro k s hd hk h
   have hkl : k < es.length := by
    rcases Nat.lt_or_ge k es.length with h1 | h1
    · exact h1
    · rw [List.drop_of_length_le h1] at hd; cases hd
   have he : es[k]? = some e := by
    have := List.getElem?_drop (xs := es) (i := k) (j := 0)
    rw [hd] at this; simpa using this.symm
   refine ih (k + 1) (pstep s k e) ?_ (by omega) (h.step he)
   rw [← List.tail_drop, hd]; rfl
theorem PInv.iter (es : List PE) (q : Nat) : PInv es q es.length (piter es (q + 1)) := by
 induction q with
 | zero => exact PInv.run es 0 _ rfl (Nat.zero_le _) (PInv.zero es)
 | succ q ih =>
   show PInv es (q + 1) es.length (prun es 0 { piter es (q + 1) with last := -1 })
   exact PInv.run es 0 _ rfl (Nat.zero_le _) ih.next
theorem psolve_iter (es : List PE) : ∀ (n q : Nat), ∃ r, psolve es (n + 1) (piter es q) = piter es (q + r + 1) ∧ r ≤ n ∧ (0 ≤ (piter es (q + r + 1)).last → r = n) := by
 intro n
 induction n with
 | zero =>
   intro q
   refine ⟨0, ?_, Nat.le_refl _, fun _ => rfl⟩
   unfold psolve; split <;> rfl
 | succ n ih =>
   intro q
   by_cases h : (piter es (q + 1)).last < 0
   · refine ⟨0, ?_, by omega, fun h' => by rw [Nat.add_zero] at h'; omega⟩
     unfold psolve
     rw [if_pos (show (pround es (piter es q)).last < 0 from h)]; rfl
   · obtain ⟨r, h1, h2, h3⟩ := ih (q + 1)
     refine ⟨r + 1, ?_, by omega, fun h' => ?_⟩
     · unfold psolve
       rw [if_neg (show ¬ (pround es (piter es q)).last < 0 from h), show q + (r + 1) + 1 = q + 1 + r + 1 from by omega]
       exact h1
     · rw [show q + (r + 1) + 1 = q + 1 + r + 1 from by omega] at h'
       have := h3 h'; omega
structure Back (es : List PE) (N : Nat) (s : PS) (T : Nat → Nat) (v : Nat) : Prop where
 lt : v < N
 step : ∃ (j : Nat) (e : PE), es[j]? = some e ∧ s.b v = (j : Int) ∧ e.dst = v ∧ s.m v ≤ s.m e.src + e.wt ∧ (T v ≤ T e.src → s.m v < s.m e.src + e.wt)
def eby (es : List PE) (s : PS) (v : Nat) : PE := (es[(s.b v).toNat]?).getD ⟨0, 0, 0⟩
def prev (es : List PE) (s : PS) (v : Nat) : Nat := (eby es s v).src
def prevN (es : List PE) (s : PS) : Nat → Nat → Nat
 | 0, v => v
 | k + 1, v => prev es s (prevN es s k v)
theorem Back.info {es : List PE} {N : Nat} {s : PS} {T : Nat → Nat} {v : Nat} (h : Back es N s T v) :
 eby es s v ∈ es ∧ es[(s.b v).toNat]? = some (eby es s v) ∧ 0 ≤ s.b v ∧ (s.b v).toNat < es.length ∧ (eby es s v).dst = v ∧ s.m v ≤ s.m (prev es s v) + (eby es s v).wt ∧ (T v ≤ T (prev es s v) → s.m v < s.m (prev es s v) + (eby es s v).wt) := by
 obtain ⟨j, e, hj, hb, hd, h1, h2⟩ := h.step
 have e1 : (s.b v).toNat = j := by rw [hb]; simp
 have e2 : eby es s v = e := by unfold eby; rw [e1, hj]; rfl
 unfold prev
 rw [e2, e1]
 exact ⟨List.mem_of_getElem? hj, hj, by rw [hb]; omega, (List.getElem?_eq_some_iff.1 hj).1, hd, h1, h2⟩
end Go.Proofs.Ytagbikgfkakbfaa
namespace Go.Proofs.Ytagbikgfkakbfaa
open Go.RowKit
set_option linter.unusedSimpArgs false
set_option linter.unusedVariables false
theorem prevN_add (es : List PE) (s : PS) (a v : Nat) : ∀ b, prevN es s (a + b) v = prevN es s b (prevN es s a v)
 | 0 => rfl
 | b + 1 => by show prev es s (prevN es s (a + b) v) = prev es s (prevN es s b (prevN es s a v)); rw [prevN_add es s a v b]
def TInv (es : List PE) (s : PS) (T : Nat → Nat) : Prop := ∀ v, 0 < T v → ∃ (j : Nat) (e : PE), es[j]? = some e ∧ s.b v = (j : Int) ∧ e.dst = v ∧ s.m v ≤ s.m e.src + e.wt ∧ (T v ≤ T e.src → s.m v < s.m e.src + e.wt) ∧ T v ≤ T e.src + es.length
theorem TInv.back {es : List PE} {s : PS} {T : Nat → Nat} {N v : Nat} (h : TInv es s T) (hin : Inside N es) (hv : 0 < T v) : Back es N s T v ∧ T v ≤ T (prev es s v) + es.length := by
 obtain ⟨j, e, hj, hb, hd, h1, h2, h3⟩ := h v hv
 have hl : v < N := by have := (hin e (List.mem_of_getElem? hj)).2; omega
 have e1 : (s.b v).toNat = j := by rw [hb]; simp
 have e2 : eby es s v = e := by unfold eby; rw [e1, hj]; rfl
 exact ⟨⟨hl, j, e, hj, hb, hd, h1, h2⟩, by unfold prev; rw [e2]; exact h3⟩
theorem TInv.far {es : List PE} {s : PS} {T : Nat → Nat} {N v : Nat} (h : TInv es s T) (hin : Inside N es) (hv : N * es.length < T v) : ∀ i, i ≤ N → (N - i) * es.length < T (prevN es s i v)
 | 0, _ => by show (N - 0) * es.length < T v; simpa using hv
 | i + 1, hi => by
   have ih := TInv.far h hin hv i (by omega)
   have h1 := (h.back hin (show 0 < T (prevN es s i v) by omega)).2
   have h2 : (N - i) * es.length = (N - (i + 1)) * es.length + es.length := by
    rw [show N - i = (N - (i + 1)) + 1 by omega, Nat.add_mul, Nat.one_mul]
   show _ < T (prev es s (prevN es s i v))
   omega
def backW (es : List PE) (s : PS) (u : Nat) : Nat → Int
 | 0 => 0
 | k + 1 => backW es s u k + (eby es s (prevN es s k u)).wt
theorem backW_ge {es : List PE} {N : Nat} {s : PS} {T : Nat → Nat} {u : Nat} (h : ∀ k, Back es N s T (prevN es s k u)) : ∀ k, s.m u ≤ s.m (prevN es s k u) + backW es s u k ∧ (s.m u < s.m (prevN es s k u) + backW es s u k ∨ T (prevN es s k u) + k ≤ T u)
 | 0 => ⟨by simp [backW, prevN], .inr (Nat.le_refl _)⟩
 | k + 1 => by
   obtain ⟨h1, h2⟩ := backW_ge h k
   obtain ⟨_, _, _, _, _, h3, h4⟩ := (h k).info
   have e1 : prevN es s (k + 1) u = prev es s (prevN es s k u) := rfl
   have e2 : backW es s u (k + 1) = backW es s u k + (eby es s (prevN es s k u)).wt := rfl
   rw [e1, e2]
   refine ⟨by omega, ?_⟩
   by_cases hT : T (prevN es s k u) ≤ T (prev es s (prevN es s k u))
   · have := h4 hT; left; omega
   · rcases h2 with h2 | h2
     · left; omega
     · right; omega
theorem least_pos {P : Nat → Prop} : ∀ p, 0 < p → P p → ∃ q, 0 < q ∧ q ≤ p ∧ P q ∧ ∀ k, 0 < k → k < q → ¬ P k := by
 intro p
 induction p using Nat.strongRecOn with
 | ind p ih =>
   intro hp h
   by_cases hx : ∃ k, 0 < k ∧ k < p ∧ P k
   · obtain ⟨k, h1, h2, h3⟩ := hx
     obtain ⟨q, q1, q2, q3, q4⟩ := ih k h2 h1 h3
     exact ⟨q, q1, by omega, q3, q4⟩
   · exact ⟨p, hp, Nat.le_refl _, h, fun k h1 h2 h3 => hx ⟨k, h1, h2, h3⟩⟩
structure Found (es : List PE) (N : Nat) (s : PS) (v p : Nat) : Prop where
 last : s.last = (v : Int)
 on : ∀ k, prevN es s k v < N ∧ 0 ≤ s.b (prevN es s k v) ∧ es[(s.b (prevN es s k v)).toNat]? = some (eby es s (prevN es s k v)) ∧ (s.b (prevN es s k v)).toNat < es.length ∧ (eby es s (prevN es s k v)).dst = prevN es s k v
 pos : 0 < p
 le : p ≤ N
 back : prevN es s p (prevN es s N v) = prevN es s N v
 first : ∀ k, 0 < k → k < p → prevN es s k (prevN es s N v) ≠ prevN es s N v
 more : 0 < backW es s (prevN es s N v) p
theorem found {es : List PE} {N : Nat} (hin : Inside N es) (hl : 0 ≤ (piter es (N + 1)).last) : ∃ v p, Found es N (piter es (N + 1)) v p := by
 obtain ⟨T, _, h2, _, h4⟩ := PInv.iter es N
 generalize piter es (N + 1) = s at *
 have hT : TInv es s T := fun v hv => by
  rcases h2 v with ⟨h, _⟩ | ⟨_, h⟩
  · omega
  · exact h
 rcases h4 with h4 | ⟨v, hv, h4⟩
 · omega
 have far := hT.far hin h4
 have bk : ∀ i, i ≤ N → Back es N s T (prevN es s i v) := fun i hi => (hT.back hin (by have := far i hi; omega)).1
 obtain ⟨i, j, hij, hjN, he⟩ := pigeon N (fun i => prevN es s i v) (fun i hi => (bk i hi).lt)
 have he : prevN es s i v = prevN es s j v := he
 have per : ∀ d, prevN es s (i + d) v = prevN es s (j + d) v := fun d => by rw [prevN_add, prevN_add, he]
 have all : ∀ k, Back es N s T (prevN es s k v) := by
  intro k
  induction k using Nat.strongRecOn with
  | ind k ih =>
    by_cases hk : k ≤ N
    · exact bk k hk
    · have h5 := per (k - j)
      rw [show j + (k - j) = k by omega] at h5
      rw [← h5]
      exact ih _ (by omega)
 have hp : prevN es s (j - i) (prevN es s N v) = prevN es s N v := by
  have h5 := per (N - i)
  rw [show i + (N - i) = N by omega, show j + (N - i) = N + (j - i) by omega, prevN_add] at h5
  exact h5.symm
 obtain ⟨p, p1, p2, p3, p4⟩ := least_pos (P := fun k => prevN es s k (prevN es s N v) = prevN es s N v) (j - i) (by omega) hp
 have p3 : prevN es s p (prevN es s N v) = prevN es s N v := p3
 refine ⟨v, p, hv, fun k => ?_, p1, by omega, p3, p4, ?_⟩
 · obtain ⟨_, a2, a3, a4, a5, _, _⟩ := (all k).info
   exact ⟨(all k).lt, a3, a2, a4, a5⟩
 · obtain ⟨g1, g2⟩ := backW_ge (es := es) (N := N) (s := s) (T := T) (u := prevN es s N v) (fun k => by rw [← prevN_add]; exact all _) p
   rw [p3] at g1 g2
   omega
end Go.Proofs.Ytagbikgfkakbfaa
namespace Go.Proofs.Ytagbikgfkakbfaa
open Go.RowKit
set_option linter.unusedSimpArgs false
set_option linter.unusedVariables false
def fitI (a : Int) : Int := if a < 0 then 0 else if 1152921504606846976 < a then 1152921504606846976 else a
def plusI (a b : Int) : Int := if 1152921504606846976 < fitI a + fitI b then 1152921504606846976 else fitI a + fitI b
def lessI (a b : Int) : Int := if fitI b = 1152921504606846976 then 0 else if fitI a < fitI b then 0 else if fitI a = 1152921504606846976 then 1152921504606846976 else fitI a - fitI b
theorem fit_ge (a : Int) : 0 ≤ fitI a := by unfold fitI; omega
theorem fit_le (a : Int) : fitI a ≤ 1152921504606846976 := by unfold fitI; omega
theorem fit_fit (a : Int) : fitI (fitI a) = fitI a := by unfold fitI; omega
theorem plus_ge (a b : Int) : 0 ≤ plusI a b := by have := fit_ge a; have := fit_ge b; unfold plusI; omega
theorem plus_le (a b : Int) : plusI a b ≤ 1152921504606846976 := by unfold plusI; omega
theorem less_ge (a b : Int) : 0 ≤ lessI a b := by have := fit_ge b; unfold lessI; omega
theorem less_le (a b : Int) : lessI a b ≤ 1152921504606846976 := by have := fit_ge b; have := fit_le a; unfold lessI; omega
theorem fit_plus (a b : Int) : fitI (plusI a b) = plusI a b := by have := plus_ge a b; have := plus_le a b; unfold fitI; omega
theorem fit_less (a b : Int) : fitI (lessI a b) = lessI a b := by have := less_ge a b; have := less_le a b; unfold fitI; omega
end Go.Proofs.Ytagbikgfkakbfaa
