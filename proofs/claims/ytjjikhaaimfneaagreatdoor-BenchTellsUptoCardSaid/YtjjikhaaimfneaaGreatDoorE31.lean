/-
  Lemmas and walks for the statement: StTell, StGraph1.
-/
import Derived.Test.YtjjikhaaimfneaaGreatDoorE30
namespace Go.Proofs.YtjjikhaaimfneaaGreatDoor
open Go.RowKit
set_option linter.unusedSimpArgs false
set_option linter.unusedVariables false
theorem infoEdge : (Tryz.prog.info? 86).map (fun i => (i.zero, i.size, i.bytes)) = some (some (.agg #[.int .i64 0, .int .i64 0, .int .i64 0]), 3, 24) := by kernel_rfl
theorem laysEdge (x y z : Int) (w : World) : (Instr.buildSlice 55 1 #[(0, .agg #[.int .i64 x, .int .i64 y, .int .i64 z])]).run Tryz.prog w = .ok (.slice (some ⟨w.heap.size, 0, none⟩) 1 1) (w.alloc (.cells #[.int .i64 x, .int .i64 y, .int .i64 z] 86)) := by kernel_rfl
def wtE (who ratio : Int) (us : List Int) : Int := us.getD (2 + who.toNat) 0 - ratio * us.getD (2 + (1 - who).toNat) 0
def flatE (who ratio : Int) (es : List Edg) : List Value := es.flatMap fun E => [.int .i64 E.f, .int .i64 E.t, .int .i64 (wtE who ratio E.us)]
theorem flatE_snoc (who ratio : Int) (es : List Edg) (E : Edg) : flatE who ratio (es ++ [E]) = flatE who ratio es ++ [.int .i64 E.f, .int .i64 E.t, .int .i64 (wtE who ratio E.us)] := by simp [flatE]
structure GrAt (who ratio : Int) (GB HB QB : Nat) (v : Value) (es : List Edg) (w : World) : Prop where
 c0 : w.cell? ⟨GB, 0, none⟩ = some (.int .i64 0)
 c1 : w.cell? ⟨GB, 1, none⟩ = some v
 fz : ∀ j, w.frozen? ⟨GB, j, none⟩ = false
 h : w.cell? ⟨HB, 0, none⟩ = some (.int .i64 who)
 q : w.cell? ⟨QB, 0, none⟩ = some (.int .i64 ratio)
 row : w.ownsRow (GB + 1) 86 3 v es.length (flatE who ratio es)
 gh : HB < GB
 gq : QB < GB
def GFoot (GB HB QB : Nat) (v : Value) (b : Nat) : Prop := b = GB ∨ b = HB ∨ b = QB ∨ v.ownBlock = some b
def TG (who ratio : Int) (GB HB QB : Nat) (es : List Edg) (F : Nat → Prop) (w : World) : Prop := ∃ v, GrAt who ratio GB HB QB v es w ∧ F = GFoot GB HB QB v
theorem cell_cells {w : World} {a : Addr} {v : Value} (h : w.cell? a = some v) {o : Obj} (ho : w.heap[a.block]? = some o) : o.isCells = true := by
 unfold World.cell? at h
 rw [ho] at h
 cases o <;> first | rfl | (simp at h)
theorem GrAt.foot {who ratio : Int} {GB HB QB : Nat} {v : Value} {es : List Edg} {w : World} (g : GrAt who ratio GB HB QB v es w) {b : Nat} (hb : GFoot GB HB QB v b) : b < w.heap.size ∧ ∀ o, w.heap[b]? = some o → o.isCells = true := by
 rcases hb with rfl | rfl | rfl | hb
 · exact ⟨World.block_lt_of_cell? w _ g.c0, fun o ho => cell_cells g.c0 ho⟩
 · exact ⟨World.block_lt_of_cell? w _ g.h, fun o ho => cell_cells g.h ho⟩
 · exact ⟨World.block_lt_of_cell? w _ g.q, fun o ho => cell_cells g.q ho⟩
 · exact ⟨(rows_lt g.row b hb).2, fun o ho => own_cells g.row hb ho⟩
theorem GrAt.kept {who ratio : Int} {GB HB QB : Nat} {v : Value} {es : List Edg} {w w' : World} (g : GrAt who ratio GB HB QB v es w) (hk : ∀ b, GFoot GB HB QB v b → w'.heap[b]? = w.heap[b]?) : GrAt who ratio GB HB QB v es w' := by
 have kc : ∀ b j, GFoot GB HB QB v b → w'.cell? ⟨b, j, none⟩ = w.cell? ⟨b, j, none⟩ := fun b j hb => World.cell?_of_block (w := w) (a := ⟨b, j, none⟩) (hk b hb)
 exact ⟨(kc GB 0 (.inl rfl)).trans g.c0, (kc GB 1 (.inl rfl)).trans g.c1, fun j => (World.frozen?_of_block (w := w) (a := ⟨GB, j, none⟩) (hk GB (.inl rfl))).trans (g.fz j), (kc HB 0 (.inr (.inl rfl))).trans g.h, (kc QB 0 (.inr (.inr (.inl rfl)))).trans g.q,
  rows_kept g.row (fun b hb => hk b (.inr (.inr (.inr hb)))), g.gh, g.gq⟩
end Go.Proofs.YtjjikhaaimfneaaGreatDoor
namespace Go.Proofs.YtjjikhaaimfneaaGreatDoor
open Go.RowKit
set_option linter.unusedSimpArgs false
set_option linter.unusedVariables false
attribute [local go_sem] iteMin iteMax iteMinN iteMaxN
theorem ch1_keep {V W : World} {c1 : Ch} (h : Frm V [c1] W) {b : Nat} (hb : b < V.heap.size) (hn : c1.v.ownBlock ≠ some b) : W.heap[b]? = V.heap[b]? := h.block b hb (fun i c hc => by
 have h1 : i = 0 := by have := (List.getElem?_eq_some_iff.1 hc).1; simp at this; exact this
 subst h1
 obtain rfl : c1 = c := by simpa using hc
 exact hn)
theorem ch1_F {V : World} {GB HB QB S n cp : Nat} {a : Option Addr} {who ratio x2 x3 : Int} {c1 : Ch} (hv : c1.v = .slice a n cp) (hno : ∀ b, (b = GB ∨ b = HB ∨ b = QB ∨ b = S) → b < V.heap.size ∧ (Value.slice a n cp).ownBlock ≠ some b) (hF : (fun w' : World => w'.cell? ⟨GB, 1, none⟩ = some (.slice a n cp) ∧ w'.cell? ⟨HB, 0, none⟩ = some (.int .i64 who) ∧ w'.cell? ⟨QB, 0, none⟩ = some (.int .i64 ratio) ∧ w'.cell? ⟨S, 2, none⟩ = some (.int .i64 x2) ∧ w'.cell? ⟨S, 3, none⟩ = some (.int .i64 x3)) V) : ∀ W, Frm V [c1] W → (fun w' : World => w'.cell? ⟨GB, 1, none⟩ = some (.slice a n cp) ∧ w'.cell? ⟨HB, 0, none⟩ = some (.int .i64 who) ∧ w'.cell? ⟨QB, 0, none⟩ = some (.int .i64 ratio) ∧ w'.cell? ⟨S, 2, none⟩ = some (.int .i64 x2) ∧ w'.cell? ⟨S, 3, none⟩ = some (.int .i64 x3)) W := by
 intro W hW
 have kc : ∀ b j, (b = GB ∨ b = HB ∨ b = QB ∨ b = S) → W.cell? ⟨b, j, none⟩ = V.cell? ⟨b, j, none⟩ := fun b j hb => World.cell?_of_block (w := V) (a := ⟨b, j, none⟩) (ch1_keep hW (hno b hb).1 (by rw [hv]; exact (hno b hb).2))
 obtain ⟨f1, f2, f3, f4, f5⟩ := hF
 exact ⟨(kc _ _ (.inl rfl)).trans f1, (kc _ _ (.inr (.inl rfl))).trans f2, (kc _ _ (.inr (.inr (.inl rfl)))).trans f3, (kc _ _ (.inr (.inr (.inr rfl)))).trans f4, (kc _ _ (.inr (.inr (.inr rfl)))).trans f5⟩
theorem gr_end {w V W : World} {GB HB QB n cp k t : Nat} {who ratio wt : Int} {a y1 : Option Addr} {m1 : Nat} {es : List Edg} {l : P2} {us : List Int} {c1 : Ch} (hn : es.length = n) (g : GrAt who ratio GB HB QB (.slice a n cp) es w) (gv : GrAt who ratio GB HB QB (.slice a n cp) es V) (hb : Below w.heap.size w V) (hfr : Frm V [c1] W) (hv : c1.v = .slice a n cp)
 (hrow : W.ownsRow (GB + 1) 86 3 (.slice y1 (n + 1) m1) (n + 1) (flatE who ratio es ++ [.int .i64 k, .int .i64 t, .int .i64 wt])) (hown : (Value.slice y1 (n + 1) m1).ownBlock = (Value.slice a n cp).ownBlock ∨ ∃ g, (Value.slice y1 (n + 1) m1).ownBlock = some g ∧ V.heap.size ≤ g) (hwt : wt = wtE who ratio us) :
 ∃ v', GrAt who ratio GB HB QB v' (es ++ [⟨k, t, l, us⟩]) (W.setCell ⟨GB, 1, none⟩ (.slice y1 (n + 1) m1)) ∧ Chg w (W.setCell ⟨GB, 1, none⟩ (.slice y1 (n + 1) m1)) (GFoot GB HB QB (.slice a n cp)) ∧ ∀ b, GFoot GB HB QB v' b → GFoot GB HB QB (.slice a n cp) b ∨ w.heap.size ≤ b := by
 have h3 : GB < V.heap.size := World.block_lt_of_cell? V _ gv.c0
 have hgh := g.gh; have hgq := g.gq
 have no : ∀ b, b ≤ GB → (Value.slice a n cp).ownBlock ≠ some b := fun b hb e => by have := rows_lt gv.row b e; omega
 have kb : ∀ b, b ≤ GB → W.heap[b]? = V.heap[b]? := fun b hb => ch1_keep hfr (by omega) (by rw [hv]; exact no b hb)
 have kc : ∀ b j, b ≤ GB → W.cell? ⟨b, j, none⟩ = V.cell? ⟨b, j, none⟩ := fun b j hb => World.cell?_of_block (w := V) (a := ⟨b, j, none⟩) (kb b hb)
 have hs : ∀ b, b ≠ GB → (W.setCell ⟨GB, 1, none⟩ (.slice y1 (n + 1) m1)).heap[b]? = W.heap[b]? := fun b hb => Below.heap_setCell _ _ _ _ hb
 have hsz := hb.size
 have hfs := hfr.size
 refine ⟨.slice y1 (n + 1) m1, ⟨?_, ?_, fun j => ?_, ?_, ?_, ?_, hgh, hgq⟩, ?_, fun b hb' => ?_⟩
 · rw [World.cell?_setCell_other _ _ _ _ (fun e => by injection e with _ e; omega), kc GB 0 (Nat.le_refl _)]; exact gv.c0
 · exact World.cell?_setCell_same' _ _ _ (by rw [kc GB 1 (Nat.le_refl _), gv.c1]; rfl)
 · rw [World.frozen?_setCell, World.frozen?_of_block (w := V) (a := ⟨GB, j, none⟩) (kb GB (Nat.le_refl _))]; exact gv.fz j
 · rw [World.cell?_setCell_other _ _ _ _ (fun e => by injection e with e _; omega), kc HB 0 (by omega)]; exact gv.h
 · rw [World.cell?_setCell_other _ _ _ _ (fun e => by injection e with e _; omega), kc QB 0 (by omega)]; exact gv.q
 · rw [flatE_snoc, List.length_append, hn, ← hwt]
   exact rows_kept hrow (fun b hb => hs b (by have := rows_lt hrow b hb; omega))
 · have c1' : Chg V W (GFoot GB HB QB (.slice a n cp)) := ⟨hfr.os, hfr.tape, hfr.output, hfr.size, fun b hb hn' => ch1_keep hfr hb (by rw [hv]; exact fun e => hn' (.inr (.inr (.inr e))))⟩
   have c2 : Chg V (W.setCell ⟨GB, 1, none⟩ (.slice y1 (n + 1) m1)) (GFoot GB HB QB (.slice a n cp)) := c1'.set (p := ⟨GB, 1, none⟩) (.inl rfl) _
   exact (Chg.of_below (Ft := GFoot GB HB QB (.slice a n cp)) hb).trans c2 (fun x hx => .inl hx)
 · rcases hb' with h | h | h | h
   · exact .inl (.inl h)
   · exact .inl (.inr (.inl h))
   · exact .inl (.inr (.inr (.inl h)))
   · rcases hown with h1 | ⟨g', h1, h2⟩
     · exact .inl (.inr (.inr (.inr (h1.symm.trans h))))
     · rw [h1] at h; injection h with h; exact .inr (by omega)
theorem ch1_slots {t e : TypeId} {sz n : Nat} {v : Value} {xs x : List Value} : ∀ d ∈ slots (ixs [(⟨17, 18, 26, 27, t, e, sz, v, n, xs, x⟩ : Ch)]), d < 29 := by
 intro d hd
 simp only [ixs, slots, List.map_cons, List.map_nil, List.mem_cons, List.not_mem_nil, or_false] at hd
 omega
set_option maxRecDepth 100000 in
set_option maxHeartbeats 8000000 in
theorem graph1_call0 (ratio : Int) (hr : 1 ≤ ratio ∧ ratio ≤ 100) (GB HB QB : Nat) (v : Value) (es : List Edg) (k t : Nat) (l : P2) (x0 x1 x2 x3 x4 x5 : Int) (w : World) (g : GrAt 0 ratio GB HB QB v es w) (hl : es.length < 4800) (hk : k ≤ 300) (ht : t ≤ 300) (hx : ∀ z ∈ [x0, x1, x2, x3, x4, x5], 0 ≤ z ∧ z ≤ 100) :
 Calls Tryz.prog 44 #[.int .i64 k, .int .i64 t, .agg #[.int .i64 x0, .int .i64 x1, .int .i64 x2, .int .i64 x3, .int .i64 x4, .int .i64 x5], .pointer (some ⟨GB, 0, none⟩), .pointer (some ⟨HB, 0, none⟩), .pointer (some ⟨QB, 0, none⟩)] w fun e w' => (∃ v, e = .returned v) ∧ ∃ v', GrAt 0 ratio GB HB QB v' (es ++ [⟨k, t, l, [x0, x1, x2, x3, x4, x5]⟩]) w' ∧ Chg w w' (GFoot GB HB QB v) ∧ ∀ b, GFoot GB HB QB v' b → GFoot GB HB QB v b ∨ w.heap.size ≤ b := by
 obtain ⟨i1, hi1, hy1, hz1, hu1⟩ := info_parts infoEdge
 have HI1 := hide (And.intro hi1 (And.intro hy1 (And.intro hz1 hu1)))
 obtain ⟨n, hn⟩ : ∃ n, es.length = n := ⟨_, rfl⟩
 have HN := hide hn
 have hn3 : n < 4800 := by omega
 obtain ⟨a, cp, hv⟩ := sliceShape g.row
 rw [hn] at hv
 subst hv
 have r2 := hx x2 (by simp)
 have r3 := hx x3 (by simp)
 have m1 : 0 ≤ ratio * x3 := Int.mul_nonneg (by omega) (by omega)
 have m2 : ratio * x3 ≤ 100 * 100 := Int.le_trans (Int.mul_le_mul_of_nonneg_right hr.2 (by omega)) (Int.mul_le_mul_of_nonneg_left r3.2 (by omega))
 have m2' : ratio * x3 ≤ 10000 := by omega
 have e1 : IntKind.i64.wrap (ratio * x3) = ratio * x3 := IntWalk.i64_in _ (by omega)
 have e2 : IntKind.i64.wrap (x2 - ratio * x3) = x2 - ratio * x3 := IntWalk.i64_in _ (by omega)
 have ew0 : IntKind.i64.wrap 0 = 0 := IntWalk.i64_in _ (by omega)
 have ew1 : IntKind.i64.wrap 1 = 1 := IntWalk.i64_in _ (by omega)
 obtain ⟨S, hS⟩ : ∃ S, w.heap.size = S := ⟨_, rfl⟩
 have HG := hide g
 clear hi1 hy1 hz1 hu1 hn g hl hx m2
 go_enter Tryz.func44, Tryz.ntmps44
 go_wp2
 obtain ⟨X, hX⟩ : ∃ X, X = w.alloc (.cells #[.int .i64 x0, .int .i64 x1, .int .i64 x2, .int .i64 x3, .int .i64 x4, .int .i64 x5] 92) := ⟨_, rfl⟩
 rw [← hX]
 have BX : Blk X S [.int .i64 x0, .int .i64 x1, .int .i64 x2, .int .i64 x3, .int .i64 x4, .int .i64 x5] := by
  have := Blk.new w [.int .i64 x0, .int .i64 x1, .int .i64 x2, .int .i64 x3, .int .i64 x4, .int .i64 x5] 92
  rw [hX]; simpa [hS] using this
 have hbX : Below w.heap.size w X := by rw [hX]; exact (Below.refl _ _).alloc (Nat.le_refl _) _
 obtain ⟨V, hV⟩ : ∃ V, X.drew = V := ⟨_, rfl⟩
 have hbV : Below w.heap.size w V := by rw [← hV]; exact hbX.drew
 have hVs : S < V.heap.size := by rw [← hV]; show S < X.heap.size; exact BX.lt
 have g' := HG.out
 have gv := HG.out.kept (w' := V) (fun b hb => hbV.block b (HG.out.foot hb).1)
 have hf0 : (fun w' : World => w'.cell? ⟨GB, 1, none⟩ = some (.slice a n cp) ∧ w'.cell? ⟨HB, 0, none⟩ = some (.int .i64 0) ∧ w'.cell? ⟨QB, 0, none⟩ = some (.int .i64 ratio) ∧ w'.cell? ⟨S, 2, none⟩ = some (.int .i64 x2) ∧ w'.cell? ⟨S, 3, none⟩ = some (.int .i64 x3)) V := ⟨gv.c1, gv.h, gv.q, by rw [← hV]; exact (BX 2 _ rfl).1, by rw [← hV]; exact (BX 3 _ rfl).1⟩
 have hF := hide hf0
 have hno : ∀ b, (b = GB ∨ b = HB ∨ b = QB ∨ b = S) → b < V.heap.size ∧ (Value.slice a n cp).ownBlock ≠ some b := fun b hb => by
  have h1 := g'.gh; have h2 := g'.gq
  have h3 : GB < V.heap.size := World.block_lt_of_cell? V _ gv.c0
  refine ⟨by omega, fun e => ?_⟩
  have h4 := rows_lt g'.row b e
  omega
 have hFr := hide (ch1_F (c1 := ⟨17, 18, 26, 27, 55, 86, 3, .slice a n cp, n, flatE 0 ratio es, [.int .i64 k, .int .i64 t, .int .i64 (x2 - ratio * x3)]⟩) rfl hno hf0)
 have HGV := hide gv
 have HBV := hide hbV
 have hF1 := gv.fz 1
 have HFZ := hide gv.fz
 have hlt : GB < V.heap.size := World.block_lt_of_cell? V _ gv.c0
 clear hX BX hbX hf0 gv g' hbV hF1 hno
 refine wp_region_G 19 (fun w' : World => w'.cell? ⟨GB, 1, none⟩ = some (.slice a n cp) ∧ w'.cell? ⟨HB, 0, none⟩ = some (.int .i64 0) ∧ w'.cell? ⟨QB, 0, none⟩ = some (.int .i64 ratio) ∧ w'.cell? ⟨S, 2, none⟩ = some (.int .i64 x2) ∧ w'.cell? ⟨S, 3, none⟩ = some (.int .i64 x3)) (by kernel_rfl) ?_
 rw [hV]
 clear hV
 refine kB 0 hF.out ?_
 refine kB 1 hF.out ?_
 refine kB 2 hF.out ?_
 refine kB 3 hF.out ?_
 refine kB 4 hF.out ?_
 refine kB 5 hF.out ?_
 refine kB 6 hF.out ?_
 refine kB 7 hF.out ?_
 refine kB 8 hF.out ?_
 refine kB 9 hF.out ?_
 refine kB 10 hF.out ?_
 refine kB 11 hF.out ?_
 refine kB 12 hF.out ?_
 refine kB 13 hF.out ?_
 refine kB 14 hF.out ?_
 refine kB 15 hF.out ?_
 refine kB 16 hF.out ?_
 refine wpAnyG_appends1 (c1 := ⟨17, 18, 26, 27, 55, 86, 3, .slice a n cp, n, flatE 0 ratio es, [.int .i64 k, .int .i64 t, .int .i64 (x2 - ratio * x3)]⟩) (B := GB + 1) (f := 2) (by kernel_rfl) (by kernel_rfl) (by simp [ixs, slots]) ?hsl hFr.out ?k1 (by omega) (by have := HGV.out.row; rw [HN.out] at this; exact this) ?he
 case hsl =>
  intro d hd
  exact Nat.lt_of_lt_of_eq (ch1_slots d hd) (by kernel_rfl)
 case k1 => exact ⟨⟨_, 25, .agg #[.int .i64 k, .int .i64 t, .int .i64 (x2 - ratio * x3)], rfl, rfl, rfl, rfl, by simp [ixs, slots], by kernel_rfl, laysEdge k t (x2 - ratio * x3)⟩, ⟨_, 10, rfl, rfl, rfl, rfl, by simp [ixs, slots], by kernel_rfl⟩, ⟨i1, _, 24, Tryz.underlying55, HI1.out.1, HI1.out.2.1, HI1.out.2.2.1, HI1.out.2.2.2, by kernel_rfl, Nat.succ_pos _, by dsimp only; omega⟩, rfl, by simp [Value.oneCell'], by unfold maxLen; dsimp only; omega⟩
 case he =>
  intro u1 y1 m1' W hfr hrow hown
  have hW := hFr.out W hfr
  have p1 := hW.1
  have f1 : W.frozen? ⟨GB, 1, none⟩ = false := (World.frozen?_of_block (w := V) (a := ⟨GB, 1, none⟩) (ch1_keep hfr hlt (by intro e; have := rows_lt HGV.out.row GB e; omega))).trans (HFZ.out 1)
  have HFR := hide hfr
  have HRW := hide hrow
  have HOW := hide hown
  clear hfr hrow hown hW hF hFr HI1
  simp only [Act.put, List.setIfInBounds_toArray, List.set_cons_zero, List.set_cons_succ]
  refine wpAnyG_one (i := 19) rfl (by kernel_rfl) (by kernel_rfl) (fun K hK => ?_)
  go_simp
  refine hK.out _ _ ?_
  clear hK K
  refine kL ?_
  refine wpAnyG_one (i := 20) rfl (by kernel_rfl) (by kernel_rfl) (fun K hK => ?_)
  go_simp
  refine hK.out _ _ ?_
  clear hK K
  refine kL ?_
  refine wpAnyG_done (by kernel_rfl) ?_ _
  go_end0
  exact ⟨⟨_, rfl⟩, gr_end HN.out HG.out HGV.out HBV.out HFR.out rfl HRW.out HOW.out rfl⟩
set_option maxRecDepth 100000 in
set_option maxHeartbeats 8000000 in
theorem graph1_call1 (ratio : Int) (hr : 1 ≤ ratio ∧ ratio ≤ 100) (GB HB QB : Nat) (v : Value) (es : List Edg) (k t : Nat) (l : P2) (x0 x1 x2 x3 x4 x5 : Int) (w : World) (g : GrAt 1 ratio GB HB QB v es w) (hl : es.length < 4800) (hk : k ≤ 300) (ht : t ≤ 300) (hx : ∀ z ∈ [x0, x1, x2, x3, x4, x5], 0 ≤ z ∧ z ≤ 100) :
 Calls Tryz.prog 44 #[.int .i64 k, .int .i64 t, .agg #[.int .i64 x0, .int .i64 x1, .int .i64 x2, .int .i64 x3, .int .i64 x4, .int .i64 x5], .pointer (some ⟨GB, 0, none⟩), .pointer (some ⟨HB, 0, none⟩), .pointer (some ⟨QB, 0, none⟩)] w fun e w' => (∃ v, e = .returned v) ∧ ∃ v', GrAt 1 ratio GB HB QB v' (es ++ [⟨k, t, l, [x0, x1, x2, x3, x4, x5]⟩]) w' ∧ Chg w w' (GFoot GB HB QB v) ∧ ∀ b, GFoot GB HB QB v' b → GFoot GB HB QB v b ∨ w.heap.size ≤ b := by
 obtain ⟨i1, hi1, hy1, hz1, hu1⟩ := info_parts infoEdge
 have HI1 := hide (And.intro hi1 (And.intro hy1 (And.intro hz1 hu1)))
 obtain ⟨n, hn⟩ : ∃ n, es.length = n := ⟨_, rfl⟩
 have HN := hide hn
 have hn3 : n < 4800 := by omega
 obtain ⟨a, cp, hv⟩ := sliceShape g.row
 rw [hn] at hv
 subst hv
 have r2 := hx x2 (by simp)
 have r3 := hx x3 (by simp)
 have m1 : 0 ≤ ratio * x2 := Int.mul_nonneg (by omega) (by omega)
 have m2 : ratio * x2 ≤ 100 * 100 := Int.le_trans (Int.mul_le_mul_of_nonneg_right hr.2 (by omega)) (Int.mul_le_mul_of_nonneg_left r2.2 (by omega))
 have m2' : ratio * x2 ≤ 10000 := by omega
 have e1 : IntKind.i64.wrap (ratio * x2) = ratio * x2 := IntWalk.i64_in _ (by omega)
 have e2 : IntKind.i64.wrap (x3 - ratio * x2) = x3 - ratio * x2 := IntWalk.i64_in _ (by omega)
 have ew0 : IntKind.i64.wrap 0 = 0 := IntWalk.i64_in _ (by omega)
 have ew1 : IntKind.i64.wrap 1 = 1 := IntWalk.i64_in _ (by omega)
 obtain ⟨S, hS⟩ : ∃ S, w.heap.size = S := ⟨_, rfl⟩
 have HG := hide g
 clear hi1 hy1 hz1 hu1 hn g hl hx m2
 go_enter Tryz.func44, Tryz.ntmps44
 go_wp2
 obtain ⟨X, hX⟩ : ∃ X, X = w.alloc (.cells #[.int .i64 x0, .int .i64 x1, .int .i64 x2, .int .i64 x3, .int .i64 x4, .int .i64 x5] 92) := ⟨_, rfl⟩
 rw [← hX]
 have BX : Blk X S [.int .i64 x0, .int .i64 x1, .int .i64 x2, .int .i64 x3, .int .i64 x4, .int .i64 x5] := by
  have := Blk.new w [.int .i64 x0, .int .i64 x1, .int .i64 x2, .int .i64 x3, .int .i64 x4, .int .i64 x5] 92
  rw [hX]; simpa [hS] using this
 have hbX : Below w.heap.size w X := by rw [hX]; exact (Below.refl _ _).alloc (Nat.le_refl _) _
 obtain ⟨V, hV⟩ : ∃ V, X.drew = V := ⟨_, rfl⟩
 have hbV : Below w.heap.size w V := by rw [← hV]; exact hbX.drew
 have hVs : S < V.heap.size := by rw [← hV]; show S < X.heap.size; exact BX.lt
 have g' := HG.out
 have gv := HG.out.kept (w' := V) (fun b hb => hbV.block b (HG.out.foot hb).1)
 have hf0 : (fun w' : World => w'.cell? ⟨GB, 1, none⟩ = some (.slice a n cp) ∧ w'.cell? ⟨HB, 0, none⟩ = some (.int .i64 1) ∧ w'.cell? ⟨QB, 0, none⟩ = some (.int .i64 ratio) ∧ w'.cell? ⟨S, 2, none⟩ = some (.int .i64 x2) ∧ w'.cell? ⟨S, 3, none⟩ = some (.int .i64 x3)) V := ⟨gv.c1, gv.h, gv.q, by rw [← hV]; exact (BX 2 _ rfl).1, by rw [← hV]; exact (BX 3 _ rfl).1⟩
 have hF := hide hf0
 have hno : ∀ b, (b = GB ∨ b = HB ∨ b = QB ∨ b = S) → b < V.heap.size ∧ (Value.slice a n cp).ownBlock ≠ some b := fun b hb => by
  have h1 := g'.gh; have h2 := g'.gq
  have h3 : GB < V.heap.size := World.block_lt_of_cell? V _ gv.c0
  refine ⟨by omega, fun e => ?_⟩
  have h4 := rows_lt g'.row b e
  omega
 have hFr := hide (ch1_F (c1 := ⟨17, 18, 26, 27, 55, 86, 3, .slice a n cp, n, flatE 1 ratio es, [.int .i64 k, .int .i64 t, .int .i64 (x3 - ratio * x2)]⟩) rfl hno hf0)
 have HGV := hide gv
 have HBV := hide hbV
 have hF1 := gv.fz 1
 have HFZ := hide gv.fz
 have hlt : GB < V.heap.size := World.block_lt_of_cell? V _ gv.c0
 clear hX BX hbX hf0 gv g' hbV hF1 hno
 refine wp_region_G 19 (fun w' : World => w'.cell? ⟨GB, 1, none⟩ = some (.slice a n cp) ∧ w'.cell? ⟨HB, 0, none⟩ = some (.int .i64 1) ∧ w'.cell? ⟨QB, 0, none⟩ = some (.int .i64 ratio) ∧ w'.cell? ⟨S, 2, none⟩ = some (.int .i64 x2) ∧ w'.cell? ⟨S, 3, none⟩ = some (.int .i64 x3)) (by kernel_rfl) ?_
 rw [hV]
 clear hV
 refine kB 0 hF.out ?_
 refine kB 1 hF.out ?_
 refine kB 2 hF.out ?_
 refine kB 3 hF.out ?_
 refine kB 4 hF.out ?_
 refine kB 5 hF.out ?_
 refine kB 6 hF.out ?_
 refine kB 7 hF.out ?_
 refine kB 8 hF.out ?_
 refine kB 9 hF.out ?_
 refine kB 10 hF.out ?_
 refine kB 11 hF.out ?_
 refine kB 12 hF.out ?_
 refine kB 13 hF.out ?_
 refine kB 14 hF.out ?_
 refine kB 15 hF.out ?_
 refine kB 16 hF.out ?_
 refine wpAnyG_appends1 (c1 := ⟨17, 18, 26, 27, 55, 86, 3, .slice a n cp, n, flatE 1 ratio es, [.int .i64 k, .int .i64 t, .int .i64 (x3 - ratio * x2)]⟩) (B := GB + 1) (f := 2) (by kernel_rfl) (by kernel_rfl) (by simp [ixs, slots]) ?hsl hFr.out ?k1 (by omega) (by have := HGV.out.row; rw [HN.out] at this; exact this) ?he
 case hsl =>
  intro d hd
  exact Nat.lt_of_lt_of_eq (ch1_slots d hd) (by kernel_rfl)
 case k1 => exact ⟨⟨_, 25, .agg #[.int .i64 k, .int .i64 t, .int .i64 (x3 - ratio * x2)], rfl, rfl, rfl, rfl, by simp [ixs, slots], by kernel_rfl, laysEdge k t (x3 - ratio * x2)⟩, ⟨_, 10, rfl, rfl, rfl, rfl, by simp [ixs, slots], by kernel_rfl⟩, ⟨i1, _, 24, Tryz.underlying55, HI1.out.1, HI1.out.2.1, HI1.out.2.2.1, HI1.out.2.2.2, by kernel_rfl, Nat.succ_pos _, by dsimp only; omega⟩, rfl, by simp [Value.oneCell'], by unfold maxLen; dsimp only; omega⟩
 case he =>
  intro u1 y1 m1' W hfr hrow hown
  have hW := hFr.out W hfr
  have p1 := hW.1
  have f1 : W.frozen? ⟨GB, 1, none⟩ = false := (World.frozen?_of_block (w := V) (a := ⟨GB, 1, none⟩) (ch1_keep hfr hlt (by intro e; have := rows_lt HGV.out.row GB e; omega))).trans (HFZ.out 1)
  have HFR := hide hfr
  have HRW := hide hrow
  have HOW := hide hown
  clear hfr hrow hown hW hF hFr HI1
  simp only [Act.put, List.setIfInBounds_toArray, List.set_cons_zero, List.set_cons_succ]
  refine wpAnyG_one (i := 19) rfl (by kernel_rfl) (by kernel_rfl) (fun K hK => ?_)
  go_simp
  refine hK.out _ _ ?_
  clear hK K
  refine kL ?_
  refine wpAnyG_one (i := 20) rfl (by kernel_rfl) (by kernel_rfl) (fun K hK => ?_)
  go_simp
  refine hK.out _ _ ?_
  clear hK K
  refine kL ?_
  refine wpAnyG_done (by kernel_rfl) ?_ _
  go_end0
  exact ⟨⟨_, rfl⟩, gr_end HN.out HG.out HGV.out HBV.out HFR.out rfl HRW.out HOW.out rfl⟩
theorem graph1_tell (who ratio : Int) (hw : who = 0 ∨ who = 1) (hr : 1 ≤ ratio ∧ ratio ≤ 100) (GB HB QB : Nat) : TellOk 44 #[.pointer (some ⟨GB, 0, none⟩), .pointer (some ⟨HB, 0, none⟩), .pointer (some ⟨QB, 0, none⟩)] (TG who ratio GB HB QB) where
 enters := enters_of Tryz.func44 (by kernel_rfl) rfl
 lt h b hb := by
  obtain ⟨v, g, rfl⟩ := h
  exact g.foot hb
 kept h hk := by
  obtain ⟨v, g, rfl⟩ := h
  exact ⟨v, g.kept hk, rfl⟩
 det h h' b := by
  obtain ⟨v, g, rfl⟩ := h
  obtain ⟨v', g', rfl⟩ := h'
  have : v = v' := by have := g.c1; rw [g'.c1] at this; injection this with this; exact this.symm
  rw [this]
 run k t l x0 x1 x2 x3 x4 x5 h hl hk ht hx := by
  obtain ⟨v, g, rfl⟩ := h
  rcases hw with rfl | rfl
  · exact (graph1_call0 ratio hr GB HB QB v _ k t l x0 x1 x2 x3 x4 x5 _ g hl hk ht hx).mono fun e w' ⟨h1, v', h2, h3, h4⟩ => ⟨h1, _, ⟨v', h2, rfl⟩, h3, h4⟩
  · exact (graph1_call1 ratio hr GB HB QB v _ k t l x0 x1 x2 x3 x4 x5 _ g hl hk ht hx).mono fun e w' ⟨h1, v', h2, h3, h4⟩ => ⟨h1, _, ⟨v', h2, rfl⟩, h3, h4⟩
end Go.Proofs.YtjjikhaaimfneaaGreatDoor
