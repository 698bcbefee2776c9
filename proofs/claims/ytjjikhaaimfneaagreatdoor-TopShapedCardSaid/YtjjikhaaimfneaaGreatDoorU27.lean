/-
  Lemmas and walks for the statement: StGraph1, StGraph, StFl.
-/
import Derived.Test.YtjjikhaaimfneaaGreatDoorU26
namespace Go.Proofs.YtjjikhaaimfneaaGreatDoor
open Go.RowKit
set_option linter.unusedSimpArgs false
set_option linter.unusedVariables false
attribute [local go_sem] iteMin iteMax iteMinN iteMaxN
theorem ch1_keep {V W : World} {c1 : Ch} (h : Frm V [c1] W) {b : Nat} (hb : b < V.heap.size) (hn : c1.v.ownBlock ≠ some b) : W.heap[b]? = V.heap[b]? := h.block b hb (fun i c hc => by
 have h1 : i = 0 := by have := (List.getElem?_eq_some_iff.1 hc).1; simp at this; exact this
 subst h1
 obtain rfl : c1 = c := by simpa using hc
 exact hn)
theorem ch1_F {V : World} {GB HB QB S n cp : Nat} {a : Option Addr} {who ratio x2 x3 : Int} {c1 : Ch} (hv : c1.v = .slice a n cp) (hno : ∀ b, (b = GB ∨ b = HB ∨ b = QB ∨ b = S) → b < V.heap.size ∧ (Value.slice a n cp).ownBlock ≠ some b) (hF : (fun w' : World => w'.cell? ⟨GB, 1, none⟩ = some (.slice a n cp) ∧ w'.cell? ⟨HB, 0, none⟩ = some (.int .i64 who) ∧ w'.cell? ⟨QB, 0, none⟩ = some (.int .i64 ratio) ∧ w'.cell? ⟨S, 2, none⟩ = some (.int .i64 x2) ∧ w'.cell? ⟨S, 3, none⟩ = some (.int .i64 x3)) V) : ∀ W, Frm V [c1] W → (fun w' : World => w'.cell? ⟨GB, 1, none⟩ = some (.slice a n cp) ∧ w'.cell? ⟨HB, 0, none⟩ = some (.int .i64 who) ∧ w'.cell? ⟨QB, 0, none⟩ = some (.int .i64 ratio) ∧ w'.cell? ⟨S, 2, none⟩ = some (.int .i64 x2) ∧ w'.cell? ⟨S, 3, none⟩ = some (.int .i64 x3)) W := by
 intro W hW
 have kc : ∀ b j, (b = GB ∨ b = HB ∨ b = QB ∨ b = S) → W.cell? ⟨b, j, none⟩ = V.cell? ⟨b, j, none⟩ := fun b j hb => World.cell?_of_block (w := V) (a := ⟨b, j, none⟩) (ch1_keep hW (hno b hb).1 (by rw [hv]; exact (hno b hb).2))
 obtain ⟨f1, f2, f3, f4, f5⟩ := hF
 exact ⟨(kc _ _ (.inl rfl)).trans f1, (kc _ _ (.inr (.inl rfl))).trans f2, (kc _ _ (.inr (.inr (.inl rfl)))).trans f3, (kc _ _ (.inr (.inr (.inr rfl)))).trans f4, (kc _ _ (.inr (.inr (.inr rfl)))).trans f5⟩
theorem gr_end {w V W : World} {GB HB QB n cp k t : Nat} {who ratio wt : Int} {a y1 : Option Addr} {m1 : Nat} {es : List Edg} {l : P2} {us : List Int} {c1 : Ch} (hn : es.length = n) (g : GrAt who ratio GB HB QB (.slice a n cp) es w) (gv : GrAt who ratio GB HB QB (.slice a n cp) es V) (hb : Below w.heap.size w V) (hfr : Frm V [c1] W) (hv : c1.v = .slice a n cp)
 (hrow : W.ownsRow (GB + 1) 86 3 (.slice y1 (n + 1) m1) (n + 1) (flatE who ratio es ++ [.int .i64 k, .int .i64 t, .int .i64 wt])) (hown : (Value.slice y1 (n + 1) m1).ownBlock = (Value.slice a n cp).ownBlock ∨ ∃ g, (Value.slice y1 (n + 1) m1).ownBlock = some g ∧ V.heap.size ≤ g) (hwt : wt = wtE who ratio us) :
 ∃ v', GrAt who ratio GB HB QB v' (es ++ [⟨k, t, l, us⟩]) (W.setCell ⟨GB, 1, none⟩ (.slice y1 (n + 1) m1)) ∧ Chg w (W.setCell ⟨GB, 1, none⟩ (.slice y1 (n + 1) m1)) (GFoot GB HB QB (.slice a n cp)) ∧ ∀ b, GFoot GB HB QB v' b → GFoot GB HB QB (.slice a n cp) b ∨ w.heap.size ≤ b := by
 have h3 : GB < V.heap.size := World.block_lt_of_cell? V _ gv.c0
 have hgh := g.gh; have hgq := g.gq
 have no : ∀ b, b ≤ GB → (Value.slice a n cp).ownBlock ≠ some b := fun b hb e => by have := rows_lt gv.row b e; omega
 have kb : ∀ b, b ≤ GB → W.heap[b]? = V.heap[b]? := fun b hb => ch1_keep hfr (by omega) (by rw [hv]; exact no b hb)
 have kc : ∀ b j, b ≤ GB → W.cell? ⟨b, j, none⟩ = V.cell? ⟨b, j, none⟩ := fun b j hb => World.cell?_of_block (w := V) (a := ⟨b, j, none⟩) (kb b hb)
 have hs : ∀ b, b ≠ GB → (W.setCell ⟨GB, 1, none⟩ (.slice y1 (n + 1) m1)).heap[b]? = W.heap[b]? := fun b hb => Below.heap_setCell _ _ _ _ hb
 have hsz := hb.size
 have hfs := hfr.size
 refine ⟨.slice y1 (n + 1) m1, ⟨?_, ?_, fun j => ?_, ?_, ?_, ?_, hgh, hgq⟩, ?_, fun b hb' => ?_⟩
 · rw [World.cell?_setCell_other _ _ _ _ (fun e => by injection e with _ e; omega), kc GB 0 (Nat.le_refl _)]; exact gv.c0
 · exact World.cell?_setCell_same' _ _ _ (by rw [kc GB 1 (Nat.le_refl _), gv.c1]; rfl)
 · rw [World.frozen?_setCell, World.frozen?_of_block (w := V) (a := ⟨GB, j, none⟩) (kb GB (Nat.le_refl _))]; exact gv.fz j
 · rw [World.cell?_setCell_other _ _ _ _ (fun e => by injection e with e _; omega), kc HB 0 (by omega)]; exact gv.h
 · rw [World.cell?_setCell_other _ _ _ _ (fun e => by injection e with e _; omega), kc QB 0 (by omega)]; exact gv.q
 · rw [flatE_snoc, List.length_append, hn, ← hwt]
   exact rows_kept hrow (fun b hb => hs b (by have := rows_lt hrow b hb; omega))
 · have c1' : Chg V W (GFoot GB HB QB (.slice a n cp)) := ⟨hfr.os, hfr.tape, hfr.output, hfr.size, fun b hb hn' => ch1_keep hfr hb (by rw [hv]; exact fun e => hn' (.inr (.inr (.inr e))))⟩
   have c2 : Chg V (W.setCell ⟨GB, 1, none⟩ (.slice y1 (n + 1) m1)) (GFoot GB HB QB (.slice a n cp)) := c1'.set (p := ⟨GB, 1, none⟩) (.inl rfl) _
   exact (Chg.of_below (Ft := GFoot GB HB QB (.slice a n cp)) hb).trans c2 (fun x hx => .inl hx)
 · rcases hb' with h | h | h | h
   · exact .inl (.inl h)
   · exact .inl (.inr (.inl h))
   · exact .inl (.inr (.inr (.inl h)))
   · rcases hown with h1 | ⟨g', h1, h2⟩
     · exact .inl (.inr (.inr (.inr (h1.symm.trans h))))
     · rw [h1] at h; injection h with h; exact .inr (by omega)
theorem ch1_slots {t e : TypeId} {sz n : Nat} {v : Value} {xs x : List Value} : ∀ d ∈ slots (ixs [(⟨17, 18, 26, 27, t, e, sz, v, n, xs, x⟩ : Ch)]), d < 29 := by
 intro d hd
 simp only [ixs, slots, List.map_cons, List.map_nil, List.mem_cons, List.not_mem_nil, or_false] at hd
 omega
set_option maxRecDepth 100000 in
set_option maxHeartbeats 8000000 in
theorem graph1_call0 (ratio : Int) (hr : 1 ≤ ratio ∧ ratio ≤ 100) (GB HB QB : Nat) (v : Value) (es : List Edg) (k t : Nat) (l : P2) (x0 x1 x2 x3 x4 x5 : Int) (w : World) (g : GrAt 0 ratio GB HB QB v es w) (hl : es.length < 4800) (hk : k ≤ 300) (ht : t ≤ 300) (hx : ∀ z ∈ [x0, x1, x2, x3, x4, x5], 0 ≤ z ∧ z ≤ 100) :
 Calls Tryz.prog 44 #[.int .i64 k, .int .i64 t, .agg #[.int .i64 x0, .int .i64 x1, .int .i64 x2, .int .i64 x3, .int .i64 x4, .int .i64 x5], .pointer (some ⟨GB, 0, none⟩), .pointer (some ⟨HB, 0, none⟩), .pointer (some ⟨QB, 0, none⟩)] w fun e w' => (∃ v, e = .returned v) ∧ ∃ v', GrAt 0 ratio GB HB QB v' (es ++ [⟨k, t, l, [x0, x1, x2, x3, x4, x5]⟩]) w' ∧ Chg w w' (GFoot GB HB QB v) ∧ ∀ b, GFoot GB HB QB v' b → GFoot GB HB QB v b ∨ w.heap.size ≤ b := by
 obtain ⟨i1, hi1, hy1, hz1, hu1⟩ := info_parts infoEdge
 have HI1 := hide (And.intro hi1 (And.intro hy1 (And.intro hz1 hu1)))
 obtain ⟨n, hn⟩ : ∃ n, es.length = n := ⟨_, rfl⟩
 have HN := hide hn
 have hn3 : n < 4800 := by omega
 obtain ⟨a, cp, hv⟩ := sliceShape g.row
 rw [hn] at hv
 subst hv
 have r2 := hx x2 (by simp)
 have r3 := hx x3 (by simp)
 have m1 : 0 ≤ ratio * x3 := Int.mul_nonneg (by omega) (by omega)
 have m2 : ratio * x3 ≤ 100 * 100 := Int.le_trans (Int.mul_le_mul_of_nonneg_right hr.2 (by omega)) (Int.mul_le_mul_of_nonneg_left r3.2 (by omega))
 have m2' : ratio * x3 ≤ 10000 := by omega
 have e1 : IntKind.i64.wrap (ratio * x3) = ratio * x3 := IntWalk.i64_in _ (by omega)
 have e2 : IntKind.i64.wrap (x2 - ratio * x3) = x2 - ratio * x3 := IntWalk.i64_in _ (by omega)
 have ew0 : IntKind.i64.wrap 0 = 0 := IntWalk.i64_in _ (by omega)
 have ew1 : IntKind.i64.wrap 1 = 1 := IntWalk.i64_in _ (by omega)
 obtain ⟨S, hS⟩ : ∃ S, w.heap.size = S := ⟨_, rfl⟩
 have HG := hide g
 clear hi1 hy1 hz1 hu1 hn g hl hx m2
 go_enter Tryz.func44, Tryz.ntmps44
 go_wp2
 obtain ⟨X, hX⟩ : ∃ X, X = w.alloc (.cells #[.int .i64 x0, .int .i64 x1, .int .i64 x2, .int .i64 x3, .int .i64 x4, .int .i64 x5] 92) := ⟨_, rfl⟩
 rw [← hX]
 have BX : Blk X S [.int .i64 x0, .int .i64 x1, .int .i64 x2, .int .i64 x3, .int .i64 x4, .int .i64 x5] := by
  have := Blk.new w [.int .i64 x0, .int .i64 x1, .int .i64 x2, .int .i64 x3, .int .i64 x4, .int .i64 x5] 92
  rw [hX]; simpa [hS] using this
 have hbX : Below w.heap.size w X := by rw [hX]; exact (Below.refl _ _).alloc (Nat.le_refl _) _
 obtain ⟨V, hV⟩ : ∃ V, X.drew = V := ⟨_, rfl⟩
 have hbV : Below w.heap.size w V := by rw [← hV]; exact hbX.drew
 have hVs : S < V.heap.size := by rw [← hV]; show S < X.heap.size; exact BX.lt
 have g' := HG.out
 have gv := HG.out.kept (w' := V) (fun b hb => hbV.block b (HG.out.foot hb).1)
 have hf0 : (fun w' : World => w'.cell? ⟨GB, 1, none⟩ = some (.slice a n cp) ∧ w'.cell? ⟨HB, 0, none⟩ = some (.int .i64 0) ∧ w'.cell? ⟨QB, 0, none⟩ = some (.int .i64 ratio) ∧ w'.cell? ⟨S, 2, none⟩ = some (.int .i64 x2) ∧ w'.cell? ⟨S, 3, none⟩ = some (.int .i64 x3)) V := ⟨gv.c1, gv.h, gv.q, by rw [← hV]; exact (BX 2 _ rfl).1, by rw [← hV]; exact (BX 3 _ rfl).1⟩
 have hF := hide hf0
 have hno : ∀ b, (b = GB ∨ b = HB ∨ b = QB ∨ b = S) → b < V.heap.size ∧ (Value.slice a n cp).ownBlock ≠ some b := fun b hb => by
  have h1 := g'.gh; have h2 := g'.gq
  have h3 : GB < V.heap.size := World.block_lt_of_cell? V _ gv.c0
  refine ⟨by omega, fun e => ?_⟩
  have h4 := rows_lt g'.row b e
  omega
 have hFr := hide (ch1_F (c1 := ⟨17, 18, 26, 27, 55, 86, 3, .slice a n cp, n, flatE 0 ratio es, [.int .i64 k, .int .i64 t, .int .i64 (x2 - ratio * x3)]⟩) rfl hno hf0)
 have HGV := hide gv
 have HBV := hide hbV
 have hF1 := gv.fz 1
 have HFZ := hide gv.fz
 have hlt : GB < V.heap.size := World.block_lt_of_cell? V _ gv.c0
 clear hX BX hbX hf0 gv g' hbV hF1 hno
 refine wp_region_G 19 (fun w' : World => w'.cell? ⟨GB, 1, none⟩ = some (.slice a n cp) ∧ w'.cell? ⟨HB, 0, none⟩ = some (.int .i64 0) ∧ w'.cell? ⟨QB, 0, none⟩ = some (.int .i64 ratio) ∧ w'.cell? ⟨S, 2, none⟩ = some (.int .i64 x2) ∧ w'.cell? ⟨S, 3, none⟩ = some (.int .i64 x3)) (by kernel_rfl) ?_
 rw [hV]
 clear hV
 refine kB 0 hF.out ?_
 refine kB 1 hF.out ?_
 refine kB 2 hF.out ?_
 refine kB 3 hF.out ?_
 refine kB 4 hF.out ?_
 refine kB 5 hF.out ?_
 refine kB 6 hF.out ?_
 refine kB 7 hF.out ?_
 refine kB 8 hF.out ?_
 refine kB 9 hF.out ?_
 refine kB 10 hF.out ?_
 refine kB 11 hF.out ?_
 refine kB 12 hF.out ?_
 refine kB 13 hF.out ?_
 refine kB 14 hF.out ?_
 refine kB 15 hF.out ?_
 refine kB 16 hF.out ?_
 refine wpAnyG_appends1 (c1 := ⟨17, 18, 26, 27, 55, 86, 3, .slice a n cp, n, flatE 0 ratio es, [.int .i64 k, .int .i64 t, .int .i64 (x2 - ratio * x3)]⟩) (B := GB + 1) (f := 2) (by kernel_rfl) (by kernel_rfl) (by simp [ixs, slots]) ?hsl hFr.out ?k1 (by omega) (by have := HGV.out.row; rw [HN.out] at this; exact this) ?he
 case hsl =>
  intro d hd
  exact Nat.lt_of_lt_of_eq (ch1_slots d hd) (by kernel_rfl)
 case k1 => exact ⟨⟨_, 25, .agg #[.int .i64 k, .int .i64 t, .int .i64 (x2 - ratio * x3)], rfl, rfl, rfl, rfl, by simp [ixs, slots], by kernel_rfl, laysEdge k t (x2 - ratio * x3)⟩, ⟨_, 10, rfl, rfl, rfl, rfl, by simp [ixs, slots], by kernel_rfl⟩, ⟨i1, _, 24, Tryz.underlying55, HI1.out.1, HI1.out.2.1, HI1.out.2.2.1, HI1.out.2.2.2, by kernel_rfl, Nat.succ_pos _, by dsimp only; omega⟩, rfl, by simp [Value.oneCell'], by unfold maxLen; dsimp only; omega⟩
 case he =>
  intro u1 y1 m1' W hfr hrow hown
  have hW := hFr.out W hfr
  have p1 := hW.1
  have f1 : W.frozen? ⟨GB, 1, none⟩ = false := (World.frozen?_of_block (w := V) (a := ⟨GB, 1, none⟩) (ch1_keep hfr hlt (by intro e; have := rows_lt HGV.out.row GB e; omega))).trans (HFZ.out 1)
  have HFR := hide hfr
  have HRW := hide hrow
  have HOW := hide hown
  clear hfr hrow hown hW hF hFr HI1
  simp only [Act.put, List.setIfInBounds_toArray, List.set_cons_zero, List.set_cons_succ]
  refine wpAnyG_one (i := 19) rfl (by kernel_rfl) (by kernel_rfl) (fun K hK => ?_)
  go_simp
  refine hK.out _ _ ?_
  clear hK K
  refine kL ?_
  refine wpAnyG_one (i := 20) rfl (by kernel_rfl) (by kernel_rfl) (fun K hK => ?_)
  go_simp
  refine hK.out _ _ ?_
  clear hK K
  refine kL ?_
  refine wpAnyG_done (by kernel_rfl) ?_ _
  go_end0
  exact ⟨⟨_, rfl⟩, gr_end HN.out HG.out HGV.out HBV.out HFR.out rfl HRW.out HOW.out rfl⟩
set_option maxRecDepth 100000 in
set_option maxHeartbeats 8000000 in
theorem graph1_call1 (ratio : Int) (hr : 1 ≤ ratio ∧ ratio ≤ 100) (GB HB QB : Nat) (v : Value) (es : List Edg) (k t : Nat) (l : P2) (x0 x1 x2 x3 x4 x5 : Int) (w : World) (g : GrAt 1 ratio GB HB QB v es w) (hl : es.length < 4800) (hk : k ≤ 300) (ht : t ≤ 300) (hx : ∀ z ∈ [x0, x1, x2, x3, x4, x5], 0 ≤ z ∧ z ≤ 100) :
 Calls Tryz.prog 44 #[.int .i64 k, .int .i64 t, .agg #[.int .i64 x0, .int .i64 x1, .int .i64 x2, .int .i64 x3, .int .i64 x4, .int .i64 x5], .pointer (some ⟨GB, 0, none⟩), .pointer (some ⟨HB, 0, none⟩), .pointer (some ⟨QB, 0, none⟩)] w fun e w' => (∃ v, e = .returned v) ∧ ∃ v', GrAt 1 ratio GB HB QB v' (es ++ [⟨k, t, l, [x0, x1, x2, x3, x4, x5]⟩]) w' ∧ Chg w w' (GFoot GB HB QB v) ∧ ∀ b, GFoot GB HB QB v' b → GFoot GB HB QB v b ∨ w.heap.size ≤ b := by
 obtain ⟨i1, hi1, hy1, hz1, hu1⟩ := info_parts infoEdge
 have HI1 := hide (And.intro hi1 (And.intro hy1 (And.intro hz1 hu1)))
 obtain ⟨n, hn⟩ : ∃ n, es.length = n := ⟨_, rfl⟩
 have HN := hide hn
 have hn3 : n < 4800 := by omega
 obtain ⟨a, cp, hv⟩ := sliceShape g.row
 rw [hn] at hv
 subst hv
 have r2 := hx x2 (by simp)
 have r3 := hx x3 (by simp)
 have m1 : 0 ≤ ratio * x2 := Int.mul_nonneg (by omega) (by omega)
 have m2 : ratio * x2 ≤ 100 * 100 := Int.le_trans (Int.mul_le_mul_of_nonneg_right hr.2 (by omega)) (Int.mul_le_mul_of_nonneg_left r2.2 (by omega))
 have m2' : ratio * x2 ≤ 10000 := by omega
 have e1 : IntKind.i64.wrap (ratio * x2) = ratio * x2 := IntWalk.i64_in _ (by omega)
 have e2 : IntKind.i64.wrap (x3 - ratio * x2) = x3 - ratio * x2 := IntWalk.i64_in _ (by omega)
 have ew0 : IntKind.i64.wrap 0 = 0 := IntWalk.i64_in _ (by omega)
 have ew1 : IntKind.i64.wrap 1 = 1 := IntWalk.i64_in _ (by omega)
 obtain ⟨S, hS⟩ : ∃ S, w.heap.size = S := ⟨_, rfl⟩
 have HG := hide g
 clear hi1 hy1 hz1 hu1 hn g hl hx m2
 go_enter Tryz.func44, Tryz.ntmps44
 go_wp2
 obtain ⟨X, hX⟩ : ∃ X, X = w.alloc (.cells #[.int .i64 x0, .int .i64 x1, .int .i64 x2, .int .i64 x3, .int .i64 x4, .int .i64 x5] 92) := ⟨_, rfl⟩
 rw [← hX]
 have BX : Blk X S [.int .i64 x0, .int .i64 x1, .int .i64 x2, .int .i64 x3, .int .i64 x4, .int .i64 x5] := by
  have := Blk.new w [.int .i64 x0, .int .i64 x1, .int .i64 x2, .int .i64 x3, .int .i64 x4, .int .i64 x5] 92
  rw [hX]; simpa [hS] using this
 have hbX : Below w.heap.size w X := by rw [hX]; exact (Below.refl _ _).alloc (Nat.le_refl _) _
 obtain ⟨V, hV⟩ : ∃ V, X.drew = V := ⟨_, rfl⟩
 have hbV : Below w.heap.size w V := by rw [← hV]; exact hbX.drew
 have hVs : S < V.heap.size := by rw [← hV]; show S < X.heap.size; exact BX.lt
 have g' := HG.out
 have gv := HG.out.kept (w' := V) (fun b hb => hbV.block b (HG.out.foot hb).1)
 have hf0 : (fun w' : World => w'.cell? ⟨GB, 1, none⟩ = some (.slice a n cp) ∧ w'.cell? ⟨HB, 0, none⟩ = some (.int .i64 1) ∧ w'.cell? ⟨QB, 0, none⟩ = some (.int .i64 ratio) ∧ w'.cell? ⟨S, 2, none⟩ = some (.int .i64 x2) ∧ w'.cell? ⟨S, 3, none⟩ = some (.int .i64 x3)) V := ⟨gv.c1, gv.h, gv.q, by rw [← hV]; exact (BX 2 _ rfl).1, by rw [← hV]; exact (BX 3 _ rfl).1⟩
 have hF := hide hf0
 have hno : ∀ b, (b = GB ∨ b = HB ∨ b = QB ∨ b = S) → b < V.heap.size ∧ (Value.slice a n cp).ownBlock ≠ some b := fun b hb => by
  have h1 := g'.gh; have h2 := g'.gq
  have h3 : GB < V.heap.size := World.block_lt_of_cell? V _ gv.c0
  refine ⟨by omega, fun e => ?_⟩
  have h4 := rows_lt g'.row b e
  omega
 have hFr := hide (ch1_F (c1 := ⟨17, 18, 26, 27, 55, 86, 3, .slice a n cp, n, flatE 1 ratio es, [.int .i64 k, .int .i64 t, .int .i64 (x3 - ratio * x2)]⟩) rfl hno hf0)
 have HGV := hide gv
 have HBV := hide hbV
 have hF1 := gv.fz 1
 have HFZ := hide gv.fz
 have hlt : GB < V.heap.size := World.block_lt_of_cell? V _ gv.c0
 clear hX BX hbX hf0 gv g' hbV hF1 hno
 refine wp_region_G 19 (fun w' : World => w'.cell? ⟨GB, 1, none⟩ = some (.slice a n cp) ∧ w'.cell? ⟨HB, 0, none⟩ = some (.int .i64 1) ∧ w'.cell? ⟨QB, 0, none⟩ = some (.int .i64 ratio) ∧ w'.cell? ⟨S, 2, none⟩ = some (.int .i64 x2) ∧ w'.cell? ⟨S, 3, none⟩ = some (.int .i64 x3)) (by kernel_rfl) ?_
 rw [hV]
 clear hV
 refine kB 0 hF.out ?_
 refine kB 1 hF.out ?_
 refine kB 2 hF.out ?_
 refine kB 3 hF.out ?_
 refine kB 4 hF.out ?_
 refine kB 5 hF.out ?_
 refine kB 6 hF.out ?_
 refine kB 7 hF.out ?_
 refine kB 8 hF.out ?_
 refine kB 9 hF.out ?_
 refine kB 10 hF.out ?_
 refine kB 11 hF.out ?_
 refine kB 12 hF.out ?_
 refine kB 13 hF.out ?_
 refine kB 14 hF.out ?_
 refine kB 15 hF.out ?_
 refine kB 16 hF.out ?_
 refine wpAnyG_appends1 (c1 := ⟨17, 18, 26, 27, 55, 86, 3, .slice a n cp, n, flatE 1 ratio es, [.int .i64 k, .int .i64 t, .int .i64 (x3 - ratio * x2)]⟩) (B := GB + 1) (f := 2) (by kernel_rfl) (by kernel_rfl) (by simp [ixs, slots]) ?hsl hFr.out ?k1 (by omega) (by have := HGV.out.row; rw [HN.out] at this; exact this) ?he
 case hsl =>
  intro d hd
  exact Nat.lt_of_lt_of_eq (ch1_slots d hd) (by kernel_rfl)
 case k1 => exact ⟨⟨_, 25, .agg #[.int .i64 k, .int .i64 t, .int .i64 (x3 - ratio * x2)], rfl, rfl, rfl, rfl, by simp [ixs, slots], by kernel_rfl, laysEdge k t (x3 - ratio * x2)⟩, ⟨_, 10, rfl, rfl, rfl, rfl, by simp [ixs, slots], by kernel_rfl⟩, ⟨i1, _, 24, Tryz.underlying55, HI1.out.1, HI1.out.2.1, HI1.out.2.2.1, HI1.out.2.2.2, by kernel_rfl, Nat.succ_pos _, by dsimp only; omega⟩, rfl, by simp [Value.oneCell'], by unfold maxLen; dsimp only; omega⟩
 case he =>
  intro u1 y1 m1' W hfr hrow hown
  have hW := hFr.out W hfr
  have p1 := hW.1
  have f1 : W.frozen? ⟨GB, 1, none⟩ = false := (World.frozen?_of_block (w := V) (a := ⟨GB, 1, none⟩) (ch1_keep hfr hlt (by intro e; have := rows_lt HGV.out.row GB e; omega))).trans (HFZ.out 1)
  have HFR := hide hfr
  have HRW := hide hrow
  have HOW := hide hown
  clear hfr hrow hown hW hF hFr HI1
  simp only [Act.put, List.setIfInBounds_toArray, List.set_cons_zero, List.set_cons_succ]
  refine wpAnyG_one (i := 19) rfl (by kernel_rfl) (by kernel_rfl) (fun K hK => ?_)
  go_simp
  refine hK.out _ _ ?_
  clear hK K
  refine kL ?_
  refine wpAnyG_one (i := 20) rfl (by kernel_rfl) (by kernel_rfl) (fun K hK => ?_)
  go_simp
  refine hK.out _ _ ?_
  clear hK K
  refine kL ?_
  refine wpAnyG_done (by kernel_rfl) ?_ _
  go_end0
  exact ⟨⟨_, rfl⟩, gr_end HN.out HG.out HGV.out HBV.out HFR.out rfl HRW.out HOW.out rfl⟩
theorem graph1_tell (who ratio : Int) (hw : who = 0 ∨ who = 1) (hr : 1 ≤ ratio ∧ ratio ≤ 100) (GB HB QB : Nat) : TellOk 44 #[.pointer (some ⟨GB, 0, none⟩), .pointer (some ⟨HB, 0, none⟩), .pointer (some ⟨QB, 0, none⟩)] (TG who ratio GB HB QB) where
 enters := enters_of Tryz.func44 (by kernel_rfl) rfl
 lt h b hb := by
  obtain ⟨v, g, rfl⟩ := h
  exact g.foot hb
 kept h hk := by
  obtain ⟨v, g, rfl⟩ := h
  exact ⟨v, g.kept hk, rfl⟩
 det h h' b := by
  obtain ⟨v, g, rfl⟩ := h
  obtain ⟨v', g', rfl⟩ := h'
  have : v = v' := by have := g.c1; rw [g'.c1] at this; injection this with this; exact this.symm
  rw [this]
 run k t l x0 x1 x2 x3 x4 x5 h hl hk ht hx := by
  obtain ⟨v, g, rfl⟩ := h
  rcases hw with rfl | rfl
  · exact (graph1_call0 ratio hr GB HB QB v _ k t l x0 x1 x2 x3 x4 x5 _ g hl hk ht hx).mono fun e w' ⟨h1, v', h2, h3, h4⟩ => ⟨h1, _, ⟨v', h2, rfl⟩, h3, h4⟩
  · exact (graph1_call1 ratio hr GB HB QB v _ k t l x0 x1 x2 x3 x4 x5 _ g hl hk ht hx).mono fun e w' ⟨h1, v', h2, h3, h4⟩ => ⟨h1, _, ⟨v', h2, rfl⟩, h3, h4⟩
end Go.Proofs.YtjjikhaaimfneaaGreatDoor
namespace Go.Proofs.YtjjikhaaimfneaaGreatDoor
open Go.RowKit
set_option linter.unusedSimpArgs false
set_option linter.unusedVariables false
attribute [local go_sem] iteMin iteMax iteMinN iteMaxN
def GraphEnds (k0 k1 R Q : Int) (q : Nat) (who ratio : Int) (e : Ending) (w' : World) : Prop :=
 ∃ kk, SxEnds (step := stp k0 k1 R Q q) (startI k0 k1) (q + 1) kk ∧
  (((rnds k0 k1 R Q q kk).full = false ∧ ∃ v B, e = .returned (.tuple #[.agg #[.int .i64 (rnds k0 k1 R Q q kk).states.length, v], .int .i64 0]) ∧ w'.ownsRow B 86 3 v (rnds k0 k1 R Q q kk).edges.length (flatE who ratio (rnds k0 k1 R Q q kk).edges)) ∨
   ((rnds k0 k1 R Q q kk).full = true ∧ e = .returned (.tuple #[.agg #[.int .i64 0, .slice none 0 0], .int .i64 4])))
set_option maxRecDepth 100000 in
set_option maxHeartbeats 4000000 in
theorem graph_range (k0 k1 R Q J who ratio : Int) (w : World) (hb : who < 0 ∨ 1 < who ∨ ratio < 1 ∨ 100 < ratio) :
 Calls Tryz.prog 22 #[.agg #[.int .i64 k0, .int .i64 k1, .int .i64 R, .int .i64 Q, .int .i64 J], .int .i64 who, .int .i64 ratio] w fun e w' => e = .returned (.tuple #[.agg #[.int .i64 0, .slice none 0 0], .int .i64 2]) ∧ Below w.heap.size w w' := by
 rcases (show who < 0 ∨ (0 ≤ who ∧ 1 < who) ∨ (0 ≤ who ∧ who ≤ 1 ∧ ratio < 1) ∨ (0 ≤ who ∧ who ≤ 1 ∧ 1 ≤ ratio ∧ 100 < ratio) by omega) with h | ⟨g, h⟩ | ⟨g, g', h⟩ | ⟨g, g', g'', h⟩
 all_goals
  clear hb
  go_enter Tryz.func22, Tryz.ntmps22
  go_wp2
  refine bodyPost_ret (v := .tuple #[.agg #[.int .i64 0, .slice none 0 0], .int .i64 2]) (by simp [results, Tryz.f22, go_sem]) rfl ⟨rfl, ?_⟩
  exact by (repeat' (first | (with_reducible exact Below.refl _ _) | (with_reducible refine Below.alloc ?_ ?_ _) | (with_reducible refine Below.setCell ?_ ?_ _) | omega | (simp; done) | (simp; omega)))
set_option maxRecDepth 100000 in
set_option maxHeartbeats 4000000 in
theorem graph_wrong (k0 k1 R Q J who ratio r : Int) (w : World) (hb : 0 ≤ who ∧ who ≤ 1 ∧ 1 ≤ ratio ∧ ratio ≤ 100) (hw : WrongSays k0 k1 R Q J r) (h0 : r ≠ 0) :
 Calls Tryz.prog 22 #[.agg #[.int .i64 k0, .int .i64 k1, .int .i64 R, .int .i64 Q, .int .i64 J], .int .i64 who, .int .i64 ratio] w fun e w' => e = .returned (.tuple #[.agg #[.int .i64 0, .slice none 0 0], .int .i64 r]) ∧ Below w.heap.size w w' := by
 have h0' : ((r : Int) != 0) = true := by simpa using h0
 have HW := hide hw
 have H0 := hide h0
 clear hw h0
 obtain ⟨S, hS⟩ : ∃ S, w.heap.size = S := ⟨_, rfl⟩
 obtain ⟨g0, g1, g2, g3⟩ := hb
 go_enter Tryz.func22, Tryz.ntmps22
 go_wp2_with fail
 obtain ⟨W, hW⟩ : ∃ W, W = ((((w.alloc (.cells #[.int .i64 k0, .int .i64 k1, .int .i64 R, .int .i64 Q, .int .i64 J] 49)).alloc (.cells #[.int .i64 who] 3)).alloc (.cells #[.int .i64 ratio] 3)).alloc (.cells #[.int .i64 0, .slice none 0 0] 57)).alloc (.cells #[.int .i64 0, .slice none 0 0] 57) := ⟨_, rfl⟩
 rw [← hW]
 have hWB : Below S w W := by rw [hW, ← hS]; exact (((((Below.refl _ _).alloc (Nat.le_refl _) _).alloc (by simp) _).alloc (by simp; omega) _).alloc (by simp; omega) _).alloc (by simp; omega) _
 have hWs : W.heap.size = S + 5 := by rw [hW, ← hS]; simp
 have b0 : Blk W (S) [.int .i64 k0, .int .i64 k1, .int .i64 R, .int .i64 Q, .int .i64 J] := by
  have := (((((Blk.new w [.int .i64 k0, .int .i64 k1, .int .i64 R, .int .i64 Q, .int .i64 J] 49).alloc (.cells #[.int .i64 who] 3)).alloc (.cells #[.int .i64 ratio] 3)).alloc (.cells #[.int .i64 0, .slice none 0 0] 57)).alloc (.cells #[.int .i64 0, .slice none 0 0] 57))
  rw [hW]; simpa [hS] using this
 have b1 : Blk W (S + 1) [.int .i64 who] := by
  have := ((((Blk.new (w.alloc (.cells #[.int .i64 k0, .int .i64 k1, .int .i64 R, .int .i64 Q, .int .i64 J] 49)) [.int .i64 who] 3).alloc (.cells #[.int .i64 ratio] 3)).alloc (.cells #[.int .i64 0, .slice none 0 0] 57)).alloc (.cells #[.int .i64 0, .slice none 0 0] 57))
  rw [hW]; simpa [hS] using this
 have b2 : Blk W (S + 1 + 1) [.int .i64 ratio] := by
  have := (((Blk.new ((w.alloc (.cells #[.int .i64 k0, .int .i64 k1, .int .i64 R, .int .i64 Q, .int .i64 J] 49)).alloc (.cells #[.int .i64 who] 3)) [.int .i64 ratio] 3).alloc (.cells #[.int .i64 0, .slice none 0 0] 57)).alloc (.cells #[.int .i64 0, .slice none 0 0] 57))
  rw [hW]; simpa [hS] using this
 have b3 : Blk W (S + 1 + 1 + 1) [.int .i64 0, .slice none 0 0] := by
  have := ((Blk.new (((w.alloc (.cells #[.int .i64 k0, .int .i64 k1, .int .i64 R, .int .i64 Q, .int .i64 J] 49)).alloc (.cells #[.int .i64 who] 3)).alloc (.cells #[.int .i64 ratio] 3)) [.int .i64 0, .slice none 0 0] 57).alloc (.cells #[.int .i64 0, .slice none 0 0] 57))
  rw [hW]; simpa [hS] using this
 have b4 : Blk W (S + 1 + 1 + 1 + 1) [.int .i64 0, .slice none 0 0] := by
  have := (Blk.new ((((w.alloc (.cells #[.int .i64 k0, .int .i64 k1, .int .i64 R, .int .i64 Q, .int .i64 J] 49)).alloc (.cells #[.int .i64 who] 3)).alloc (.cells #[.int .i64 ratio] 3)).alloc (.cells #[.int .i64 0, .slice none 0 0] 57)) [.int .i64 0, .slice none 0 0] 57)
  rw [hW]; simpa [hS] using this
 refine (each_wrong _ _ k0 k1 R Q J r W HW.out H0.out).mono ?_
 rintro e w1 ⟨rfl, hA⟩
 have b3 := b3.below hA b3.lt
 have hB := hide (hWB.trans (hA.mono (by omega)))
 have B3 := hide b3
 have e4 := (b3 0 _ rfl).1
 have e5 := (b3 1 _ rfl).1
 have f4 := (b3 0 _ rfl).2
 have f5 := (b3 1 _ rfl).2
 clear hW hA b0 b1 b2 b3 b4 hWs hWB
 go_wp2
 have z3 : Blk ((w1.setCell ⟨S + 1 + 1 + 1, 0, none⟩ (.int .i64 0)).setCell ⟨S + 1 + 1 + 1, 1, none⟩ (.slice none 0 0)) (S + 1 + 1 + 1) [.int .i64 0, .slice none 0 0] := (B3.out.set (j := 0) (by simp) (.int .i64 0)).set (j := 1) (by simp) (.slice none 0 0)
 have y2 := (z3 0 _ rfl).1
 have y3 := (z3 1 _ rfl).1
 refine bodyPost_ret (v := .tuple #[.agg #[.int .i64 0, .slice none 0 0], .int .i64 r]) ?_ rfl ⟨rfl, ?_⟩
 · simp [results, Tryz.f22, go_sem, y2, y3]
 · rw [hS]
   exact (hB.out.setCell (by simp only; omega) _).setCell (by simp only; omega) _
set_option maxRecDepth 100000 in
set_option maxHeartbeats 4000000 in
theorem graph_run (k0 k1 R Q : Int) (q : Nat) (who ratio : Int) (w : World) (hb : 0 ≤ who ∧ who ≤ 1 ∧ 1 ≤ ratio ∧ ratio ≤ 100) (hk : kindsOk k0 k1) (hr : rangeOk R Q (q : Int)) :
 Calls Tryz.prog 22 #[.agg #[.int .i64 k0, .int .i64 k1, .int .i64 R, .int .i64 Q, .int .i64 (q : Int)], .int .i64 who, .int .i64 ratio] w fun e w' => GraphEnds k0 k1 R Q q who ratio e w' ∧ Below w.heap.size w w' := by
 have HK := hide hk
 have HR := hide hr
 have HB := hide hb
 clear hk hr
 obtain ⟨S, hS⟩ : ∃ S, w.heap.size = S := ⟨_, rfl⟩
 obtain ⟨g0, g1, g2, g3⟩ := hb
 go_enter Tryz.func22, Tryz.ntmps22
 go_wp2_with fail
 obtain ⟨W, hW⟩ : ∃ W, W = ((((w.alloc (.cells #[.int .i64 k0, .int .i64 k1, .int .i64 R, .int .i64 Q, .int .i64 (q : Int)] 49)).alloc (.cells #[.int .i64 who] 3)).alloc (.cells #[.int .i64 ratio] 3)).alloc (.cells #[.int .i64 0, .slice none 0 0] 57)).alloc (.cells #[.int .i64 0, .slice none 0 0] 57) := ⟨_, rfl⟩
 rw [← hW]
 have hWB : Below S w W := by rw [hW, ← hS]; exact (((((Below.refl _ _).alloc (Nat.le_refl _) _).alloc (by simp) _).alloc (by simp; omega) _).alloc (by simp; omega) _).alloc (by simp; omega) _
 have hWs : W.heap.size = S + 5 := by rw [hW, ← hS]; simp
 have b0 : Blk W (S) [.int .i64 k0, .int .i64 k1, .int .i64 R, .int .i64 Q, .int .i64 (q : Int)] := by
  have := (((((Blk.new w [.int .i64 k0, .int .i64 k1, .int .i64 R, .int .i64 Q, .int .i64 (q : Int)] 49).alloc (.cells #[.int .i64 who] 3)).alloc (.cells #[.int .i64 ratio] 3)).alloc (.cells #[.int .i64 0, .slice none 0 0] 57)).alloc (.cells #[.int .i64 0, .slice none 0 0] 57))
  rw [hW]; simpa [hS] using this
 have b1 : Blk W (S + 1) [.int .i64 who] := by
  have := ((((Blk.new (w.alloc (.cells #[.int .i64 k0, .int .i64 k1, .int .i64 R, .int .i64 Q, .int .i64 (q : Int)] 49)) [.int .i64 who] 3).alloc (.cells #[.int .i64 ratio] 3)).alloc (.cells #[.int .i64 0, .slice none 0 0] 57)).alloc (.cells #[.int .i64 0, .slice none 0 0] 57))
  rw [hW]; simpa [hS] using this
 have b2 : Blk W (S + 1 + 1) [.int .i64 ratio] := by
  have := (((Blk.new ((w.alloc (.cells #[.int .i64 k0, .int .i64 k1, .int .i64 R, .int .i64 Q, .int .i64 (q : Int)] 49)).alloc (.cells #[.int .i64 who] 3)) [.int .i64 ratio] 3).alloc (.cells #[.int .i64 0, .slice none 0 0] 57)).alloc (.cells #[.int .i64 0, .slice none 0 0] 57))
  rw [hW]; simpa [hS] using this
 have b3 : Blk W (S + 1 + 1 + 1) [.int .i64 0, .slice none 0 0] := by
  have := ((Blk.new (((w.alloc (.cells #[.int .i64 k0, .int .i64 k1, .int .i64 R, .int .i64 Q, .int .i64 (q : Int)] 49)).alloc (.cells #[.int .i64 who] 3)).alloc (.cells #[.int .i64 ratio] 3)) [.int .i64 0, .slice none 0 0] 57).alloc (.cells #[.int .i64 0, .slice none 0 0] 57))
  rw [hW]; simpa [hS] using this
 have b4 : Blk W (S + 1 + 1 + 1 + 1) [.int .i64 0, .slice none 0 0] := by
  have := (Blk.new ((((w.alloc (.cells #[.int .i64 k0, .int .i64 k1, .int .i64 R, .int .i64 Q, .int .i64 (q : Int)] 49)).alloc (.cells #[.int .i64 who] 3)).alloc (.cells #[.int .i64 ratio] 3)).alloc (.cells #[.int .i64 0, .slice none 0 0] 57)) [.int .i64 0, .slice none 0 0] 57)
  rw [hW]; simpa [hS] using this
 have h44 : W.heap[S + 1 + 1 + 1 + 1]? = some (.cells [.int .i64 0, .slice none 0 0].toArray 57 (0, 0)) := by
  have := heap_new ((((w.alloc (.cells #[.int .i64 k0, .int .i64 k1, .int .i64 R, .int .i64 Q, .int .i64 (q : Int)] 49)).alloc (.cells #[.int .i64 who] 3)).alloc (.cells #[.int .i64 ratio] 3)).alloc (.cells #[.int .i64 0, .slice none 0 0] 57)) (.cells #[.int .i64 0, .slice none 0 0] 57)
  rw [hW]; simpa [hS] using this
 have gr : GrAt who ratio (S + 1 + 1 + 1 + 1) (S + 1) (S + 1 + 1) (.slice none 0 0) [] W := ⟨(b4 0 _ rfl).1, (b4 1 _ rfl).1, fun j => froz_heap h44, (b1 0 _ rfl).1, (b2 0 _ rfl).1, ⟨by simp [flatE], .inl ⟨rfl, rfl⟩⟩, by omega, by omega⟩
 refine (each_run 44 #[.pointer (some ⟨S + 1 + 1 + 1 + 1, 0, none⟩), .pointer (some ⟨S + 1, 0, none⟩), .pointer (some ⟨S + 1 + 1, 0, none⟩)] (TG who ratio (S + 1 + 1 + 1 + 1) (S + 1) (S + 1 + 1)) (graph1_tell who ratio (by have := HB.out; omega) (by have := HB.out; omega) _ _ _) k0 k1 R Q q W (GFoot (S + 1 + 1 + 1 + 1) (S + 1) (S + 1 + 1) (.slice none 0 0)) ⟨_, gr, rfl⟩ HK.out HR.out).mono ?_
 have nf : ∀ b, (b < S + 1 ∨ b = S + 1 + 1 + 1) → ¬ GFoot (S + 1 + 1 + 1 + 1) (S + 1) (S + 1 + 1) (.slice none 0 0) b := fun b hb hf => by
  rcases hf with h | h | h | h
  · omega
  · omega
  · omega
  · cases h
 have kb : ∀ (w1 : World), Chg W w1 (GFoot (S + 1 + 1 + 1 + 1) (S + 1) (S + 1 + 1) (.slice none 0 0)) → Blk w1 (S + 1 + 1 + 1) [.int .i64 0, .slice none 0 0] ∧ Below S w w1 := fun w1 hc => by
  have he : w1.heap[S + 1 + 1 + 1]? = W.heap[S + 1 + 1 + 1]? := hc.block _ (by omega) (nf _ (.inr rfl))
  refine ⟨fun j v hj => ⟨(World.cell?_of_block (w := W) (a := ⟨S + 1 + 1 + 1, j, none⟩) he).trans (b3 j v hj).1, (World.frozen?_of_block (w := W) (a := ⟨S + 1 + 1 + 1, j, none⟩) he).trans (b3 j v hj).2⟩, hWB.trans ⟨hc.os, hc.tape, hc.output, hc.size, fun b hb => hc.block b (by omega) (nf b (.inl (by omega)))⟩⟩
 have KB := hide kb
 clear hW b0 b1 b2 b3 b4 gr nf kb hWB h44
 rintro e w1 ⟨kk, hends, ⟨PB, MB, B, v1, v2, v3, F, hf, rfl, hE⟩ | ⟨hf, rfl, hc⟩⟩
 · have p1 := hE.sp.c1
   obtain ⟨a1, c1, e1⟩ := sliceShape hE.sp.r1
   rw [e1] at p1
   obtain ⟨v, g, hF⟩ := hE.tl
   obtain ⟨a2, c2, e2⟩ := sliceShape g.row
   subst e2
   obtain ⟨n, hn⟩ : ∃ n, (rnds k0 k1 R Q q kk).states.length = n := ⟨_, rfl⟩
   obtain ⟨m, hm⟩ : ∃ m, (rnds k0 k1 R Q q kk).edges.length = m := ⟨_, rfl⟩
   rw [hn] at p1
   obtain ⟨bb, hBB⟩ := KB.out _ hE.chg
   have q0 := g.c0
   have q1 := g.c1
   have qf0 := g.fz 0
   have qf1 := g.fz 1
   rw [hm] at q1
   have e4 := (bb 0 _ rfl).1
   have e5 := (bb 1 _ rfl).1
   have f4 := (bb 0 _ rfl).2
   have f5 := (bb 1 _ rfl).2
   have rw' := g.row
   have dq : ¬ S + 1 + 1 + 1 + 1 = S + 1 + 1 + 1 := by omega
   rw [hm] at rw'
   have HRW := hide rw'
   have HBB := hide hBB
   have HB3 := hide bb
   have HN := hide hends
   have HF := hide hf
   have HN' := hide hn
   have HM := hide hm
   clear hE hends hf e1 g hF rw' hBB bb hn hm hWs HB KB
   go_wp2
   obtain ⟨Z, hZ⟩ : ∃ Z, Z = ((w1.setCell ⟨S + 1 + 1 + 1 + 1, 0, none⟩ (.int .i64 n)).setCell ⟨S + 1 + 1 + 1, 0, none⟩ (.int .i64 n)).setCell ⟨S + 1 + 1 + 1, 1, none⟩ (.slice a2 m c2) := ⟨_, rfl⟩
   rw [← hZ]
   have z3 : Blk Z (S + 1 + 1 + 1) [.int .i64 n, .slice a2 m c2] := by
    rw [hZ]; exact ((HB3.out.other ⟨S + 1 + 1 + 1 + 1, 0, none⟩ (.int .i64 n) (by simp only; omega)).set (j := 0) (by simp) (.int .i64 n)).set (j := 1) (by simp) (.slice a2 m c2)
   have y2 := (z3 0 _ rfl).1
   have y3 := (z3 1 _ rfl).1
   have hrow : Z.ownsRow (S + 1 + 1 + 1 + 1 + 1) 86 3 (.slice a2 m c2) m (flatE who ratio (rnds k0 k1 R Q q kk).edges) := by
    refine rows_kept HRW.out (fun b hb => ?_)
    have := rows_lt HRW.out b hb
    rw [hZ, Below.heap_setCell _ _ _ _ (by simp only; omega), Below.heap_setCell _ _ _ _ (by simp only; omega), Below.heap_setCell _ _ _ _ (by simp only; omega)]
   refine bodyPost_ret (v := .tuple #[.agg #[.int .i64 n, .slice a2 m c2], .int .i64 0]) ?_ rfl ⟨⟨kk, HN.out, .inl ⟨HF.out, .slice a2 m c2, _, by rw [HN'.out], by rw [HM.out]; exact hrow⟩⟩, ?_⟩
   · simp [results, Tryz.f22, go_sem, y2, y3]
   · rw [hS, hZ]
     exact ((HBB.out.setCell (by simp only; omega) _).setCell (by simp only; omega) _).setCell (by simp only; omega) _
 · obtain ⟨bb, hBB⟩ := KB.out _ hc
   have e4 := (bb 0 _ rfl).1
   have e5 := (bb 1 _ rfl).1
   have f4 := (bb 0 _ rfl).2
   have f5 := (bb 1 _ rfl).2
   have HBB := hide hBB
   have HB3 := hide bb
   have HN := hide hends
   have HF := hide hf
   clear hc hends hf hBB bb hWs HB KB
   go_wp2
   have z3 : Blk ((w1.setCell ⟨S + 1 + 1 + 1, 0, none⟩ (.int .i64 0)).setCell ⟨S + 1 + 1 + 1, 1, none⟩ (.slice none 0 0)) (S + 1 + 1 + 1) [.int .i64 0, .slice none 0 0] := (HB3.out.set (j := 0) (by simp) (.int .i64 0)).set (j := 1) (by simp) (.slice none 0 0)
   have y2 := (z3 0 _ rfl).1
   have y3 := (z3 1 _ rfl).1
   refine bodyPost_ret (v := .tuple #[.agg #[.int .i64 0, .slice none 0 0], .int .i64 4]) ?_ rfl ⟨⟨kk, HN.out, .inr ⟨HF.out, rfl⟩⟩, ?_⟩
   · simp [results, Tryz.f22, go_sem, y2, y3]
   · rw [hS]
     exact (HBB.out.setCell (by simp only; omega) _).setCell (by simp only; omega) _
end Go.Proofs.YtjjikhaaimfneaaGreatDoor
namespace Go.Proofs.YtjjikhaaimfneaaGreatDoor
open Go.RowKit
set_option linter.unusedSimpArgs false
set_option linter.unusedVariables false
theorem latesP_ok {q n : Nat} (hn : n ≤ (q + 1) * (q + 1)) : ∀ l ∈ latesP (q + 1) n, 0 ≤ l.x ∧ l.x ≤ (q : Int) ∧ 0 ≤ l.y ∧ l.y ≤ (q : Int) := by
 intro l hl
 simp only [latesP, List.mem_map, List.mem_range] at hl
 obtain ⟨e, he, rfl⟩ := hl
 have h1 : e / (q + 1) < q + 1 := Nat.div_lt_of_lt_mul (by omega)
 have h2 : e % (q + 1) < q + 1 := Nat.mod_lt _ (by omega)
 dsimp only
 generalize e / (q + 1) = a at *
 generalize e % (q + 1) = b at *
 omega
def Edg.fl (E : Edg) : Nat × P2 := (E.f, E.l)
section
variable {step : List Int → P2 → List Int × List Int}
theorem Sx.go_fl (B : Sx) (k : Nat) (l : P2) (h : (B.go step k l).full = false) : (B.go step k l).edges.map Edg.fl = B.edges.map Edg.fl ++ [(k, l)] := by
 unfold Sx.go at h ⊢
 (repeat' split at h) <;> (repeat' split) <;> simp_all [Edg.fl]
theorem Sx.walk_fl {B : Sx} {k : Nat} {ls : List P2} (h : (B.walk step k ls).full = false) : (B.walk step k ls).edges.map Edg.fl = B.edges.map Edg.fl ++ ls.map (fun l => (k, l)) := by
 induction ls generalizing B with
 | nil => simp [Sx.walk]
 | cons l ls ih =>
   have h1 : ((B.go step k l).walk step k ls).full = false := h
   have h2 := ih h1
   have h3 := Sx.go_fl B k l (Sx.walk_open h1)
   show ((B.go step k l).walk step k ls).edges.map Edg.fl = _
   rw [h2, h3]; simp
end
def flOf (N n : Nat) : List (Nat × P2) := (List.range n).flatMap fun k => (latesP N (N * N)).map fun l => (k, l)
theorem flOf_succ (N n : Nat) : flOf N (n + 1) = flOf N n ++ (latesP N (N * N)).map fun l => (n, l) := by simp [flOf, List.range_succ]
theorem sx_fl {k0 k1 R Q : Int} {q n : Nat} (h : ∀ j, j < n → (rnds k0 k1 R Q q j).full = false) (hf : (rnds k0 k1 R Q q n).full = false) : (rnds k0 k1 R Q q n).edges.map Edg.fl = flOf (q + 1) n := by
 induction n with
 | zero => simp [rnds, rounds, flOf]
 | succ n ih =>
   have h1 := ih (fun j hj => h j (by omega)) (h n (by omega))
   rw [rnds_succ] at hf ⊢
   rw [Sx.walk_fl hf, h1, flOf_succ]
theorem rows_below {w w' : World} {B n : Nat} {e : TypeId} {size : Nat} {v : Value} {xs : List Value} (h : w.ownsRow B e size v n xs) (hb : Below w.heap.size w w') : w'.ownsRow B e size v n xs :=
 rows_kept h (fun g hg => hb.block g (rows_lt h g hg).2)
theorem flatE_S (who ratio : Int) (es : List Edg) : flatE who ratio es = flatS (es.map fun E => [(E.f : Int), (E.t : Int), wtE who ratio E.us]) := by simp [flatE, flatS, List.flatMap_map]
theorem wtE_sml {who ratio : Int} {us : List Int} (hu : UU us) (hw : who = 0 ∨ who = 1) (hr : 1 ≤ ratio ∧ ratio ≤ 100) : -10000 ≤ wtE who ratio us ∧ wtE who ratio us ≤ 100 := by
 obtain ⟨h6, h1⟩ := hu
 obtain ⟨x0, x1, x2, x3, x4, x5, rfl⟩ := len6 h6
 have h2 := h1 x2 (by simp)
 have h3 := h1 x3 (by simp)
 have key : ∀ a b : Int, 0 ≤ a ∧ a ≤ 100 → 0 ≤ b ∧ b ≤ 100 → -10000 ≤ a - ratio * b ∧ a - ratio * b ≤ 100 := fun a b ha hb => by
  have m1 : 0 ≤ ratio * b := Int.mul_nonneg (by omega) (by omega)
  have m2 : ratio * b ≤ 100 * 100 := Int.le_trans (Int.mul_le_mul_of_nonneg_right hr.2 (by omega)) (Int.mul_le_mul_of_nonneg_left hb.2 (by omega))
  omega
 rcases hw with rfl | rfl
 · exact key x2 x3 h2 h3
 · exact key x3 x2 h3 h2
end Go.Proofs.YtjjikhaaimfneaaGreatDoor
