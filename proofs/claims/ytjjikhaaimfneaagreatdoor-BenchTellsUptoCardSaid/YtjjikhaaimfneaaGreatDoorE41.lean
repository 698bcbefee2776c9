/-
  Lemmas and walks for the statement: SGr.
-/
import Derived.Test.YtjjikhaaimfneaaGreatDoorE30
import Derived.Test.YtjjikhaaimfneaaGreatDoorE32
import Derived.Test.YtjjikhaaimfneaaGreatDoorE37
namespace Go.Proofs.YtjjikhaaimfneaaGreatDoor
open Go.RowKit
set_option linter.unusedSimpArgs false
set_option linter.unusedVariables false
attribute [local go_sem] iteMin iteMax iteMinN iteMaxN
def SgEnds (n m : Nat) (who ratio : Int) (es : List Edg) (w : World) (e : Ending) (w' : World) : Prop := ∃ v B', e = .returned (.agg #[.int .i64 n, v]) ∧ w'.ownsRow B' 86 3 v m (flatE who ratio es) ∧ Below w.heap.size w w'
structure SGi (w : World) (S n : Nat) (who ratio : Int) (V5 : List Value) (es : List Edg) (k : Nat) (v : Value) (wr : World) : Prop where
 bx : Blk wr S V5
 gb : Blk wr (S + 1 + 1) [.int .i64 n, v]
 rb : Blk wr (S + 1) [.int .i64 0, .slice none 0 0]
 row : wr.ownsRow (S + 3) 86 3 v k (flatE who ratio (es.take k))
 bl : Below S w wr
 sz : S + 3 ≤ wr.heap.size
theorem flatE_take {who ratio : Int} {es : List Edg} {k : Nat} {E : Edg} (h : es[k]? = some E) : flatE who ratio (es.take (k + 1)) = flatE who ratio (es.take k) ++ [.int .i64 E.f, .int .i64 E.t, .int .i64 (wtE who ratio E.us)] := by
 rw [List.take_add_one, h]; exact flatE_snoc who ratio _ E
theorem Blk.heapEq {w w' : World} {b : Nat} {vs : List Value} (h : Blk w b vs) (he : w'.heap[b]? = w.heap[b]?) : Blk w' b vs := fun j v hj =>
 ⟨(World.cell?_of_block (w := w) (a := ⟨b, j, none⟩) he).trans (h j v hj).1, (World.frozen?_of_block (w := w) (a := ⟨b, j, none⟩) he).trans (h j v hj).2⟩
theorem SGi.step {w wr V W : World} {S n k m1 cp : Nat} {who ratio wt : Int} {V5 : List Value} {es : List Edg} {a y1 : Option Addr} {c1 : Ch} {E : Edg} (h : SGi w S n who ratio V5 es k (.slice a k cp) wr) (hV : Below wr.heap.size wr V) (hE : es[k]? = some E) (hfr : Frm V [c1] W) (hv : c1.v = .slice a k cp) (hwt : wt = wtE who ratio E.us)
 (hrow : W.ownsRow (S + 3) 86 3 (.slice y1 (k + 1) m1) (k + 1) (flatE who ratio (es.take k) ++ [.int .i64 E.f, .int .i64 E.t, .int .i64 wt])) : SGi w S n who ratio V5 es (k + 1) (.slice y1 (k + 1) m1) (W.setCell ⟨S + 1 + 1, 1, none⟩ (.slice y1 (k + 1) m1)) := by
 have hz := hV.size
 have hsz := h.sz
 have no : ∀ b, b < S + 3 → (Value.slice a k cp).ownBlock ≠ some b := fun b hb e => by have := (rows_lt h.row b e).1; omega
 have kb : ∀ b, b < S + 3 → W.heap[b]? = wr.heap[b]? := fun b hb => (ch1_keep hfr (by omega) (by rw [hv]; exact no b hb)).trans (hV.block b (by omega))
 have hs : ∀ b, b ≠ S + 1 + 1 → (W.setCell ⟨S + 1 + 1, 1, none⟩ (.slice y1 (k + 1) m1)).heap[b]? = W.heap[b]? := fun b hb => Below.heap_setCell _ _ _ _ hb
 refine ⟨h.bx.heapEq ((hs S (by omega)).trans (kb S (by omega))), (h.gb.heapEq (kb (S + 1 + 1) (by omega))).set (j := 1) (by simp) _, h.rb.heapEq ((hs (S + 1) (by omega)).trans (kb (S + 1) (by omega))), ?_, ?_, ?_⟩
 · rw [flatE_take hE, ← hwt]
   exact rows_kept hrow (fun b hb => hs b (by have := (rows_lt hrow b hb).1; omega))
 · have h1 : Below S w V := h.bl.trans (hV.mono (by omega))
   have h2 : Below S w W := ⟨hfr.os.trans h1.os, hfr.tape.trans h1.tape, hfr.output.trans h1.output, Nat.le_trans h1.size hfr.size, fun b hb => (kb b (by omega)).trans (h.bl.block b hb)⟩
   exact below_set h2 _ (by show S ≤ S + 1 + 1; omega)
 · have := hfr.size
   have e : (W.setCell ⟨S + 1 + 1, 1, none⟩ (.slice y1 (k + 1) m1)).heap.size = W.heap.size := by simp
   omega
theorem chs_F {w wr V : World} {S n k m cp c1 c2 g1 g2 RB : Nat} {who ratio f t x2 x3 : Int} {V5 : List Value} {es : List Edg} {a : Option Addr} {d : Ch} (h : SGi w S n who ratio V5 es k (.slice a k cp) wr) (hV : Below wr.heap.size wr V) (hv : d.v = .slice a k cp) (hg1 : g1 < S) (hg2 : g2 < S) (hRB : RB = wr.heap.size) (hRV : RB < V.heap.size) (hF : (fun w' : World => w'.cell? ⟨S + 1 + 1, 1, none⟩ = some (.slice a k cp) ∧ w'.cell? ⟨S, 1, none⟩ = some (.slice (some ⟨g1, 0, none⟩) m c1) ∧ w'.cell? ⟨S, 2, none⟩ = some (.slice (some ⟨g2, 0, none⟩) m c2) ∧ w'.cell? ⟨g1, k, none⟩ = some (.int .i64 f) ∧ w'.cell? ⟨g2, k, none⟩ = some (.int .i64 t) ∧ w'.cell? ⟨RB, 2, none⟩ = some (.int .i64 x2) ∧ w'.cell? ⟨RB, 3, none⟩ = some (.int .i64 x3)) V) : ∀ W, Frm V [d] W → (fun w' : World => w'.cell? ⟨S + 1 + 1, 1, none⟩ = some (.slice a k cp) ∧ w'.cell? ⟨S, 1, none⟩ = some (.slice (some ⟨g1, 0, none⟩) m c1) ∧ w'.cell? ⟨S, 2, none⟩ = some (.slice (some ⟨g2, 0, none⟩) m c2) ∧ w'.cell? ⟨g1, k, none⟩ = some (.int .i64 f) ∧ w'.cell? ⟨g2, k, none⟩ = some (.int .i64 t) ∧ w'.cell? ⟨RB, 2, none⟩ = some (.int .i64 x2) ∧ w'.cell? ⟨RB, 3, none⟩ = some (.int .i64 x3)) W := by
 intro W hW
 have hsz := h.sz
 have hz := hV.size
 have kb : ∀ b, b < V.heap.size → (b < S + 3 ∨ b = RB) → W.heap[b]? = V.heap[b]? := fun b hb hc => ch1_keep hW hb (by
  rw [hv]; intro e
  have := rows_lt h.row b e
  omega)
 have kc : ∀ b j, b < V.heap.size → (b < S + 3 ∨ b = RB) → W.cell? ⟨b, j, none⟩ = V.cell? ⟨b, j, none⟩ := fun b j hb hc => World.cell?_of_block (w := V) (a := ⟨b, j, none⟩) (kb b hb hc)
 obtain ⟨f1, f2, f3, f4, f5, f6, f7⟩ := hF
 exact ⟨(kc _ _ (by omega) (.inl (by omega))).trans f1, (kc _ _ (by omega) (.inl (by omega))).trans f2, (kc _ _ (by omega) (.inl (by omega))).trans f3, (kc _ _ (by omega) (.inl (by omega))).trans f4, (kc _ _ (by omega) (.inl (by omega))).trans f5, (kc _ _ hRV (.inr rfl)).trans f6, (kc _ _ hRV (.inr rfl)).trans f7⟩
theorem chs_slots {t e : TypeId} {sz n : Nat} {v : Value} {xs x : List Value} : ∀ d ∈ slots (ixs [(⟨25, 26, 47, 48, t, e, sz, v, n, xs, x⟩ : Ch)]), d < 52 := by
 intro d hd
 simp only [ixs, slots, List.map_cons, List.map_nil, List.mem_cons, List.not_mem_nil, or_false] at hd
 omega
theorem rowU {W : World} {B m : Nat} {v : Value} {es : List Edg} {k : Nat} {E : Edg} {x0 x1 x2 x3 x4 x5 : Int} (h : W.ownsRow B 92 6 v m (flatU es)) (hn : es.length = m) (hU : ∀ E ∈ es, E.us.length = 6) (hk : es[k]? = some E) (he : E.us = [x0, x1, x2, x3, x4, x5]) :
 ∃ (ad : Addr) (cap : Nat), v = .slice (some ad) m cap ∧ (ad.add (k * 6)).block < W.heap.size ∧ W.cell? (ad.add (k * 6)) = some (.int .i64 x0) ∧ W.cell? (⟨(ad.add (k * 6)).block, (ad.add (k * 6)).off + 1, none⟩) = some (.int .i64 x1) ∧ W.cell? (⟨(ad.add (k * 6)).block, (ad.add (k * 6)).off + 2, none⟩) = some (.int .i64 x2) ∧ W.cell? (⟨(ad.add (k * 6)).block, (ad.add (k * 6)).off + 3, none⟩) = some (.int .i64 x3) ∧ W.cell? (⟨(ad.add (k * 6)).block, (ad.add (k * 6)).off + 4, none⟩) = some (.int .i64 x4) ∧ W.cell? (⟨(ad.add (k * 6)).block, (ad.add (k * 6)).off + 5, none⟩) = some (.int .i64 x5) := by
 have e : flatU es = flatS (es.map (·.us)) := by simp [flatU, flatS, List.flatMap_map]
 rw [e] at h
 obtain ⟨ad, cap, h1, h2, h3, h4⟩ := rowI (r := [x0, x1, x2, x3, x4, x5]) h (Below.refl _ _) (by simpa using hn) (fun t ht => by
  obtain ⟨E, hE, rfl⟩ := List.mem_map.1 ht
  exact hU E hE) (by rw [List.getElem?_map, hk]; simp [he])
 exact ⟨ad, cap, h1, h2, rowI0 (h4 0 x0 rfl) h3, h4 1 x1 rfl, h4 2 x2 rfl, h4 3 x3 rfl, h4 4 x4 rfl, h4 5 x5 rfl⟩
set_option maxRecDepth 100000 in
set_option maxHeartbeats 8000000 in
theorem sgraph_0 (ratio : Int) (hr : 1 ≤ ratio ∧ ratio ≤ 100) (B : Nat) (v0 v1 v2 v3 v4 : Value) (n m : Nat) (ss : List (List Int)) (es : List Edg) (w : World) (hn3 : n ≤ 300) (hm : es.length = m) (hm3 : m ≤ 4800)
 (r0 : w.ownsRow B 133 14 v0 n (flatS ss)) (r1 : w.ownsRow B 3 1 v1 m ((fromsE es).map (Value.int .i64))) (r2 : w.ownsRow B 3 1 v2 m ((tosE es).map (Value.int .i64))) (r4 : w.ownsRow B 92 6 v4 m (flatU es)) (hU : ∀ E ∈ es, E.t ≤ 300 ∧ E.f ≤ 300 ∧ UU E.us) :
 Calls Tryz.prog 60 #[.agg #[v0, v1, v2, v3, v4], .int .i64 0, .int .i64 ratio] w fun e w' => SgEnds n m 0 ratio es w e w' := by
 obtain ⟨i1, hi1, hy1, hz1, hu1⟩ := info_parts infoEdge
 have HI1 := hide (And.intro hi1 (And.intro hy1 (And.intro hz1 hu1)))
 have ew0 : IntKind.i64.wrap 0 = 0 := IntWalk.i64_in _ (by omega)
 have ew1 : IntKind.i64.wrap 1 = 1 := IntWalk.i64_in _ (by omega)
 obtain ⟨S, hS⟩ : ∃ S, w.heap.size = S := ⟨_, rfl⟩
 obtain ⟨a0, c0, rfl⟩ := sliceShape r0
 obtain ⟨a4, c4, e4⟩ := sliceShape r4
 have HR1 := hide r1; have HR2 := hide r2; have HR4 := hide r4; have HU := hide hU; have HM := hide hm; have HS := hide hS; have HE4 := hide e4
 clear hi1 hy1 hz1 hu1 r0 r1 r2 r4 hU hm
 subst e4
 go_enter Tryz.func60, Tryz.ntmps60
 go_wp2_with fail
 obtain ⟨X, hX⟩ : ∃ X, X = ((w.alloc (.cells #[.slice a0 n c0, v1, v2, v3, .slice a4 m c4] 118)).alloc (.cells #[.int .i64 0, .slice none 0 0] 57)).alloc (.cells #[.int .i64 n, .slice none 0 0] 57) := ⟨_, rfl⟩
 have H0 : Hid (SGi w S n 0 ratio [.slice a0 n c0, v1, v2, v3, .slice a4 m c4] es 0 (.slice none 0 0) X) := by
  have hw := HS.out
  have b0 := ((Blk.new w [.slice a0 n c0, v1, v2, v3, .slice a4 m c4] 118).alloc (.cells #[.int .i64 0, .slice none 0 0] 57)).alloc (.cells #[.int .i64 n, .slice none 0 0] 57)
  have b1 := (Blk.new (w.alloc (.cells #[.slice a0 n c0, v1, v2, v3, .slice a4 m c4] 118)) [.int .i64 0, .slice none 0 0] 57).alloc (.cells #[.int .i64 n, .slice none 0 0] 57)
  have b2 := Blk.new ((w.alloc (.cells #[.slice a0 n c0, v1, v2, v3, .slice a4 m c4] 118)).alloc (.cells #[.int .i64 0, .slice none 0 0] 57)) [.int .i64 n, .slice none 0 0] 57
  refine hide ⟨?_, ?_, ?_, ⟨by simp [flatE], .inl ⟨rfl, rfl⟩⟩, ?_, ?_⟩
  · rw [hX]; simpa [hw] using b0
  · rw [hX]; simpa [hw] using b2
  · rw [hX]; simpa [hw] using b1
  · rw [hX, ← hw]; exact (((Below.refl _ _).alloc (Nat.le_refl _) _).alloc (by simp) _).alloc (by simp; omega) _
  · rw [hX]; simp [hw]
 rw [← hX]
 try simp only [hS]
 clear hX
 have HSr := HS
 clear HE4
 go_loopw [17] (fun i wr => ∃ (k : Nat) (v : Value), k ≤ m ∧ i = .int .i64 k ∧ Hid (SGi w S n 0 ratio [.slice a0 n c0, v1, v2, v3, .slice a4 m c4] es k v wr)) (fun i _ => m - (intOf i).toNat)
 case atStart => exact ⟨0, _, Nat.zero_le _, rfl, H0⟩
 case round =>
  clear H0 X
  obtain ⟨k, v, hk, rfl, hrel⟩ := hrel
  obtain ⟨a, cp, hv⟩ := sliceShape hrel.out.row
  subst hv
  have k0 : (0 : Int) ≤ (k : Int) := Int.natCast_nonneg _
  by_cases hlt : k < m
  · have hlt' : (k : Int) < (m : Int) := by omega
    obtain ⟨E, hE⟩ : ∃ E, es[k]? = some E := ⟨_, List.getElem?_eq_getElem (by rw [HM.out]; exact hlt)⟩
    obtain ⟨hEt, hEf, hU6, hU1⟩ := HU.out E (List.mem_of_getElem? hE)
    obtain ⟨x0, x1, x2, x3, x4, x5, hus⟩ := len6 hU6
    have hx2 := hU1 x2 (by rw [hus]; simp)
    have hx3 := hU1 x3 (by rw [hus]; simp)
    obtain ⟨f, hf⟩ : ∃ f : Int, (E.f : Int) = f := ⟨_, rfl⟩
    obtain ⟨t, ht⟩ : ∃ t : Int, (E.t : Int) = t := ⟨_, rfl⟩
    obtain ⟨g1, c1, e1, _, _, _, q1⟩ := slice_some HR1.out (by omega)
    obtain ⟨g2, c2, e2, _, _, _, q2⟩ := slice_some HR2.out (by omega)
    obtain ⟨ad, cap, e4, had, u0, u1, u2, u3, u4, u5⟩ := rowU HR4.out HM.out (fun E hE => (HU.out E hE).2.2.1) hE hus
    injection e4 with e4 _ e4'
    subst e4
    have hbl := hrel.out.bl
    have kc : ∀ {p : Addr} {v : Value}, p.block < S → w.cell? p = some v → wr.cell? p = some v := fun {p v} hb h => (hbl.cell hb).trans h
    have p1 : wr.cell? ⟨g1, k, none⟩ = some (.int .i64 f) := kc (by rw [← HS.out]; exact q1) (own1_at (by have := HR1.out; rw [e1] at this; exact this) (by simp [fromsE, hE, hf]))
    have p2 : wr.cell? ⟨g2, k, none⟩ = some (.int .i64 t) := kc (by rw [← HS.out]; exact q2) (own1_at (by have := HR2.out; rw [e2] at this; exact this) (by simp [tosE, hE, ht]))
    rw [HS.out] at had
    have u0 := kc had u0
    have u1 := kc (p := ⟨_, _, none⟩) had u1
    have u2 := kc (p := ⟨_, _, none⟩) had u2
    have u3 := kc (p := ⟨_, _, none⟩) had u3
    have u4 := kc (p := ⟨_, _, none⟩) had u4
    have u5 := kc (p := ⟨_, _, none⟩) had u5
    have m1 : 0 ≤ ratio * x3 := Int.mul_nonneg (by omega) (by omega)
    have m2 : ratio * x3 ≤ 100 * 100 := Int.le_trans (Int.mul_le_mul_of_nonneg_right hr.2 (by omega)) (Int.mul_le_mul_of_nonneg_left hx3.2 (by omega))
    have m2' : ratio * x3 ≤ 10000 := by omega
    have w1 : IntKind.i64.wrap (ratio * x3) = ratio * x3 := IntWalk.i64_in _ (by omega)
    have w2 : IntKind.i64.wrap (x2 - ratio * x3) = x2 - ratio * x3 := IntWalk.i64_in _ (by omega)
    have hq1 : g1 < S := by rw [← HS.out]; exact q1
    have hq2 : g2 < S := by rw [← HS.out]; exact q2
    have HE := hide hE; have HUS := hide hus; have HF := hide hf; have HT := hide ht; have HE1 := hide e1; have HE2 := hide e2; have HQ1 := hide hq1; have HQ2 := hide hq2
    obtain ⟨RB, hRB⟩ : ∃ RB, wr.heap.size = RB := ⟨_, rfl⟩
    clear hE hus hU6 hU1 hf ht e1 e2 e4' had hbl kc m1 m2 q1 q2 hq1 hq2 hEt hEf
    go_wp2_with fail
    obtain ⟨X, hX⟩ : ∃ X, X = wr.alloc (.cells #[.int .i64 x0, .int .i64 x1, .int .i64 x2, .int .i64 x3, .int .i64 x4, .int .i64 x5] 92) := ⟨_, rfl⟩
    try rw [← hX]
    have BX : Blk X RB [.int .i64 x0, .int .i64 x1, .int .i64 x2, .int .i64 x3, .int .i64 x4, .int .i64 x5] := by
     have := Blk.new wr [.int .i64 x0, .int .i64 x1, .int .i64 x2, .int .i64 x3, .int .i64 x4, .int .i64 x5] 92
     rw [hX]; simpa [hRB] using this
    have hbX : Below wr.heap.size wr X := by rw [hX]; exact (Below.refl _ _).alloc (Nat.le_refl _) _
    obtain ⟨V, hV⟩ : ∃ V, X.drew = V := ⟨_, rfl⟩
    have hbV : Below wr.heap.size wr V := by rw [← hV]; exact hbX.drew
    have hVs : RB < V.heap.size := by rw [← hV]; show RB < X.heap.size; exact BX.lt
    have bV := (hrel.out.gb 1 _ rfl).1
    have bS1 := (hrel.out.bx 1 _ rfl).1
    have bS2 := (hrel.out.bx 2 _ rfl).1
    have fz := (hrel.out.gb 1 _ rfl).2
    have hsz := hrel.out.sz
    have kv : ∀ {p : Addr} {v : Value}, wr.cell? p = some v → V.cell? p = some v := fun {p v} h => (hbV.cell (World.block_lt_of_cell? wr p h)).trans h
    rw [HE1.out] at bS1
    rw [HE2.out] at bS2
    have hf0 : (fun w' : World => w'.cell? ⟨S + 1 + 1, 1, none⟩ = some (.slice a k cp) ∧ w'.cell? ⟨S, 1, none⟩ = some (.slice (some ⟨g1, 0, none⟩) m c1) ∧ w'.cell? ⟨S, 2, none⟩ = some (.slice (some ⟨g2, 0, none⟩) m c2) ∧ w'.cell? ⟨g1, k, none⟩ = some (.int .i64 f) ∧ w'.cell? ⟨g2, k, none⟩ = some (.int .i64 t) ∧ w'.cell? ⟨RB, 2, none⟩ = some (.int .i64 x2) ∧ w'.cell? ⟨RB, 3, none⟩ = some (.int .i64 x3)) V := ⟨kv bV, kv bS1, kv bS2, kv p1, kv p2, by rw [← hV]; exact (BX 2 _ rfl).1, by rw [← hV]; exact (BX 3 _ rfl).1⟩
    have hF := hide hf0
    have hFr := hide (chs_F (d := ⟨25, 26, 47, 48, 55, 86, 3, .slice a k cp, k, flatE 0 ratio (es.take k), [.int .i64 f, .int .i64 t, .int .i64 (x2 - ratio * x3)]⟩) hrel.out hbV rfl HQ1.out HQ2.out hRB.symm hVs hf0)
    have HBV := hide hbV
    have HGV : Hid (V.ownsRow (S + 3) 86 3 (.slice a k cp) k (flatE 0 ratio (es.take k))) := hide (rows_kept hrel.out.row (fun b hb => hbV.block b (rows_lt hrel.out.row b hb).2))
    have fzV : Hid (∀ W : World, Frm V [⟨25, 26, 47, 48, 55, 86, 3, .slice a k cp, k, flatE 0 ratio (es.take k), [.int .i64 f, .int .i64 t, .int .i64 (x2 - ratio * x3)]⟩] W → W.frozen? ⟨S + 1 + 1, 1, none⟩ = false) := hide (fun W hW => by
     have h1 : W.heap[S + 1 + 1]? = wr.heap[S + 1 + 1]? := (ch1_keep hW (by have := hbV.size; omega) (by intro e; have := rows_lt hrel.out.row _ e; omega)).trans (hbV.block _ (by omega))
     exact (World.frozen?_of_block (w := wr) (a := ⟨S + 1 + 1, 1, none⟩) h1).trans fz)
    have hSV : S + 3 ≤ V.heap.size := by have := hbV.size; omega
    clear hX BX hbX hf0 hbV bV bS1 bS2 fz kv p1 p2 u0 u1 u2 u3 u4 u5
    refine wp_region_G 27 (fun w' : World => w'.cell? ⟨S + 1 + 1, 1, none⟩ = some (.slice a k cp) ∧ w'.cell? ⟨S, 1, none⟩ = some (.slice (some ⟨g1, 0, none⟩) m c1) ∧ w'.cell? ⟨S, 2, none⟩ = some (.slice (some ⟨g2, 0, none⟩) m c2) ∧ w'.cell? ⟨g1, k, none⟩ = some (.int .i64 f) ∧ w'.cell? ⟨g2, k, none⟩ = some (.int .i64 t) ∧ w'.cell? ⟨RB, 2, none⟩ = some (.int .i64 x2) ∧ w'.cell? ⟨RB, 3, none⟩ = some (.int .i64 x3)) (by kernel_rfl) ?_
    rw [hV]
    clear hV
    refine kB 0 hF.out ?_
    refine kB 1 hF.out ?_
    refine kB 2 hF.out ?_
    refine kB 3 hF.out ?_
    refine kB 4 hF.out ?_
    refine kB 5 hF.out ?_
    refine kB 6 hF.out ?_
    refine kB 7 hF.out ?_
    refine kB 8 hF.out ?_
    refine kB 9 hF.out ?_
    refine kB 10 hF.out ?_
    refine kB 11 hF.out ?_
    refine kB 12 hF.out ?_
    refine kB 13 hF.out ?_
    refine kB 14 hF.out ?_
    refine kB 15 hF.out ?_
    refine kB 16 hF.out ?_
    refine kB 17 hF.out ?_
    refine kB 18 hF.out ?_
    refine kB 19 hF.out ?_
    refine kB 20 hF.out ?_
    refine kB 21 hF.out ?_
    refine kB 22 hF.out ?_
    refine kB 23 hF.out ?_
    refine kB 24 hF.out ?_
    refine wpAnyG_appends1 (c1 := ⟨25, 26, 47, 48, 55, 86, 3, .slice a k cp, k, flatE 0 ratio (es.take k), [.int .i64 f, .int .i64 t, .int .i64 (x2 - ratio * x3)]⟩) (B := S + 3) (f := 2) (by kernel_rfl) (by kernel_rfl) (by simp [ixs, slots]) ?hsl hFr.out ?k1 hSV HGV.out ?he
    case hsl =>
     intro d hd
     exact Nat.lt_of_lt_of_eq (chs_slots d hd) (by kernel_rfl)
    case k1 => exact ⟨⟨_, 46, .agg #[.int .i64 f, .int .i64 t, .int .i64 (x2 - ratio * x3)], rfl, rfl, rfl, rfl, by simp [ixs, slots], by kernel_rfl, laysEdge f t (x2 - ratio * x3)⟩, ⟨_, 23, rfl, rfl, rfl, rfl, by simp [ixs, slots], by kernel_rfl⟩, ⟨i1, _, 24, Tryz.underlying55, HI1.out.1, HI1.out.2.1, HI1.out.2.2.1, HI1.out.2.2.2, by kernel_rfl, Nat.succ_pos _, by dsimp only; omega⟩, rfl, by simp [Value.oneCell'], by unfold maxLen; dsimp only; omega⟩
    case he =>
     intro u1 y1 m1' W hfr hrow hown
     have hW := hFr.out W hfr
     have p1 := hW.1
     have f1 := fzV.out W hfr
     have HFR := hide hfr
     have HRW := hide hrow
     clear hfr hrow hown hW hF hFr HI1 fzV
     simp only [Act.put, List.setIfInBounds_toArray, List.set_cons_zero, List.set_cons_succ]
     refine wpAnyG_one (i := 27) rfl (by kernel_rfl) (by kernel_rfl) (fun K hK => ?_)
     go_simp
     refine hK.out _ _ ?_
     clear hK K
     refine kL ?_
     refine wpAnyG_one (i := 28) rfl (by kernel_rfl) (by kernel_rfl) (fun K hK => ?_)
     go_simp
     refine hK.out _ _ ?_
     clear hK K
     refine kL ?_
     refine wpAnyG_done (by kernel_rfl) ?_ _
     have HST := hide (hrel.out.step (E := E) HBV.out HE.out HFR.out rfl (by first | (rw [HUS.out]; done) | (rw [HUS.out]; rfl)) (by rw [HF.out, HT.out]; exact HRW.out))
     clear HFR HRW HGV
     go_wp2
     go_roundw
     case rel => exact ⟨k + 1, _, by omega, by simp, HST⟩
     case measure => simp [intOf]; omega
  · have hlt' : ¬ (k : Int) < (m : Int) := by omega
    obtain rfl : k = m := by omega
    have b1 := hrel.out.gb
    have b2 := hrel.out.rb
    have y0 := (b1 0 _ rfl).1
    have y1 := (b1 1 _ rfl).1
    have z0 := (b2 0 _ rfl).1
    have z1 := (b2 1 _ rfl).1
    have zf0 := (b2 0 _ rfl).2
    have zf1 := (b2 1 _ rfl).2
    clear b1 b2
    go_wp2
    obtain ⟨Z, hZ⟩ : ∃ Z, Z = (wr.setCell ⟨S + 1, 0, none⟩ (.int .i64 n)).setCell ⟨S + 1, 1, none⟩ (.slice a k cp) := ⟨_, rfl⟩
    rw [← hZ]
    have b3 : Blk Z (S + 1) [.int .i64 n, .slice a k cp] := by rw [hZ]; exact (hrel.out.rb.set (j := 0) (by simp) (.int .i64 n)).set (j := 1) (by simp) (.slice a k cp)
    have s0 := (b3 0 _ rfl).1
    have s1 := (b3 1 _ rfl).1
    refine bodyPost_ret (v := .agg #[.int .i64 n, .slice a k cp]) ?_ rfl ⟨.slice a k cp, S + 3, rfl, ?_, ?_⟩
    · simp [results, Tryz.f60, go_sem, s0, s1]
    · have h1 := hrel.out.row
      rw [List.take_of_length_le (by rw [HM.out]; exact Nat.le_refl _)] at h1
      exact rows_kept h1 (fun b hb => by
       have := (rows_lt h1 b hb).1
       rw [hZ, Below.heap_setCell _ _ _ _ (by simp only; omega), Below.heap_setCell _ _ _ _ (by simp only; omega)])
    · rw [HS.out, hZ]
      exact below_set (below_set hrel.out.bl _ (by show S ≤ S + 1; omega)) _ (by show S ≤ S + 1; omega)
set_option maxRecDepth 100000 in
set_option maxHeartbeats 8000000 in
theorem sgraph_1 (ratio : Int) (hr : 1 ≤ ratio ∧ ratio ≤ 100) (B : Nat) (v0 v1 v2 v3 v4 : Value) (n m : Nat) (ss : List (List Int)) (es : List Edg) (w : World) (hn3 : n ≤ 300) (hm : es.length = m) (hm3 : m ≤ 4800)
 (r0 : w.ownsRow B 133 14 v0 n (flatS ss)) (r1 : w.ownsRow B 3 1 v1 m ((fromsE es).map (Value.int .i64))) (r2 : w.ownsRow B 3 1 v2 m ((tosE es).map (Value.int .i64))) (r4 : w.ownsRow B 92 6 v4 m (flatU es)) (hU : ∀ E ∈ es, E.t ≤ 300 ∧ E.f ≤ 300 ∧ UU E.us) :
 Calls Tryz.prog 60 #[.agg #[v0, v1, v2, v3, v4], .int .i64 1, .int .i64 ratio] w fun e w' => SgEnds n m 1 ratio es w e w' := by
 obtain ⟨i1, hi1, hy1, hz1, hu1⟩ := info_parts infoEdge
 have HI1 := hide (And.intro hi1 (And.intro hy1 (And.intro hz1 hu1)))
 have ew0 : IntKind.i64.wrap 0 = 0 := IntWalk.i64_in _ (by omega)
 have ew1 : IntKind.i64.wrap 1 = 1 := IntWalk.i64_in _ (by omega)
 obtain ⟨S, hS⟩ : ∃ S, w.heap.size = S := ⟨_, rfl⟩
 obtain ⟨a0, c0, rfl⟩ := sliceShape r0
 obtain ⟨a4, c4, e4⟩ := sliceShape r4
 have HR1 := hide r1; have HR2 := hide r2; have HR4 := hide r4; have HU := hide hU; have HM := hide hm; have HS := hide hS; have HE4 := hide e4
 clear hi1 hy1 hz1 hu1 r0 r1 r2 r4 hU hm
 subst e4
 go_enter Tryz.func60, Tryz.ntmps60
 go_wp2_with fail
 obtain ⟨X, hX⟩ : ∃ X, X = ((w.alloc (.cells #[.slice a0 n c0, v1, v2, v3, .slice a4 m c4] 118)).alloc (.cells #[.int .i64 0, .slice none 0 0] 57)).alloc (.cells #[.int .i64 n, .slice none 0 0] 57) := ⟨_, rfl⟩
 have H0 : Hid (SGi w S n 1 ratio [.slice a0 n c0, v1, v2, v3, .slice a4 m c4] es 0 (.slice none 0 0) X) := by
  have hw := HS.out
  have b0 := ((Blk.new w [.slice a0 n c0, v1, v2, v3, .slice a4 m c4] 118).alloc (.cells #[.int .i64 0, .slice none 0 0] 57)).alloc (.cells #[.int .i64 n, .slice none 0 0] 57)
  have b1 := (Blk.new (w.alloc (.cells #[.slice a0 n c0, v1, v2, v3, .slice a4 m c4] 118)) [.int .i64 0, .slice none 0 0] 57).alloc (.cells #[.int .i64 n, .slice none 0 0] 57)
  have b2 := Blk.new ((w.alloc (.cells #[.slice a0 n c0, v1, v2, v3, .slice a4 m c4] 118)).alloc (.cells #[.int .i64 0, .slice none 0 0] 57)) [.int .i64 n, .slice none 0 0] 57
  refine hide ⟨?_, ?_, ?_, ⟨by simp [flatE], .inl ⟨rfl, rfl⟩⟩, ?_, ?_⟩
  · rw [hX]; simpa [hw] using b0
  · rw [hX]; simpa [hw] using b2
  · rw [hX]; simpa [hw] using b1
  · rw [hX, ← hw]; exact (((Below.refl _ _).alloc (Nat.le_refl _) _).alloc (by simp) _).alloc (by simp; omega) _
  · rw [hX]; simp [hw]
 rw [← hX]
 try simp only [hS]
 clear hX
 have HSr := HS
 clear HE4
 go_loopw [17] (fun i wr => ∃ (k : Nat) (v : Value), k ≤ m ∧ i = .int .i64 k ∧ Hid (SGi w S n 1 ratio [.slice a0 n c0, v1, v2, v3, .slice a4 m c4] es k v wr)) (fun i _ => m - (intOf i).toNat)
 case atStart => exact ⟨0, _, Nat.zero_le _, rfl, H0⟩
 case round =>
  clear H0 X
  obtain ⟨k, v, hk, rfl, hrel⟩ := hrel
  obtain ⟨a, cp, hv⟩ := sliceShape hrel.out.row
  subst hv
  have k0 : (0 : Int) ≤ (k : Int) := Int.natCast_nonneg _
  by_cases hlt : k < m
  · have hlt' : (k : Int) < (m : Int) := by omega
    obtain ⟨E, hE⟩ : ∃ E, es[k]? = some E := ⟨_, List.getElem?_eq_getElem (by rw [HM.out]; exact hlt)⟩
    obtain ⟨hEt, hEf, hU6, hU1⟩ := HU.out E (List.mem_of_getElem? hE)
    obtain ⟨x0, x1, x2, x3, x4, x5, hus⟩ := len6 hU6
    have hx2 := hU1 x2 (by rw [hus]; simp)
    have hx3 := hU1 x3 (by rw [hus]; simp)
    obtain ⟨f, hf⟩ : ∃ f : Int, (E.f : Int) = f := ⟨_, rfl⟩
    obtain ⟨t, ht⟩ : ∃ t : Int, (E.t : Int) = t := ⟨_, rfl⟩
    obtain ⟨g1, c1, e1, _, _, _, q1⟩ := slice_some HR1.out (by omega)
    obtain ⟨g2, c2, e2, _, _, _, q2⟩ := slice_some HR2.out (by omega)
    obtain ⟨ad, cap, e4, had, u0, u1, u2, u3, u4, u5⟩ := rowU HR4.out HM.out (fun E hE => (HU.out E hE).2.2.1) hE hus
    injection e4 with e4 _ e4'
    subst e4
    have hbl := hrel.out.bl
    have kc : ∀ {p : Addr} {v : Value}, p.block < S → w.cell? p = some v → wr.cell? p = some v := fun {p v} hb h => (hbl.cell hb).trans h
    have p1 : wr.cell? ⟨g1, k, none⟩ = some (.int .i64 f) := kc (by rw [← HS.out]; exact q1) (own1_at (by have := HR1.out; rw [e1] at this; exact this) (by simp [fromsE, hE, hf]))
    have p2 : wr.cell? ⟨g2, k, none⟩ = some (.int .i64 t) := kc (by rw [← HS.out]; exact q2) (own1_at (by have := HR2.out; rw [e2] at this; exact this) (by simp [tosE, hE, ht]))
    rw [HS.out] at had
    have u0 := kc had u0
    have u1 := kc (p := ⟨_, _, none⟩) had u1
    have u2 := kc (p := ⟨_, _, none⟩) had u2
    have u3 := kc (p := ⟨_, _, none⟩) had u3
    have u4 := kc (p := ⟨_, _, none⟩) had u4
    have u5 := kc (p := ⟨_, _, none⟩) had u5
    have m1 : 0 ≤ ratio * x2 := Int.mul_nonneg (by omega) (by omega)
    have m2 : ratio * x2 ≤ 100 * 100 := Int.le_trans (Int.mul_le_mul_of_nonneg_right hr.2 (by omega)) (Int.mul_le_mul_of_nonneg_left hx2.2 (by omega))
    have m2' : ratio * x2 ≤ 10000 := by omega
    have w1 : IntKind.i64.wrap (ratio * x2) = ratio * x2 := IntWalk.i64_in _ (by omega)
    have w2 : IntKind.i64.wrap (x3 - ratio * x2) = x3 - ratio * x2 := IntWalk.i64_in _ (by omega)
    have hq1 : g1 < S := by rw [← HS.out]; exact q1
    have hq2 : g2 < S := by rw [← HS.out]; exact q2
    have HE := hide hE; have HUS := hide hus; have HF := hide hf; have HT := hide ht; have HE1 := hide e1; have HE2 := hide e2; have HQ1 := hide hq1; have HQ2 := hide hq2
    obtain ⟨RB, hRB⟩ : ∃ RB, wr.heap.size = RB := ⟨_, rfl⟩
    clear hE hus hU6 hU1 hf ht e1 e2 e4' had hbl kc m1 m2 q1 q2 hq1 hq2 hEt hEf
    go_wp2_with fail
    obtain ⟨X, hX⟩ : ∃ X, X = wr.alloc (.cells #[.int .i64 x0, .int .i64 x1, .int .i64 x2, .int .i64 x3, .int .i64 x4, .int .i64 x5] 92) := ⟨_, rfl⟩
    try rw [← hX]
    have BX : Blk X RB [.int .i64 x0, .int .i64 x1, .int .i64 x2, .int .i64 x3, .int .i64 x4, .int .i64 x5] := by
     have := Blk.new wr [.int .i64 x0, .int .i64 x1, .int .i64 x2, .int .i64 x3, .int .i64 x4, .int .i64 x5] 92
     rw [hX]; simpa [hRB] using this
    have hbX : Below wr.heap.size wr X := by rw [hX]; exact (Below.refl _ _).alloc (Nat.le_refl _) _
    obtain ⟨V, hV⟩ : ∃ V, X.drew = V := ⟨_, rfl⟩
    have hbV : Below wr.heap.size wr V := by rw [← hV]; exact hbX.drew
    have hVs : RB < V.heap.size := by rw [← hV]; show RB < X.heap.size; exact BX.lt
    have bV := (hrel.out.gb 1 _ rfl).1
    have bS1 := (hrel.out.bx 1 _ rfl).1
    have bS2 := (hrel.out.bx 2 _ rfl).1
    have fz := (hrel.out.gb 1 _ rfl).2
    have hsz := hrel.out.sz
    have kv : ∀ {p : Addr} {v : Value}, wr.cell? p = some v → V.cell? p = some v := fun {p v} h => (hbV.cell (World.block_lt_of_cell? wr p h)).trans h
    rw [HE1.out] at bS1
    rw [HE2.out] at bS2
    have hf0 : (fun w' : World => w'.cell? ⟨S + 1 + 1, 1, none⟩ = some (.slice a k cp) ∧ w'.cell? ⟨S, 1, none⟩ = some (.slice (some ⟨g1, 0, none⟩) m c1) ∧ w'.cell? ⟨S, 2, none⟩ = some (.slice (some ⟨g2, 0, none⟩) m c2) ∧ w'.cell? ⟨g1, k, none⟩ = some (.int .i64 f) ∧ w'.cell? ⟨g2, k, none⟩ = some (.int .i64 t) ∧ w'.cell? ⟨RB, 2, none⟩ = some (.int .i64 x2) ∧ w'.cell? ⟨RB, 3, none⟩ = some (.int .i64 x3)) V := ⟨kv bV, kv bS1, kv bS2, kv p1, kv p2, by rw [← hV]; exact (BX 2 _ rfl).1, by rw [← hV]; exact (BX 3 _ rfl).1⟩
    have hF := hide hf0
    have hFr := hide (chs_F (d := ⟨25, 26, 47, 48, 55, 86, 3, .slice a k cp, k, flatE 1 ratio (es.take k), [.int .i64 f, .int .i64 t, .int .i64 (x3 - ratio * x2)]⟩) hrel.out hbV rfl HQ1.out HQ2.out hRB.symm hVs hf0)
    have HBV := hide hbV
    have HGV : Hid (V.ownsRow (S + 3) 86 3 (.slice a k cp) k (flatE 1 ratio (es.take k))) := hide (rows_kept hrel.out.row (fun b hb => hbV.block b (rows_lt hrel.out.row b hb).2))
    have fzV : Hid (∀ W : World, Frm V [⟨25, 26, 47, 48, 55, 86, 3, .slice a k cp, k, flatE 1 ratio (es.take k), [.int .i64 f, .int .i64 t, .int .i64 (x3 - ratio * x2)]⟩] W → W.frozen? ⟨S + 1 + 1, 1, none⟩ = false) := hide (fun W hW => by
     have h1 : W.heap[S + 1 + 1]? = wr.heap[S + 1 + 1]? := (ch1_keep hW (by have := hbV.size; omega) (by intro e; have := rows_lt hrel.out.row _ e; omega)).trans (hbV.block _ (by omega))
     exact (World.frozen?_of_block (w := wr) (a := ⟨S + 1 + 1, 1, none⟩) h1).trans fz)
    have hSV : S + 3 ≤ V.heap.size := by have := hbV.size; omega
    clear hX BX hbX hf0 hbV bV bS1 bS2 fz kv p1 p2 u0 u1 u2 u3 u4 u5
    refine wp_region_G 27 (fun w' : World => w'.cell? ⟨S + 1 + 1, 1, none⟩ = some (.slice a k cp) ∧ w'.cell? ⟨S, 1, none⟩ = some (.slice (some ⟨g1, 0, none⟩) m c1) ∧ w'.cell? ⟨S, 2, none⟩ = some (.slice (some ⟨g2, 0, none⟩) m c2) ∧ w'.cell? ⟨g1, k, none⟩ = some (.int .i64 f) ∧ w'.cell? ⟨g2, k, none⟩ = some (.int .i64 t) ∧ w'.cell? ⟨RB, 2, none⟩ = some (.int .i64 x2) ∧ w'.cell? ⟨RB, 3, none⟩ = some (.int .i64 x3)) (by kernel_rfl) ?_
    rw [hV]
    clear hV
    refine kB 0 hF.out ?_
    refine kB 1 hF.out ?_
    refine kB 2 hF.out ?_
    refine kB 3 hF.out ?_
    refine kB 4 hF.out ?_
    refine kB 5 hF.out ?_
    refine kB 6 hF.out ?_
    refine kB 7 hF.out ?_
    refine kB 8 hF.out ?_
    refine kB 9 hF.out ?_
    refine kB 10 hF.out ?_
    refine kB 11 hF.out ?_
    refine kB 12 hF.out ?_
    refine kB 13 hF.out ?_
    refine kB 14 hF.out ?_
    refine kB 15 hF.out ?_
    refine kB 16 hF.out ?_
    refine kB 17 hF.out ?_
    refine kB 18 hF.out ?_
    refine kB 19 hF.out ?_
    refine kB 20 hF.out ?_
    refine kB 21 hF.out ?_
    refine kB 22 hF.out ?_
    refine kB 23 hF.out ?_
    refine kB 24 hF.out ?_
    refine wpAnyG_appends1 (c1 := ⟨25, 26, 47, 48, 55, 86, 3, .slice a k cp, k, flatE 1 ratio (es.take k), [.int .i64 f, .int .i64 t, .int .i64 (x3 - ratio * x2)]⟩) (B := S + 3) (f := 2) (by kernel_rfl) (by kernel_rfl) (by simp [ixs, slots]) ?hsl hFr.out ?k1 hSV HGV.out ?he
    case hsl =>
     intro d hd
     exact Nat.lt_of_lt_of_eq (chs_slots d hd) (by kernel_rfl)
    case k1 => exact ⟨⟨_, 46, .agg #[.int .i64 f, .int .i64 t, .int .i64 (x3 - ratio * x2)], rfl, rfl, rfl, rfl, by simp [ixs, slots], by kernel_rfl, laysEdge f t (x3 - ratio * x2)⟩, ⟨_, 23, rfl, rfl, rfl, rfl, by simp [ixs, slots], by kernel_rfl⟩, ⟨i1, _, 24, Tryz.underlying55, HI1.out.1, HI1.out.2.1, HI1.out.2.2.1, HI1.out.2.2.2, by kernel_rfl, Nat.succ_pos _, by dsimp only; omega⟩, rfl, by simp [Value.oneCell'], by unfold maxLen; dsimp only; omega⟩
    case he =>
     intro u1 y1 m1' W hfr hrow hown
     have hW := hFr.out W hfr
     have p1 := hW.1
     have f1 := fzV.out W hfr
     have HFR := hide hfr
     have HRW := hide hrow
     clear hfr hrow hown hW hF hFr HI1 fzV
     simp only [Act.put, List.setIfInBounds_toArray, List.set_cons_zero, List.set_cons_succ]
     refine wpAnyG_one (i := 27) rfl (by kernel_rfl) (by kernel_rfl) (fun K hK => ?_)
     go_simp
     refine hK.out _ _ ?_
     clear hK K
     refine kL ?_
     refine wpAnyG_one (i := 28) rfl (by kernel_rfl) (by kernel_rfl) (fun K hK => ?_)
     go_simp
     refine hK.out _ _ ?_
     clear hK K
     refine kL ?_
     refine wpAnyG_done (by kernel_rfl) ?_ _
     have HST := hide (hrel.out.step (E := E) HBV.out HE.out HFR.out rfl (by first | (rw [HUS.out]; done) | (rw [HUS.out]; rfl)) (by rw [HF.out, HT.out]; exact HRW.out))
     clear HFR HRW HGV
     go_wp2
     go_roundw
     case rel => exact ⟨k + 1, _, by omega, by simp, HST⟩
     case measure => simp [intOf]; omega
  · have hlt' : ¬ (k : Int) < (m : Int) := by omega
    obtain rfl : k = m := by omega
    have b1 := hrel.out.gb
    have b2 := hrel.out.rb
    have y0 := (b1 0 _ rfl).1
    have y1 := (b1 1 _ rfl).1
    have z0 := (b2 0 _ rfl).1
    have z1 := (b2 1 _ rfl).1
    have zf0 := (b2 0 _ rfl).2
    have zf1 := (b2 1 _ rfl).2
    clear b1 b2
    go_wp2
    obtain ⟨Z, hZ⟩ : ∃ Z, Z = (wr.setCell ⟨S + 1, 0, none⟩ (.int .i64 n)).setCell ⟨S + 1, 1, none⟩ (.slice a k cp) := ⟨_, rfl⟩
    rw [← hZ]
    have b3 : Blk Z (S + 1) [.int .i64 n, .slice a k cp] := by rw [hZ]; exact (hrel.out.rb.set (j := 0) (by simp) (.int .i64 n)).set (j := 1) (by simp) (.slice a k cp)
    have s0 := (b3 0 _ rfl).1
    have s1 := (b3 1 _ rfl).1
    refine bodyPost_ret (v := .agg #[.int .i64 n, .slice a k cp]) ?_ rfl ⟨.slice a k cp, S + 3, rfl, ?_, ?_⟩
    · simp [results, Tryz.f60, go_sem, s0, s1]
    · have h1 := hrel.out.row
      rw [List.take_of_length_le (by rw [HM.out]; exact Nat.le_refl _)] at h1
      exact rows_kept h1 (fun b hb => by
       have := (rows_lt h1 b hb).1
       rw [hZ, Below.heap_setCell _ _ _ _ (by simp only; omega), Below.heap_setCell _ _ _ _ (by simp only; omega)])
    · rw [HS.out, hZ]
      exact below_set (below_set hrel.out.bl _ (by show S ≤ S + 1; omega)) _ (by show S ≤ S + 1; omega)
theorem sgraph_w (who : Int) (hw : who = 0 ∨ who = 1) (ratio : Int) (hr : 1 ≤ ratio ∧ ratio ≤ 100) (B : Nat) (v0 v1 v2 v3 v4 : Value) (n m : Nat) (ss : List (List Int)) (es : List Edg) (w : World) (hn3 : n ≤ 300) (hm : es.length = m) (hm3 : m ≤ 4800)
 (r0 : w.ownsRow B 133 14 v0 n (flatS ss)) (r1 : w.ownsRow B 3 1 v1 m ((fromsE es).map (Value.int .i64))) (r2 : w.ownsRow B 3 1 v2 m ((tosE es).map (Value.int .i64))) (r4 : w.ownsRow B 92 6 v4 m (flatU es)) (hU : ∀ E ∈ es, E.t ≤ 300 ∧ E.f ≤ 300 ∧ UU E.us) :
 Calls Tryz.prog 60 #[.agg #[v0, v1, v2, v3, v4], .int .i64 who, .int .i64 ratio] w fun e w' => SgEnds n m who ratio es w e w' := by
 rcases hw with rfl | rfl
 · exact sgraph_0 ratio hr B v0 v1 v2 v3 v4 n m ss es w hn3 hm hm3 r0 r1 r2 r4 hU
 · exact sgraph_1 ratio hr B v0 v1 v2 v3 v4 n m ss es w hn3 hm hm3 r0 r1 r2 r4 hU
end Go.Proofs.YtjjikhaaimfneaaGreatDoor
