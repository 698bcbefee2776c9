/-
  Lemmas and walks for the statement: StRefL, RegM4, StRef2, StRef3, RegM5.
-/
import Derived.Test.YtagbikgfkakbfaaQ32
import Derived.Test.YtagbikgfkakbfaaQ27
import Derived.Test.YtagbikgfkakbfaaQ34
namespace Go.Proofs.Ytagbikgfkakbfaa
open Go.RowKit
set_option linter.unusedSimpArgs false
set_option linter.unusedVariables false
def flatU (es : List Edg) : List Value := es.flatMap fun E => E.us.map (Value.int .i64)
theorem flatU_snoc (es : List Edg) (E : Edg) : flatU (es ++ [E]) = flatU es ++ E.us.map (Value.int .i64) := by simp [flatU]
def fromsE (es : List Edg) : List Int := es.map fun E => (E.f : Int)
def tosE (es : List Edg) : List Int := es.map fun E => (E.t : Int)
def latesE (es : List Edg) : List P2 := es.map fun E => E.l
structure Apart5 (PB : Nat) (v0 v1 v2 v3 v4 : Value) : Prop where
 a01 : ApV v0 v1
 a02 : ApV v0 v2
 a03 : ApV v0 v3
 a04 : ApV v0 v4
 a12 : ApV v1 v2
 a13 : ApV v1 v3
 a14 : ApV v1 v4
 a23 : ApV v2 v3
 a24 : ApV v2 v4
 a34 : ApV v3 v4
 p0 : v0.ownBlock ≠ some PB
 p1 : v1.ownBlock ≠ some PB
 p2 : v2.ownBlock ≠ some PB
 p3 : v3.ownBlock ≠ some PB
 p4 : v4.ownBlock ≠ some PB
structure Rsp (w : World) (PB B : Nat) (v0 v1 v2 v3 v4 : Value) (ss : List (List Int)) (es : List Edg) : Prop where
 c0 : w.cell? ⟨PB, 0, none⟩ = some v0
 c1 : w.cell? ⟨PB, 1, none⟩ = some v1
 c2 : w.cell? ⟨PB, 2, none⟩ = some v2
 c3 : w.cell? ⟨PB, 3, none⟩ = some v3
 c4 : w.cell? ⟨PB, 4, none⟩ = some v4
 fz : ∀ j, w.frozen? ⟨PB, j, none⟩ = false
 r0 : w.ownsRow B 41 14 v0 ss.length (flatS ss)
 r1 : w.ownsRow B 3 1 v1 es.length ((fromsE es).map (Value.int .i64))
 r2 : w.ownsRow B 3 1 v2 es.length ((tosE es).map (Value.int .i64))
 r3 : w.ownsRow B 22 2 v3 es.length (flat2 (latesE es))
 r4 : w.ownsRow B 71 6 v4 es.length (flatU es)
 ap : Apart5 PB v0 v1 v2 v3 v4
 pB : B ≤ PB
def RFoot (PB : Nat) (v0 v1 v2 v3 v4 : Value) (b : Nat) : Prop := b = PB ∨ v0.ownBlock = some b ∨ v1.ownBlock = some b ∨ v2.ownBlock = some b ∨ v3.ownBlock = some b ∨ v4.ownBlock = some b
section
variable {w w' : World} {PB B : Nat} {v0 v1 v2 v3 v4 : Value} {ss : List (List Int)} {es : List Edg}
theorem Rsp.lt (h : Rsp w PB B v0 v1 v2 v3 v4 ss es) : PB < w.heap.size := World.block_lt_of_cell? w _ h.c0
theorem Rsp.foot (h : Rsp w PB B v0 v1 v2 v3 v4 ss es) {b : Nat} (hb : RFoot PB v0 v1 v2 v3 v4 b) : B ≤ b ∧ b < w.heap.size := by
 rcases hb with rfl | hb | hb | hb | hb | hb
 · exact ⟨h.pB, h.lt⟩
 · exact rows_lt h.r0 b hb
 · exact rows_lt h.r1 b hb
 · exact rows_lt h.r2 b hb
 · exact rows_lt h.r3 b hb
 · exact rows_lt h.r4 b hb
theorem Rsp.kept (h : Rsp w PB B v0 v1 v2 v3 v4 ss es) (hk : ∀ b, RFoot PB v0 v1 v2 v3 v4 b → w'.heap[b]? = w.heap[b]?) : Rsp w' PB B v0 v1 v2 v3 v4 ss es := by
 have hp : w'.heap[PB]? = w.heap[PB]? := hk PB (.inl rfl)
 have hc : ∀ j, w'.cell? ⟨PB, j, none⟩ = w.cell? ⟨PB, j, none⟩ := fun j => World.cell?_of_block (w := w) (a := ⟨PB, j, none⟩) hp
 exact ⟨(hc 0).trans h.c0, (hc 1).trans h.c1, (hc 2).trans h.c2, (hc 3).trans h.c3, (hc 4).trans h.c4, fun j => (World.frozen?_of_block (w := w) (a := ⟨PB, j, none⟩) hp).trans (h.fz j),
  rows_kept h.r0 (fun g hg => hk g (.inr (.inl hg))), rows_kept h.r1 (fun g hg => hk g (.inr (.inr (.inl hg)))), rows_kept h.r2 (fun g hg => hk g (.inr (.inr (.inr (.inl hg))))), rows_kept h.r3 (fun g hg => hk g (.inr (.inr (.inr (.inr (.inl hg)))))), rows_kept h.r4 (fun g hg => hk g (.inr (.inr (.inr (.inr (.inr hg)))))), h.ap, h.pB⟩
theorem Rsp.below (h : Rsp w PB B v0 v1 v2 v3 v4 ss es) (hb : Below w.heap.size w w') : Rsp w' PB B v0 v1 v2 v3 v4 ss es := h.kept fun b hf => hb.block b (h.foot hf).2
theorem Rsp.addState {W : World} {s : List Int} {v0' : Value} {n : Nat} (h : Rsp w PB B v0 v1 v2 v3 v4 ss es) (hn : ss.length = n) (hb : Below w.heap.size w W) {w2 : World} (hrow : w2.ownsRow B 41 14 v0' (n + 1) (flatS ss ++ s.map (Value.int .i64))) (hg : W.grownBy w2 v0.ownBlock) (hat : v0'.ownBlock = v0.ownBlock ∨ v0'.ownBlock = some W.heap.size) :
 Rsp (w2.setCell ⟨PB, 0, none⟩ v0') PB B v0' v1 v2 v3 v4 (ss ++ [s]) es := by
 have hW := h.below hb
 have hPW := hW.lt
 have kb : ∀ b, b < W.heap.size → v0.ownBlock ≠ some b → w2.heap[b]? = W.heap[b]? := fun b hl hn => hg.block b hl (fun e => hn e.symm)
 have hp : w2.heap[PB]? = W.heap[PB]? := kb PB hPW hW.ap.p0
 have hc : ∀ j, w2.cell? ⟨PB, j, none⟩ = W.cell? ⟨PB, j, none⟩ := fun j => World.cell?_of_block (w := W) (a := ⟨PB, j, none⟩) hp
 have hs : ∀ b, b ≠ PB → (w2.setCell ⟨PB, 0, none⟩ v0').heap[b]? = w2.heap[b]? := fun b hb => Below.heap_setCell _ _ _ _ hb
 have oc : ∀ j v, W.cell? ⟨PB, j + 1, none⟩ = some v → (w2.setCell ⟨PB, 0, none⟩ v0').cell? ⟨PB, j + 1, none⟩ = some v := fun j v hv => by
  rw [World.cell?_setCell_other _ _ _ _ (fun e => by injection e with _ e; omega), hc]; exact hv
 have kr : ∀ {v : Value} {e : TypeId} {sz m : Nat} {xs : List Value}, W.ownsRow B e sz v m xs → ApV v0 v → v.ownBlock ≠ some PB → (w2.setCell ⟨PB, 0, none⟩ v0').ownsRow B e sz v m xs := fun {v e sz m xs} hr ha hpv => rows_kept hr (fun g hg' => by
  rw [hs g (fun e => hpv (e ▸ hg')), kb g (rows_lt hr g hg').2 (fun e => ha g e hg')])
 have ne : ∀ {v : Value} {e : TypeId} {sz m : Nat} {xs : List Value}, W.ownsRow B e sz v m xs → ApV v0 v → ApV v0' v := fun {v e sz m xs} hr ha g hg' e' => by
  rcases hat with h1 | h1
  · exact ha g (h1.symm.trans hg') e'
  · rw [h1] at hg'; injection hg' with hg'
    have := (rows_lt hr g e').2; omega
 have np : v0'.ownBlock ≠ some PB := fun e => by
  rcases hat with h1 | h1
  · exact hW.ap.p0 (h1.symm.trans e)
  · rw [h1] at e; injection e with e; omega
 refine ⟨World.cell?_setCell_same' _ _ _ (by rw [hc, hW.c0]; rfl), oc 0 _ hW.c1, oc 1 _ hW.c2, oc 2 _ hW.c3, oc 3 _ hW.c4, fun j => by rw [World.frozen?_setCell, World.frozen?_of_block (w := W) (a := ⟨PB, j, none⟩) hp]; exact hW.fz j, ?_, kr hW.r1 hW.ap.a01 hW.ap.p1, kr hW.r2 hW.ap.a02 hW.ap.p2, kr hW.r3 hW.ap.a03 hW.ap.p3, kr hW.r4 hW.ap.a04 hW.ap.p4, ⟨ne hW.r1 hW.ap.a01, ne hW.r2 hW.ap.a02, ne hW.r3 hW.ap.a03, ne hW.r4 hW.ap.a04, hW.ap.a12, hW.ap.a13, hW.ap.a14, hW.ap.a23, hW.ap.a24, hW.ap.a34, np, hW.ap.p1, hW.ap.p2, hW.ap.p3, hW.ap.p4⟩, h.pB⟩
 rw [flatS_snoc, List.length_append, hn]
 exact rows_kept hrow (fun g hg' => hs g (fun e => np (e ▸ hg')))
end
end Go.Proofs.Ytagbikgfkakbfaa
namespace Go.Proofs.Ytagbikgfkakbfaa
open Go Go.RowKit
set_option linter.unusedSimpArgs false
set_option linter.unusedVariables false
section
variable {P : Program} {ops : Array Oper} {Q : Exit → Act → World → Prop} {md : Region.Mode} {F : World → Prop} {c : Nat}
structure Aft4 (w0 : World) (c1 c2 c3 c4 : Ch) (B : Nat) (t1 t2 t3 t4 : Value) (W : World) : Prop where
 frm : Frm w0 [c1, c2, c3, c4] W
 q1 : W.ownsRow B c1.e c1.size t1 (c1.n + 1) (c1.xs ++ c1.x)
 q2 : W.ownsRow B c2.e c2.size t2 (c2.n + 1) (c2.xs ++ c2.x)
 q3 : W.ownsRow B c3.e c3.size t3 (c3.n + 1) (c3.xs ++ c3.x)
 q4 : W.ownsRow B c4.e c4.size t4 (c4.n + 1) (c4.xs ++ c4.x)
 o1 : t1.ownBlock = c1.v.ownBlock ∨ ∃ g, t1.ownBlock = some g ∧ w0.heap.size ≤ g
 o2 : t2.ownBlock = c2.v.ownBlock ∨ ∃ g, t2.ownBlock = some g ∧ w0.heap.size ≤ g
 o3 : t3.ownBlock = c3.v.ownBlock ∨ ∃ g, t3.ownBlock = some g ∧ w0.heap.size ≤ g
 o4 : t4.ownBlock = c4.v.ownBlock ∨ ∃ g, t4.ownBlock = some g ∧ w0.heap.size ≤ g
 a12 : ∀ g, t1.ownBlock = some g → t2.ownBlock ≠ some g
 a13 : ∀ g, t1.ownBlock = some g → t3.ownBlock ≠ some g
 a14 : ∀ g, t1.ownBlock = some g → t4.ownBlock ≠ some g
 a23 : ∀ g, t2.ownBlock = some g → t3.ownBlock ≠ some g
 a24 : ∀ g, t2.ownBlock = some g → t4.ownBlock ≠ some g
 a34 : ∀ g, t3.ownBlock = some g → t4.ownBlock ≠ some g
theorem idx4 {a b c d e : Ch} {i : Nat} (h : [a, b, c, d][i]? = some e) : (i = 0 ∧ a = e) ∨ (i = 1 ∧ b = e) ∨ (i = 2 ∧ c = e) ∨ (i = 3 ∧ d = e) := by
 match i, h with
 | 0, h => exact .inl ⟨rfl, by simpa using h⟩
 | 1, h => exact .inr (.inl ⟨rfl, by simpa using h⟩)
 | 2, h => exact .inr (.inr (.inl ⟨rfl, by simpa using h⟩))
 | 3, h => exact .inr (.inr (.inr ⟨rfl, by simpa using h⟩))
 | i + 4, h => simp at h
theorem all4 {C : Ch → Prop} {a b c d : Ch} (h0 : C a) (h1 : C b) (h2 : C c) (h3 : C d) : ∀ (i : Nat) (e : Ch), [a, b, c, d][i]? = some e → C e := by
 intro i e h
 rcases idx4 h with ⟨_, rfl⟩ | ⟨_, rfl⟩ | ⟨_, rfl⟩ | ⟨_, rfl⟩
 · exact h0
 · exact h1
 · exact h2
 · exact h3
theorem len4p {α : Type} {l : List α} (h : l.length = 4) : ∃ a b c d, l = [a, b, c, d] := by
 match l, h with
 | [a, b, c, d], _ => exact ⟨a, b, c, d, rfl⟩
theorem wpAnyG_appends4 {c1 c2 c3 c4 : Ch} {w0 : World} {a0 : Act} {B : Nat} {L0 : Array Bool} {f fuel : Nat} (hfu : fuel = f + 8) (hchk : chk md ops (ixs [c1, c2, c3, c4]) L0 = true) (hnd : (slots (ixs [c1, c2, c3, c4])).Nodup) (hsl : ∀ d ∈ slots (ixs [c1, c2, c3, c4]), d < a0.tmps.size)
 (hF : ∀ w, Frm w0 [c1, c2, c3, c4] w → F w) (k1 : ChOk P ops a0 [c1, c2, c3, c4] c1) (k2 : ChOk P ops a0 [c1, c2, c3, c4] c2) (k3 : ChOk P ops a0 [c1, c2, c3, c4] c3) (k4 : ChOk P ops a0 [c1, c2, c3, c4] c4) (hB : B ≤ w0.heap.size)
 (r1 : w0.ownsRow B c1.e c1.size c1.v c1.n c1.xs) (r2 : w0.ownsRow B c2.e c2.size c2.v c2.n c2.xs) (r3 : w0.ownsRow B c3.e c3.size c3.v c3.n c3.xs) (r4 : w0.ownsRow B c4.e c4.size c4.v c4.n c4.xs)
 (a12 : ∀ g, c1.v.ownBlock = some g → c2.v.ownBlock ≠ some g) (a13 : ∀ g, c1.v.ownBlock = some g → c3.v.ownBlock ≠ some g) (a14 : ∀ g, c1.v.ownBlock = some g → c4.v.ownBlock ≠ some g) (a23 : ∀ g, c2.v.ownBlock = some g → c3.v.ownBlock ≠ some g) (a24 : ∀ g, c2.v.ownBlock = some g → c4.v.ownBlock ≠ some g) (a34 : ∀ g, c3.v.ownBlock = some g → c4.v.ownBlock ≠ some g)
 (he : ∀ (u1 u2 u3 u4 : Value) (x1 x2 x3 x4 : Option Addr) (m1 m2 m3 m4 : Nat) (W : World), Aft4 w0 c1 c2 c3 c4 B (.slice x1 (c1.n + 1) m1) (.slice x2 (c2.n + 1) m2) (.slice x3 (c3.n + 1) m3) (.slice x4 (c4.n + 1) m4) W → wpAnyG P md ops Q c F f ((((((((L0.setIfInBounds c1.b true).setIfInBounds c1.p true).setIfInBounds c2.b true).setIfInBounds c2.p true).setIfInBounds c3.b true).setIfInBounds c3.p true).setIfInBounds c4.b true).setIfInBounds c4.p true) ((((((((a0.put (some c1.db) u1).put (some c1.dp) (.slice x1 (c1.n + 1) m1)).put (some c2.db) u2).put (some c2.dp) (.slice x2 (c2.n + 1) m2)).put (some c3.db) u3).put (some c3.dp) (.slice x3 (c3.n + 1) m3)).put (some c4.db) u4).put (some c4.dp) (.slice x4 (c4.n + 1) m4)) W) :
 wpAnyG P md ops Q c F fuel L0 a0 w0 := by
 subst hfu
 refine wpAnyG_appends (cs := [c1, c2, c3, c4]) hchk hnd hsl hF (all4 k1 k2 k3 k4) hB (all4 (C := fun d => w0.ownsRow B d.e d.size d.v d.n d.xs) r1 r2 r3 r4) ?_ ?_
 · intro i j d d' hij hd hd' g hg hg'
   rcases idx4 hd with ⟨rfl, rfl⟩ | ⟨rfl, rfl⟩ | ⟨rfl, rfl⟩ | ⟨rfl, rfl⟩ <;> rcases idx4 hd' with ⟨rfl, rfl⟩ | ⟨rfl, rfl⟩ | ⟨rfl, rfl⟩ | ⟨rfl, rfl⟩
   · exact hij rfl
   · exact a12 g hg hg'
   · exact a13 g hg hg'
   · exact a14 g hg hg'
   · exact a12 g hg' hg
   · exact hij rfl
   · exact a23 g hg hg'
   · exact a24 g hg hg'
   · exact a13 g hg' hg
   · exact a23 g hg' hg
   · exact hij rfl
   · exact a34 g hg hg'
   · exact a14 g hg' hg
   · exact a24 g hg' hg
   · exact a34 g hg' hg
   · exact hij rfl
 · intro vs W hvl hR
   obtain ⟨⟨u1, t1⟩, ⟨u2, t2⟩, ⟨u3, t3⟩, ⟨u4, t4⟩, rfl⟩ := len4p hvl
   have q1 := hR.row 0 _ 2 u1 t1 rfl rfl rfl
   have q2 := hR.row 1 _ 2 u2 t2 rfl rfl rfl
   have q3 := hR.row 2 _ 2 u3 t3 rfl rfl rfl
   have q4 := hR.row 3 _ 2 u4 t4 rfl rfl rfl
   have z12 := hR.apart 0 1 _ _ 2 2 u1 t1 u2 t2 (by decide) rfl rfl rfl rfl rfl rfl
   have z13 := hR.apart 0 2 _ _ 2 2 u1 t1 u3 t3 (by decide) rfl rfl rfl rfl rfl rfl
   have z14 := hR.apart 0 3 _ _ 2 2 u1 t1 u4 t4 (by decide) rfl rfl rfl rfl rfl rfl
   have z23 := hR.apart 1 2 _ _ 2 2 u2 t2 u3 t3 (by decide) rfl rfl rfl rfl rfl rfl
   have z24 := hR.apart 1 3 _ _ 2 2 u2 t2 u4 t4 (by decide) rfl rfl rfl rfl rfl rfl
   have z34 := hR.apart 2 3 _ _ 2 2 u3 t3 u4 t4 (by decide) rfl rfl rfl rfl rfl rfl
   simp only [cur, curN, curX, if_true] at q1 q2 q3 q4 z12 z13 z14 z23 z24 z34
   obtain ⟨x1, m1, rfl⟩ := row_shape q1.1
   obtain ⟨x2, m2, rfl⟩ := row_shape q2.1
   obtain ⟨x3, m3, rfl⟩ := row_shape q3.1
   obtain ⟨x4, m4, rfl⟩ := row_shape q4.1
   have h := he u1 u2 u3 u4 x1 x2 x3 x4 m1 m2 m3 m4 W ⟨hR.frm, q1.1, q2.1, q3.1, q4.1, q1.2, q2.2, q3.2, q4.2, z12, z13, z14, z23, z24, z34⟩
   clear he
   simp [ixs, lst, puts, List.replicate_succ]
   exact h
end
end Go.Proofs.Ytagbikgfkakbfaa
namespace Go.Proofs.Ytagbikgfkakbfaa
open Go.RowKit
set_option linter.unusedSimpArgs false
set_option linter.unusedVariables false
theorem RFoot_lt {w : World} {PB B : Nat} {v0 v1 v2 v3 v4 : Value} {ss : List (List Int)} {es : List Edg} (h : Rsp w PB B v0 v1 v2 v3 v4 ss es) {b : Nat} (hb : w.heap.size ≤ b) : ¬ RFoot PB v0 v1 v2 v3 v4 b := fun hf => by have := (h.foot hf).2; omega
structure RS (w : World) (TR : List (Nat × Obj)) (PB B : Nat) (v0 v1 v2 v3 v4 : Value) (ss : List (List Int)) (es : List Edg) (W : World) : Prop where
 sp : Rsp W PB B v0 v1 v2 v3 v4 ss es
 tr : ∀ p ∈ TR, W.heap[p.1]? = some p.2 ∧ ¬ RFoot PB v0 v1 v2 v3 v4 p.1
 bl : Below w.heap.size w W
 hB : w.heap.size ≤ B
section
variable {w W W' : World} {TR : List (Nat × Obj)} {PB B : Nat} {v0 v1 v2 v3 v4 : Value} {ss : List (List Int)} {es : List Edg}
theorem RS.below (h : RS w TR PB B v0 v1 v2 v3 v4 ss es W) (hb : Below W.heap.size W W') : RS w TR PB B v0 v1 v2 v3 v4 ss es W' :=
 ⟨h.sp.below hb, fun p hp => ⟨(hb.block _ (Array.getElem?_eq_some_iff.1 (h.tr p hp).1).1).trans (h.tr p hp).1, (h.tr p hp).2⟩, h.bl.trans (hb.mono h.bl.size), h.hB⟩
theorem RS.sub {TR' : List (Nat × Obj)} (h : RS w TR PB B v0 v1 v2 v3 v4 ss es W) (hs : ∀ p ∈ TR', p ∈ TR) : RS w TR' PB B v0 v1 v2 v3 v4 ss es W := ⟨h.sp, fun p hp => h.tr p (hs p hp), h.bl, h.hB⟩
theorem RS.new (h : RS w TR PB B v0 v1 v2 v3 v4 ss es W) (hb : Below W.heap.size W W') {b : Nat} {o : Obj} (hle : W.heap.size ≤ b) (ho : W'.heap[b]? = some o) : RS w ((b, o) :: TR) PB B v0 v1 v2 v3 v4 ss es W' :=
 ⟨h.sp.below hb, fun p hp => by
  rcases List.mem_cons.1 hp with rfl | hp
  · exact ⟨ho, RFoot_lt h.sp hle⟩
  · exact (h.below hb).tr p hp, (h.below hb).bl, h.hB⟩
theorem RS.alloc (h : RS w TR PB B v0 v1 v2 v3 v4 ss es W) (o : Obj) : RS w ((W.heap.size, o) :: TR) PB B v0 v1 v2 v3 v4 ss es (W.alloc o) := h.new ((Below.refl _ _).alloc (Nat.le_refl _) o) (Nat.le_refl _) (World.alloc_heap_new W o)
theorem RS.lt (h : RS w TR PB B v0 v1 v2 v3 v4 ss es W) {p : Nat × Obj} (hp : p ∈ TR) : p.1 < W.heap.size := (Array.getElem?_eq_some_iff.1 (h.tr p hp).1).1
theorem below_set {n : Nat} {a b : World} (h : Below n a b) {p : Addr} (v : Value) (hp : n ≤ p.block) : Below n a (b.setCell p v) := by
 have ks : (b.setCell p v).os = b.os ∧ (b.setCell p v).tape = b.tape ∧ (b.setCell p v).output = b.output := by
  refine ⟨?_, ?_, ?_⟩ <;> (unfold World.setCell; split <;> (try split) <;> rfl)
 exact ⟨ks.1.trans h.os, ks.2.1.trans h.tape, ks.2.2.trans h.output, by simpa using h.size, fun k hk => (Below.heap_setCell _ _ _ _ (by omega)).trans (h.block k hk)⟩
theorem RS.addState {W1 W2 : World} {s : List Int} {v0' : Value} {n : Nat} (h : RS w TR PB B v0 v1 v2 v3 v4 ss es W) (hn : ss.length = n) (hb : Below W.heap.size W W1) (hrow : W2.ownsRow B 41 14 v0' (n + 1) (flatS ss ++ s.map (Value.int .i64))) (hg : W1.grownBy W2 v0.ownBlock) (hat : v0'.ownBlock = v0.ownBlock ∨ v0'.ownBlock = some W1.heap.size) :
 RS w TR PB B v0' v1 v2 v3 v4 (ss ++ [s]) es (W2.setCell ⟨PB, 0, none⟩ v0') := by
 have hPB := h.sp.pB
 have hwB := h.hB
 have hz := hb.size
 refine ⟨h.sp.addState hn hb hrow hg hat, fun p hp => ?_, ?_, h.hB⟩
 · obtain ⟨h1, h2⟩ := h.tr p hp
   have hl := h.lt hp
   have n1 : p.1 ≠ PB := fun e => h2 (.inl e)
   have n2 : v0.ownBlock ≠ some p.1 := fun e => h2 (.inr (.inl e))
   refine ⟨?_, fun hf => ?_⟩
   · rw [Below.heap_setCell _ _ _ _ n1, hg.block p.1 (by omega) (fun e => n2 e.symm), hb.block p.1 hl]; exact h1
   · rcases hf with hf | hf | hf
     · exact n1 hf
     · rcases hat with e | e
       · exact n2 (e.symm.trans hf)
       · rw [e] at hf; injection hf with hf; omega
     · exact h2 (.inr (.inr hf))
 · refine below_set ?_ v0' (by show _ ≤ PB; omega)
   have h3 : Below w.heap.size w W1 := h.bl.trans (hb.mono h.bl.size)
   exact ⟨hg.os.trans h3.os, hg.tape.trans h3.tape, hg.output.trans h3.output, Nat.le_trans h3.size hg.size, fun k hk => (hg.block k (by have := h3.size; omega) (fun e => by
    have := rows_lt h.sp.r0 k e.symm; omega)).trans (h3.block k hk)⟩
theorem ch4_far {c1 c2 c3 c4 : Ch} (h1 : c1.v = v1) (h2 : c2.v = v2) (h3 : c3.v = v3) (h4 : c4.v = v4) {b : Nat} (hb : ¬ RFoot PB v0 v1 v2 v3 v4 b ∨ v0.ownBlock = some b ∨ b = PB) (h : Rsp W PB B v0 v1 v2 v3 v4 ss es) : ∀ (i : Nat) (c : Ch), [c1, c2, c3, c4][i]? = some c → c.v.ownBlock ≠ some b := by
 intro i c hc e
 rcases idx4 hc with ⟨_, rfl⟩ | ⟨_, rfl⟩ | ⟨_, rfl⟩ | ⟨_, rfl⟩
 · rw [h1] at e
   rcases hb with hb | hb | hb
   · exact hb (.inr (.inr (.inl e)))
   · exact h.ap.a01 b hb e
   · exact h.ap.p1 (hb ▸ e)
 · rw [h2] at e
   rcases hb with hb | hb | hb
   · exact hb (.inr (.inr (.inr (.inl e))))
   · exact h.ap.a02 b hb e
   · exact h.ap.p2 (hb ▸ e)
 · rw [h3] at e
   rcases hb with hb | hb | hb
   · exact hb (.inr (.inr (.inr (.inr (.inl e)))))
   · exact h.ap.a03 b hb e
   · exact h.ap.p3 (hb ▸ e)
 · rw [h4] at e
   rcases hb with hb | hb | hb
   · exact hb (.inr (.inr (.inr (.inr (.inr e)))))
   · exact h.ap.a04 b hb e
   · exact h.ap.p4 (hb ▸ e)
theorem RS.addEdge {V : World} {k t n : Nat} {l : P2} {us : List Int} {t1 t2 t3 t4 : Value} {b1 p1 d1 e1 b2 p2 d2 e2 b3 p3 d3 e3 b4 p4 d4 e4 : Nat} {T1 T3 T4 : TypeId} (h : RS w TR PB B v0 v1 v2 v3 v4 ss es V) (hn : es.length = n)
 (hA : Aft4 V ⟨b1, p1, d1, e1, T1, 3, 1, v1, n, (fromsE es).map (Value.int .i64), [.int .i64 k]⟩ ⟨b2, p2, d2, e2, T1, 3, 1, v2, n, (tosE es).map (Value.int .i64), [.int .i64 t]⟩ ⟨b3, p3, d3, e3, T3, 22, 2, v3, n, flat2 (latesE es), [.int .i64 l.x, .int .i64 l.y]⟩ ⟨b4, p4, d4, e4, T4, 71, 6, v4, n, flatU es, us.map (Value.int .i64)⟩ B t1 t2 t3 t4 W) :
 RS w TR PB B v0 t1 t2 t3 t4 ss (es ++ [⟨k, t, l, us⟩]) ((((W.setCell ⟨PB, 1, none⟩ t1).setCell ⟨PB, 2, none⟩ t2).setCell ⟨PB, 3, none⟩ t3).setCell ⟨PB, 4, none⟩ t4) := by
 have hPB := h.sp.pB
 have hwB := h.hB
 have hPV := h.sp.lt
 have far : ∀ {b : Nat}, (¬ RFoot PB v0 v1 v2 v3 v4 b ∨ v0.ownBlock = some b ∨ b = PB) → b < V.heap.size → W.heap[b]? = V.heap[b]? := fun {b} hb hl => hA.frm.block b hl (ch4_far rfl rfl rfl rfl hb h.sp)
 have hp : W.heap[PB]? = V.heap[PB]? := far (.inr (.inr rfl)) hPV
 have hc : ∀ j, W.cell? ⟨PB, j, none⟩ = V.cell? ⟨PB, j, none⟩ := fun j => World.cell?_of_block (w := V) (a := ⟨PB, j, none⟩) hp
 have hs : ∀ b, b ≠ PB → ((((W.setCell ⟨PB, 1, none⟩ t1).setCell ⟨PB, 2, none⟩ t2).setCell ⟨PB, 3, none⟩ t3).setCell ⟨PB, 4, none⟩ t4).heap[b]? = W.heap[b]? := fun b hb => by
  rw [Below.heap_setCell _ _ _ _ hb, Below.heap_setCell _ _ _ _ hb, Below.heap_setCell _ _ _ _ hb, Below.heap_setCell _ _ _ _ hb]
 have nz : ∀ {t v : Value}, (t.ownBlock = v.ownBlock ∨ ∃ g, t.ownBlock = some g ∧ V.heap.size ≤ g) → ∀ {b : Nat}, b < V.heap.size → v.ownBlock ≠ some b → t.ownBlock ≠ some b := by
  intro t v ho b hb hv e
  rcases ho with e1 | ⟨g, e1, hg⟩
  · exact hv (e1.symm.trans e)
  · rw [e1] at e; injection e with e; omega
 have ne : ∀ {t v : Value}, (t.ownBlock = v.ownBlock ∨ ∃ g, t.ownBlock = some g ∧ V.heap.size ≤ g) → ApV v0 v → ApV v0 t := by
  intro t v ho ha g hg e
  exact nz ho (rows_lt h.sp.r0 g hg).2 (ha g hg) e
 have ca : ∀ (i : Nat) (x : Value), i ≠ 1 → i ≠ 2 → i ≠ 3 → i ≠ 4 → V.cell? ⟨PB, i, none⟩ = some x → ((((W.setCell ⟨PB, 1, none⟩ t1).setCell ⟨PB, 2, none⟩ t2).setCell ⟨PB, 3, none⟩ t3).setCell ⟨PB, 4, none⟩ t4).cell? ⟨PB, i, none⟩ = some x := fun i x h1 h2 h3 h4 hv => by
  rw [World.cell?_setCell_other _ _ _ _ (fun e => by injection e with _ e; omega), World.cell?_setCell_other _ _ _ _ (fun e => by injection e with _ e; omega), World.cell?_setCell_other _ _ _ _ (fun e => by injection e with _ e; omega), World.cell?_setCell_other _ _ _ _ (fun e => by injection e with _ e; omega), hc]; exact hv
 refine ⟨⟨ca 0 _ (by omega) (by omega) (by omega) (by omega) h.sp.c0, ?_, ?_, ?_, ?_, fun j => ?_, ?_, ?_, ?_, ?_, ?_, ⟨ne hA.o1 h.sp.ap.a01, ne hA.o2 h.sp.ap.a02, ne hA.o3 h.sp.ap.a03, ne hA.o4 h.sp.ap.a04, hA.a12, hA.a13, hA.a14, hA.a23, hA.a24, hA.a34, h.sp.ap.p0, nz hA.o1 hPV h.sp.ap.p1, nz hA.o2 hPV h.sp.ap.p2, nz hA.o3 hPV h.sp.ap.p3, nz hA.o4 hPV h.sp.ap.p4⟩, hPB⟩, fun p hp => ?_, ?_, hwB⟩
 · rw [World.cell?_setCell_other _ _ _ _ (fun e => by injection e with _ e; omega), World.cell?_setCell_other _ _ _ _ (fun e => by injection e with _ e; omega), World.cell?_setCell_other _ _ _ _ (fun e => by injection e with _ e; omega)]
   exact World.cell?_setCell_same' _ _ _ (by rw [hc, h.sp.c1]; rfl)
 · rw [World.cell?_setCell_other _ _ _ _ (fun e => by injection e with _ e; omega), World.cell?_setCell_other _ _ _ _ (fun e => by injection e with _ e; omega)]
   exact World.cell?_setCell_same' _ _ _ (by rw [World.cell?_setCell_other _ _ _ _ (fun e => by injection e with _ e; omega), hc, h.sp.c2]; rfl)
 · rw [World.cell?_setCell_other _ _ _ _ (fun e => by injection e with _ e; omega)]
   exact World.cell?_setCell_same' _ _ _ (by rw [World.cell?_setCell_other _ _ _ _ (fun e => by injection e with _ e; omega), World.cell?_setCell_other _ _ _ _ (fun e => by injection e with _ e; omega), hc, h.sp.c3]; rfl)
 · exact World.cell?_setCell_same' _ _ _ (by rw [World.cell?_setCell_other _ _ _ _ (fun e => by injection e with _ e; omega), World.cell?_setCell_other _ _ _ _ (fun e => by injection e with _ e; omega), World.cell?_setCell_other _ _ _ _ (fun e => by injection e with _ e; omega), hc, h.sp.c4]; rfl)
 · rw [World.frozen?_setCell, World.frozen?_setCell, World.frozen?_setCell, World.frozen?_setCell, World.frozen?_of_block (w := V) (a := ⟨PB, j, none⟩) hp]; exact h.sp.fz j
 · exact rows_kept h.sp.r0 (fun g hg => by rw [hs g (fun e => h.sp.ap.p0 (e ▸ hg)), far (.inr (.inl hg)) (rows_lt h.sp.r0 g hg).2])
 · have := rows_kept hA.q1 (w' := ((((W.setCell ⟨PB, 1, none⟩ t1).setCell ⟨PB, 2, none⟩ t2).setCell ⟨PB, 3, none⟩ t3).setCell ⟨PB, 4, none⟩ t4)) (fun g hg => hs g (fun e => nz hA.o1 hPV h.sp.ap.p1 (e ▸ hg)))
   rw [List.length_append, hn]; simpa [fromsE] using this
 · have := rows_kept hA.q2 (w' := ((((W.setCell ⟨PB, 1, none⟩ t1).setCell ⟨PB, 2, none⟩ t2).setCell ⟨PB, 3, none⟩ t3).setCell ⟨PB, 4, none⟩ t4)) (fun g hg => hs g (fun e => nz hA.o2 hPV h.sp.ap.p2 (e ▸ hg)))
   rw [List.length_append, hn]; simpa [tosE] using this
 · have := rows_kept hA.q3 (w' := ((((W.setCell ⟨PB, 1, none⟩ t1).setCell ⟨PB, 2, none⟩ t2).setCell ⟨PB, 3, none⟩ t3).setCell ⟨PB, 4, none⟩ t4)) (fun g hg => hs g (fun e => nz hA.o3 hPV h.sp.ap.p3 (e ▸ hg)))
   rw [List.length_append, hn]
   have e2 : flat2 (latesE (es ++ [⟨k, t, l, us⟩])) = flat2 (latesE es) ++ [.int .i64 l.x, .int .i64 l.y] := by
    have : latesE (es ++ [⟨k, t, l, us⟩]) = latesE es ++ [⟨l.x, l.y⟩] := by simp [latesE]
    rw [this, flat2_snoc]
   rw [e2]; exact this
 · have := rows_kept hA.q4 (w' := ((((W.setCell ⟨PB, 1, none⟩ t1).setCell ⟨PB, 2, none⟩ t2).setCell ⟨PB, 3, none⟩ t3).setCell ⟨PB, 4, none⟩ t4)) (fun g hg => hs g (fun e => nz hA.o4 hPV h.sp.ap.p4 (e ▸ hg)))
   rw [List.length_append, hn, flatU_snoc]; exact this
 · obtain ⟨h1, h2⟩ := h.tr p hp
   have hl := h.lt hp
   have n1 : p.1 ≠ PB := fun e => h2 (.inl e)
   refine ⟨?_, fun hf => ?_⟩
   · rw [hs _ n1, far (.inl h2) hl]; exact h1
   · rcases hf with hf | hf | hf | hf | hf | hf
     · exact n1 hf
     · exact h2 (.inr (.inl hf))
     · exact nz hA.o1 hl (fun e => h2 (.inr (.inr (.inl e)))) hf
     · exact nz hA.o2 hl (fun e => h2 (.inr (.inr (.inr (.inl e))))) hf
     · exact nz hA.o3 hl (fun e => h2 (.inr (.inr (.inr (.inr (.inl e)))))) hf
     · exact nz hA.o4 hl (fun e => h2 (.inr (.inr (.inr (.inr (.inr e)))))) hf
 · have h3 : Below w.heap.size w W := by
    refine ⟨hA.frm.os.trans h.bl.os, hA.frm.tape.trans h.bl.tape, hA.frm.output.trans h.bl.output, Nat.le_trans h.bl.size hA.frm.size, fun b hb => ?_⟩
    have hsz := h.bl.size
    rw [far (.inl fun hf => by have := (h.sp.foot hf).1; omega) (by omega)]; exact h.bl.block b hb
   exact below_set (below_set (below_set (below_set h3 _ (by show _ ≤ PB; omega)) _ (by show _ ≤ PB; omega)) _ (by show _ ≤ PB; omega)) _ (by show _ ≤ PB; omega)
end
end Go.Proofs.Ytagbikgfkakbfaa
namespace Go.Proofs.Ytagbikgfkakbfaa
open Go.RowKit
set_option linter.unusedSimpArgs false
set_option linter.unusedVariables false
def SofEnds (k0 k1 R Q : Int) (q : Nat) (w : World) (e : Ending) (w' : World) : Prop :=
 ∃ kk, SxEnds (step := stp k0 k1 R Q q) (startI k0 k1) (q + 1) kk ∧ Below w.heap.size w w' ∧
  ((∃ PB B v0 v1 v2 v3 v4, (rnds k0 k1 R Q q kk).full = false ∧ e = .returned (.tuple #[.agg #[v0, v1, v2, v3, v4], .int .i64 0]) ∧ RS w [] PB B v0 v1 v2 v3 v4 (rnds k0 k1 R Q q kk).states (rnds k0 k1 R Q q kk).edges w') ∨
   ((rnds k0 k1 R Q q kk).full = true ∧ e = .returned (.tuple #[.agg #[.slice none 0 0, .slice none 0 0, .slice none 0 0, .slice none 0 0, .slice none 0 0], .int .i64 4])))
theorem rowStateAt {W : World} {B k : Nat} {v : Value} {ss : List (List Int)} {a0 a1 a2 a3 a4 a5 a6 a7 a8 a9 a10 a11 a12 a13 : Int} (h : W.ownsRow B 41 14 v ss.length (flatS ss)) (hl : ∀ t ∈ ss, t.length = 14) (hk : ss[k]? = some [a0, a1, a2, a3, a4, a5, a6, a7, a8, a9, a10, a11, a12, a13]) :
 ∃ (ad : Addr) (cap : Nat), v = .slice (some ad) ss.length cap ∧ (ad.add (k * 14)).block < W.heap.size ∧ W.cell? (ad.add (k * 14)) = some (.int .i64 a0) ∧ W.cell? (⟨(ad.add (k * 14)).block, (ad.add (k * 14)).off + 1, none⟩) = some (.int .i64 a1) ∧ W.cell? (⟨(ad.add (k * 14)).block, (ad.add (k * 14)).off + 2, none⟩) = some (.int .i64 a2) ∧ W.cell? (⟨(ad.add (k * 14)).block, (ad.add (k * 14)).off + 3, none⟩) = some (.int .i64 a3) ∧ W.cell? (⟨(ad.add (k * 14)).block, (ad.add (k * 14)).off + 4, none⟩) = some (.int .i64 a4) ∧ W.cell? (⟨(ad.add (k * 14)).block, (ad.add (k * 14)).off + 5, none⟩) = some (.int .i64 a5) ∧ W.cell? (⟨(ad.add (k * 14)).block, (ad.add (k * 14)).off + 6, none⟩) = some (.int .i64 a6) ∧ W.cell? (⟨(ad.add (k * 14)).block, (ad.add (k * 14)).off + 7, none⟩) = some (.int .i64 a7) ∧ W.cell? (⟨(ad.add (k * 14)).block, (ad.add (k * 14)).off + 8, none⟩) = some (.int .i64 a8) ∧ W.cell? (⟨(ad.add (k * 14)).block, (ad.add (k * 14)).off + 9, none⟩) = some (.int .i64 a9) ∧ W.cell? (⟨(ad.add (k * 14)).block, (ad.add (k * 14)).off + 10, none⟩) = some (.int .i64 a10) ∧ W.cell? (⟨(ad.add (k * 14)).block, (ad.add (k * 14)).off + 11, none⟩) = some (.int .i64 a11) ∧ W.cell? (⟨(ad.add (k * 14)).block, (ad.add (k * 14)).off + 12, none⟩) = some (.int .i64 a12) ∧ W.cell? (⟨(ad.add (k * 14)).block, (ad.add (k * 14)).off + 13, none⟩) = some (.int .i64 a13) := by
 have hkl := (List.getElem?_eq_some_iff.1 hk).1
 rcases h.2 with ⟨_, h0⟩ | ⟨g, cap, cur, rfl, hg, hh, hn, hm, hs, hx⟩
 · omega
 · have hglt := (Array.getElem?_eq_some_iff.1 hh).1
   have key : ∀ (j : Nat) (x : Int), [a0, a1, a2, a3, a4, a5, a6, a7, a8, a9, a10, a11, a12, a13][j]? = some x → W.cell? ⟨g, k * 14 + j, none⟩ = some (.int .i64 x) := fun j x hj => by
    have h1 := flat_get hl hk hj
    rw [← hx] at h1
    rw [List.getElem?_take] at h1
    split at h1
    · simp [World.cell?, hh]
      simpa using h1
    · cases h1
   have ea : (⟨g, 0, none⟩ : Addr).add (k * 14) = ⟨g, k * 14, none⟩ := by unfold Addr.add; split <;> simp_all
   refine ⟨⟨g, 0, none⟩, cap, rfl, by rw [ea]; exact hglt, by rw [ea]; exact key 0 _ rfl, by rw [ea]; exact key 1 _ rfl, by rw [ea]; exact key 2 _ rfl, by rw [ea]; exact key 3 _ rfl, by rw [ea]; exact key 4 _ rfl, by rw [ea]; exact key 5 _ rfl, by rw [ea]; exact key 6 _ rfl, by rw [ea]; exact key 7 _ rfl, by rw [ea]; exact key 8 _ rfl, by rw [ea]; exact key 9 _ rfl, by rw [ea]; exact key 10 _ rfl, by rw [ea]; exact key 11 _ rfl, by rw [ea]; exact key 12 _ rfl, by rw [ea]; exact key 13 _ rfl⟩
def trR (S : Nat) (RL : List Value) : List (Nat × Obj) := [(S, .cells RL.toArray 24 (0, 0)), (S + 1, .cells #[.slice none 0 0, .slice none 0 0, .slice none 0 0, .slice none 0 0, .slice none 0 0] 49 (0, 0))]
theorem sof_start {w W w1 X : World} {S N : Nat} {RL : List Value} {s0 : List Int} (hS : w.heap.size = S) (hW : W = (w.alloc (.cells RL.toArray 24 (0, 0))).alloc (.cells #[.slice none 0 0, .slice none 0 0, .slice none 0 0, .slice none 0 0, .slice none 0 0] 49 (0, 0))) (hA : Below W.heap.size W w1) (hN : w1.heap.size = N) (h14 : s0.length = 14)
 (hX : X = ((w1.alloc (.cells (s0.map (Value.int .i64)).toArray 41 (0, 0))).alloc (.cells (s0.map (Value.int .i64)).toArray 41 (0, 0))).alloc (.cells #[.slice (some ⟨N + 1, 0, none⟩) 1 1, .slice none 0 0, .slice none 0 0, .slice none 0 0, .slice none 0 0] 49 (0, 0))) :
 RS w (trR S RL) (N + 1 + 1) (N + 1) (.slice (some ⟨N + 1, 0, none⟩) 1 1) (.slice none 0 0) (.slice none 0 0) (.slice none 0 0) (.slice none 0 0) [s0] [] X ∧ X.heap.size = N + 3 ∧ S + 2 ≤ N := by
 have sW : W.heap.size = S + 2 := by rw [hW, ← hS]; simp
 have hSN : S + 2 ≤ N := by have := hA.size; omega
 have sX : X.heap.size = N + 3 := by rw [hX]; simp [hN]
 have bX : Below N w1 X := by rw [hX, ← hN]; exact (((Below.refl _ _).alloc (Nat.le_refl _) _).alloc (by simp) _).alloc (by simp; omega) _
 have bW : Below S w W := by rw [hW, ← hS]; exact ((Below.refl _ _).alloc (Nat.le_refl _) _).alloc (by simp) _
 have old : ∀ b, b < S + 2 → X.heap[b]? = W.heap[b]? := fun b hb => (bX.block b (by omega)).trans (hA.block b (by omega))
 have w0 : W.heap[S]? = some (.cells RL.toArray 24 (0, 0)) := by
  rw [hW, heap_old _ _ (by simp; omega), ← hS]; exact heap_new _ _
 have w1' : W.heap[S + 1]? = some (.cells #[.slice none 0 0, .slice none 0 0, .slice none 0 0, .slice none 0 0, .slice none 0 0] 49 (0, 0)) := by
  rw [hW]
  have := heap_new (w.alloc (.cells RL.toArray 24 (0, 0))) (.cells #[.slice none 0 0, .slice none 0 0, .slice none 0 0, .slice none 0 0, .slice none 0 0] 49 (0, 0))
  simpa [hS] using this
 have x1 : X.heap[N + 1]? = some (.cells (s0.map (Value.int .i64)).toArray 41 (0, 0)) := by
  rw [hX, heap_old _ _ (by simp; omega)]
  have := heap_new (w1.alloc (.cells (s0.map (Value.int .i64)).toArray 41 (0, 0))) (.cells (s0.map (Value.int .i64)).toArray 41 (0, 0))
  simpa [hN] using this
 have x2 : X.heap[N + 1 + 1]? = some (.cells [.slice (some ⟨N + 1, 0, none⟩) 1 1, .slice none 0 0, .slice none 0 0, .slice none 0 0, .slice none 0 0].toArray 49 (0, 0)) := by
  rw [hX]
  have := heap_new ((w1.alloc (.cells (s0.map (Value.int .i64)).toArray 41 (0, 0))).alloc (.cells (s0.map (Value.int .i64)).toArray 41 (0, 0))) (.cells [.slice (some ⟨N + 1, 0, none⟩) 1 1, .slice none 0 0, .slice none 0 0, .slice none 0 0, .slice none 0 0].toArray 49 (0, 0))
  simpa [hN] using this
 have nil : ∀ (t : TypeId) (sz : Nat), X.ownsRow (N + 1) t sz (.slice none 0 0) 0 [] := fun t sz => ⟨by simp, .inl ⟨rfl, rfl⟩⟩
 have an : ∀ v : Value, ApV v (.slice none 0 0) := fun v g _ e => by cases e
 have nn : ApV (.slice none 0 0) (.slice none 0 0) := an _
 refine ⟨⟨⟨cell_heap (j := 0) x2 rfl, cell_heap (j := 1) x2 rfl, cell_heap (j := 2) x2 rfl, cell_heap (j := 3) x2 rfl, cell_heap (j := 4) x2 rfl, fun j => froz_heap x2, ⟨?_, .inr ⟨N + 1, 1, _, rfl, Nat.le_refl _, x1, Nat.le_refl _, by decide, ?_, ?_⟩⟩, nil _ _, nil _ _, nil _ _, nil _ _, ⟨an _, an _, an _, an _, nn, nn, nn, nn, nn, nn, fun e => ?_, (fun e => by cases e), (fun e => by cases e), (fun e => by cases e), (fun e => by cases e)⟩, by omega⟩, fun p hp => ?_, ?_, by omega⟩, sX, hSN⟩
 · simp [flatS, h14]
 · simp [h14]
 · simp only [flatS, List.flatMap_cons, List.flatMap_nil, List.append_nil, List.length_cons, List.length_nil, Nat.zero_add, Nat.one_mul]; exact List.take_of_length_le (by simp [h14])
 · simp only [Value.ownBlock, Option.some.injEq] at e; omega
 · have key : ∀ b, b < S + 2 → ¬ RFoot (N + 1 + 1) (.slice (some ⟨N + 1, 0, none⟩) 1 1) (.slice none 0 0) (.slice none 0 0) (.slice none 0 0) (.slice none 0 0) b := fun b hb hf => by
    rcases hf with h | h | h | h | h | h
    · omega
    · simp only [Value.ownBlock, Option.some.injEq] at h; omega
    · cases h
    · cases h
    · cases h
    · cases h
   simp only [trR, List.mem_cons, List.not_mem_nil, or_false] at hp
   rcases hp with rfl | rfl
   · exact ⟨(old _ (by omega)).trans w0, key _ (by omega)⟩
   · exact ⟨(old _ (by omega)).trans w1', key _ (by omega)⟩
 · rw [hS]; exact (bW.trans (hA.mono (by omega))).trans (bX.mono (by omega))
def SL (k0 k1 R Q : Int) (q : Nat) (w : World) (S PB B : Nat) (kk : Nat) (W : World) : Prop :=
 ∃ v0 v1 v2 v3 v4, RS w (trR S [.int .i64 k0, .int .i64 k1, .int .i64 R, .int .i64 Q, .int .i64 (q : Int)]) PB B v0 v1 v2 v3 v4 (rnds k0 k1 R Q q kk).states (rnds k0 k1 R Q q kk).edges W ∧
  (rnds k0 k1 R Q q kk).full = false ∧ SxOk (GG k0 k1 R Q q) UU (rnds k0 k1 R Q q kk) ∧ (rnds k0 k1 R Q q kk).edges.length = kk * ((q + 1) * (q + 1)) ∧ kk ≤ (rnds k0 k1 R Q q kk).states.length ∧
  (∀ j, j < kk → (rnds k0 k1 R Q q j).full = false ∧ j < (rnds k0 k1 R Q q j).states.length)
def SI (k0 k1 R Q : Int) (q : Nat) (w : World) (S PB B : Nat) (kk n : Nat) (W : World) : Prop :=
 ∃ v0 v1 v2 v3 v4, RS w (trR S [.int .i64 k0, .int .i64 k1, .int .i64 R, .int .i64 Q, .int .i64 (q : Int)]) PB B v0 v1 v2 v3 v4 ((rnds k0 k1 R Q q kk).walk (stp k0 k1 R Q q) kk (latesP (q + 1) n)).states ((rnds k0 k1 R Q q kk).walk (stp k0 k1 R Q q) kk (latesP (q + 1) n)).edges W ∧
  ((rnds k0 k1 R Q q kk).walk (stp k0 k1 R Q q) kk (latesP (q + 1) n)).full = false
theorem walk_ok2 {k0 k1 R Q : Int} {q kk n : Nat} (h : SxOk (GG k0 k1 R Q q) UU (rnds k0 k1 R Q q kk)) (hk : kk < (rnds k0 k1 R Q q kk).states.length) (hn : n ≤ (q + 1) * (q + 1)) : SxOk (GG k0 k1 R Q q) UU ((rnds k0 k1 R Q q kk).walk (stp k0 k1 R Q q) kk (latesP (q + 1) n)) :=
 h.walk hk (fun l hl s hs => stp_good (latesP_ok hn l hl) hs)
theorem SL.into {k0 k1 R Q : Int} {q : Nat} {w : World} {S PB B kk : Nat} {W W' : World} (h : SL k0 k1 R Q q w S PB B kk W) (hb : Below W.heap.size W W') : SI k0 k1 R Q q w S PB B kk 0 W' := by
 obtain ⟨v0, v1, v2, v3, v4, h1, h2, _⟩ := h
 exact ⟨v0, v1, v2, v3, v4, h1.below hb, h2⟩
theorem SI.next {k0 k1 R Q : Int} {q : Nat} {w : World} {S PB B kk : Nat} {W W' : World} (h : SI k0 k1 R Q q w S PB B kk ((q + 1) * (q + 1)) W) (hL : SL k0 k1 R Q q w S PB B kk W') (hk : kk < (rnds k0 k1 R Q q kk).states.length) : SL k0 k1 R Q q w S PB B (kk + 1) W := by
 obtain ⟨_, _, _, _, _, _, hf, hok, hel, _, hbef⟩ := hL
 obtain ⟨v0, v1, v2, v3, v4, h1, h2⟩ := h
 have hm := Sx.walk_mono (step := stp k0 k1 R Q q) (rnds k0 k1 R Q q kk) kk (latesP (q + 1) ((q + 1) * (q + 1)))
 refine ⟨v0, v1, v2, v3, v4, h1, h2, walk_ok2 hok hk (Nat.le_refl _), ?_, ?_, fun j hj => ?_⟩
 · rw [rnds_succ, Sx.walk_edges h2, hel, latesP_len]; exact (Nat.succ_mul kk _).symm
 · rw [rnds_succ]; omega
 · rcases (show j < kk ∨ j = kk by omega) with h | rfl
   · exact hbef j h
   · exact ⟨hf, hk⟩
theorem SI.step {k0 k1 R Q : Int} {q : Nat} {w : World} {S PB B kk n : Nat} {Z : World} {TR : List (Nat × Obj)} {v0 v1 v2 v3 v4 : Value} {Y Y' : Sx} (hY : (rnds k0 k1 R Q q kk).walk (stp k0 k1 R Q q) kk (latesP (q + 1) n) = Y) {D E : Nat} (hD : n / (q + 1) = D) (hE : n % (q + 1) = E) (hgo : Y.go (stp k0 k1 R Q q) kk ⟨(D : Int), (E : Int)⟩ = Y') (hf : Y'.full = false)
 (h : RS w TR PB B v0 v1 v2 v3 v4 Y'.states Y'.edges Z) (hs : ∀ p ∈ trR S [.int .i64 k0, .int .i64 k1, .int .i64 R, .int .i64 Q, .int .i64 (q : Int)], p ∈ TR) : SI k0 k1 R Q q w S PB B kk (n + 1) Z := by
 rw [← hD, ← hE] at hgo
 refine ⟨v0, v1, v2, v3, v4, ?_, ?_⟩
 · rw [latesP_succ, Sx.walk_snoc, hY, hgo]; exact h.sub hs
 · rw [latesP_succ, Sx.walk_snoc, hY, hgo]; exact hf
theorem full_step2 {k0 k1 R Q : Int} {q kk n : Nat} {Y Y' : Sx} (hn : n < (q + 1) * (q + 1)) (hY : (rnds k0 k1 R Q q kk).walk (stp k0 k1 R Q q) kk (latesP (q + 1) n) = Y) {D E : Nat} (hD : n / (q + 1) = D) (hE : n % (q + 1) = E) (hgo : Y.go (stp k0 k1 R Q q) kk ⟨(D : Int), (E : Int)⟩ = Y') (hf : Y'.full = true) : (rnds k0 k1 R Q q (kk + 1)).full = true :=
 full_pre (m := n + 1) (by omega) rfl (by rw [← hD, ← hE] at hgo; rw [latesP_succ, Sx.walk_snoc, hY, hgo]; exact hf)
def toI (nx : List Int) (ss : List (List Int)) (j : Nat) : Int := if nx ∈ ss.take j then (ss.idxOf nx : Int) else -1
theorem toI_zero (nx : List Int) (ss : List (List Int)) : toI nx ss 0 = -1 := by simp [toI]
theorem toI_hit {nx : List Int} {ss : List (List Int)} {j : Nat} (hd : ss.Nodup) (hj : ss[j]? = some nx) : toI nx ss (j + 1) = (j : Int) := by
 obtain ⟨hl, h2⟩ := List.getElem?_eq_some_iff.1 hj
 have h1 : nx ∈ ss.take (j + 1) := by rw [List.take_add_one, hj]; simp
 have h3 := hd.idxOf_getElem j hl
 rw [h2] at h3
 unfold toI; rw [if_pos h1, h3]
theorem toI_miss {nx s : List Int} {ss : List (List Int)} {j : Nat} (hj : ss[j]? = some s) (hne : s ≠ nx) : toI nx ss (j + 1) = toI nx ss j := by
 unfold toI
 have : nx ∈ ss.take (j + 1) ↔ nx ∈ ss.take j := by rw [List.take_add_one, hj]; simp [Ne.symm hne]
 simp only [this]
theorem toI_old {nx : List Int} {ss : List (List Int)} {i : Nat} (hd : ss.Nodup) (hi : ss[i]? = some nx) : toI nx ss ss.length = (i : Int) := by
 obtain ⟨hl, h2⟩ := List.getElem?_eq_some_iff.1 hi
 have h3 := hd.idxOf_getElem i hl
 rw [h2] at h3
 unfold toI; rw [List.take_length, if_pos (List.mem_of_getElem? hi), h3]
theorem toI_new {nx : List Int} {ss : List (List Int)} (h : nx ∉ ss) : toI nx ss ss.length = -1 := by
 unfold toI; rw [List.take_length, if_neg h]
theorem toI_range (nx : List Int) (ss : List (List Int)) (j : Nat) : -1 ≤ toI nx ss j ∧ toI nx ss j ≤ ss.length := by
 unfold toI
 have := List.idxOf_le_length (a := nx) (l := ss)
 split <;> omega
theorem set5 {W Z : World} {b : Nat} {u0 u1 u2 u3 u4 x0 x1 x2 x3 x4 : Value} (h : Blk W b [u0, u1, u2, u3, u4]) (hZ : Z = ((((W.setCell ⟨b, 0, none⟩ x0).setCell ⟨b, 1, none⟩ x1).setCell ⟨b, 2, none⟩ x2).setCell ⟨b, 3, none⟩ x3).setCell ⟨b, 4, none⟩ x4) :
 (Z.cell? ⟨b, 0, none⟩ = some x0 ∧ Z.cell? ⟨b, 1, none⟩ = some x1 ∧ Z.cell? ⟨b, 2, none⟩ = some x2 ∧ Z.cell? ⟨b, 3, none⟩ = some x3 ∧ Z.cell? ⟨b, 4, none⟩ = some x4) ∧ Chg W Z (fun x => x = b) := by
 have ne : ∀ i j : Nat, i ≠ j → (⟨b, i, none⟩ : Addr) ≠ ⟨b, j, none⟩ := fun i j hij e => hij (by injection e)
 rw [hZ]
 refine ⟨⟨?_, ?_, ?_, ?_, ?_⟩, ?_⟩
 · rw [World.cell?_setCell_other _ _ _ _ (ne _ _ (by omega)), World.cell?_setCell_other _ _ _ _ (ne _ _ (by omega)), World.cell?_setCell_other _ _ _ _ (ne _ _ (by omega)), World.cell?_setCell_other _ _ _ _ (ne _ _ (by omega))]
   exact World.cell?_setCell_same' _ _ _ (by rw [(h 0 _ rfl).1]; rfl)
 · rw [World.cell?_setCell_other _ _ _ _ (ne _ _ (by omega)), World.cell?_setCell_other _ _ _ _ (ne _ _ (by omega)), World.cell?_setCell_other _ _ _ _ (ne _ _ (by omega))]
   exact World.cell?_setCell_same' _ _ _ (by rw [World.cell?_setCell_other _ _ _ _ (ne _ _ (by omega)), (h 1 _ rfl).1]; rfl)
 · rw [World.cell?_setCell_other _ _ _ _ (ne _ _ (by omega)), World.cell?_setCell_other _ _ _ _ (ne _ _ (by omega))]
   exact World.cell?_setCell_same' _ _ _ (by rw [World.cell?_setCell_other _ _ _ _ (ne _ _ (by omega)), World.cell?_setCell_other _ _ _ _ (ne _ _ (by omega)), (h 2 _ rfl).1]; rfl)
 · rw [World.cell?_setCell_other _ _ _ _ (ne _ _ (by omega))]
   exact World.cell?_setCell_same' _ _ _ (by rw [World.cell?_setCell_other _ _ _ _ (ne _ _ (by omega)), World.cell?_setCell_other _ _ _ _ (ne _ _ (by omega)), World.cell?_setCell_other _ _ _ _ (ne _ _ (by omega)), (h 3 _ rfl).1]; rfl)
 · exact World.cell?_setCell_same' _ _ _ (by rw [World.cell?_setCell_other _ _ _ _ (ne _ _ (by omega)), World.cell?_setCell_other _ _ _ _ (ne _ _ (by omega)), World.cell?_setCell_other _ _ _ _ (ne _ _ (by omega)), World.cell?_setCell_other _ _ _ _ (ne _ _ (by omega)), (h 4 _ rfl).1]; rfl)
 · exact (((((Chg.refl W (fun x => x = b)).set (p := ⟨b, 0, none⟩) rfl _).set (p := ⟨b, 1, none⟩) rfl _).set (p := ⟨b, 2, none⟩) rfl _).set (p := ⟨b, 3, none⟩) rfl _).set (p := ⟨b, 4, none⟩) rfl _
theorem RS.two {w W Z : World} {TR : List (Nat × Obj)} {PB B NB OB : Nat} {v0 v1 v2 v3 v4 : Value} {ss : List (List Int)} {es : List Edg} {o1 o2 : Obj} (h : RS w TR PB B v0 v1 v2 v3 v4 ss es W) (hb : Below W.heap.size W Z) (h1 : Z.heap[NB]? = some o1) (h2 : Z.heap[OB]? = some o2) (n1 : W.heap.size ≤ NB) (n2 : W.heap.size ≤ OB) : RS w ((OB, o2) :: (NB, o1) :: TR) PB B v0 v1 v2 v3 v4 ss es Z := by
 have h3 := h.new hb n1 h1
 exact ⟨h3.sp, fun p hp => by
  rcases List.mem_cons.1 hp with rfl | hp
  · exact ⟨h2, RFoot_lt h.sp n2⟩
  · exact h3.tr p hp, h3.bl, h3.hB⟩
theorem RS.box {w W Z : World} {TR : List (Nat × Obj)} {PB B b : Nat} {v0 v1 v2 v3 v4 : Value} {ss : List (List Int)} {es : List Edg} (h : RS w TR PB B v0 v1 v2 v3 v4 ss es W) (hc : Chg W Z (fun x => x = b)) {o : Obj} (hb : (b, o) ∈ TR) (hw : w.heap.size ≤ b) : RS w [] PB B v0 v1 v2 v3 v4 ss es Z := by
 have hf := (h.tr _ hb).2
 refine ⟨h.sp.kept (fun x hx => hc.block x (h.sp.foot hx).2 (fun e => hf (e ▸ hx))), fun p hp => (by cases hp), ⟨hc.os.trans h.bl.os, hc.tape.trans h.bl.tape, hc.output.trans h.bl.output, Nat.le_trans h.bl.size hc.size, fun x hx => ?_⟩, h.hB⟩
 exact (hc.block x (Nat.lt_of_lt_of_le hx h.bl.size) (fun e => by omega)).trans (h.bl.block x hx)
theorem infoRound : (Try.prog.info? 71).map (fun i => (i.zero, i.size, i.bytes)) = some (some (.agg #[.int .i64 0, .int .i64 0, .int .i64 0, .int .i64 0, .int .i64 0, .int .i64 0]), 6, 48) := by kernel_rfl
theorem laysRound (x0 x1 x2 x3 x4 x5 : Int) (w : World) : (Instr.buildSlice 36 1 #[(0, .agg #[.int .i64 x0, .int .i64 x1, .int .i64 x2, .int .i64 x3, .int .i64 x4, .int .i64 x5])]).run Try.prog w = .ok (.slice (some ⟨w.heap.size, 0, none⟩) 1 1) (w.alloc (.cells #[.int .i64 x0, .int .i64 x1, .int .i64 x2, .int .i64 x3, .int .i64 x4, .int .i64 x5] 71)) := by kernel_rfl
theorem cells_new (w : World) (xs : List Value) (t : TypeId) : ∀ (j : Nat) (u : Value), xs[j]? = some u → (w.alloc (.cells xs.toArray t)).cell? ((⟨w.heap.size, 0, none⟩ : Addr).add j) = some u := by
 intro j u hj
 have ea : (⟨w.heap.size, 0, none⟩ : Addr).add j = ⟨w.heap.size, j, none⟩ := by unfold Addr.add; split <;> simp_all
 rw [ea]
 exact cell_heap (heap_new w (.cells xs.toArray t)) hj
theorem RS.grow0 {w W W5 : World} {TR : List (Nat × Obj)} {PB B : Nat} {v0 v1 v2 v3 v4 : Value} {ss : List (List Int)} {es : List Edg} {o : Obj} (h : RS w TR PB B v0 v1 v2 v3 v4 ss es W) (hg : (W.alloc o).grownBy W5 v0.ownBlock) : W5.cell? ⟨PB, 0, none⟩ = some v0 ∧ W5.frozen? ⟨PB, 0, none⟩ = false := by
 have hl := h.sp.lt
 have e : W5.heap[PB]? = W.heap[PB]? := (hg.block PB (by simp; omega) (fun e => h.sp.ap.p0 e.symm)).trans (heap_old W o hl)
 exact ⟨(World.cell?_of_block (w := W) (a := ⟨PB, 0, none⟩) e).trans h.sp.c0, (World.frozen?_of_block (w := W) (a := ⟨PB, 0, none⟩) e).trans (h.sp.fz 0)⟩
theorem RS.row0 {w W : World} {TR : List (Nat × Obj)} {PB B : Nat} {v0 v1 v2 v3 v4 : Value} {ss : List (List Int)} {es : List Edg} (h : RS w TR PB B v0 v1 v2 v3 v4 ss es W) (o : Obj) : (W.alloc o).ownsRow B 41 14 v0 ss.length (flatS ss) :=
 rows_kept h.sp.r0 (fun g hg => heap_old W o (rows_lt h.sp.r0 g hg).2)
theorem ch4_slots {T1 T2 T3 T4 e1 e2 e3 e4 : TypeId} {s1 s2 s3 s4 n1 n2 n3 n4 : Nat} {v1 v2 v3 v4 : Value} {xs1 x1 xs2 x2 xs3 x3 xs4 x4 : List Value} : ∀ d ∈ slots (ixs [(⟨3, 4, 100, 101, T1, e1, s1, v1, n1, xs1, x1⟩ : Ch), ⟨8, 9, 105, 106, T2, e2, s2, v2, n2, xs2, x2⟩, ⟨13, 14, 110, 111, T3, e3, s3, v3, n3, xs3, x3⟩, ⟨18, 19, 115, 116, T4, e4, s4, v4, n4, xs4, x4⟩]), d < 123 := by
 intro d hd
 simp only [ixs, slots, List.map_cons, List.map_nil, List.mem_cons, List.not_mem_nil, or_false] at hd
 omega
theorem ch4_F {w V : World} {TR : List (Nat × Obj)} {PB B LB OB : Nat} {v0 v1 v2 v3 v4 : Value} {ss : List (List Int)} {es : List Edg} {c1 c2 c3 c4 : Ch} {l0 l1 x0 x1 x2 x3 x4 x5 : Int} {o1 o2 : Obj} (h : RS w TR PB B v0 v1 v2 v3 v4 ss es V) (h1 : c1.v = v1) (h2 : c2.v = v2) (h3 : c3.v = v3) (h4 : c4.v = v4) (hL : (LB, o1) ∈ TR) (hO : (OB, o2) ∈ TR)
 (hF : (fun w' : World => w'.cell? ⟨PB, 1, none⟩ = some v1 ∧ w'.cell? ⟨PB, 2, none⟩ = some v2 ∧ w'.cell? ⟨PB, 3, none⟩ = some v3 ∧ w'.cell? ⟨PB, 4, none⟩ = some v4 ∧ w'.cell? ⟨LB, 0, none⟩ = some (.int .i64 l0) ∧ w'.cell? ⟨LB, 1, none⟩ = some (.int .i64 l1) ∧ w'.cell? ⟨OB, 0, none⟩ = some (.int .i64 x0) ∧ w'.cell? ⟨OB, 1, none⟩ = some (.int .i64 x1) ∧ w'.cell? ⟨OB, 2, none⟩ = some (.int .i64 x2) ∧ w'.cell? ⟨OB, 3, none⟩ = some (.int .i64 x3) ∧ w'.cell? ⟨OB, 4, none⟩ = some (.int .i64 x4) ∧ w'.cell? ⟨OB, 5, none⟩ = some (.int .i64 x5)) V) : ∀ W, Frm V [c1, c2, c3, c4] W → (fun w' : World => w'.cell? ⟨PB, 1, none⟩ = some v1 ∧ w'.cell? ⟨PB, 2, none⟩ = some v2 ∧ w'.cell? ⟨PB, 3, none⟩ = some v3 ∧ w'.cell? ⟨PB, 4, none⟩ = some v4 ∧ w'.cell? ⟨LB, 0, none⟩ = some (.int .i64 l0) ∧ w'.cell? ⟨LB, 1, none⟩ = some (.int .i64 l1) ∧ w'.cell? ⟨OB, 0, none⟩ = some (.int .i64 x0) ∧ w'.cell? ⟨OB, 1, none⟩ = some (.int .i64 x1) ∧ w'.cell? ⟨OB, 2, none⟩ = some (.int .i64 x2) ∧ w'.cell? ⟨OB, 3, none⟩ = some (.int .i64 x3) ∧ w'.cell? ⟨OB, 4, none⟩ = some (.int .i64 x4) ∧ w'.cell? ⟨OB, 5, none⟩ = some (.int .i64 x5)) W := by
 intro W hW
 have kp : ∀ b, (¬ RFoot PB v0 v1 v2 v3 v4 b ∨ v0.ownBlock = some b ∨ b = PB) → b < V.heap.size → ∀ j, W.cell? ⟨b, j, none⟩ = V.cell? ⟨b, j, none⟩ := fun b hb hl j => World.cell?_of_block (w := V) (a := ⟨b, j, none⟩) (hW.block b hl (ch4_far h1 h2 h3 h4 hb h.sp))
 have kP := kp PB (.inr (.inr rfl)) h.sp.lt
 have kL := kp LB (.inl (h.tr _ hL).2) (h.lt hL)
 have kO := kp OB (.inl (h.tr _ hO).2) (h.lt hO)
 obtain ⟨f1, f2, f3, f4, f5, f6, g0, g1, g2, g3, g4, g5⟩ := hF
 exact ⟨(kP 1).trans f1, (kP 2).trans f2, (kP 3).trans f3, (kP 4).trans f4, (kL 0).trans f5, (kL 1).trans f6, (kO 0).trans g0, (kO 1).trans g1, (kO 2).trans g2, (kO 3).trans g3, (kO 4).trans g4, (kO 5).trans g5⟩
theorem ch4_fz {w V : World} {TR : List (Nat × Obj)} {PB B : Nat} {v0 v1 v2 v3 v4 : Value} {ss : List (List Int)} {es : List Edg} {c1 c2 c3 c4 : Ch} (h : RS w TR PB B v0 v1 v2 v3 v4 ss es V) (h1 : c1.v = v1) (h2 : c2.v = v2) (h3 : c3.v = v3) (h4 : c4.v = v4) : ∀ W, Frm V [c1, c2, c3, c4] W → ∀ j, W.frozen? ⟨PB, j, none⟩ = false :=
 fun W hW j => (World.frozen?_of_block (w := V) (a := ⟨PB, j, none⟩) (hW.block PB h.sp.lt (ch4_far h1 h2 h3 h4 (.inr (.inr rfl)) h.sp))).trans (h.sp.fz j)
end Go.Proofs.Ytagbikgfkakbfaa
namespace Go.Proofs.Ytagbikgfkakbfaa
open Go Go.RowKit
set_option linter.unusedSimpArgs false
set_option linter.unusedVariables false
section
variable {P : Program} {ops : Array Oper} {Q : Exit → Act → World → Prop} {md : Region.Mode} {F : World → Prop} {c : Nat}
def lisE (t : Bool) (e : Nat) (L : Array Bool) : Array Bool := if t then L.setIfInBounds e true else L
def chkE (md : Region.Mode) (ops : Array Oper) (cs : List (Nat × Nat × Nat × Nat)) (e : Nat) (L : Array Bool) : Bool :=
 (stages cs.length).all fun st => [false, true].all fun t => (rem st == 0 && t) || !(closedB md ops (lst cs st (lisE t e L))) || (!(Region.ready md ops (lst cs st (lisE t e L))).isEmpty && (Region.ready md ops (lst cs st (lisE t e L))).all fun i => mayAt cs st i 0 || (!t && i == e))
theorem closedB_of {L : Array Bool} (h : ClosedG md ops L) : closedB md ops L = true := by
 simp only [closedB, Bool.and_eq_true, decide_eq_true_eq, List.all_eq_true, List.mem_range]
 refine ⟨h.size, fun j hj => ?_⟩
 cases ho : ops[j]? with
 | none => rfl
 | some oj =>
   cases hl : L.getD j false with
   | false => rfl
   | true =>
     simp only [Bool.not_true, Bool.false_or]
     refine Array.all_eq_true.2 fun k hk => ?_
     cases hb : Region.binds md oj.after[k] with
     | false => rfl
     | true => simpa using h.closed j oj ho hl _ (Array.getElem_mem hk) hb
theorem wpAnyG_chainsE {cs : List (Nat × Nat × Nat × Nat)} {e : Nat} {L0 : Array Bool} {J : List Nat → Bool → Act → World → Prop} {f : Nat} (hcl : ClosedG md ops L0) (hchk : chkE md ops cs e L0 = true) (hJF : ∀ st t a w, J st t a w → F w)
 (h1 : ∀ st t a w i b p d, st.length = cs.length → J st t a w → cs[i]? = some (b, p, d) → st[i]? = some 0 → wpOp P ops Q b (J (st.set i 1) t) a w)
 (h2 : ∀ st t a w i b p d, st.length = cs.length → J st t a w → cs[i]? = some (b, p, d) → st[i]? = some 1 → wpOp P ops Q p (J (st.set i 2) t) a w)
 (h3 : ∀ st a w, st.length = cs.length → J st false a w → wpOp P ops Q e (J st true) a w)
 (he : ∀ a w, J (List.replicate cs.length 2) true a w → wpAnyG P md ops Q c F f (lst cs (List.replicate cs.length 2) (lisE true e L0)) a w) :
 ∀ (d : Nat) (st : List Nat) (t : Bool) (a : Act) (w : World), rem st + (if t then 0 else 1) = d → st.length = cs.length → (∀ s ∈ st, s ≤ 2) → ClosedG md ops (lst cs st (lisE t e L0)) → J st t a w → wpAnyG P md ops Q c F (f + d) (lst cs st (lisE t e L0)) a w := by
 intro d
 induction d with
 | zero =>
   intro st t a w hr hl hs hC hJ
   cases t with
   | false => simp at hr
   | true =>
     have e := rem_zero st hs (by omega)
     rw [hl] at e
     rw [e] at hJ ⊢
     exact he a w hJ
 | succ d ih =>
   intro st t a w hr hl hs hC hJ
   have hm := mem_stages st hs
   rw [hl] at hm
   have hc := List.all_eq_true.1 (List.all_eq_true.1 hchk st hm) t (by cases t <;> simp)
   simp only [Bool.or_eq_true, beq_iff_eq, Bool.and_eq_true, Bool.not_eq_true', List.all_eq_true] at hc
   rcases hc with (⟨hc, ht⟩ | hc) | ⟨hc1, hc2⟩
   · rw [ht] at hr; simp at hr; omega
   · rw [closedB_of hC] at hc; cases hc
   · refine ⟨fun h0 => by rw [h0] at hc1; simp at hc1, fun i hi => ?_⟩
     have hset : ∀ (j x : Nat), x ≤ 2 → ∀ s ∈ st.set j x, s ≤ 2 := fun j x hx s hs' => by
      rcases List.mem_or_eq_of_mem_set hs' with h | h
      · exact hs s h
      · omega
     rcases hc2 i hi with h | ⟨ht, rfl⟩
     · obtain ⟨j, b, p, dd, hj, h3⟩ := mayAt_spec cs st i 0 h
       rcases h3 with ⟨h3, rfl⟩ | ⟨h3, rfl⟩
       · refine wpOp_mono (fun a' w' hJ' => ⟨fun _ => hJF _ _ _ _ hJ', ?_⟩) (h1 st t a w j i p dd hl hJ hj h3)
         have hC' := hC.set hi
         rw [← lst_1 cs st _ j i p dd hj h3] at hC' ⊢
         exact ih _ t a' w' (by have := rem_set st j 0 (by omega) h3; simp only [Nat.zero_add] at this; omega) (by simpa using hl) (hset j 1 (by omega)) hC' hJ'
       · refine wpOp_mono (fun a' w' hJ' => ⟨fun _ => hJF _ _ _ _ hJ', ?_⟩) (h2 st t a w j b i dd hl hJ hj h3)
         have hC' := hC.set hi
         rw [← lst_2 cs st _ j b i dd hj h3] at hC' ⊢
         exact ih _ t a' w' (by have := rem_set st j 1 (by omega) h3; simp only [Nat.reduceAdd] at this; omega) (by simpa using hl) (hset j 2 (by omega)) hC' hJ'
     · subst ht
       refine wpOp_mono (fun a' w' hJ' => ⟨fun _ => hJF _ _ _ _ hJ', ?_⟩) (h3 st a w hl hJ)
       have hx : (lst cs st (lisE false i L0)).setIfInBounds i true = lst cs st (lisE true i L0) := (lst_comm cs st L0 i).symm
       have hC' := hC.set hi
       rw [hx] at hC' ⊢
       exact ih st true a' w' (by simp at hr ⊢; omega) hl hs hC' hJ'
section
variable {w0 : World} {a0 : Act} {cs : List Ch} {B : Nat}
theorem jr_1 (hnd : (slots (ixs cs)).Nodup) (hok : ∀ (i : Nat) (d : Ch), cs[i]? = some d → ChOk P ops a0 cs d) : ∀ st a w i b p d, st.length = (ixs cs).length → JR w0 a0 cs B st a w → (ixs cs)[i]? = some (b, p, d) → st[i]? = some 0 → wpOp P ops Q b (JR w0 a0 cs B (st.set i 1)) a w := by
 intro st a w i b p d hst ⟨vs, hvl, ha, hR⟩ hi hs
 obtain ⟨ch, hch, rfl, rfl, rfl⟩ := ixs_get hi
 obtain ⟨o, k, X, ho, hg, hdst, hop, hk, hX, hrun⟩ := (hok i ch hch).lay
 have hil : i < vs.length := by rw [hvl]; exact (List.getElem?_eq_some_iff.1 hch).1
 obtain ⟨⟨u, v⟩, hv⟩ : ∃ x, vs[i]? = some x := ⟨_, List.getElem?_eq_getElem hil⟩
 refine wpOp_step ho fun K' hK => ?_
 have hw : Region.wanted o (yielded ops a.tmps) = true := by simp [Region.wanted, hg]
 rw [if_pos hw]
 have hev : a.eval (.tmp k) = X := evalOf (by rw [ha, puts_other _ _ _ _ _ hk]; exact hX)
 unfold Oper.wp execOp
 simp only [hop, Sem.run_bind, Sem.run_pure, Result.andThen_ok, List.map_toArray, List.map_cons, List.map_nil, hev, hrun]
 rw [Oper.upon_value]
 refine hK _ _ ⟨vs.set i (.slice (some ⟨w.heap.size, 0, none⟩) 1 1, v), by simpa using hvl, ?_, hR.lay hch hs hv _⟩
 rw [hdst, ha, puts_1 (ixs cs) st vs a0 i ch.b ch.p ch.db ch.dp _ u v hnd hi hs hv]
theorem jr_2 (hnd : (slots (ixs cs)).Nodup) (hsl : ∀ d ∈ slots (ixs cs), d < a0.tmps.size) (hok : ∀ (i : Nat) (d : Ch), cs[i]? = some d → ChOk P ops a0 cs d) (hB : B ≤ w0.heap.size) : ∀ st a w i b p d, st.length = (ixs cs).length → JR w0 a0 cs B st a w → (ixs cs)[i]? = some (b, p, d) → st[i]? = some 1 → wpOp P ops Q p (JR w0 a0 cs B (st.set i 2)) a w := by
 intro st a w i b p d hst ⟨vs, hvl, ha, hR⟩ hi hs
 obtain ⟨ch, hch, rfl, rfl, rfl⟩ := ixs_get hi
 obtain ⟨o, k, ho, hg, hdst, hop, hk, hX⟩ := (hok i ch hch).app
 obtain ⟨ti, z, bytes, ht, hti, htz, hts, htb, htzs, htp, hbt⟩ := (hok i ch hch).info
 have hil : i < vs.length := by rw [hvl]; exact (List.getElem?_eq_some_iff.1 hch).1
 obtain ⟨⟨u, v⟩, hv⟩ : ∃ x, vs[i]? = some x := ⟨_, List.getElem?_eq_getElem hil⟩
 obtain ⟨g, hu, _, _, hcell, _⟩ := hR.one i ch u v hch hs hv
 refine wpOp_step ho fun K' hK => ?_
 have hw : Region.wanted o (yielded ops a.tmps) = true := by simp [Region.wanted, hg]
 rw [if_pos hw]
 have hev : a.eval (.tmp k) = ch.v := evalOf (by rw [ha, puts_other _ _ _ _ _ hk]; exact hX)
 have hev2 : a.eval (.tmp ch.db) = .slice (some ⟨g, 0, none⟩) 1 1 := evalOf (by rw [ha, puts_at1 (ixs cs) st vs a0 i ch.b ch.p ch.db ch.dp u v hnd hsl hi hs hv, hu])
 have hrow' := (hR.row i ch 1 u v hch hs hv).1
 obtain ⟨v', w', hr, f1, f2, _, f4⟩ := run_append_own_at (P := P) w B ch.t o.type ch.e ti z ch.size bytes ht hti htz hts htb htzs htp ch.v ch.n ch.xs hrow' ⟨g, 0, none⟩ 1 1 ch.x (by rw [(hok i ch hch).len]; omega) (fun j x hx => by rw [addZ]; exact hcell j x hx) (hok i ch hch).cell (hok i ch hch).max hbt (Nat.le_trans hB hR.frm.size)
 unfold Oper.wp execOp
 simp only [hop, resolve, invoke, builtin, Sem.run_bind, Sem.run_pure, Result.andThen_ok, List.map_toArray, List.map_cons, List.map_nil, hev, hev2, hr]
 rw [Oper.upon_value]
 refine hK _ _ ⟨vs.set i (u, v'), by simpa using hvl, ?_, hR.app hch hs hv f1 f2 f4⟩
 rw [hdst, ha, puts_2 (ixs cs) st vs a0 i ch.b ch.p ch.db ch.dp u v v' hnd hi hs hv]
theorem wpAnyG_appendsE {L0 : Array Bool} {f e de k T j : Nat} {oe : Oper} {ve : Value} {ad : Addr} (hoe : ops[e]? = some oe) (hge : oe.guard = none) (hde : oe.dst = some de) (hop : oe.op = .fieldAddr T (.tmp k) j) (hk : k ∉ slots (ixs cs)) (hdn : de ∉ slots (ixs cs)) (hak : a0.tmps[k]? = some (.pointer (some ad))) (hrun : ∀ w : World, (Instr.fieldAt T (.pointer (some ad)) j).run P w = .ok ve w)
 (hcl : closedB md ops L0 = true) (hchk : chkE md ops (ixs cs) e L0 = true) (hnd : (slots (ixs cs)).Nodup) (hsl : ∀ d ∈ slots (ixs cs), d < a0.tmps.size)
 (hF : ∀ w, Frm w0 cs w → F w) (hok : ∀ (i : Nat) (d : Ch), cs[i]? = some d → ChOk P ops a0 cs d) (hok' : ∀ (i : Nat) (d : Ch), cs[i]? = some d → ChOk P ops (a0.put (some de) ve) cs d) (hB : B ≤ w0.heap.size)
 (hrow : ∀ (i : Nat) (d : Ch), cs[i]? = some d → w0.ownsRow B d.e d.size d.v d.n d.xs)
 (hap : ∀ (i j : Nat) (d d' : Ch), i ≠ j → cs[i]? = some d → cs[j]? = some d' → ∀ g, d.v.ownBlock = some g → d'.v.ownBlock ≠ some g)
 (he : ∀ vs w, vs.length = cs.length → RowsOk w0 cs B (List.replicate cs.length 2) vs w → wpAnyG P md ops Q c F f (lst (ixs cs) (List.replicate cs.length 2) (L0.setIfInBounds e true)) (puts (ixs cs) (List.replicate cs.length 2) vs (a0.put (some de) ve)) w) :
 wpAnyG P md ops Q c F (f + (2 * cs.length + 1)) L0 a0 w0 := by
 have hlen : (ixs cs).length = cs.length := by simp [ixs]
 have hz : ∀ (cs : List (Nat × Nat × Nat × Nat)) (k : Nat) (L : Array Bool), lst cs (List.replicate k 0) L = L := by
  intro cs
  induction cs with
  | nil => intro k L; simp [lst]
  | cons c cs ih =>
    intro k L
    obtain ⟨b, p, d⟩ := c
    cases k with
    | zero => simp [lst]
    | succ k => simp only [List.replicate_succ, lst, if_true]; exact ih k L
 have hzp : ∀ (cs : List (Nat × Nat × Nat × Nat)) (k : Nat) (vs : List (Value × Value)) (a : Act), puts cs (List.replicate k 0) vs a = a := by
  intro cs
  induction cs with
  | nil => intro k vs a; simp [puts]
  | cons c cs ih =>
    intro k vs a
    obtain ⟨b, p, db, dp⟩ := c
    cases k with
    | zero => simp [puts]
    | succ k =>
      cases vs with
      | nil => simp [List.replicate_succ, puts]
      | cons x vs => obtain ⟨u, v⟩ := x; simp only [List.replicate_succ, puts, if_true]; exact ih k vs a
 have hrem : ∀ k, rem (List.replicate k 0) = 2 * k := by
  intro k
  induction k with
  | zero => rfl
  | succ k ih => simp only [List.replicate_succ, rem, ih]; omega
 have h0 : ∀ {k i s : Nat}, (List.replicate k 0)[i]? = some s → s = 0 := fun {k i s} h => by
  obtain ⟨hl, he⟩ := List.getElem?_eq_some_iff.1 h
  simpa using he.symm
 have hJ0 : JR w0 a0 cs B (List.replicate cs.length 0) a0 w0 := by
  refine ⟨List.replicate cs.length (undef, undef), by simp, (hzp _ _ _ _).symm, ⟨⟨rfl, rfl, rfl, Nat.le_refl _, fun _ _ _ => rfl⟩, ?_, ?_, ?_⟩⟩
  · intro i d s u v hd hs hv
    obtain rfl := h0 hs
    exact ⟨hrow i d hd, .inl rfl⟩
  · intro i j d d' s r u v x y hij hd hs hv hd' hr hy
    obtain rfl := h0 hs
    obtain rfl := h0 hr
    exact hap i j d d' hij hd hd'
  · intro i d u v hd hs hv
    have := h0 hs; omega
 have hsz : (a0.put (some de) ve).tmps.size = a0.tmps.size := by simp [Act.put]
 have key := wpAnyG_chainsE (P := P) (Q := Q) (c := c) (F := F) (L0 := L0) (f := f) (e := e) (J := fun st t => JR w0 (if t then a0.put (some de) ve else a0) cs B st) (closedB_spec hcl) hchk (fun st t a w ⟨vs, _, _, h⟩ => hF w h.frm) ?_ ?_ ?_ ?_ (2 * cs.length + 1) (List.replicate cs.length 0) false a0 w0 (by rw [hrem]; rfl) (by simp [hlen]) (fun s hs => by have := List.eq_of_mem_replicate hs; omega) (by rw [hz]; exact closedB_spec hcl) hJ0
 · rw [hz] at key; exact key
 · intro st t
   cases t with
   | false => exact jr_1 hnd hok st
   | true => exact jr_1 hnd hok' st
 · intro st t
   cases t with
   | false => exact jr_2 hnd hsl hok hB st
   | true => exact jr_2 hnd (fun d hd => by rw [hsz]; exact hsl d hd) hok' hB st
 · intro st a w hst ⟨vs, hvl, ha, hR⟩
   simp only [Bool.false_eq_true, if_false] at ha
   refine wpOp_step hoe fun K' hK => ?_
   have hw : Region.wanted oe (yielded ops a.tmps) = true := by simp [Region.wanted, hge]
   rw [if_pos hw]
   have hev : a.eval (.tmp k) = .pointer (some ad) := evalOf (by rw [ha, puts_other _ _ _ _ _ hk]; exact hak)
   unfold Oper.wp execOp
   simp only [hop, Sem.run_bind, Sem.run_pure, Result.andThen_ok, hev, hrun]
   rw [Oper.upon_value]
   refine hK _ _ ⟨vs, hvl, ?_, hR⟩
   rw [hde, ha, if_pos rfl, puts_comm _ _ _ _ _ _ hdn]
 · intro a w ⟨vs, hvl, ha, hR⟩
   rw [hlen] at ha hR ⊢
   rw [ha]
   exact he vs w hvl hR
end
theorem wpAnyG_appends4E {c1 c2 c3 c4 : Ch} {w0 : World} {a0 : Act} {B : Nat} {L0 : Array Bool} {f fuel : Nat} {e de k T j : Nat} {oe : Oper} {ve : Value} {ad : Addr} (hoe : ops[e]? = some oe) (hge : oe.guard = none) (hde : oe.dst = some de) (hop : oe.op = .fieldAddr T (.tmp k) j) (hk : k ∉ slots (ixs [c1, c2, c3, c4])) (hdn : de ∉ slots (ixs [c1, c2, c3, c4])) (hak : a0.tmps[k]? = some (.pointer (some ad))) (hrun : ∀ w : World, (Instr.fieldAt T (.pointer (some ad)) j).run P w = .ok ve w) (hfu : fuel = f + 9) (hcl : closedB md ops L0 = true) (hchk : chkE md ops (ixs [c1, c2, c3, c4]) e L0 = true) (hnd : (slots (ixs [c1, c2, c3, c4])).Nodup) (hsl : ∀ d ∈ slots (ixs [c1, c2, c3, c4]), d < a0.tmps.size)
 (hF : ∀ w, Frm w0 [c1, c2, c3, c4] w → F w) (k1 : ∀ a1, (a1 = a0 ∨ a1 = a0.put (some de) ve) → ChOk P ops a1 [c1, c2, c3, c4] c1) (k2 : ∀ a1, (a1 = a0 ∨ a1 = a0.put (some de) ve) → ChOk P ops a1 [c1, c2, c3, c4] c2) (k3 : ∀ a1, (a1 = a0 ∨ a1 = a0.put (some de) ve) → ChOk P ops a1 [c1, c2, c3, c4] c3) (k4 : ∀ a1, (a1 = a0 ∨ a1 = a0.put (some de) ve) → ChOk P ops a1 [c1, c2, c3, c4] c4) (hB : B ≤ w0.heap.size)
 (r1 : w0.ownsRow B c1.e c1.size c1.v c1.n c1.xs) (r2 : w0.ownsRow B c2.e c2.size c2.v c2.n c2.xs) (r3 : w0.ownsRow B c3.e c3.size c3.v c3.n c3.xs) (r4 : w0.ownsRow B c4.e c4.size c4.v c4.n c4.xs)
 (a12 : ∀ g, c1.v.ownBlock = some g → c2.v.ownBlock ≠ some g) (a13 : ∀ g, c1.v.ownBlock = some g → c3.v.ownBlock ≠ some g) (a14 : ∀ g, c1.v.ownBlock = some g → c4.v.ownBlock ≠ some g) (a23 : ∀ g, c2.v.ownBlock = some g → c3.v.ownBlock ≠ some g) (a24 : ∀ g, c2.v.ownBlock = some g → c4.v.ownBlock ≠ some g) (a34 : ∀ g, c3.v.ownBlock = some g → c4.v.ownBlock ≠ some g)
 (he : ∀ (u1 u2 u3 u4 : Value) (x1 x2 x3 x4 : Option Addr) (m1 m2 m3 m4 : Nat) (W : World), Aft4 w0 c1 c2 c3 c4 B (.slice x1 (c1.n + 1) m1) (.slice x2 (c2.n + 1) m2) (.slice x3 (c3.n + 1) m3) (.slice x4 (c4.n + 1) m4) W → wpAnyG P md ops Q c F f (((((((((L0.setIfInBounds e true).setIfInBounds c1.b true).setIfInBounds c1.p true).setIfInBounds c2.b true).setIfInBounds c2.p true).setIfInBounds c3.b true).setIfInBounds c3.p true).setIfInBounds c4.b true).setIfInBounds c4.p true) (((((((((a0.put (some de) ve).put (some c1.db) u1).put (some c1.dp) (.slice x1 (c1.n + 1) m1)).put (some c2.db) u2).put (some c2.dp) (.slice x2 (c2.n + 1) m2)).put (some c3.db) u3).put (some c3.dp) (.slice x3 (c3.n + 1) m3)).put (some c4.db) u4).put (some c4.dp) (.slice x4 (c4.n + 1) m4)) W) :
 wpAnyG P md ops Q c F fuel L0 a0 w0 := by
 subst hfu
 refine wpAnyG_appendsE (cs := [c1, c2, c3, c4]) hoe hge hde hop hk hdn hak hrun hcl hchk hnd hsl hF (all4 (C := fun d => ChOk P ops a0 [c1, c2, c3, c4] d) (k1 _ (.inl rfl)) (k2 _ (.inl rfl)) (k3 _ (.inl rfl)) (k4 _ (.inl rfl))) (all4 (C := fun d => ChOk P ops (a0.put (some de) ve) [c1, c2, c3, c4] d) (k1 _ (.inr rfl)) (k2 _ (.inr rfl)) (k3 _ (.inr rfl)) (k4 _ (.inr rfl))) hB (all4 (C := fun d => w0.ownsRow B d.e d.size d.v d.n d.xs) r1 r2 r3 r4) ?_ ?_
 · intro i j d d' hij hd hd' g hg hg'
   rcases idx4 hd with ⟨rfl, rfl⟩ | ⟨rfl, rfl⟩ | ⟨rfl, rfl⟩ | ⟨rfl, rfl⟩ <;> rcases idx4 hd' with ⟨rfl, rfl⟩ | ⟨rfl, rfl⟩ | ⟨rfl, rfl⟩ | ⟨rfl, rfl⟩
   · exact hij rfl
   · exact a12 g hg hg'
   · exact a13 g hg hg'
   · exact a14 g hg hg'
   · exact a12 g hg' hg
   · exact hij rfl
   · exact a23 g hg hg'
   · exact a24 g hg hg'
   · exact a13 g hg' hg
   · exact a23 g hg' hg
   · exact hij rfl
   · exact a34 g hg hg'
   · exact a14 g hg' hg
   · exact a24 g hg' hg
   · exact a34 g hg' hg
   · exact hij rfl
 · intro vs W hvl hR
   obtain ⟨⟨u1, t1⟩, ⟨u2, t2⟩, ⟨u3, t3⟩, ⟨u4, t4⟩, rfl⟩ := len4p hvl
   have q1 := hR.row 0 _ 2 u1 t1 rfl rfl rfl
   have q2 := hR.row 1 _ 2 u2 t2 rfl rfl rfl
   have q3 := hR.row 2 _ 2 u3 t3 rfl rfl rfl
   have q4 := hR.row 3 _ 2 u4 t4 rfl rfl rfl
   have z12 := hR.apart 0 1 _ _ 2 2 u1 t1 u2 t2 (by decide) rfl rfl rfl rfl rfl rfl
   have z13 := hR.apart 0 2 _ _ 2 2 u1 t1 u3 t3 (by decide) rfl rfl rfl rfl rfl rfl
   have z14 := hR.apart 0 3 _ _ 2 2 u1 t1 u4 t4 (by decide) rfl rfl rfl rfl rfl rfl
   have z23 := hR.apart 1 2 _ _ 2 2 u2 t2 u3 t3 (by decide) rfl rfl rfl rfl rfl rfl
   have z24 := hR.apart 1 3 _ _ 2 2 u2 t2 u4 t4 (by decide) rfl rfl rfl rfl rfl rfl
   have z34 := hR.apart 2 3 _ _ 2 2 u3 t3 u4 t4 (by decide) rfl rfl rfl rfl rfl rfl
   simp only [cur, curN, curX, if_true] at q1 q2 q3 q4 z12 z13 z14 z23 z24 z34
   obtain ⟨x1, m1, rfl⟩ := row_shape q1.1
   obtain ⟨x2, m2, rfl⟩ := row_shape q2.1
   obtain ⟨x3, m3, rfl⟩ := row_shape q3.1
   obtain ⟨x4, m4, rfl⟩ := row_shape q4.1
   have h := he u1 u2 u3 u4 x1 x2 x3 x4 m1 m2 m3 m4 W ⟨hR.frm, q1.1, q2.1, q3.1, q4.1, q1.2, q2.2, q3.2, q4.2, z12, z13, z14, z23, z24, z34⟩
   clear he
   simp [ixs, lst, puts, List.replicate_succ]
   exact h
end
end Go.Proofs.Ytagbikgfkakbfaa
