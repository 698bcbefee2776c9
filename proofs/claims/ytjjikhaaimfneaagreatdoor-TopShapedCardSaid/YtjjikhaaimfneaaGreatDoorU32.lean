/-
  Lemmas and walks for the statement: StRefL, RegM4, StRef2.
-/
import Derived.Test.YtjjikhaaimfneaaGreatDoorU26
import Derived.Test.YtjjikhaaimfneaaGreatDoorU20
namespace Go.Proofs.YtjjikhaaimfneaaGreatDoor
open Go.RowKit
set_option linter.unusedSimpArgs false
set_option linter.unusedVariables false
def flatU (es : List Edg) : List Value := es.flatMap fun E => E.us.map (Value.int .i64)
def fromsE (es : List Edg) : List Int := es.map fun E => (E.f : Int)
def tosE (es : List Edg) : List Int := es.map fun E => (E.t : Int)
def latesE (es : List Edg) : List P2 := es.map fun E => E.l
structure Apart5 (PB : Nat) (v0 v1 v2 v3 v4 : Value) : Prop where
 a01 : ApV v0 v1
 a02 : ApV v0 v2
 a03 : ApV v0 v3
 a04 : ApV v0 v4
 a12 : ApV v1 v2
 a13 : ApV v1 v3
 a14 : ApV v1 v4
 a23 : ApV v2 v3
 a24 : ApV v2 v4
 a34 : ApV v3 v4
 p0 : v0.ownBlock ≠ some PB
 p1 : v1.ownBlock ≠ some PB
 p2 : v2.ownBlock ≠ some PB
 p3 : v3.ownBlock ≠ some PB
 p4 : v4.ownBlock ≠ some PB
structure Rsp (w : World) (PB B : Nat) (v0 v1 v2 v3 v4 : Value) (ss : List (List Int)) (es : List Edg) : Prop where
 c0 : w.cell? ⟨PB, 0, none⟩ = some v0
 c1 : w.cell? ⟨PB, 1, none⟩ = some v1
 c2 : w.cell? ⟨PB, 2, none⟩ = some v2
 c3 : w.cell? ⟨PB, 3, none⟩ = some v3
 c4 : w.cell? ⟨PB, 4, none⟩ = some v4
 fz : ∀ j, w.frozen? ⟨PB, j, none⟩ = false
 r0 : w.ownsRow B 133 14 v0 ss.length (flatS ss)
 r1 : w.ownsRow B 3 1 v1 es.length ((fromsE es).map (Value.int .i64))
 r2 : w.ownsRow B 3 1 v2 es.length ((tosE es).map (Value.int .i64))
 r3 : w.ownsRow B 47 2 v3 es.length (flat2 (latesE es))
 r4 : w.ownsRow B 92 6 v4 es.length (flatU es)
 ap : Apart5 PB v0 v1 v2 v3 v4
 pB : B ≤ PB
def RFoot (PB : Nat) (v0 v1 v2 v3 v4 : Value) (b : Nat) : Prop := b = PB ∨ v0.ownBlock = some b ∨ v1.ownBlock = some b ∨ v2.ownBlock = some b ∨ v3.ownBlock = some b ∨ v4.ownBlock = some b
section
variable {w w' : World} {PB B : Nat} {v0 v1 v2 v3 v4 : Value} {ss : List (List Int)} {es : List Edg}
theorem Rsp.lt (h : Rsp w PB B v0 v1 v2 v3 v4 ss es) : PB < w.heap.size := World.block_lt_of_cell? w _ h.c0
theorem Rsp.foot (h : Rsp w PB B v0 v1 v2 v3 v4 ss es) {b : Nat} (hb : RFoot PB v0 v1 v2 v3 v4 b) : B ≤ b ∧ b < w.heap.size := by
 rcases hb with rfl | hb | hb | hb | hb | hb
 · exact ⟨h.pB, h.lt⟩
 · exact rows_lt h.r0 b hb
 · exact rows_lt h.r1 b hb
 · exact rows_lt h.r2 b hb
 · exact rows_lt h.r3 b hb
 · exact rows_lt h.r4 b hb
theorem Rsp.kept (h : Rsp w PB B v0 v1 v2 v3 v4 ss es) (hk : ∀ b, RFoot PB v0 v1 v2 v3 v4 b → w'.heap[b]? = w.heap[b]?) : Rsp w' PB B v0 v1 v2 v3 v4 ss es := by
 have hp : w'.heap[PB]? = w.heap[PB]? := hk PB (.inl rfl)
 have hc : ∀ j, w'.cell? ⟨PB, j, none⟩ = w.cell? ⟨PB, j, none⟩ := fun j => World.cell?_of_block (w := w) (a := ⟨PB, j, none⟩) hp
 exact ⟨(hc 0).trans h.c0, (hc 1).trans h.c1, (hc 2).trans h.c2, (hc 3).trans h.c3, (hc 4).trans h.c4, fun j => (World.frozen?_of_block (w := w) (a := ⟨PB, j, none⟩) hp).trans (h.fz j),
  rows_kept h.r0 (fun g hg => hk g (.inr (.inl hg))), rows_kept h.r1 (fun g hg => hk g (.inr (.inr (.inl hg)))), rows_kept h.r2 (fun g hg => hk g (.inr (.inr (.inr (.inl hg))))), rows_kept h.r3 (fun g hg => hk g (.inr (.inr (.inr (.inr (.inl hg)))))), rows_kept h.r4 (fun g hg => hk g (.inr (.inr (.inr (.inr (.inr hg)))))), h.ap, h.pB⟩
theorem Rsp.below (h : Rsp w PB B v0 v1 v2 v3 v4 ss es) (hb : Below w.heap.size w w') : Rsp w' PB B v0 v1 v2 v3 v4 ss es := h.kept fun b hf => hb.block b (h.foot hf).2
end
end Go.Proofs.YtjjikhaaimfneaaGreatDoor
namespace Go.Proofs.YtjjikhaaimfneaaGreatDoor
open Go Go.RowKit
set_option linter.unusedSimpArgs false
set_option linter.unusedVariables false
section
variable {P : Program} {ops : Array Oper} {Q : Exit → Act → World → Prop} {md : Region.Mode} {F : World → Prop} {c : Nat}
structure Aft4 (w0 : World) (c1 c2 c3 c4 : Ch) (B : Nat) (t1 t2 t3 t4 : Value) (W : World) : Prop where
 frm : Frm w0 [c1, c2, c3, c4] W
 q1 : W.ownsRow B c1.e c1.size t1 (c1.n + 1) (c1.xs ++ c1.x)
 q2 : W.ownsRow B c2.e c2.size t2 (c2.n + 1) (c2.xs ++ c2.x)
 q3 : W.ownsRow B c3.e c3.size t3 (c3.n + 1) (c3.xs ++ c3.x)
 q4 : W.ownsRow B c4.e c4.size t4 (c4.n + 1) (c4.xs ++ c4.x)
 o1 : t1.ownBlock = c1.v.ownBlock ∨ ∃ g, t1.ownBlock = some g ∧ w0.heap.size ≤ g
 o2 : t2.ownBlock = c2.v.ownBlock ∨ ∃ g, t2.ownBlock = some g ∧ w0.heap.size ≤ g
 o3 : t3.ownBlock = c3.v.ownBlock ∨ ∃ g, t3.ownBlock = some g ∧ w0.heap.size ≤ g
 o4 : t4.ownBlock = c4.v.ownBlock ∨ ∃ g, t4.ownBlock = some g ∧ w0.heap.size ≤ g
 a12 : ∀ g, t1.ownBlock = some g → t2.ownBlock ≠ some g
 a13 : ∀ g, t1.ownBlock = some g → t3.ownBlock ≠ some g
 a14 : ∀ g, t1.ownBlock = some g → t4.ownBlock ≠ some g
 a23 : ∀ g, t2.ownBlock = some g → t3.ownBlock ≠ some g
 a24 : ∀ g, t2.ownBlock = some g → t4.ownBlock ≠ some g
 a34 : ∀ g, t3.ownBlock = some g → t4.ownBlock ≠ some g
end
end Go.Proofs.YtjjikhaaimfneaaGreatDoor
namespace Go.Proofs.YtjjikhaaimfneaaGreatDoor
open Go.RowKit
set_option linter.unusedSimpArgs false
set_option linter.unusedVariables false
theorem RFoot_lt {w : World} {PB B : Nat} {v0 v1 v2 v3 v4 : Value} {ss : List (List Int)} {es : List Edg} (h : Rsp w PB B v0 v1 v2 v3 v4 ss es) {b : Nat} (hb : w.heap.size ≤ b) : ¬ RFoot PB v0 v1 v2 v3 v4 b := fun hf => by have := (h.foot hf).2; omega
structure RS (w : World) (TR : List (Nat × Obj)) (PB B : Nat) (v0 v1 v2 v3 v4 : Value) (ss : List (List Int)) (es : List Edg) (W : World) : Prop where
 sp : Rsp W PB B v0 v1 v2 v3 v4 ss es
 tr : ∀ p ∈ TR, W.heap[p.1]? = some p.2 ∧ ¬ RFoot PB v0 v1 v2 v3 v4 p.1
 bl : Below w.heap.size w W
 hB : w.heap.size ≤ B
section
variable {w W W' : World} {TR : List (Nat × Obj)} {PB B : Nat} {v0 v1 v2 v3 v4 : Value} {ss : List (List Int)} {es : List Edg}
theorem RS.below (h : RS w TR PB B v0 v1 v2 v3 v4 ss es W) (hb : Below W.heap.size W W') : RS w TR PB B v0 v1 v2 v3 v4 ss es W' :=
 ⟨h.sp.below hb, fun p hp => ⟨(hb.block _ (Array.getElem?_eq_some_iff.1 (h.tr p hp).1).1).trans (h.tr p hp).1, (h.tr p hp).2⟩, h.bl.trans (hb.mono h.bl.size), h.hB⟩
theorem RS.sub {TR' : List (Nat × Obj)} (h : RS w TR PB B v0 v1 v2 v3 v4 ss es W) (hs : ∀ p ∈ TR', p ∈ TR) : RS w TR' PB B v0 v1 v2 v3 v4 ss es W := ⟨h.sp, fun p hp => h.tr p (hs p hp), h.bl, h.hB⟩
theorem RS.new (h : RS w TR PB B v0 v1 v2 v3 v4 ss es W) (hb : Below W.heap.size W W') {b : Nat} {o : Obj} (hle : W.heap.size ≤ b) (ho : W'.heap[b]? = some o) : RS w ((b, o) :: TR) PB B v0 v1 v2 v3 v4 ss es W' :=
 ⟨h.sp.below hb, fun p hp => by
  rcases List.mem_cons.1 hp with rfl | hp
  · exact ⟨ho, RFoot_lt h.sp hle⟩
  · exact (h.below hb).tr p hp, (h.below hb).bl, h.hB⟩
theorem RS.alloc (h : RS w TR PB B v0 v1 v2 v3 v4 ss es W) (o : Obj) : RS w ((W.heap.size, o) :: TR) PB B v0 v1 v2 v3 v4 ss es (W.alloc o) := h.new ((Below.refl _ _).alloc (Nat.le_refl _) o) (Nat.le_refl _) (World.alloc_heap_new W o)
theorem RS.lt (h : RS w TR PB B v0 v1 v2 v3 v4 ss es W) {p : Nat × Obj} (hp : p ∈ TR) : p.1 < W.heap.size := (Array.getElem?_eq_some_iff.1 (h.tr p hp).1).1
theorem below_set {n : Nat} {a b : World} (h : Below n a b) {p : Addr} (v : Value) (hp : n ≤ p.block) : Below n a (b.setCell p v) := by
 have ks : (b.setCell p v).os = b.os ∧ (b.setCell p v).tape = b.tape ∧ (b.setCell p v).output = b.output := by
  refine ⟨?_, ?_, ?_⟩ <;> (unfold World.setCell; split <;> (try split) <;> rfl)
 exact ⟨ks.1.trans h.os, ks.2.1.trans h.tape, ks.2.2.trans h.output, by simpa using h.size, fun k hk => (Below.heap_setCell _ _ _ _ (by omega)).trans (h.block k hk)⟩
end
end Go.Proofs.YtjjikhaaimfneaaGreatDoor
