/-
  Lemmas and walks for the statement: VMax, StRefL, RegM4, StRef2.
-/
import Derived.Test.YtjjikhaaimfneaaGreatDoorE01
import Derived.Test.YtjjikhaaimfneaaGreatDoorE02
import Derived.Test.YtjjikhaaimfneaaGreatDoorProg
import Derived.Test.YtjjikhaaimfneaaGreatDoorE30
import Derived.Test.YtjjikhaaimfneaaGreatDoorE23
namespace Go.Proofs.YtjjikhaaimfneaaGreatDoor
open Go.RowKit
set_option linter.unusedSimpArgs false
set_option linter.unusedVariables false
attribute [local go_sem] iteMin iteMax iteMinN iteMaxN
theorem fold_take {xs : List Int} {k : Nat} {x : Int} (h : xs[k]? = some x) : (xs.take (k + 1)).foldl max 0 = max ((xs.take k).foldl max 0) x := by
 rw [List.take_add_one, h]; simp [List.foldl_append]
set_option maxHeartbeats 2000000 in
theorem smax_any (a : Option Addr) (n c : Nat) (xs : List Int) (w : World) (h : IntsAt w a n c xs) (h0 : 0 < n) (hx : ∀ x ∈ xs, 0 ≤ x) :
 Calls Tryz.prog 39 #[.slice a n c] w fun e w' => e = .returned (.int .i64 (xs.foldl max 0)) ∧ w = w' := by
 have HL := hide h.len
 have hlim := h.lim
 obtain ⟨ad0, x0, rfl, hb0, hc0, HX0⟩ := h.get0 (Below.refl _ _) h0
 have n0 : (0 : Int) < (n : Int) := by omega
 have n1 : ¬ ((n : Int) < 1) := by omega
 have HS := hide (show x0 = (xs.take 1).foldl max 0 by
  rw [fold_take (k := 0) HX0.out]
  have := hx x0 (List.mem_of_getElem? HX0.out)
  simp; omega)
 go_enter Tryz.func39, Tryz.ntmps39
 go_wp2
 clear hc0 HX0
 go_loop [3, 4] (fun m i => ∃ k : Nat, 1 ≤ k ∧ k ≤ n ∧ i = .int .i64 k ∧ m = .int .i64 ((xs.take k).foldl max 0)) (fun _ i => n - (intOf i).toNat)
 case atStart => exact ⟨1, Nat.le_refl _, h0, rfl, by rw [HS.out]⟩
 case round =>
  obtain ⟨k, hk1, hk, rfl, rfl⟩ := hrel
  have k0 : (0 : Int) ≤ (k : Int) := Int.natCast_nonneg _
  by_cases hlt : k < n
  · obtain ⟨ad, x, e, hbd, hc, HX⟩ := h.getB (Below.refl _ _) hlt
    injection e with e
    subst e
    have k1 : (k : Int) < (n : Int) := by omega
    have HE := hide (fold_take HX.out)
    obtain ⟨M, hM⟩ : ∃ M, (xs.take k).foldl max 0 = M := ⟨_, rfl⟩
    rw [hM] at HE ⊢
    clear h hM HX
    go_wp2
    go_round
    case rel => exact ⟨k + 1, by omega, by omega, by go_num, by rw [HE.out]⟩
    case measure => simp [intOf]; omega
  · have HF := hide (show xs.foldl max 0 = (xs.take k).foldl max 0 by rw [List.take_of_length_le (by rw [HL.out]; omega)])
    obtain ⟨M, hM⟩ : ∃ M, (xs.take k).foldl max 0 = M := ⟨_, rfl⟩
    rw [hM] at HF ⊢
    clear h hM
    go_wp2
    go_ret
    exact ⟨by rw [HF.out]; rfl, rfl⟩
end Go.Proofs.YtjjikhaaimfneaaGreatDoor
namespace Go.Proofs.YtjjikhaaimfneaaGreatDoor
open Go.RowKit
set_option linter.unusedSimpArgs false
set_option linter.unusedVariables false
def flatU (es : List Edg) : List Value := es.flatMap fun E => E.us.map (Value.int .i64)
theorem flatU_snoc (es : List Edg) (E : Edg) : flatU (es ++ [E]) = flatU es ++ E.us.map (Value.int .i64) := by simp [flatU]
def fromsE (es : List Edg) : List Int := es.map fun E => (E.f : Int)
def tosE (es : List Edg) : List Int := es.map fun E => (E.t : Int)
def latesE (es : List Edg) : List P2 := es.map fun E => E.l
structure Apart5 (PB : Nat) (v0 v1 v2 v3 v4 : Value) : Prop where
 a01 : ApV v0 v1
 a02 : ApV v0 v2
 a03 : ApV v0 v3
 a04 : ApV v0 v4
 a12 : ApV v1 v2
 a13 : ApV v1 v3
 a14 : ApV v1 v4
 a23 : ApV v2 v3
 a24 : ApV v2 v4
 a34 : ApV v3 v4
 p0 : v0.ownBlock ≠ some PB
 p1 : v1.ownBlock ≠ some PB
 p2 : v2.ownBlock ≠ some PB
 p3 : v3.ownBlock ≠ some PB
 p4 : v4.ownBlock ≠ some PB
structure Rsp (w : World) (PB B : Nat) (v0 v1 v2 v3 v4 : Value) (ss : List (List Int)) (es : List Edg) : Prop where
 c0 : w.cell? ⟨PB, 0, none⟩ = some v0
 c1 : w.cell? ⟨PB, 1, none⟩ = some v1
 c2 : w.cell? ⟨PB, 2, none⟩ = some v2
 c3 : w.cell? ⟨PB, 3, none⟩ = some v3
 c4 : w.cell? ⟨PB, 4, none⟩ = some v4
 fz : ∀ j, w.frozen? ⟨PB, j, none⟩ = false
 r0 : w.ownsRow B 133 14 v0 ss.length (flatS ss)
 r1 : w.ownsRow B 3 1 v1 es.length ((fromsE es).map (Value.int .i64))
 r2 : w.ownsRow B 3 1 v2 es.length ((tosE es).map (Value.int .i64))
 r3 : w.ownsRow B 47 2 v3 es.length (flat2 (latesE es))
 r4 : w.ownsRow B 92 6 v4 es.length (flatU es)
 ap : Apart5 PB v0 v1 v2 v3 v4
 pB : B ≤ PB
def RFoot (PB : Nat) (v0 v1 v2 v3 v4 : Value) (b : Nat) : Prop := b = PB ∨ v0.ownBlock = some b ∨ v1.ownBlock = some b ∨ v2.ownBlock = some b ∨ v3.ownBlock = some b ∨ v4.ownBlock = some b
section
variable {w w' : World} {PB B : Nat} {v0 v1 v2 v3 v4 : Value} {ss : List (List Int)} {es : List Edg}
theorem Rsp.lt (h : Rsp w PB B v0 v1 v2 v3 v4 ss es) : PB < w.heap.size := World.block_lt_of_cell? w _ h.c0
theorem Rsp.foot (h : Rsp w PB B v0 v1 v2 v3 v4 ss es) {b : Nat} (hb : RFoot PB v0 v1 v2 v3 v4 b) : B ≤ b ∧ b < w.heap.size := by
 rcases hb with rfl | hb | hb | hb | hb | hb
 · exact ⟨h.pB, h.lt⟩
 · exact rows_lt h.r0 b hb
 · exact rows_lt h.r1 b hb
 · exact rows_lt h.r2 b hb
 · exact rows_lt h.r3 b hb
 · exact rows_lt h.r4 b hb
theorem Rsp.kept (h : Rsp w PB B v0 v1 v2 v3 v4 ss es) (hk : ∀ b, RFoot PB v0 v1 v2 v3 v4 b → w'.heap[b]? = w.heap[b]?) : Rsp w' PB B v0 v1 v2 v3 v4 ss es := by
 have hp : w'.heap[PB]? = w.heap[PB]? := hk PB (.inl rfl)
 have hc : ∀ j, w'.cell? ⟨PB, j, none⟩ = w.cell? ⟨PB, j, none⟩ := fun j => World.cell?_of_block (w := w) (a := ⟨PB, j, none⟩) hp
 exact ⟨(hc 0).trans h.c0, (hc 1).trans h.c1, (hc 2).trans h.c2, (hc 3).trans h.c3, (hc 4).trans h.c4, fun j => (World.frozen?_of_block (w := w) (a := ⟨PB, j, none⟩) hp).trans (h.fz j),
  rows_kept h.r0 (fun g hg => hk g (.inr (.inl hg))), rows_kept h.r1 (fun g hg => hk g (.inr (.inr (.inl hg)))), rows_kept h.r2 (fun g hg => hk g (.inr (.inr (.inr (.inl hg))))), rows_kept h.r3 (fun g hg => hk g (.inr (.inr (.inr (.inr (.inl hg)))))), rows_kept h.r4 (fun g hg => hk g (.inr (.inr (.inr (.inr (.inr hg)))))), h.ap, h.pB⟩
theorem Rsp.below (h : Rsp w PB B v0 v1 v2 v3 v4 ss es) (hb : Below w.heap.size w w') : Rsp w' PB B v0 v1 v2 v3 v4 ss es := h.kept fun b hf => hb.block b (h.foot hf).2
theorem Rsp.addState {W : World} {s : List Int} {v0' : Value} {n : Nat} (h : Rsp w PB B v0 v1 v2 v3 v4 ss es) (hn : ss.length = n) (hb : Below w.heap.size w W) {w2 : World} (hrow : w2.ownsRow B 133 14 v0' (n + 1) (flatS ss ++ s.map (Value.int .i64))) (hg : W.grownBy w2 v0.ownBlock) (hat : v0'.ownBlock = v0.ownBlock ∨ v0'.ownBlock = some W.heap.size) :
 Rsp (w2.setCell ⟨PB, 0, none⟩ v0') PB B v0' v1 v2 v3 v4 (ss ++ [s]) es := by
 have hW := h.below hb
 have hPW := hW.lt
 have kb : ∀ b, b < W.heap.size → v0.ownBlock ≠ some b → w2.heap[b]? = W.heap[b]? := fun b hl hn => hg.block b hl (fun e => hn e.symm)
 have hp : w2.heap[PB]? = W.heap[PB]? := kb PB hPW hW.ap.p0
 have hc : ∀ j, w2.cell? ⟨PB, j, none⟩ = W.cell? ⟨PB, j, none⟩ := fun j => World.cell?_of_block (w := W) (a := ⟨PB, j, none⟩) hp
 have hs : ∀ b, b ≠ PB → (w2.setCell ⟨PB, 0, none⟩ v0').heap[b]? = w2.heap[b]? := fun b hb => Below.heap_setCell _ _ _ _ hb
 have oc : ∀ j v, W.cell? ⟨PB, j + 1, none⟩ = some v → (w2.setCell ⟨PB, 0, none⟩ v0').cell? ⟨PB, j + 1, none⟩ = some v := fun j v hv => by
  rw [World.cell?_setCell_other _ _ _ _ (fun e => by injection e with _ e; omega), hc]; exact hv
 have kr : ∀ {v : Value} {e : TypeId} {sz m : Nat} {xs : List Value}, W.ownsRow B e sz v m xs → ApV v0 v → v.ownBlock ≠ some PB → (w2.setCell ⟨PB, 0, none⟩ v0').ownsRow B e sz v m xs := fun {v e sz m xs} hr ha hpv => rows_kept hr (fun g hg' => by
  rw [hs g (fun e => hpv (e ▸ hg')), kb g (rows_lt hr g hg').2 (fun e => ha g e hg')])
 have ne : ∀ {v : Value} {e : TypeId} {sz m : Nat} {xs : List Value}, W.ownsRow B e sz v m xs → ApV v0 v → ApV v0' v := fun {v e sz m xs} hr ha g hg' e' => by
  rcases hat with h1 | h1
  · exact ha g (h1.symm.trans hg') e'
  · rw [h1] at hg'; injection hg' with hg'
    have := (rows_lt hr g e').2; omega
 have np : v0'.ownBlock ≠ some PB := fun e => by
  rcases hat with h1 | h1
  · exact hW.ap.p0 (h1.symm.trans e)
  · rw [h1] at e; injection e with e; omega
 refine ⟨World.cell?_setCell_same' _ _ _ (by rw [hc, hW.c0]; rfl), oc 0 _ hW.c1, oc 1 _ hW.c2, oc 2 _ hW.c3, oc 3 _ hW.c4, fun j => by rw [World.frozen?_setCell, World.frozen?_of_block (w := W) (a := ⟨PB, j, none⟩) hp]; exact hW.fz j, ?_, kr hW.r1 hW.ap.a01 hW.ap.p1, kr hW.r2 hW.ap.a02 hW.ap.p2, kr hW.r3 hW.ap.a03 hW.ap.p3, kr hW.r4 hW.ap.a04 hW.ap.p4, ⟨ne hW.r1 hW.ap.a01, ne hW.r2 hW.ap.a02, ne hW.r3 hW.ap.a03, ne hW.r4 hW.ap.a04, hW.ap.a12, hW.ap.a13, hW.ap.a14, hW.ap.a23, hW.ap.a24, hW.ap.a34, np, hW.ap.p1, hW.ap.p2, hW.ap.p3, hW.ap.p4⟩, h.pB⟩
 rw [flatS_snoc, List.length_append, hn]
 exact rows_kept hrow (fun g hg' => hs g (fun e => np (e ▸ hg')))
end
end Go.Proofs.YtjjikhaaimfneaaGreatDoor
namespace Go.Proofs.YtjjikhaaimfneaaGreatDoor
open Go Go.RowKit
set_option linter.unusedSimpArgs false
set_option linter.unusedVariables false
section
variable {P : Program} {ops : Array Oper} {Q : Exit → Act → World → Prop} {md : Region.Mode} {F : World → Prop} {c : Nat}
structure Aft4 (w0 : World) (c1 c2 c3 c4 : Ch) (B : Nat) (t1 t2 t3 t4 : Value) (W : World) : Prop where
 frm : Frm w0 [c1, c2, c3, c4] W
 q1 : W.ownsRow B c1.e c1.size t1 (c1.n + 1) (c1.xs ++ c1.x)
 q2 : W.ownsRow B c2.e c2.size t2 (c2.n + 1) (c2.xs ++ c2.x)
 q3 : W.ownsRow B c3.e c3.size t3 (c3.n + 1) (c3.xs ++ c3.x)
 q4 : W.ownsRow B c4.e c4.size t4 (c4.n + 1) (c4.xs ++ c4.x)
 o1 : t1.ownBlock = c1.v.ownBlock ∨ ∃ g, t1.ownBlock = some g ∧ w0.heap.size ≤ g
 o2 : t2.ownBlock = c2.v.ownBlock ∨ ∃ g, t2.ownBlock = some g ∧ w0.heap.size ≤ g
 o3 : t3.ownBlock = c3.v.ownBlock ∨ ∃ g, t3.ownBlock = some g ∧ w0.heap.size ≤ g
 o4 : t4.ownBlock = c4.v.ownBlock ∨ ∃ g, t4.ownBlock = some g ∧ w0.heap.size ≤ g
 a12 : ∀ g, t1.ownBlock = some g → t2.ownBlock ≠ some g
 a13 : ∀ g, t1.ownBlock = some g → t3.ownBlock ≠ some g
 a14 : ∀ g, t1.ownBlock = some g → t4.ownBlock ≠ some g
 a23 : ∀ g, t2.ownBlock = some g → t3.ownBlock ≠ some g
 a24 : ∀ g, t2.ownBlock = some g → t4.ownBlock ≠ some g
 a34 : ∀ g, t3.ownBlock = some g → t4.ownBlock ≠ some g
theorem idx4 {a b c d e : Ch} {i : Nat} (h : [a, b, c, d][i]? = some e) : (i = 0 ∧ a = e) ∨ (i = 1 ∧ b = e) ∨ (i = 2 ∧ c = e) ∨ (i = 3 ∧ d = e) := by
 match i, h with
 | 0, h => exact .inl ⟨rfl, by simpa using h⟩
 | 1, h => exact .inr (.inl ⟨rfl, by simpa using h⟩)
 | 2, h => exact .inr (.inr (.inl ⟨rfl, by simpa using h⟩))
 | 3, h => exact .inr (.inr (.inr ⟨rfl, by simpa using h⟩))
 | i + 4, h => simp at h
theorem all4 {C : Ch → Prop} {a b c d : Ch} (h0 : C a) (h1 : C b) (h2 : C c) (h3 : C d) : ∀ (i : Nat) (e : Ch), [a, b, c, d][i]? = some e → C e := by
 intro i e h
 rcases idx4 h with ⟨_, rfl⟩ | ⟨_, rfl⟩ | ⟨_, rfl⟩ | ⟨_, rfl⟩
 · exact h0
 · exact h1
 · exact h2
 · exact h3
theorem len4p {α : Type} {l : List α} (h : l.length = 4) : ∃ a b c d, l = [a, b, c, d] := by
 match l, h with
 | [a, b, c, d], _ => exact ⟨a, b, c, d, rfl⟩
end
end Go.Proofs.YtjjikhaaimfneaaGreatDoor
namespace Go.Proofs.YtjjikhaaimfneaaGreatDoor
open Go.RowKit
set_option linter.unusedSimpArgs false
set_option linter.unusedVariables false
theorem RFoot_lt {w : World} {PB B : Nat} {v0 v1 v2 v3 v4 : Value} {ss : List (List Int)} {es : List Edg} (h : Rsp w PB B v0 v1 v2 v3 v4 ss es) {b : Nat} (hb : w.heap.size ≤ b) : ¬ RFoot PB v0 v1 v2 v3 v4 b := fun hf => by have := (h.foot hf).2; omega
structure RS (w : World) (TR : List (Nat × Obj)) (PB B : Nat) (v0 v1 v2 v3 v4 : Value) (ss : List (List Int)) (es : List Edg) (W : World) : Prop where
 sp : Rsp W PB B v0 v1 v2 v3 v4 ss es
 tr : ∀ p ∈ TR, W.heap[p.1]? = some p.2 ∧ ¬ RFoot PB v0 v1 v2 v3 v4 p.1
 bl : Below w.heap.size w W
 hB : w.heap.size ≤ B
section
variable {w W W' : World} {TR : List (Nat × Obj)} {PB B : Nat} {v0 v1 v2 v3 v4 : Value} {ss : List (List Int)} {es : List Edg}
theorem RS.below (h : RS w TR PB B v0 v1 v2 v3 v4 ss es W) (hb : Below W.heap.size W W') : RS w TR PB B v0 v1 v2 v3 v4 ss es W' :=
 ⟨h.sp.below hb, fun p hp => ⟨(hb.block _ (Array.getElem?_eq_some_iff.1 (h.tr p hp).1).1).trans (h.tr p hp).1, (h.tr p hp).2⟩, h.bl.trans (hb.mono h.bl.size), h.hB⟩
theorem RS.sub {TR' : List (Nat × Obj)} (h : RS w TR PB B v0 v1 v2 v3 v4 ss es W) (hs : ∀ p ∈ TR', p ∈ TR) : RS w TR' PB B v0 v1 v2 v3 v4 ss es W := ⟨h.sp, fun p hp => h.tr p (hs p hp), h.bl, h.hB⟩
theorem RS.new (h : RS w TR PB B v0 v1 v2 v3 v4 ss es W) (hb : Below W.heap.size W W') {b : Nat} {o : Obj} (hle : W.heap.size ≤ b) (ho : W'.heap[b]? = some o) : RS w ((b, o) :: TR) PB B v0 v1 v2 v3 v4 ss es W' :=
 ⟨h.sp.below hb, fun p hp => by
  rcases List.mem_cons.1 hp with rfl | hp
  · exact ⟨ho, RFoot_lt h.sp hle⟩
  · exact (h.below hb).tr p hp, (h.below hb).bl, h.hB⟩
theorem RS.alloc (h : RS w TR PB B v0 v1 v2 v3 v4 ss es W) (o : Obj) : RS w ((W.heap.size, o) :: TR) PB B v0 v1 v2 v3 v4 ss es (W.alloc o) := h.new ((Below.refl _ _).alloc (Nat.le_refl _) o) (Nat.le_refl _) (World.alloc_heap_new W o)
theorem RS.lt (h : RS w TR PB B v0 v1 v2 v3 v4 ss es W) {p : Nat × Obj} (hp : p ∈ TR) : p.1 < W.heap.size := (Array.getElem?_eq_some_iff.1 (h.tr p hp).1).1
theorem below_set {n : Nat} {a b : World} (h : Below n a b) {p : Addr} (v : Value) (hp : n ≤ p.block) : Below n a (b.setCell p v) := by
 have ks : (b.setCell p v).os = b.os ∧ (b.setCell p v).tape = b.tape ∧ (b.setCell p v).output = b.output := by
  refine ⟨?_, ?_, ?_⟩ <;> (unfold World.setCell; split <;> (try split) <;> rfl)
 exact ⟨ks.1.trans h.os, ks.2.1.trans h.tape, ks.2.2.trans h.output, by simpa using h.size, fun k hk => (Below.heap_setCell _ _ _ _ (by omega)).trans (h.block k hk)⟩
theorem RS.addState {W1 W2 : World} {s : List Int} {v0' : Value} {n : Nat} (h : RS w TR PB B v0 v1 v2 v3 v4 ss es W) (hn : ss.length = n) (hb : Below W.heap.size W W1) (hrow : W2.ownsRow B 133 14 v0' (n + 1) (flatS ss ++ s.map (Value.int .i64))) (hg : W1.grownBy W2 v0.ownBlock) (hat : v0'.ownBlock = v0.ownBlock ∨ v0'.ownBlock = some W1.heap.size) :
 RS w TR PB B v0' v1 v2 v3 v4 (ss ++ [s]) es (W2.setCell ⟨PB, 0, none⟩ v0') := by
 have hPB := h.sp.pB
 have hwB := h.hB
 have hz := hb.size
 refine ⟨h.sp.addState hn hb hrow hg hat, fun p hp => ?_, ?_, h.hB⟩
 · obtain ⟨h1, h2⟩ := h.tr p hp
   have hl := h.lt hp
   have n1 : p.1 ≠ PB := fun e => h2 (.inl e)
   have n2 : v0.ownBlock ≠ some p.1 := fun e => h2 (.inr (.inl e))
   refine ⟨?_, fun hf => ?_⟩
   · rw [Below.heap_setCell _ _ _ _ n1, hg.block p.1 (by omega) (fun e => n2 e.symm), hb.block p.1 hl]; exact h1
   · rcases hf with hf | hf | hf
     · exact n1 hf
     · rcases hat with e | e
       · exact n2 (e.symm.trans hf)
       · rw [e] at hf; injection hf with hf; omega
     · exact h2 (.inr (.inr hf))
 · refine below_set ?_ v0' (by show _ ≤ PB; omega)
   have h3 : Below w.heap.size w W1 := h.bl.trans (hb.mono h.bl.size)
   exact ⟨hg.os.trans h3.os, hg.tape.trans h3.tape, hg.output.trans h3.output, Nat.le_trans h3.size hg.size, fun k hk => (hg.block k (by have := h3.size; omega) (fun e => by
    have := rows_lt h.sp.r0 k e.symm; omega)).trans (h3.block k hk)⟩
theorem ch4_far {c1 c2 c3 c4 : Ch} (h1 : c1.v = v1) (h2 : c2.v = v2) (h3 : c3.v = v3) (h4 : c4.v = v4) {b : Nat} (hb : ¬ RFoot PB v0 v1 v2 v3 v4 b ∨ v0.ownBlock = some b ∨ b = PB) (h : Rsp W PB B v0 v1 v2 v3 v4 ss es) : ∀ (i : Nat) (c : Ch), [c1, c2, c3, c4][i]? = some c → c.v.ownBlock ≠ some b := by
 intro i c hc e
 rcases idx4 hc with ⟨_, rfl⟩ | ⟨_, rfl⟩ | ⟨_, rfl⟩ | ⟨_, rfl⟩
 · rw [h1] at e
   rcases hb with hb | hb | hb
   · exact hb (.inr (.inr (.inl e)))
   · exact h.ap.a01 b hb e
   · exact h.ap.p1 (hb ▸ e)
 · rw [h2] at e
   rcases hb with hb | hb | hb
   · exact hb (.inr (.inr (.inr (.inl e))))
   · exact h.ap.a02 b hb e
   · exact h.ap.p2 (hb ▸ e)
 · rw [h3] at e
   rcases hb with hb | hb | hb
   · exact hb (.inr (.inr (.inr (.inr (.inl e)))))
   · exact h.ap.a03 b hb e
   · exact h.ap.p3 (hb ▸ e)
 · rw [h4] at e
   rcases hb with hb | hb | hb
   · exact hb (.inr (.inr (.inr (.inr (.inr e)))))
   · exact h.ap.a04 b hb e
   · exact h.ap.p4 (hb ▸ e)
theorem RS.addEdge {V : World} {k t n : Nat} {l : P2} {us : List Int} {t1 t2 t3 t4 : Value} {b1 p1 d1 e1 b2 p2 d2 e2 b3 p3 d3 e3 b4 p4 d4 e4 : Nat} {T1 T3 T4 : TypeId} (h : RS w TR PB B v0 v1 v2 v3 v4 ss es V) (hn : es.length = n)
 (hA : Aft4 V ⟨b1, p1, d1, e1, T1, 3, 1, v1, n, (fromsE es).map (Value.int .i64), [.int .i64 k]⟩ ⟨b2, p2, d2, e2, T1, 3, 1, v2, n, (tosE es).map (Value.int .i64), [.int .i64 t]⟩ ⟨b3, p3, d3, e3, T3, 47, 2, v3, n, flat2 (latesE es), [.int .i64 l.x, .int .i64 l.y]⟩ ⟨b4, p4, d4, e4, T4, 92, 6, v4, n, flatU es, us.map (Value.int .i64)⟩ B t1 t2 t3 t4 W) :
 RS w TR PB B v0 t1 t2 t3 t4 ss (es ++ [⟨k, t, l, us⟩]) ((((W.setCell ⟨PB, 1, none⟩ t1).setCell ⟨PB, 2, none⟩ t2).setCell ⟨PB, 3, none⟩ t3).setCell ⟨PB, 4, none⟩ t4) := by
 have hPB := h.sp.pB
 have hwB := h.hB
 have hPV := h.sp.lt
 have far : ∀ {b : Nat}, (¬ RFoot PB v0 v1 v2 v3 v4 b ∨ v0.ownBlock = some b ∨ b = PB) → b < V.heap.size → W.heap[b]? = V.heap[b]? := fun {b} hb hl => hA.frm.block b hl (ch4_far rfl rfl rfl rfl hb h.sp)
 have hp : W.heap[PB]? = V.heap[PB]? := far (.inr (.inr rfl)) hPV
 have hc : ∀ j, W.cell? ⟨PB, j, none⟩ = V.cell? ⟨PB, j, none⟩ := fun j => World.cell?_of_block (w := V) (a := ⟨PB, j, none⟩) hp
 have hs : ∀ b, b ≠ PB → ((((W.setCell ⟨PB, 1, none⟩ t1).setCell ⟨PB, 2, none⟩ t2).setCell ⟨PB, 3, none⟩ t3).setCell ⟨PB, 4, none⟩ t4).heap[b]? = W.heap[b]? := fun b hb => by
  rw [Below.heap_setCell _ _ _ _ hb, Below.heap_setCell _ _ _ _ hb, Below.heap_setCell _ _ _ _ hb, Below.heap_setCell _ _ _ _ hb]
 have nz : ∀ {t v : Value}, (t.ownBlock = v.ownBlock ∨ ∃ g, t.ownBlock = some g ∧ V.heap.size ≤ g) → ∀ {b : Nat}, b < V.heap.size → v.ownBlock ≠ some b → t.ownBlock ≠ some b := by
  intro t v ho b hb hv e
  rcases ho with e1 | ⟨g, e1, hg⟩
  · exact hv (e1.symm.trans e)
  · rw [e1] at e; injection e with e; omega
 have ne : ∀ {t v : Value}, (t.ownBlock = v.ownBlock ∨ ∃ g, t.ownBlock = some g ∧ V.heap.size ≤ g) → ApV v0 v → ApV v0 t := by
  intro t v ho ha g hg e
  exact nz ho (rows_lt h.sp.r0 g hg).2 (ha g hg) e
 have ca : ∀ (i : Nat) (x : Value), i ≠ 1 → i ≠ 2 → i ≠ 3 → i ≠ 4 → V.cell? ⟨PB, i, none⟩ = some x → ((((W.setCell ⟨PB, 1, none⟩ t1).setCell ⟨PB, 2, none⟩ t2).setCell ⟨PB, 3, none⟩ t3).setCell ⟨PB, 4, none⟩ t4).cell? ⟨PB, i, none⟩ = some x := fun i x h1 h2 h3 h4 hv => by
  rw [World.cell?_setCell_other _ _ _ _ (fun e => by injection e with _ e; omega), World.cell?_setCell_other _ _ _ _ (fun e => by injection e with _ e; omega), World.cell?_setCell_other _ _ _ _ (fun e => by injection e with _ e; omega), World.cell?_setCell_other _ _ _ _ (fun e => by injection e with _ e; omega), hc]; exact hv
 refine ⟨⟨ca 0 _ (by omega) (by omega) (by omega) (by omega) h.sp.c0, ?_, ?_, ?_, ?_, fun j => ?_, ?_, ?_, ?_, ?_, ?_, ⟨ne hA.o1 h.sp.ap.a01, ne hA.o2 h.sp.ap.a02, ne hA.o3 h.sp.ap.a03, ne hA.o4 h.sp.ap.a04, hA.a12, hA.a13, hA.a14, hA.a23, hA.a24, hA.a34, h.sp.ap.p0, nz hA.o1 hPV h.sp.ap.p1, nz hA.o2 hPV h.sp.ap.p2, nz hA.o3 hPV h.sp.ap.p3, nz hA.o4 hPV h.sp.ap.p4⟩, hPB⟩, fun p hp => ?_, ?_, hwB⟩
 · rw [World.cell?_setCell_other _ _ _ _ (fun e => by injection e with _ e; omega), World.cell?_setCell_other _ _ _ _ (fun e => by injection e with _ e; omega), World.cell?_setCell_other _ _ _ _ (fun e => by injection e with _ e; omega)]
   exact World.cell?_setCell_same' _ _ _ (by rw [hc, h.sp.c1]; rfl)
 · rw [World.cell?_setCell_other _ _ _ _ (fun e => by injection e with _ e; omega), World.cell?_setCell_other _ _ _ _ (fun e => by injection e with _ e; omega)]
   exact World.cell?_setCell_same' _ _ _ (by rw [World.cell?_setCell_other _ _ _ _ (fun e => by injection e with _ e; omega), hc, h.sp.c2]; rfl)
 · rw [World.cell?_setCell_other _ _ _ _ (fun e => by injection e with _ e; omega)]
   exact World.cell?_setCell_same' _ _ _ (by rw [World.cell?_setCell_other _ _ _ _ (fun e => by injection e with _ e; omega), World.cell?_setCell_other _ _ _ _ (fun e => by injection e with _ e; omega), hc, h.sp.c3]; rfl)
 · exact World.cell?_setCell_same' _ _ _ (by rw [World.cell?_setCell_other _ _ _ _ (fun e => by injection e with _ e; omega), World.cell?_setCell_other _ _ _ _ (fun e => by injection e with _ e; omega), World.cell?_setCell_other _ _ _ _ (fun e => by injection e with _ e; omega), hc, h.sp.c4]; rfl)
 · rw [World.frozen?_setCell, World.frozen?_setCell, World.frozen?_setCell, World.frozen?_setCell, World.frozen?_of_block (w := V) (a := ⟨PB, j, none⟩) hp]; exact h.sp.fz j
 · exact rows_kept h.sp.r0 (fun g hg => by rw [hs g (fun e => h.sp.ap.p0 (e ▸ hg)), far (.inr (.inl hg)) (rows_lt h.sp.r0 g hg).2])
 · have := rows_kept hA.q1 (w' := ((((W.setCell ⟨PB, 1, none⟩ t1).setCell ⟨PB, 2, none⟩ t2).setCell ⟨PB, 3, none⟩ t3).setCell ⟨PB, 4, none⟩ t4)) (fun g hg => hs g (fun e => nz hA.o1 hPV h.sp.ap.p1 (e ▸ hg)))
   rw [List.length_append, hn]; simpa [fromsE] using this
 · have := rows_kept hA.q2 (w' := ((((W.setCell ⟨PB, 1, none⟩ t1).setCell ⟨PB, 2, none⟩ t2).setCell ⟨PB, 3, none⟩ t3).setCell ⟨PB, 4, none⟩ t4)) (fun g hg => hs g (fun e => nz hA.o2 hPV h.sp.ap.p2 (e ▸ hg)))
   rw [List.length_append, hn]; simpa [tosE] using this
 · have := rows_kept hA.q3 (w' := ((((W.setCell ⟨PB, 1, none⟩ t1).setCell ⟨PB, 2, none⟩ t2).setCell ⟨PB, 3, none⟩ t3).setCell ⟨PB, 4, none⟩ t4)) (fun g hg => hs g (fun e => nz hA.o3 hPV h.sp.ap.p3 (e ▸ hg)))
   rw [List.length_append, hn]
   have e2 : flat2 (latesE (es ++ [⟨k, t, l, us⟩])) = flat2 (latesE es) ++ [.int .i64 l.x, .int .i64 l.y] := by
    have : latesE (es ++ [⟨k, t, l, us⟩]) = latesE es ++ [⟨l.x, l.y⟩] := by simp [latesE]
    rw [this, flat2_snoc]
   rw [e2]; exact this
 · have := rows_kept hA.q4 (w' := ((((W.setCell ⟨PB, 1, none⟩ t1).setCell ⟨PB, 2, none⟩ t2).setCell ⟨PB, 3, none⟩ t3).setCell ⟨PB, 4, none⟩ t4)) (fun g hg => hs g (fun e => nz hA.o4 hPV h.sp.ap.p4 (e ▸ hg)))
   rw [List.length_append, hn, flatU_snoc]; exact this
 · obtain ⟨h1, h2⟩ := h.tr p hp
   have hl := h.lt hp
   have n1 : p.1 ≠ PB := fun e => h2 (.inl e)
   refine ⟨?_, fun hf => ?_⟩
   · rw [hs _ n1, far (.inl h2) hl]; exact h1
   · rcases hf with hf | hf | hf | hf | hf | hf
     · exact n1 hf
     · exact h2 (.inr (.inl hf))
     · exact nz hA.o1 hl (fun e => h2 (.inr (.inr (.inl e)))) hf
     · exact nz hA.o2 hl (fun e => h2 (.inr (.inr (.inr (.inl e))))) hf
     · exact nz hA.o3 hl (fun e => h2 (.inr (.inr (.inr (.inr (.inl e)))))) hf
     · exact nz hA.o4 hl (fun e => h2 (.inr (.inr (.inr (.inr (.inr e)))))) hf
 · have h3 : Below w.heap.size w W := by
    refine ⟨hA.frm.os.trans h.bl.os, hA.frm.tape.trans h.bl.tape, hA.frm.output.trans h.bl.output, Nat.le_trans h.bl.size hA.frm.size, fun b hb => ?_⟩
    have hsz := h.bl.size
    rw [far (.inl fun hf => by have := (h.sp.foot hf).1; omega) (by omega)]; exact h.bl.block b hb
   exact below_set (below_set (below_set (below_set h3 _ (by show _ ≤ PB; omega)) _ (by show _ ≤ PB; omega)) _ (by show _ ≤ PB; omega)) _ (by show _ ≤ PB; omega)
end
end Go.Proofs.YtjjikhaaimfneaaGreatDoor
