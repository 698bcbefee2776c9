/-
  Lemmas and walks for the statement: VSo, SGr.
-/
import Derived.Test.YtjjikhaaimfneaaGreatDoorU28
import Derived.Test.YtjjikhaaimfneaaGreatDoorU35
import Derived.Test.YtjjikhaaimfneaaGreatDoorU26
import Derived.Test.YtjjikhaaimfneaaGreatDoorU27
import Derived.Test.YtjjikhaaimfneaaGreatDoorU33
namespace Go.Proofs.YtjjikhaaimfneaaGreatDoor
open Go.RowKit
set_option linter.unusedSimpArgs false
set_option linter.unusedVariables false
attribute [local go_sem] iteMin iteMax iteMinN iteMaxN
def SofOk (X : Sx) (w : World) (e : Ending) (w' : World) : Prop := ∃ v0 v1 v2 v3 v4 B, e = .returned (.tuple #[.agg #[v0, v1, v2, v3, v4], .int .i64 0]) ∧ Below w.heap.size w w' ∧
 w'.ownsRow B 133 14 v0 X.states.length (flatS X.states) ∧ w'.ownsRow B 3 1 v1 X.edges.length ((fromsE X.edges).map (Value.int .i64)) ∧ w'.ownsRow B 3 1 v2 X.edges.length ((tosE X.edges).map (Value.int .i64)) ∧ w'.ownsRow B 47 2 v3 X.edges.length (flat2 (latesE X.edges)) ∧ w'.ownsRow B 92 6 v4 X.edges.length (flatU X.edges)
end Go.Proofs.YtjjikhaaimfneaaGreatDoor
namespace Go.Proofs.YtjjikhaaimfneaaGreatDoor
open Go.RowKit
set_option linter.unusedSimpArgs false
set_option linter.unusedVariables false
attribute [local go_sem] iteMin iteMax iteMinN iteMaxN
def SgEnds (n m : Nat) (who ratio : Int) (es : List Edg) (w : World) (e : Ending) (w' : World) : Prop := ∃ v B', e = .returned (.agg #[.int .i64 n, v]) ∧ w'.ownsRow B' 86 3 v m (flatE who ratio es) ∧ Below w.heap.size w w'
structure SGi (w : World) (S n : Nat) (who ratio : Int) (V5 : List Value) (es : List Edg) (k : Nat) (v : Value) (wr : World) : Prop where
 bx : Blk wr S V5
 gb : Blk wr (S + 1 + 1) [.int .i64 n, v]
 rb : Blk wr (S + 1) [.int .i64 0, .slice none 0 0]
 row : wr.ownsRow (S + 3) 86 3 v k (flatE who ratio (es.take k))
 bl : Below S w wr
 sz : S + 3 ≤ wr.heap.size
theorem flatE_take {who ratio : Int} {es : List Edg} {k : Nat} {E : Edg} (h : es[k]? = some E) : flatE who ratio (es.take (k + 1)) = flatE who ratio (es.take k) ++ [.int .i64 E.f, .int .i64 E.t, .int .i64 (wtE who ratio E.us)] := by
 rw [List.take_add_one, h]; exact flatE_snoc who ratio _ E
theorem Blk.heapEq {w w' : World} {b : Nat} {vs : List Value} (h : Blk w b vs) (he : w'.heap[b]? = w.heap[b]?) : Blk w' b vs := fun j v hj =>
 ⟨(World.cell?_of_block (w := w) (a := ⟨b, j, none⟩) he).trans (h j v hj).1, (World.frozen?_of_block (w := w) (a := ⟨b, j, none⟩) he).trans (h j v hj).2⟩
theorem SGi.step {w wr V W : World} {S n k m1 cp : Nat} {who ratio wt : Int} {V5 : List Value} {es : List Edg} {a y1 : Option Addr} {c1 : Ch} {E : Edg} (h : SGi w S n who ratio V5 es k (.slice a k cp) wr) (hV : Below wr.heap.size wr V) (hE : es[k]? = some E) (hfr : Frm V [c1] W) (hv : c1.v = .slice a k cp) (hwt : wt = wtE who ratio E.us)
 (hrow : W.ownsRow (S + 3) 86 3 (.slice y1 (k + 1) m1) (k + 1) (flatE who ratio (es.take k) ++ [.int .i64 E.f, .int .i64 E.t, .int .i64 wt])) : SGi w S n who ratio V5 es (k + 1) (.slice y1 (k + 1) m1) (W.setCell ⟨S + 1 + 1, 1, none⟩ (.slice y1 (k + 1) m1)) := by
 have hz := hV.size
 have hsz := h.sz
 have no : ∀ b, b < S + 3 → (Value.slice a k cp).ownBlock ≠ some b := fun b hb e => by have := (rows_lt h.row b e).1; omega
 have kb : ∀ b, b < S + 3 → W.heap[b]? = wr.heap[b]? := fun b hb => (ch1_keep hfr (by omega) (by rw [hv]; exact no b hb)).trans (hV.block b (by omega))
 have hs : ∀ b, b ≠ S + 1 + 1 → (W.setCell ⟨S + 1 + 1, 1, none⟩ (.slice y1 (k + 1) m1)).heap[b]? = W.heap[b]? := fun b hb => Below.heap_setCell _ _ _ _ hb
 refine ⟨h.bx.heapEq ((hs S (by omega)).trans (kb S (by omega))), (h.gb.heapEq (kb (S + 1 + 1) (by omega))).set (j := 1) (by simp) _, h.rb.heapEq ((hs (S + 1) (by omega)).trans (kb (S + 1) (by omega))), ?_, ?_, ?_⟩
 · rw [flatE_take hE, ← hwt]
   exact rows_kept hrow (fun b hb => hs b (by have := (rows_lt hrow b hb).1; omega))
 · have h1 : Below S w V := h.bl.trans (hV.mono (by omega))
   have h2 : Below S w W := ⟨hfr.os.trans h1.os, hfr.tape.trans h1.tape, hfr.output.trans h1.output, Nat.le_trans h1.size hfr.size, fun b hb => (kb b (by omega)).trans (h.bl.block b hb)⟩
   exact below_set h2 _ (by show S ≤ S + 1 + 1; omega)
 · have := hfr.size
   have e : (W.setCell ⟨S + 1 + 1, 1, none⟩ (.slice y1 (k + 1) m1)).heap.size = W.heap.size := by simp
   omega
end Go.Proofs.YtjjikhaaimfneaaGreatDoor
