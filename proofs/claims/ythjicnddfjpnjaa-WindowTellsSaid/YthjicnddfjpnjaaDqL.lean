/-
  LEMMAS: the deque in memory.
-/
import Derived.Test.YthjicnddfjpnjaaRowC
import Derived.Test.YthjicnddfjpnjaaRegG2
import Derived.Test.YthjicnddfjpnjaaSeqA
namespace Go.Proofs.Ythjicnddfjpnjaa
open Go.RowKit
set_option linter.unusedSimpArgs false
set_option linter.unusedVariables false

theorem step_appendC {ops : Array Oper} {o : Oper} {a : Act} {w : World} {K : Act → World → Prop} {Q : Exit → Act → World → Prop} {E : Prop} (hgd : o.guard = none) (s x : Operand)
    (ho : o.op = .call { callee := .builtin .append, args := #[s, x], argTypes := #[23, 23] }) (B : Nat) (v : Value) (xs : List Int) (y : Int) (hs : a.eval s = v) (h : RowC w B v xs) (hB : B ≤ w.heap.size) (ad : Addr) (c : Nat) (hx : a.eval x = .slice (some ad) 1 c)
    (hc : w.cell? ad = some (.int .i64 y)) (hn : xs.length < 17592186044416)
    (hK : ∀ g off cp w', RowC w' B (.slice (some ⟨g, off, none⟩) (xs.length + 1) cp) (xs ++ [y]) → w.grownBy w' v.ownBlock → (v.ownBlock = some g ∨ w.heap.size ≤ g) → K (a.put o.dst (.slice (some ⟨g, off, none⟩) (xs.length + 1) cp)) w') :
    if Region.wanted o (yielded ops a.tmps) = true then Oper.wp Try.prog o a w K Q else E := by
  have hw : Region.wanted o (yielded ops a.tmps) = true := by simp [Region.wanted, hgd]
  rw [if_pos hw]
  obtain ⟨g, off, cp, w', hr, h1, h2, h3⟩ := run_appendC w B o.type v xs y h hB ad c hc hn
  unfold Oper.wp execOp
  simp only [ho, resolve, invoke, builtin, Sem.run_bind, Sem.run_pure, Result.andThen_ok, List.map_toArray, List.map_cons, List.map_nil, hs, hx, hr]
  exact hK g off cp w' h1 h2 h3
/-- THE DEQUE in memory: the struct in block D; its two slices, each of the call's own -/
structure Dq (w : World) (D : Nat) (fb va vo : Value) (ks vs : List Int) : Prop where
  a : w.cell? ⟨D, 0, none⟩ = some va
  b : w.cell? ⟨D, 1, none⟩ = some vo
  c : w.cell? ⟨D, 2, none⟩ = some fb
  fz : ∀ j, w.frozen? ⟨D, j, none⟩ = false
  ra : RowC w (D + 1) va ks
  rb : RowC w (D + 1) vo vs
  ap : va.ownBlock = none ∨ va.ownBlock ≠ vo.ownBlock
theorem Dq.lt {w : World} {D : Nat} {fb va vo : Value} {ks vs : List Int} (h : Dq w D fb va vo ks vs) : D < w.heap.size := World.block_lt_of_cell? w _ h.a
theorem Dq.below {w w' : World} {D : Nat} {fb va vo : Value} {ks vs : List Int} (h : Dq w D fb va vo ks vs) (hb : Below w.heap.size w w') : Dq w' D fb va vo ks vs :=
  ⟨(hb.cell (p := ⟨D, 0, none⟩) h.lt).trans h.a, (hb.cell (p := ⟨D, 1, none⟩) h.lt).trans h.b, (hb.cell (p := ⟨D, 2, none⟩) h.lt).trans h.c, fun j => (hb.frozen (p := ⟨D, j, none⟩) h.lt).trans (h.fz j), h.ra.below hb, h.rb.below hb, h.ap⟩
/-- both slices are put anew -/
theorem Dq.put {w : World} {D : Nat} {fb va vo va' vo' : Value} {ks vs ks' vs' : List Int} (h : Dq w D fb va vo ks vs) (ha : RowC w (D + 1) va' ks') (hb : RowC w (D + 1) vo' vs') (hap : va'.ownBlock = none ∨ va'.ownBlock ≠ vo'.ownBlock) : Dq ((w.setCell ⟨D, 0, none⟩ va').setCell ⟨D, 1, none⟩ vo') D fb va' vo' ks' vs' := by
  have far : ∀ {v : Value} {xs : List Int}, RowC w (D + 1) v xs → some D ≠ v.ownBlock := fun hr e => by have := (hr.lt D e.symm).1; omega
  refine ⟨?_, ?_, ?_, fun j => by rw [World.frozen?_setCell, World.frozen?_setCell]; exact h.fz j, (ha.set _ _ (far ha)).set _ _ (far ha), (hb.set _ _ (far hb)).set _ _ (far hb), hap⟩
  · rw [World.cell?_setCell_other _ _ _ _ (fun e => by injection e with _ e; omega)]; exact World.cell?_setCell_same' _ _ _ (by rw [h.a]; rfl)
  · exact World.cell?_setCell_same' _ _ _ (by rw [World.cell?_setCell_other _ _ _ _ (fun e => by injection e with _ e; omega), h.b]; rfl)
  · rw [World.cell?_setCell_other _ _ _ _ (fun e => by injection e with _ e; omega), World.cell?_setCell_other _ _ _ _ (fun e => by injection e with _ e; omega)]; exact h.c
/-- what the deque's own calls leave as it was -/
structure Fr (w w' : World) (D : Nat) (va vo va' vo' : Value) : Prop where
  os : w'.os = w.os
  tape : w'.tape = w.tape
  output : w'.output = w.output
  size : w.heap.size ≤ w'.heap.size
  block : ∀ b, b < w.heap.size → b ≠ D → some b ≠ va.ownBlock → some b ≠ vo.ownBlock → w'.heap[b]? = w.heap[b]?
  na : ∀ g, va'.ownBlock = some g → va.ownBlock = some g ∨ w.heap.size ≤ g
  no : ∀ g, vo'.ownBlock = some g → vo.ownBlock = some g ∨ w.heap.size ≤ g
theorem Fr.refl (w : World) (D : Nat) (va vo : Value) : Fr w w D va vo va vo := ⟨rfl, rfl, rfl, Nat.le_refl _, fun _ _ _ _ _ => rfl, fun _ h => .inl h, fun _ h => .inl h⟩
theorem Fr.trans {w w1 w2 : World} {D : Nat} {va vo va1 vo1 va2 vo2 : Value} (h : Fr w w1 D va vo va1 vo1) (k : Fr w1 w2 D va1 vo1 va2 vo2) : Fr w w2 D va vo va2 vo2 :=
  ⟨k.os.trans h.os, k.tape.trans h.tape, k.output.trans h.output, Nat.le_trans h.size k.size, fun b hb hD ha ho => (k.block b (Nat.lt_of_lt_of_le hb h.size) hD
      (fun e => by rcases h.na b e.symm with h1 | h1
                   · exact ha h1.symm
                   · omega)
      (fun e => by rcases h.no b e.symm with h1 | h1
                   · exact ho h1.symm
                   · omega)).trans (h.block b hb hD ha ho),
    fun g e => by rcases k.na g e with h1 | h1
                  · exact h.na g h1
                  · exact .inr (Nat.le_trans h.size h1),
    fun g e => by rcases k.no g e with h1 | h1
                  · exact h.no g h1
                  · exact .inr (Nat.le_trans h.size h1)⟩
theorem Fr.below {w w1 w2 : World} {D : Nat} {va vo va1 vo1 : Value} (h : Fr w w1 D va vo va1 vo1) (hb : Below w1.heap.size w1 w2) : Fr w w2 D va vo va1 vo1 :=
  h.trans ⟨hb.os, hb.tape, hb.output, hb.size, fun b hb' _ _ _ => hb.block b hb', fun _ e => .inl e, fun _ e => .inl e⟩
/-- D's cells are written -/
theorem Fr.setD {w w1 : World} {D j : Nat} {va vo va1 vo1 : Value} (h : Fr w w1 D va vo va1 vo1) (u : Value) : Fr w (w1.setCell ⟨D, j, none⟩ u) D va vo va1 vo1 := by
  have hb := (Below.refl (0 : Nat) w1).setCell (p := ⟨D, j, none⟩) (Nat.zero_le _) u
  exact h.trans ⟨hb.os, hb.tape, hb.output, hb.size, fun b hb' hD _ _ => Below.heap_setCell _ _ _ _ hD, fun _ e => .inl e, fun _ e => .inl e⟩
theorem Fr.re {w w1 : World} {D : Nat} {va vo va1 vo1 va2 vo2 : Value} (h : Fr w w1 D va vo va1 vo1) (ha : va2.ownBlock = va1.ownBlock) (ho : vo2.ownBlock = vo1.ownBlock) : Fr w w1 D va vo va2 vo2 :=
  ⟨h.os, h.tape, h.output, h.size, h.block, fun g e => h.na g (by rw [← ha]; exact e), fun g e => h.no g (by rw [← ho]; exact e)⟩
/-- the struct's cells alone -/
structure Dc (w : World) (D : Nat) (fb va vo : Value) : Prop where
  a : w.cell? ⟨D, 0, none⟩ = some va
  b : w.cell? ⟨D, 1, none⟩ = some vo
  c : w.cell? ⟨D, 2, none⟩ = some fb
  fz : ∀ j, w.frozen? ⟨D, j, none⟩ = false
theorem Dq.dc {w : World} {D : Nat} {fb va vo : Value} {ks vs : List Int} (h : Dq w D fb va vo ks vs) : Dc w D fb va vo := ⟨h.a, h.b, h.c, h.fz⟩
theorem Dc.kept {w w' : World} {D : Nat} {fb va vo : Value} (h : Dc w D fb va vo) (e : w'.heap[D]? = w.heap[D]?) : Dc w' D fb va vo :=
  ⟨(World.cell?_of_block (w := w) e).trans h.a, (World.cell?_of_block (w := w) e).trans h.b, (World.cell?_of_block (w := w) e).trans h.c, fun j => (World.frozen?_of_block (w := w) e).trans (h.fz j)⟩
theorem Dc.lt {w : World} {D : Nat} {fb va vo : Value} (h : Dc w D fb va vo) : D < w.heap.size := World.block_lt_of_cell? w _ h.a
theorem Dc.below {w w' : World} {D : Nat} {fb va vo : Value} (h : Dc w D fb va vo) (hb : Below w.heap.size w w') : Dc w' D fb va vo := h.kept (hb.block D h.lt)
theorem Dc.grown {w w' : World} {D : Nat} {fb va vo : Value} (h : Dc w D fb va vo) {row : Option Nat} (hg : w.grownBy w' row) (hne : some D ≠ row) : Dc w' D fb va vo := h.kept (hg.block D h.lt hne)
theorem RowC.farD {w : World} {D : Nat} {v : Value} {xs : List Int} (h : RowC w (D + 1) v xs) : some D ≠ v.ownBlock := fun e => by have := (h.lt D e.symm).1; omega
theorem Dc.put {w : World} {D : Nat} {fb va vo va' vo' : Value} {ks' vs' : List Int} (h : Dc w D fb va vo) (ha : RowC w (D + 1) va' ks') (hb : RowC w (D + 1) vo' vs') (hap : va'.ownBlock = none ∨ va'.ownBlock ≠ vo'.ownBlock) : Dq ((w.setCell ⟨D, 0, none⟩ va').setCell ⟨D, 1, none⟩ vo') D fb va' vo' ks' vs' := by
  refine ⟨?_, ?_, ?_, fun j => by rw [World.frozen?_setCell, World.frozen?_setCell]; exact h.fz j, (ha.set _ _ ha.farD).set _ _ ha.farD, (hb.set _ _ hb.farD).set _ _ hb.farD, hap⟩
  · rw [World.cell?_setCell_other _ _ _ _ (fun e => by injection e with _ e; omega)]; exact World.cell?_setCell_same' _ _ _ (by rw [h.a]; rfl)
  · exact World.cell?_setCell_same' _ _ _ (by rw [World.cell?_setCell_other _ _ _ _ (fun e => by injection e with _ e; omega), h.b]; rfl)
  · rw [World.cell?_setCell_other _ _ _ _ (fun e => by injection e with _ e; omega), World.cell?_setCell_other _ _ _ _ (fun e => by injection e with _ e; omega)]; exact h.c
theorem Fr.grownA {w w1 w2 : World} {D g off n c : Nat} {va vo va1 vo1 : Value} (h : Fr w w1 D va vo va1 vo1) (hg : w1.grownBy w2 va1.ownBlock) (hn : va1.ownBlock = some g ∨ w1.heap.size ≤ g) : Fr w w2 D va vo (.slice (some ⟨g, off, none⟩) n c) vo1 :=
  h.trans ⟨hg.os, hg.tape, hg.output, hg.size, fun b hb _ ha _ => hg.block b hb ha, fun g' e => by
    simp only [Value.ownBlock, Option.some.injEq] at e; subst e; exact hn, fun _ e => .inl e⟩
theorem Fr.grownO {w w1 w2 : World} {D g off n c : Nat} {va vo va1 vo1 : Value} (h : Fr w w1 D va vo va1 vo1) (hg : w1.grownBy w2 vo1.ownBlock) (hn : vo1.ownBlock = some g ∨ w1.heap.size ≤ g) : Fr w w2 D va vo va1 (.slice (some ⟨g, off, none⟩) n c) :=
  h.trans ⟨hg.os, hg.tape, hg.output, hg.size, fun b hb _ _ ho => hg.block b hb ho, fun _ e => .inl e, fun g' e => by
    simp only [Value.ownBlock, Option.some.injEq] at e; subst e; exact hn⟩
theorem ap_new {A B : Value} {g N : Nat} (ap : A.ownBlock = none ∨ A.ownBlock ≠ B.ownBlock) (hn : A.ownBlock = some g ∨ N ≤ g) (hB : ∀ b, B.ownBlock = some b → b < N) : some g ≠ B.ownBlock := fun e => by
  have := hB g e.symm
  rcases hn with hn | hn
  · rcases ap with ap | ap
    · rw [ap] at hn; cases hn
    · exact ap (hn.trans e)
  · omega
theorem RowC.form {w : World} {B : Nat} {v : Value} {xs : List Int} (h : RowC w B v xs) (h0 : 0 < xs.length) : ∃ g off cap, v = .slice (some ⟨g, off, none⟩) xs.length cap ∧ xs.length ≤ cap ∧ (∀ j x, xs[j]? = some x → w.cell? ⟨g, off + j, none⟩ = some (.int .i64 x)) := by
  rcases h with ⟨_, rfl⟩ | ⟨g, off, cap, rfl, h1, h2, h3, h4, h5, h6⟩
  · simp at h0
  · exact ⟨g, off, cap, rfl, h3, h6⟩

end Go.Proofs.Ythjicnddfjpnjaa
