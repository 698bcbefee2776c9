/-
  Lemmas and walks for the statement: R3, PSolve, PSolve2, Round, Wrong, VMax.
-/
import Derived.Test.YtjjikhaaimfneaaGreatDoorU01
import Derived.OneCell
import Derived.Test.YtjjikhaaimfneaaGreatDoorU30
import Derived.Test.YtjjikhaaimfneaaGreatDoorU02
import Derived.Test.YtjjikhaaimfneaaGreatDoorProg
import Derived.BigRegion
import Derived.Test.YtjjikhaaimfneaaGreatDoorU28
namespace Go.Proofs.YtjjikhaaimfneaaGreatDoor
open Go.RowKit
set_option linter.unusedSimpArgs false
set_option linter.unusedVariables false
def Ap (a b : Value) : Prop := a.ownBlock = none ∨ a.ownBlock ≠ b.ownBlock
theorem Ap.symm {a b : Value} (h : Ap a b) : Ap b a := by
 unfold Ap at *
 rcases h with h | h
 · by_cases hb : b.ownBlock = none
   · exact .inl hb
   · exact .inr (by rw [h]; exact hb)
 · exact .inr (fun e => h e.symm)
theorem Ap.new {a v : Value} {g H cap n : Nat} (h : Ap a v) (hg : v.ownBlock = some g ∨ g = H) (ha : ∀ k, a.ownBlock = some k → k < H) : Ap a (.slice (some ⟨g, 0, none⟩) n cap) := by
 unfold Ap at *
 rcases h with h | h
 · exact .inl h
 · by_cases hn : a.ownBlock = none
   · exact .inl hn
   · right
     intro e
     have e2 : a.ownBlock = some g := e
     rcases hg with hg | rfl
     · exact h (by rw [hg, e2])
     · have := ha _ e2; omega
theorem Ap.nil (b : Value) : Ap (.slice none 0 0) b := .inl rfl
structure R3 (w : World) (B e : Nat) (A1 A2 A3 : List Int) (v1 : Value) (k1 : Nat) (v2 : Value) (k2 : Nat) (v3 : Value) (k3 : Nat) : Prop where
 o1 : w.ownsRow B e 1 v1 k1 ((A1.take k1).map (Value.int .i64))
 o2 : w.ownsRow B e 1 v2 k2 ((A2.take k2).map (Value.int .i64))
 o3 : w.ownsRow B e 1 v3 k3 ((A3.take k3).map (Value.int .i64))
 a12 : Ap v1 v2
 a13 : Ap v1 v3
 a23 : Ap v2 v3
section
variable {w w' : World} {B e k1 k2 k3 : Nat} {A1 A2 A3 : List Int} {v1 v2 v3 : Value}
theorem R3.alloc (h : R3 w B e A1 A2 A3 v1 k1 v2 k2 v3 k3) (o : Obj) : R3 (w.alloc o) B e A1 A2 A3 v1 k1 v2 k2 v3 k3 := ⟨h.o1.alloc o, h.o2.alloc o, h.o3.alloc o, h.a12, h.a13, h.a23⟩
theorem R3.drew (h : R3 w B e A1 A2 A3 v1 k1 v2 k2 v3 k3) : R3 w.drew B e A1 A2 A3 v1 k1 v2 k2 v3 k3 := ⟨h.o1, h.o2, h.o3, h.a12, h.a13, h.a23⟩
theorem R3.drewN (h : R3 w B e A1 A2 A3 v1 k1 v2 k2 v3 k3) (m : Nat) : R3 (w.drewN m) B e A1 A2 A3 v1 k1 v2 k2 v3 k3 := ⟨h.o1, h.o2, h.o3, h.a12, h.a13, h.a23⟩
theorem R3.kept (h : R3 w B e A1 A2 A3 v1 k1 v2 k2 v3 k3) {g : Nat} (hg : w.grownBy w' (some g)) (hB : g < B) : R3 w' B e A1 A2 A3 v1 k1 v2 k2 v3 k3 := by
 have key : ∀ {v : Value} {n : Nat} {xs : List Value}, w.ownsRow B e 1 v n xs → w'.ownsRow B e 1 v n xs := fun ho => ho.kept hg (.inr (fun e => by have := own_row ho g e; omega))
 exact ⟨key h.o1, key h.o2, key h.o3, h.a12, h.a13, h.a23⟩
theorem R3.push1 (h : R3 w B e A1 A2 A3 v1 k1 v2 k2 v3 k3) {g cap H : Nat} {x : Int} (hk : k1 < A1.length) (hx : x = A1.getD k1 0) (ho : w'.ownsRow B e 1 (.slice (some ⟨g, 0, none⟩) (k1 + 1) cap) (k1 + 1) ((A1.take k1).map (Value.int .i64) ++ [.int .i64 x]))
 (hg : w.grownBy w' v1.ownBlock) (hat : v1.ownBlock = some g ∨ g = H) (hH : w.heap.size ≤ H) : R3 w' B e A1 A2 A3 (.slice (some ⟨g, 0, none⟩) (k1 + 1) cap) (k1 + 1) v2 k2 v3 k3 :=
 ⟨own_next hk hx ho, h.o2.kept hg h.a12.symm, h.o3.kept hg h.a13.symm, (h.a12.symm.new hat (fun k hk => Nat.lt_of_lt_of_le (h.o2.lt k hk).2 hH)).symm, (h.a13.symm.new hat (fun k hk => Nat.lt_of_lt_of_le (h.o3.lt k hk).2 hH)).symm, h.a23⟩
theorem R3.push2 (h : R3 w B e A1 A2 A3 v1 k1 v2 k2 v3 k3) {g cap H : Nat} {x : Int} (hk : k2 < A2.length) (hx : x = A2.getD k2 0) (ho : w'.ownsRow B e 1 (.slice (some ⟨g, 0, none⟩) (k2 + 1) cap) (k2 + 1) ((A2.take k2).map (Value.int .i64) ++ [.int .i64 x]))
 (hg : w.grownBy w' v2.ownBlock) (hat : v2.ownBlock = some g ∨ g = H) (hH : w.heap.size ≤ H) : R3 w' B e A1 A2 A3 v1 k1 (.slice (some ⟨g, 0, none⟩) (k2 + 1) cap) (k2 + 1) v3 k3 :=
 ⟨h.o1.kept hg h.a12, own_next hk hx ho, h.o3.kept hg h.a23.symm, h.a12.new hat (fun k hk => Nat.lt_of_lt_of_le (h.o1.lt k hk).2 hH), h.a13, (h.a23.symm.new hat (fun k hk => Nat.lt_of_lt_of_le (h.o3.lt k hk).2 hH)).symm⟩
theorem R3.push3 (h : R3 w B e A1 A2 A3 v1 k1 v2 k2 v3 k3) {g cap H : Nat} {x : Int} (hk : k3 < A3.length) (hx : x = A3.getD k3 0) (ho : w'.ownsRow B e 1 (.slice (some ⟨g, 0, none⟩) (k3 + 1) cap) (k3 + 1) ((A3.take k3).map (Value.int .i64) ++ [.int .i64 x]))
 (hg : w.grownBy w' v3.ownBlock) (hat : v3.ownBlock = some g ∨ g = H) (hH : w.heap.size ≤ H) : R3 w' B e A1 A2 A3 v1 k1 v2 k2 (.slice (some ⟨g, 0, none⟩) (k3 + 1) cap) (k3 + 1) :=
 ⟨h.o1.kept hg h.a13, h.o2.kept hg h.a23, own_next hk hx ho, h.a12, h.a13.new hat (fun k hk => Nat.lt_of_lt_of_le (h.o1.lt k hk).2 hH), h.a23.new hat (fun k hk => Nat.lt_of_lt_of_le (h.o2.lt k hk).2 hH)⟩
end
theorem far_row {w w' : World} {B e n S b : Nat} {v u : Value} {xs : List Value} {w0 : World} (h0 : w0.ownsRow B e 1 v n xs) (hg : w.grownBy w' v.ownBlock) (hS : w0.heap.size = S) (hb : S ≤ b) (hc : w.cell? ⟨b, 0, none⟩ = some u) : w'.cell? ⟨b, 0, none⟩ = some u := by
 have hlt := World.block_lt_of_cell? w _ hc
 refine (hg.cell_far _ hlt (fun e => ?_)).trans hc
 have := (h0.lt b e.symm).2
 omega
theorem box_row {w w' : World} {B e n b j : Nat} {v u : Value} {xs : List Value} {w0 : World} (h0 : w0.ownsRow B e 1 v n xs) (hg : w.grownBy w' v.ownBlock) (hb : b < B) (hc : w.cell? ⟨b, j, none⟩ = some u) : w'.cell? ⟨b, j, none⟩ = some u := by
 have hlt := World.block_lt_of_cell? w _ hc
 exact (hg.cell_far _ hlt (own_far h0 hb)).trans hc
theorem news_alloc {w : World} {b : Nat} {u : Value} {o : Obj} (h : w.cell? ⟨b, 0, none⟩ = some u) : (w.alloc o).cell? ⟨b, 0, none⟩ = some u := by
 have hlt := World.block_lt_of_cell? w _ h
 exact (((Below.refl w.heap.size w).alloc (Nat.le_refl _) o).cell hlt).trans h
theorem alloc_cell {w : World} {p : Addr} {u : Value} {o : Obj} (h : w.cell? p = some u) : (w.alloc o).cell? p = some u :=
 (((Below.refl w.heap.size w).alloc (Nat.le_refl _) o).cell (World.block_lt_of_cell? w _ h)).trans h
theorem drew_cell {w : World} {p : Addr} {u : Value} (h : w.cell? p = some u) : w.drew.cell? p = some u := h
theorem blk_alloc {w : World} {b : Nat} {o p : Obj} (h : w.heap[b]? = some o) : (w.alloc p).heap[b]? = some o := (Below.heap_alloc w p b (lt_of_block h)).trans h
theorem blk_drew {w : World} {b : Nat} {o : Obj} (h : w.heap[b]? = some o) : w.drew.heap[b]? = some o := h
theorem blk_row {w w' : World} {B e n b : Nat} {v : Value} {o : Obj} {xs : List Value} {w0 : World} (h0 : w0.ownsRow B e 1 v n xs) (hg : w.grownBy w' v.ownBlock) (hb : b < B) (h : w.heap[b]? = some o) : w'.heap[b]? = some o :=
 (hg.block b (lt_of_block h) (own_far h0 hb)).trans h
theorem bel_row {a w w' : World} {B e n C : Nat} {v : Value} {xs : List Value} {w0 : World} (h0 : w0.ownsRow B e 1 v n xs) (hg : w.grownBy w' v.ownBlock) (hC : C ≤ B) (hs : C ≤ w.heap.size) (h : Below C a w) : Below C a w' :=
 h.grown hg hs (fun k hk => Nat.le_trans hC (own_row h0 k hk))
theorem news_drew {w : World} {b : Nat} {u : Value} (h : w.cell? ⟨b, 0, none⟩ = some u) : w.drew.cell? ⟨b, 0, none⟩ = some u := h
theorem news_new {w : World} {b : Nat} {u : Value} {t : TypeId} (h : w.heap.size = b) : (w.alloc (.cells #[u] t)).cell? ⟨b, 0, none⟩ = some u := by
 subst h; unfold World.cell?; rw [heap_alloc_new w _]; rfl
theorem news_list {w : World} {b : Nat} {u : Value} (h : w.cell? ⟨b, 0, none⟩ = some u) : ∀ (j : Nat) (x : Value), [u][j]? = some x → w.cell? ((⟨b, 0, none⟩ : Addr).add j) = some x := by
 intro j x hj
 have hj0 : j = 0 := by
  have := (List.getElem?_eq_some_iff.1 hj).1
  simp at this; omega
 subst hj0
 simp at hj
 subst hj
 have : (⟨b, 0, none⟩ : Addr).add 0 = ⟨b, 0, none⟩ := by unfold Addr.add; simp
 rw [this]; exact h
end Go.Proofs.YtjjikhaaimfneaaGreatDoor
namespace Go.Proofs.YtjjikhaaimfneaaGreatDoor
open Go.RowKit
set_option linter.unusedSimpArgs false
set_option linter.unusedVariables false
theorem prun_snoc : ∀ (l : List PE) (k : Nat) (s : PS) (e : PE), prun (l ++ [e]) k s = pstep (prun l k s) (k + l.length) e
 | [], k, s, e => rfl
 | d :: l, k, s, e => by
   show prun (l ++ [e]) (k + 1) (pstep s k d) = _
   rw [prun_snoc l (k + 1) (pstep s k d) e, List.length_cons, show k + 1 + l.length = k + (l.length + 1) by omega]
   rfl
theorem prun_take {es : List PE} {k : Nat} {e : PE} (h : es[k]? = some e) (s : PS) : prun (es.take (k + 1)) 0 s = pstep (prun (es.take k) 0 s) k e := by
 have hk := (List.getElem?_eq_some_iff.1 h).1
 have e1 : es.take (k + 1) = es.take k ++ [e] := by
  rw [List.take_succ_eq_append_getElem hk]
  rw [List.getElem?_eq_getElem hk] at h; injection h with h; rw [h]
 rw [e1, prun_snoc, List.length_take, show 0 + min k es.length = k by omega]
theorem pstep_b {s : PS} {k : Nat} {e : PE} {M : Int} (hw : e.wt ≤ 1048576) (hs : ∀ v, 0 ≤ s.m v ∧ s.m v ≤ M) : ∀ v, 0 ≤ (pstep s k e).m v ∧ (pstep s k e).m v ≤ M + 1048576 := by
 intro v
 have h1 := hs v
 have h2 := hs e.src
 have h3 := hs e.dst
 unfold pstep
 split
 · simp only [upd]; split <;> omega
 · omega
theorem prun_b {N : Int} {es : List GE} (hg : GraphOk N es) {s : PS} {M : Int} (hs : ∀ v, 0 ≤ s.m v ∧ s.m v ≤ M) : ∀ k, k ≤ es.length → ∀ v, 0 ≤ (prun ((pes es).take k) 0 s).m v ∧ (prun ((pes es).take k) 0 s).m v ≤ M + k * 1048576
 | 0, _, v => by have := hs v; simp [prun]; omega
 | k + 1, hk, v => by
   have ih := prun_b hg hs k (by omega)
   have he : es[k]? = some (es[k]'(by omega)) := List.getElem?_eq_getElem (by omega)
   rw [prun_take (pes_get he)]
   have hok := hg.2 _ (List.getElem_mem (show k < es.length by omega))
   unfold EdgeOk at hok
   have := pstep_b (k := k) (e := peOf (es[k]'(by omega))) (by simp only [peOf]; omega) ih v
   omega
structure Two (w w' : World) (g1 g2 : Nat) : Prop where
 os : w'.os = w.os
 tape : w'.tape = w.tape
 output : w'.output = w.output
 size : w.heap.size ≤ w'.heap.size
 block : ∀ k, k < w.heap.size → k ≠ g1 → k ≠ g2 → w'.heap[k]? = w.heap[k]?
section
variable {w w' w'' : World} {g1 g2 : Nat}
theorem Two.refl (w : World) (g1 g2 : Nat) : Two w w g1 g2 := ⟨rfl, rfl, rfl, Nat.le_refl _, fun _ _ _ _ => rfl⟩
theorem Two.trans (h : Two w w' g1 g2) (h' : Two w' w'' g1 g2) : Two w w'' g1 g2 :=
 ⟨h'.os.trans h.os, h'.tape.trans h.tape, h'.output.trans h.output, Nat.le_trans h.size h'.size, fun k hk h1 h2 => (h'.block k (Nat.lt_of_lt_of_le hk h.size) h1 h2).trans (h.block k hk h1 h2)⟩
theorem Two.of_below (h : Below w.heap.size w w') : Two w w' g1 g2 := ⟨h.os, h.tape, h.output, h.size, fun k hk _ _ => h.block k hk⟩
theorem Two.alloc (h : Two w w' g1 g2) (o : Obj) : Two w (w'.alloc o) g1 g2 := h.trans (Two.of_below ((Below.refl _ _).alloc (Nat.le_refl _) o))
theorem Two.drewN (h : Two w w' g1 g2) (m : Nat) : Two w (w'.drewN m) g1 g2 := h.trans (Two.of_below (Go.below_drewN (Below.refl _ _) m))
theorem Two.drew (h : Two w w' g1 g2) : Two w w'.drew g1 g2 := h.trans (Two.of_below (Below.refl _ _).drew)
theorem Two.set1 (h : Two w w' g1 g2) (j : Nat) (u : Value) : Two w (w'.setCell ⟨g1, j, none⟩ u) g1 g2 :=
 h.trans ⟨rfl, rfl, rfl, by simp [World.setCell], fun k _ h1 _ => by (have hne : ¬ g1 = k := (fun e => h1 e.symm)); simp [World.setCell, Array.getElem?_modify, hne]⟩
theorem Two.set2 (h : Two w w' g1 g2) (j : Nat) (u : Value) : Two w (w'.setCell ⟨g2, j, none⟩ u) g1 g2 :=
 h.trans ⟨rfl, rfl, rfl, by simp [World.setCell], fun k _ _ h2 => by (have hne : ¬ g2 = k := (fun e => h2 e.symm)); simp [World.setCell, Array.getElem?_modify, hne]⟩
theorem Two.cell (h : Two w w' g1 g2) {p : Addr} {v : Value} (h1 : p.block ≠ g1) (h2 : p.block ≠ g2) (hc : w.cell? p = some v) : w'.cell? p = some v := by
 have hb := World.block_lt_of_cell? w _ hc
 have := h.block p.block hb h1 h2
 rw [← hc]; simp [World.cell?, this]
theorem Two.below (h : Two w w' g1 g2) {B : Nat} (hB : B ≤ w.heap.size) (h1 : B ≤ g1) (h2 : B ≤ g2) : Below B w w' :=
 ⟨h.os, h.tape, h.output, h.size, fun k hk => h.block k (Nat.lt_of_lt_of_le hk hB) (by omega) (by omega)⟩
end
end Go.Proofs.YtjjikhaaimfneaaGreatDoor
namespace Go.Proofs.YtjjikhaaimfneaaGreatDoor
open Go.RowKit
set_option linter.unusedSimpArgs false
set_option linter.unusedVariables false
theorem prun_more (es : List PE) : ∀ (k : Nat) (s : PS), 0 ≤ (prun es k s).last → 0 ≤ s.last ∨ ∃ v, s.m v < (prun es k s).m v := by
 induction es with
 | nil => intro k s h; exact .inl h
 | cons e es ih =>
   intro k s h
   rcases ih (k + 1) (pstep s k e) h with h1 | ⟨v, h1⟩
   · by_cases hu : s.m e.dst < s.m e.src + e.wt
     · refine .inr ⟨e.dst, ?_⟩
       have h2 := prun_le es (k + 1) (pstep s k e) e.dst
       have h3 : (pstep s k e).m e.dst = s.m e.src + e.wt := by simp [pstep, hu, upd]
       show s.m e.dst < (prun es (k + 1) (pstep s k e)).m e.dst
       omega
     · left
       have h3 : pstep s k e = s := by simp [pstep, hu]
       rwa [h3] at h1
   · exact .inr ⟨v, Int.lt_of_le_of_lt (pstep_le s k e v) h1⟩
theorem piter_b {N : Int} {es : List GE} (hg : GraphOk N es) : ∀ r v, 0 ≤ (piter (pes es) r).m v ∧ (piter (pes es) r).m v ≤ r * 5033164800
 | 0, v => by simp [piter, pzero]
 | r + 1, v => by
   have ih := piter_b hg r
   have h1 := prun_b hg (s := { piter (pes es) r with last := -1 }) ih es.length (Nat.le_refl _) v
   have e1 : (pes es).take es.length = pes es := List.take_of_length_le (by rw [pes_len]; exact Nat.le_refl _)
   rw [e1] at h1
   have h2 : (piter (pes es) (r + 1)).m v = (prun (pes es) 0 { piter (pes es) r with last := -1 }).m v := rfl
   have h3 := hg.1.2.2
   rw [h2]
   omega
def Solved (N : Nat) (es : List GE) (q : PS) : Prop := ∃ r, r ≤ N ∧ q = piter (pes es) (r + 1) ∧ (q.last < 0 ∨ (r = N ∧ 0 ≤ q.last))
theorem solved_pot {N : Nat} {es : List GE} {q : PS} (hg : GraphOk (N : Int) es) (h : Solved N es q) (hl : q.last < 0) : HasPot es ∧ ∀ v, q.m v = siter (pes es) N v := by
 obtain ⟨r, hr, rfl, _⟩ := h
 have hst := prun_still (pes es) 0 { piter (pes es) r with last := -1 } hl
 have hp : Pot (pes es) (piter (pes es) (r + 1)).m := by
  refine ⟨fun v => (piter_b hg (r + 1) v).1, fun e he => ?_⟩
  have h2 := hst.2 e he
  have h1 : (prun (pes es) 0 { piter (pes es) r with last := -1 }).m = (piter (pes es) r).m := by rw [hst.1]
  have h1 : (piter (pes es) (r + 1)).m = (piter (pes es) r).m := h1
  rw [h1]; exact h2
 have hin := pes_in hg
 have hs := siter_fix (siter_still (k := N) hin (by omega) hp)
 refine ⟨⟨_, hp⟩, fun v => ?_⟩
 have h1 := piter_pot hs (r + 1) v
 have h2 := siter_pot hp N v
 omega
theorem solved_no {N : Nat} {es : List GE} {q : PS} (hg : GraphOk (N : Int) es) (h : Solved N es q) (hl : 0 ≤ q.last) : ¬ HasPot es := by
 rintro ⟨p, hp⟩
 obtain ⟨r, hr, rfl, h1 | ⟨rfl, h1⟩⟩ := h
 · omega
 · have hin := pes_in hg
   rcases prun_more (pes es) 0 { piter (pes es) r with last := -1 } hl with h2 | ⟨v, h2⟩
   · simp at h2
   · have e1 := piter_eq (k := r) hin (by omega) hp v
     have e2 := piter_eq (k := r + 1) hin (by omega) hp v
     have e3 := siter_still (k := r) hin (by omega) hp v
     have e4 : (prun (pes es) 0 { piter (pes es) r with last := -1 }).m v = (piter (pes es) (r + 1)).m v := rfl
     rw [e4] at h2
     simp only at h2
     omega
structure SolveEnds (N : Nat) (a : Option Addr) (n c : Nat) (es : List GE) (B : Nat) (e : Ending) (w' : World) (q : PS) (sb gm gb : Nat) : Prop where
 ret : e = .returned (.tuple #[.pointer (some ⟨sb, 0, none⟩), .int .i64 q.last])
 ok : Solved N es q
 c0 : w'.cell? ⟨sb, 0, none⟩ = some (.int .i64 N)
 c1 : w'.cell? ⟨sb, 1, none⟩ = some (.slice a n c)
 c2 : w'.cell? ⟨sb, 2, none⟩ = some (.slice (some ⟨gm, 0, none⟩) N N)
 c3 : w'.cell? ⟨sb, 3, none⟩ = some (.slice (some ⟨gb, 0, none⟩) N N)
 tm : OTab w' B 3 gm N N q.m
 tb : OTab w' B 3 gb N N q.b
theorem rep_tab {w : World} {B e g N : Nat} (h : w.heap[g]? = some (.cells (List.replicate N (Value.int .i64 (-1))).toArray e (0, 0))) (hB : B ≤ g) (hN : N ≤ maxLen) : OTab w B e g N N (fun _ => -1) := by
 refine ⟨by simp [tab_len], .inr ⟨g, N, _, rfl, hB, h, Nat.le_refl _, hN, by simp, ?_⟩⟩
 have e1 : (tabI N (fun _ => (-1 : Int))).map (Value.int .i64) = List.replicate N (Value.int .i64 (-1)) := by
  apply List.ext_getElem?
  intro j
  by_cases hj : j < N
  · rw [List.getElem?_map, tab_at hj, List.getElem?_replicate, if_pos hj]; rfl
  · rw [List.getElem?_eq_none (by simp [tab_len]; omega), List.getElem?_eq_none (by simp; omega)]
 rw [e1]; simp
theorem made_tab (w : World) {B e N : Nat} (hB : B ≤ w.heap.size) (hN : N ≤ maxLen) : OTab (w.alloc (.cells (madeCells (Value.int .i64 0).cells (N * 1)) e)) B e w.heap.size N N (fun _ => 0) := by
 have h := OwnTab.made (w := w.alloc (.cells (madeCells (Value.int .i64 0).cells (N * 1)) e)) (B := B) (e := e) (g := w.heap.size) (N := N) ⟨by simp [madeCells, Value.cells], .inr ⟨w.heap.size, N, _, rfl, hB, heap_alloc_new w _, Nat.le_refl _, hN, by simp [madeCells, Value.cells], List.take_of_length_le (by simp [madeCells, Value.cells])⟩⟩
 exact h
theorem made_tab' {w : World} {B e g N : Nat} (hg : w.heap.size = g) (hB : B ≤ g) (hN : N ≤ maxLen) : OTab (w.alloc (.cells (madeCells (Value.int .i64 0).cells (N * 1)) e)) B e g N N pzero.m := by
 subst hg; exact made_tab w hB hN
theorem made_tab2 {w : World} {B e g N : Nat} (hg : w.heap.size = g) (hB : B ≤ g) (hN : N ≤ maxLen) : OTab (w.alloc (.cells (madeCells #[Value.int .i64 0] N) e)) B e g N N pzero.m := by
 have h := made_tab' (e := e) hg hB hN
 rw [Nat.mul_one] at h
 exact h
theorem lt_of_get {w : World} {g : Nat} {o : Obj} (h : w.heap[g]? = some o) : g < w.heap.size := (Array.getElem?_eq_some_iff.1 h).1
section
variable {w : World} {v0 v1 v2 v3 : Value} {t : TypeId} {g : Nat}
theorem cell40 (hg : w.heap.size = g) : (w.alloc (.cells #[v0, v1, v2, v3] t)).cell? ⟨g, 0, none⟩ = some v0 := by subst hg; unfold World.cell?; rw [heap_alloc_new w _]; rfl
theorem cell41 (hg : w.heap.size = g) : (w.alloc (.cells #[v0, v1, v2, v3] t)).cell? ⟨g, 1, none⟩ = some v1 := by subst hg; unfold World.cell?; rw [heap_alloc_new w _]; rfl
theorem cell42 (hg : w.heap.size = g) : (w.alloc (.cells #[v0, v1, v2, v3] t)).cell? ⟨g, 2, none⟩ = some v2 := by subst hg; unfold World.cell?; rw [heap_alloc_new w _]; rfl
theorem cell43 (hg : w.heap.size = g) : (w.alloc (.cells #[v0, v1, v2, v3] t)).cell? ⟨g, 3, none⟩ = some v3 := by subst hg; unfold World.cell?; rw [heap_alloc_new w _]; rfl
end
def Began (N : Nat) (a : Option Addr) (n c : Nat) (B : Nat) (W : World) (p : Value) (wx : World) : Prop := ∃ sb gm gb : Nat, p = .pointer (some ⟨sb, 0, none⟩) ∧ wx.cell? ⟨sb, 0, none⟩ = some (.int .i64 N) ∧ wx.cell? ⟨sb, 1, none⟩ = some (.slice a n c) ∧
 wx.cell? ⟨sb, 2, none⟩ = some (.slice (some ⟨gm, 0, none⟩) N N) ∧ wx.cell? ⟨sb, 3, none⟩ = some (.slice (some ⟨gb, 0, none⟩) N N) ∧ OTab wx B 3 gm N N pzero.m ∧ OTab wx B 3 gb N N pzero.b ∧ (gm ≠ gb ∧ sb ≠ gm ∧ sb ≠ gb) ∧ Below B W wx
end Go.Proofs.YtjjikhaaimfneaaGreatDoor
namespace Go.Proofs.YtjjikhaaimfneaaGreatDoor
open Go.RowKit
set_option linter.unusedSimpArgs false
set_option linter.unusedVariables false
attribute [local go_sem] iteMin iteMax iteMinN iteMaxN
set_option maxRecDepth 100000 in
set_option maxHeartbeats 4000000 in
theorem round_any (N : Nat) (a : Option Addr) (n c : Nat) (es : List GE) (W0 w : World) (sb gm cm gb cb : Nat) (s : PS) (M : Int) (hE : EdgesAt W0 a n c es) (hW : Below W0.heap.size W0 w) (hg : GraphOk (N : Int) es)
 (b1 : w.cell? ⟨sb, 1, none⟩ = some (.slice a n c)) (b2 : w.cell? ⟨sb, 2, none⟩ = some (.slice (some ⟨gm, 0, none⟩) N cm)) (b3 : w.cell? ⟨sb, 3, none⟩ = some (.slice (some ⟨gb, 0, none⟩) N cb))
 (hm : OTab w W0.heap.size 3 gm N cm s.m) (hb : OTab w W0.heap.size 3 gb N cb s.b) (hne : gm ≠ gb) (hn1 : sb ≠ gm) (hn2 : sb ≠ gb) (hs : ∀ v, 0 ≤ s.m v ∧ s.m v ≤ M) (hM : M ≤ 1152921504606846976) :
 Calls Tryz.prog 86 #[.pointer (some ⟨sb, 0, none⟩)] w fun e w' => e = .returned (.int .i64 (pround (pes es) s).last) ∧ OTab w' W0.heap.size 3 gm N cm (pround (pes es) s).m ∧ OTab w' W0.heap.size 3 gb N cb (pround (pes es) s).b ∧ Two w w' gm gb := by
 have HG := hide hg
 have HL := hide hE.len
 have hn4 : (n : Int) ≤ 4800 := by have := hg.1.2.2; rw [hE.len] at this; omega
 have HE := hide hE
 have HW := hide hW
 have HB := hide (And.intro b1 (And.intro b2 b3))
 have HNE := hide (And.intro hne (And.intro hn1 hn2))
 have HS := hide hs
 have hsb : sb < w.heap.size := World.block_lt_of_cell? w _ b1
 have HSB := hide hsb
 clear hg hE hW hs hne hn1 hn2 b2 b3 hsb
 go_enter Tryz.func86, Tryz.ntmps86
 go_wp2
 go_loopw [3, 13] (fun l i wr => ∃ k : Nat, ∃ q : PS, k ≤ n ∧ i = .int .i64 k ∧ l = .int .i64 q.last ∧ Hid (q = prun ((pes es).take k) 0 { s with last := -1 }) ∧ OTab wr W0.heap.size 3 gm N cm q.m ∧ OTab wr W0.heap.size 3 gb N cb q.b ∧ Two w wr gm gb) (fun _ i _ => n - (intOf i).toNat)
 case atStart => exact ⟨0, { s with last := -1 }, Nat.zero_le _, rfl, rfl, hide rfl, hm, hb, Two.refl _ _ _⟩
 case round =>
  clear hm hb b1
  obtain ⟨k, q, hk, rfl, rfl, HQ, hm, hb, hT⟩ := hrel
  have k0 : (0 : Int) ≤ (k : Int) := Int.natCast_nonneg _
  by_cases hlt : k < n
  · have k1 : (k : Int) < (n : Int) := by omega
    have hBW : Below W0.heap.size W0 wr := HW.out.trans (hT.below HW.out.size (OTab.lt hm).1 (OTab.lt hb).1)
    obtain ⟨ad, x, y, z, rfl, hbd, HX, d0, d1, d2⟩ := HE.out.getB hBW hlt
    have hok := HG.out.2 _ (List.mem_of_getElem? HX.out)
    unfold EdgeOk at hok
    simp only at hok
    obtain ⟨sv, rfl⟩ : ∃ sv : Nat, x = (sv : Int) := ⟨x.toNat, by omega⟩
    obtain ⟨tv, rfl⟩ : ∃ tv : Nat, y = (tv : Int) := ⟨y.toNat, by omega⟩
    obtain ⟨o0, o1, o2, o3, o4, o5⟩ := hok
    have hsN : sv < N := by omega
    have htN : tv < N := by omega
    have HP := hide (prun_take (pes_get HX.out) { s with last := -1 })
    have hqb := prun_b HG.out (s := { s with last := -1 }) HS.out k (by rw [HL.out]; omega) sv
    rw [← HQ.out] at hqb
    obtain ⟨Ms, hMs⟩ : ∃ Ms, q.m sv = Ms := ⟨_, rfl⟩
    obtain ⟨Mt, hMt⟩ : ∃ Mt, q.m tv = Mt := ⟨_, rfl⟩
    rw [hMs] at hqb
    obtain ⟨hq1, hq2⟩ := hqb
    have hq3 : Ms ≤ 1152921509639946240 := by omega
    have HMs := hide hMs
    have HMt := hide hMt
    have hml := (OTab.lt hm).2
    have hbl := (OTab.lt hb).2
    obtain ⟨wa, hwa⟩ : ∃ wa, wa = wr.alloc (.cells #[.int .i64 sv, .int .i64 tv, .int .i64 z] 86) := ⟨_, rfl⟩
    obtain ⟨Eb, hEb⟩ : ∃ Eb, wr.heap.size = Eb := ⟨_, rfl⟩
    have g0 : wa.cell? ⟨Eb, 0, none⟩ = some (.int .i64 sv) := by rw [hwa, ← hEb]; simp [go_sem]
    have g1 : wa.cell? ⟨Eb, 1, none⟩ = some (.int .i64 tv) := by rw [hwa, ← hEb]; simp [go_sem]
    have g2 : wa.cell? ⟨Eb, 2, none⟩ = some (.int .i64 z) := by rw [hwa, ← hEb]; simp [go_sem]
    have hm' : OTab wa W0.heap.size 3 gm N cm q.m := by rw [hwa]; exact hm.alloc _
    have hb' : OTab wa W0.heap.size 3 gb N cb q.b := by rw [hwa]; exact hb.alloc _
    have hT' : Two w wa gm gb := by rw [hwa]; exact hT.alloc _
    have f1 : wa.cell? ⟨gm, sv, none⟩ = some (.int .i64 Ms) := by rw [← hMs]; exact hm'.cell hsN
    have f2 : wa.cell? ⟨gm, tv, none⟩ = some (.int .i64 Mt) := by rw [← hMt]; exact hm'.cell htN
    have f3 := hm'.free tv
    have f4 := hb'.free tv
    have f5 := hb'.cell htN
    have s1 : wr.cell? ⟨sb, 1, none⟩ = some (.slice (some ad) n c) := hT.cell HNE.out.2.1 HNE.out.2.2 HB.out.1
    have s2 : wa.cell? ⟨sb, 2, none⟩ = some (.slice (some ⟨gm, 0, none⟩) N cm) := hT'.cell HNE.out.2.1 HNE.out.2.2 HB.out.2.1
    have s3 : wa.cell? ⟨sb, 3, none⟩ = some (.slice (some ⟨gb, 0, none⟩) N cb) := hT'.cell HNE.out.2.1 HNE.out.2.2 HB.out.2.2
    have sv0 : (0 : Int) ≤ (sv : Int) := Int.natCast_nonneg _
    have sv1 : (sv : Int) < (N : Int) := by omega
    have tv0 : (0 : Int) ≤ (tv : Int) := Int.natCast_nonneg _
    have tv1 : (tv : Int) < (N : Int) := by omega
    have hne : gm ≠ gb := HNE.out.1
    have hne2 : gb ≠ gm := fun e => hne e.symm
    have hn3 : Eb ≠ gm := by omega
    have hn4' : Eb ≠ gb := by omega
    have hn5 : gm ≠ Eb := by omega
    have hn6 : gb ≠ Eb := by omega
    have hn7 : sb ≠ gm := HNE.out.2.1
    have hn8 : sb ≠ gb := HNE.out.2.2
    clear hml hbl
    have HM := hide hm'
    have HBB := hide hb'
    have HT := hide hT'
    clear hMs hMt hm hb hT hm' hb' hT' hBW
    by_cases hv : Mt < Ms + z
    · have HSt := hide (show pstep q k (peOf ⟨sv, tv, z⟩) = ⟨upd q.m tv (Ms + z), upd q.b tv k, tv⟩ by
       rw [← HMs.out]; exact if_pos (show q.m tv < q.m sv + z by rw [HMt.out, HMs.out]; exact hv))
      go_wp2
      rw [← hwa]
      clear hwa hEb
      go_quiet (fail)
      go_wp2
      go_quiet (fail)
      go_wp2
      go_region
      all_goals go_wp2
      all_goals go_roundw
      case rel => exact ⟨k + 1, ⟨upd q.m tv (Ms + z), upd q.b tv k, tv⟩, by omega, by go_num, rfl, hide (by rw [HP.out, ← HQ.out, HSt.out]), (by first | exact OTab.setFar (OTab.set (HM.out.drewN _) htN (by simp [upd]) (fun v hv hne => by simp [upd, hne])) (fun e => HNE.out.1 e.symm) | exact OTab.set (OTab.setFar (HM.out.drewN _) (fun e => HNE.out.1 e.symm)) htN (by simp [upd]) (fun v hv hne => by simp [upd, hne])), (by first | exact OTab.set (OTab.setFar (HBB.out.drewN _) HNE.out.1) htN (by simp [upd]) (fun v hv hne => by simp [upd, hne]) | exact OTab.setFar (OTab.set (HBB.out.drewN _) htN (by simp [upd]) (fun v hv hne => by simp [upd, hne])) HNE.out.1), (by first | exact ((HT.out.drewN _).set1 _ _).set2 _ _ | exact ((HT.out.drewN _).set2 _ _).set1 _ _)⟩
      case measure => (simp [intOf] <;> omega)
    · have HSt := hide (show pstep q k (peOf ⟨sv, tv, z⟩) = q by
       exact if_neg (show ¬ q.m tv < q.m sv + z by rw [HMt.out, HMs.out]; exact hv))
      have hv' : Ms + z ≤ Mt := by omega
      clear hv
      go_wp2
      rw [← hwa]
      clear hwa hEb
      go_quiet (fail)
      go_wp2
      go_quiet (fail)
      go_wp2
      go_roundw
      case rel => exact ⟨k + 1, q, by omega, by go_num, rfl, hide (by rw [HP.out, ← HQ.out, HSt.out]), HM.out.drewN _, HBB.out.drewN _, HT.out.drewN _⟩
      case measure => (simp [intOf] <;> omega)
  · obtain rfl : k = n := by omega
    have hall : (pes es).take k = pes es := List.take_of_length_le (by rw [pes_len, HL.out]; omega)
    have HF := hide (show q = pround (pes es) s by have := HQ.out; rw [hall] at this; exact this)
    clear hall
    go_wp2
    go_ret
    exact ⟨retI (congrArg PS.last HF.out), by rw [← HF.out]; exact hm, by rw [← HF.out]; exact hb, hT⟩
end Go.Proofs.YtjjikhaaimfneaaGreatDoor
namespace Go.Proofs.YtjjikhaaimfneaaGreatDoor
open Go.RowKit
set_option linter.unusedSimpArgs false
set_option linter.unusedVariables false
attribute [local go_sem] iteMin iteMax iteMinN iteMaxN
def WrongI (N : Int) (es : List GE) (r : Int) : Prop := (r = 0 ∧ GraphOk N es) ∨ (r = 2 ∧ ¬ GraphOk N es)
def IsWrong (N : Int) (es : List GE) (e : Ending) : Prop := ∃ r, WrongI N es r ∧ e = .returned (.int .i64 r)
theorem isWrong0 {N : Int} {es : List GE} (h : GraphOk N es) : IsWrong N es (.returned (.int .i64 0)) := ⟨0, .inl ⟨rfl, h⟩, rfl⟩
theorem isWrong2 {N : Int} {es : List GE} (h : ¬ GraphOk N es) : IsWrong N es (.returned (.int .i64 2)) := ⟨2, .inr ⟨rfl, h⟩, rfl⟩
set_option maxRecDepth 100000 in
set_option maxHeartbeats 8000000 in
theorem wrong_any (N : Int) (a : Option Addr) (n c : Nat) (es : List GE) (w : World) (h : EdgesAt w a n c es) :
 Calls Tryz.prog 45 #[.agg #[.int .i64 N, .slice a n c]] w fun e w' => IsWrong N es e ∧ Below w.heap.size w w' := by
 have HL := hide h.len
 have hlim := h.lim
 have hB0 : Below w.heap.size w (w.alloc (.cells #[.int .i64 N, .slice a n c] 57)) := (Below.refl _ _).alloc (Nat.le_refl _) _
 rcases (show N < 0 ∨ (0 ≤ N ∧ 300 < N) ∨ (0 ≤ N ∧ N ≤ 300 ∧ 4800 < n) ∨ (0 ≤ N ∧ N ≤ 300 ∧ n ≤ 4800) by omega) with h1 | ⟨h1, h2⟩ | ⟨h1, h2, h3⟩ | ⟨h1, h2, h3⟩
 · have HF := hide (show ¬ GraphOk N es from fun hg => by have := hg.1.1; omega)
   clear h
   go_enter Tryz.func45, Tryz.ntmps45
   go_wp2
   go_ret
   exact ⟨isWrong2 HF.out, hB0⟩
 · have HF := hide (show ¬ GraphOk N es from fun hg => by have := hg.1.2.1; omega)
   have hd : ¬ N < 0 := by omega
   clear h
   go_enter Tryz.func45, Tryz.ntmps45
   go_wp2
   go_ret
   exact ⟨isWrong2 HF.out, hB0⟩
 · have HF := hide (show ¬ GraphOk N es from fun hg => by have := hg.1.2.2; have := HL.out; omega)
   have hd : ¬ N < 0 := by omega
   have hd2 : ¬ 300 < N := by omega
   have hd3 : (4800 : Int) < (n : Int) := by omega
   clear h
   go_enter Tryz.func45, Tryz.ntmps45
   go_wp2
   go_ret
   exact ⟨isWrong2 HF.out, hB0⟩
 · have hd3 : (n : Int) ≤ 4800 := by omega
   obtain ⟨W, hW⟩ : ∃ W, W = w.alloc (.cells #[.int .i64 N, .slice a n c] 57) := ⟨_, rfl⟩
   have b0 : W.cell? ⟨w.heap.size, 0, none⟩ = some (.int .i64 N) := by rw [hW]; simp [go_sem]
   have hWs : W.heap.size = w.heap.size + 1 := by rw [hW]; simp
   have HW := hide hWs
   rw [← hW] at hB0
   have HB0 := hide hB0
   clear hWs hB0
   go_enter Tryz.func45, Tryz.ntmps45
   go_wp2
   rw [← hW]
   clear hW
   go_loopw [22] (fun i wr => ∃ k : Nat, k ≤ n ∧ i = .int .i64 k ∧ Hid (∀ j e, j < k → es[j]? = some e → EdgeOk N e) ∧ Below W.heap.size W wr) (fun i _ => n - (intOf i).toNat)
   case atStart => exact ⟨0, Nat.zero_le _, rfl, hide fun j e hj => absurd hj (by omega), Below.refl _ _⟩
   case round =>
    obtain ⟨k, hk, rfl, HA, hB⟩ := hrel
    have k0 : (0 : Int) ≤ (k : Int) := Int.natCast_nonneg _
    have hBs := hB.size
    by_cases hlt : k < n
    · have k1 : (k : Int) < (n : Int) := by omega
      have c0 : wr.cell? ⟨w.heap.size, 0, none⟩ = some (.int .i64 N) := (hB.cell (by show w.heap.size < _; have := HW.out; omega)).trans b0
      obtain ⟨ad, x, y, z, rfl, hbd, HX, e0, e1, e2⟩ := h.getB (HB0.out.trans (hB.mono (by have := HW.out; omega))) hlt
      have hs1 : w.heap.size < wr.heap.size := by have := HW.out; omega
      have HBB := hide (HB0.out.trans (hB.mono (by have := HW.out; omega)))
      rcases (show x < 0 ∨ (0 ≤ x ∧ N ≤ x) ∨ (0 ≤ x ∧ x < N ∧ y < 0) ∨ (0 ≤ x ∧ x < N ∧ 0 ≤ y ∧ N ≤ y) ∨ (0 ≤ x ∧ x < N ∧ 0 ≤ y ∧ y < N ∧ z < -1048576) ∨ (0 ≤ x ∧ x < N ∧ 0 ≤ y ∧ y < N ∧ -1048576 ≤ z ∧ 1048576 < z) ∨ (0 ≤ x ∧ x < N ∧ 0 ≤ y ∧ y < N ∧ -1048576 ≤ z ∧ z ≤ 1048576) by omega) with q | ⟨q0, q⟩ | ⟨q0, q1, q⟩ | ⟨q0, q1, q2, q⟩ | ⟨q0, q1, q2, q3, q⟩ | ⟨q0, q1, q2, q3, q4, q⟩ | ⟨q0, q1, q2, q3, q4, q5⟩
      · have HF := hide (show ¬ GraphOk N es from fun hg => by have := hg.2 _ (List.mem_of_getElem? HX.out); unfold EdgeOk at this; simp only at this; omega)
        go_wp2
        go_ret
        exact ⟨isWrong2 HF.out, HBB.out.alloc (by omega) _⟩
      · have HF := hide (show ¬ GraphOk N es from fun hg => by have := hg.2 _ (List.mem_of_getElem? HX.out); unfold EdgeOk at this; simp only at this; omega)
        go_wp2
        go_ret
        exact ⟨isWrong2 HF.out, HBB.out.alloc (by omega) _⟩
      · have HF := hide (show ¬ GraphOk N es from fun hg => by have := hg.2 _ (List.mem_of_getElem? HX.out); unfold EdgeOk at this; simp only at this; omega)
        go_wp2
        go_ret
        exact ⟨isWrong2 HF.out, HBB.out.alloc (by omega) _⟩
      · have HF := hide (show ¬ GraphOk N es from fun hg => by have := hg.2 _ (List.mem_of_getElem? HX.out); unfold EdgeOk at this; simp only at this; omega)
        go_wp2
        go_ret
        exact ⟨isWrong2 HF.out, HBB.out.alloc (by omega) _⟩
      · have HF := hide (show ¬ GraphOk N es from fun hg => by have := hg.2 _ (List.mem_of_getElem? HX.out); unfold EdgeOk at this; simp only at this; omega)
        go_wp2
        go_ret
        exact ⟨isWrong2 HF.out, HBB.out.alloc (by omega) _⟩
      · have HF := hide (show ¬ GraphOk N es from fun hg => by have := hg.2 _ (List.mem_of_getElem? HX.out); unfold EdgeOk at this; simp only at this; omega)
        go_wp2
        go_ret
        exact ⟨isWrong2 HF.out, HBB.out.alloc (by omega) _⟩
      · go_wp2
        go_roundw
        case rel => exact ⟨k + 1, by omega, by go_num, hide fun j e hj he => by
         rcases (show j < k ∨ j = k by omega) with h4 | rfl
         · exact HA.out j e h4 he
         · have := HX.out; rw [he] at this; injection this with this; subst this; exact ⟨q0, q1, q2, q3, q4, q5⟩, hB.alloc hBs _⟩
        case measure => (simp [intOf] <;> omega)
    · obtain rfl : k = n := by omega
      have HF := hide (show GraphOk N es from ⟨⟨h1, h2, by rw [HL.out]; exact h3⟩, fun e he => by
       obtain ⟨j, hj, rfl⟩ := List.getElem_of_mem he
       exact HA.out j _ (by rw [HL.out] at hj; exact hj) (List.getElem?_eq_getElem hj)⟩)
      have HBB := hide (HB0.out.trans (hB.mono (by have := HW.out; omega)))
      clear h
      go_wp2
      go_ret
      exact ⟨isWrong0 HF.out, HBB.out⟩
end Go.Proofs.YtjjikhaaimfneaaGreatDoor
namespace Go.Proofs.YtjjikhaaimfneaaGreatDoor
open Go.RowKit
set_option linter.unusedSimpArgs false
set_option linter.unusedVariables false
attribute [local go_sem] iteMin iteMax iteMinN iteMaxN
theorem fold_take {xs : List Int} {k : Nat} {x : Int} (h : xs[k]? = some x) : (xs.take (k + 1)).foldl max 0 = max ((xs.take k).foldl max 0) x := by
 rw [List.take_add_one, h]; simp [List.foldl_append]
set_option maxHeartbeats 2000000 in
theorem smax_any (a : Option Addr) (n c : Nat) (xs : List Int) (w : World) (h : IntsAt w a n c xs) (h0 : 0 < n) (hx : ∀ x ∈ xs, 0 ≤ x) :
 Calls Tryz.prog 39 #[.slice a n c] w fun e w' => e = .returned (.int .i64 (xs.foldl max 0)) ∧ w = w' := by
 have HL := hide h.len
 have hlim := h.lim
 obtain ⟨ad0, x0, rfl, hb0, hc0, HX0⟩ := h.get0 (Below.refl _ _) h0
 have n0 : (0 : Int) < (n : Int) := by omega
 have n1 : ¬ ((n : Int) < 1) := by omega
 have HS := hide (show x0 = (xs.take 1).foldl max 0 by
  rw [fold_take (k := 0) HX0.out]
  have := hx x0 (List.mem_of_getElem? HX0.out)
  simp; omega)
 go_enter Tryz.func39, Tryz.ntmps39
 go_wp2
 clear hc0 HX0
 go_loop [3, 4] (fun m i => ∃ k : Nat, 1 ≤ k ∧ k ≤ n ∧ i = .int .i64 k ∧ m = .int .i64 ((xs.take k).foldl max 0)) (fun _ i => n - (intOf i).toNat)
 case atStart => exact ⟨1, Nat.le_refl _, h0, rfl, by rw [HS.out]⟩
 case round =>
  obtain ⟨k, hk1, hk, rfl, rfl⟩ := hrel
  have k0 : (0 : Int) ≤ (k : Int) := Int.natCast_nonneg _
  by_cases hlt : k < n
  · obtain ⟨ad, x, e, hbd, hc, HX⟩ := h.getB (Below.refl _ _) hlt
    injection e with e
    subst e
    have k1 : (k : Int) < (n : Int) := by omega
    have HE := hide (fold_take HX.out)
    obtain ⟨M, hM⟩ : ∃ M, (xs.take k).foldl max 0 = M := ⟨_, rfl⟩
    rw [hM] at HE ⊢
    clear h hM HX
    go_wp2
    go_round
    case rel => exact ⟨k + 1, by omega, by omega, by go_num, by rw [HE.out]⟩
    case measure => simp [intOf]; omega
  · have HF := hide (show xs.foldl max 0 = (xs.take k).foldl max 0 by rw [List.take_of_length_le (by rw [HL.out]; omega)])
    obtain ⟨M, hM⟩ : ∃ M, (xs.take k).foldl max 0 = M := ⟨_, rfl⟩
    rw [hM] at HF ⊢
    clear h hM
    go_wp2
    go_ret
    exact ⟨by rw [HF.out]; rfl, rfl⟩
end Go.Proofs.YtjjikhaaimfneaaGreatDoor
