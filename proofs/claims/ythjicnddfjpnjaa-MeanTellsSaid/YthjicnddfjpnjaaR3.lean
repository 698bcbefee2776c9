/-
  THREE ROWS of the call's own, of ints, apart from one another. No program in sight.
-/
import Derived.Test.YthjicnddfjpnjaaSl
import Derived.OneCell
namespace Go.Proofs.Ythjicnddfjpnjaa
open Go.RowKit
set_option linter.unusedSimpArgs false
set_option linter.unusedVariables false

/-- two values own different rows -/
def Ap (a b : Value) : Prop := a.ownBlock = none ∨ a.ownBlock ≠ b.ownBlock
theorem Ap.symm {a b : Value} (h : Ap a b) : Ap b a := by
  unfold Ap at *
  rcases h with h | h
  · by_cases hb : b.ownBlock = none
    · exact .inl hb
    · exact .inr (by rw [h]; exact hb)
  · exact .inr (fun e => h e.symm)
theorem Ap.new {a v : Value} {g H cap n : Nat} (h : Ap a v) (hg : v.ownBlock = some g ∨ g = H) (ha : ∀ k, a.ownBlock = some k → k < H) : Ap a (.slice (some ⟨g, 0, none⟩) n cap) := by
  unfold Ap at *
  rcases h with h | h
  · exact .inl h
  · by_cases hn : a.ownBlock = none
    · exact .inl hn
    · right
      intro e
      have e2 : a.ownBlock = some g := e
      rcases hg with hg | rfl
      · exact h (by rw [hg, e2])
      · have := ha _ e2; omega
theorem Ap.nil (b : Value) : Ap (.slice none 0 0) b := .inl rfl
/-- three rows of the call's own, of ints, each apart from the others -/
structure R3 (w : World) (B e : Nat) (A1 A2 A3 : List Int) (v1 : Value) (k1 : Nat) (v2 : Value) (k2 : Nat) (v3 : Value) (k3 : Nat) : Prop where
  o1 : w.ownsRow B e 1 v1 k1 ((A1.take k1).map (Value.int .i64))
  o2 : w.ownsRow B e 1 v2 k2 ((A2.take k2).map (Value.int .i64))
  o3 : w.ownsRow B e 1 v3 k3 ((A3.take k3).map (Value.int .i64))
  a12 : Ap v1 v2
  a13 : Ap v1 v3
  a23 : Ap v2 v3
section
variable {w w' : World} {B e k1 k2 k3 : Nat} {A1 A2 A3 : List Int} {v1 v2 v3 : Value}
theorem R3.alloc (h : R3 w B e A1 A2 A3 v1 k1 v2 k2 v3 k3) (o : Obj) : R3 (w.alloc o) B e A1 A2 A3 v1 k1 v2 k2 v3 k3 := ⟨h.o1.alloc o, h.o2.alloc o, h.o3.alloc o, h.a12, h.a13, h.a23⟩
theorem R3.drew (h : R3 w B e A1 A2 A3 v1 k1 v2 k2 v3 k3) : R3 w.drew B e A1 A2 A3 v1 k1 v2 k2 v3 k3 := ⟨h.o1, h.o2, h.o3, h.a12, h.a13, h.a23⟩
theorem R3.drewN (h : R3 w B e A1 A2 A3 v1 k1 v2 k2 v3 k3) (m : Nat) : R3 (w.drewN m) B e A1 A2 A3 v1 k1 v2 k2 v3 k3 := ⟨h.o1, h.o2, h.o3, h.a12, h.a13, h.a23⟩
/-- a write below the rows -/
theorem R3.kept (h : R3 w B e A1 A2 A3 v1 k1 v2 k2 v3 k3) {g : Nat} (hg : w.grownBy w' (some g)) (hB : g < B) : R3 w' B e A1 A2 A3 v1 k1 v2 k2 v3 k3 := by
  have key : ∀ {v : Value} {n : Nat} {xs : List Value}, w.ownsRow B e 1 v n xs → w'.ownsRow B e 1 v n xs := fun ho => ho.kept hg (.inr (fun e => by have := own_row ho g e; omega))
  exact ⟨key h.o1, key h.o2, key h.o3, h.a12, h.a13, h.a23⟩
theorem R3.push1 (h : R3 w B e A1 A2 A3 v1 k1 v2 k2 v3 k3) {g cap H : Nat} {x : Int} (hk : k1 < A1.length) (hx : x = A1.getD k1 0) (ho : w'.ownsRow B e 1 (.slice (some ⟨g, 0, none⟩) (k1 + 1) cap) (k1 + 1) ((A1.take k1).map (Value.int .i64) ++ [.int .i64 x]))
    (hg : w.grownBy w' v1.ownBlock) (hat : v1.ownBlock = some g ∨ g = H) (hH : w.heap.size ≤ H) : R3 w' B e A1 A2 A3 (.slice (some ⟨g, 0, none⟩) (k1 + 1) cap) (k1 + 1) v2 k2 v3 k3 :=
  ⟨own_next hk hx ho, h.o2.kept hg h.a12.symm, h.o3.kept hg h.a13.symm, (h.a12.symm.new hat (fun k hk => Nat.lt_of_lt_of_le (h.o2.lt k hk).2 hH)).symm, (h.a13.symm.new hat (fun k hk => Nat.lt_of_lt_of_le (h.o3.lt k hk).2 hH)).symm, h.a23⟩
theorem R3.push2 (h : R3 w B e A1 A2 A3 v1 k1 v2 k2 v3 k3) {g cap H : Nat} {x : Int} (hk : k2 < A2.length) (hx : x = A2.getD k2 0) (ho : w'.ownsRow B e 1 (.slice (some ⟨g, 0, none⟩) (k2 + 1) cap) (k2 + 1) ((A2.take k2).map (Value.int .i64) ++ [.int .i64 x]))
    (hg : w.grownBy w' v2.ownBlock) (hat : v2.ownBlock = some g ∨ g = H) (hH : w.heap.size ≤ H) : R3 w' B e A1 A2 A3 v1 k1 (.slice (some ⟨g, 0, none⟩) (k2 + 1) cap) (k2 + 1) v3 k3 :=
  ⟨h.o1.kept hg h.a12, own_next hk hx ho, h.o3.kept hg h.a23.symm, h.a12.new hat (fun k hk => Nat.lt_of_lt_of_le (h.o1.lt k hk).2 hH), h.a13, (h.a23.symm.new hat (fun k hk => Nat.lt_of_lt_of_le (h.o3.lt k hk).2 hH)).symm⟩
theorem R3.push3 (h : R3 w B e A1 A2 A3 v1 k1 v2 k2 v3 k3) {g cap H : Nat} {x : Int} (hk : k3 < A3.length) (hx : x = A3.getD k3 0) (ho : w'.ownsRow B e 1 (.slice (some ⟨g, 0, none⟩) (k3 + 1) cap) (k3 + 1) ((A3.take k3).map (Value.int .i64) ++ [.int .i64 x]))
    (hg : w.grownBy w' v3.ownBlock) (hat : v3.ownBlock = some g ∨ g = H) (hH : w.heap.size ≤ H) : R3 w' B e A1 A2 A3 v1 k1 v2 k2 (.slice (some ⟨g, 0, none⟩) (k3 + 1) cap) (k3 + 1) :=
  ⟨h.o1.kept hg h.a13, h.o2.kept hg h.a23, own_next hk hx ho, h.a12, h.a13.new hat (fun k hk => Nat.lt_of_lt_of_le (h.o1.lt k hk).2 hH), h.a23.new hat (fun k hk => Nat.lt_of_lt_of_le (h.o2.lt k hk).2 hH)⟩
end
/-- a block that was laid behind all rows' blocks reads as it did when a row is written -/
theorem far_row {w w' : World} {B e n S b : Nat} {v u : Value} {xs : List Value} {w0 : World} (h0 : w0.ownsRow B e 1 v n xs) (hg : w.grownBy w' v.ownBlock) (hS : w0.heap.size = S) (hb : S ≤ b) (hc : w.cell? ⟨b, 0, none⟩ = some u) : w'.cell? ⟨b, 0, none⟩ = some u := by
  have hlt := World.block_lt_of_cell? w _ hc
  refine (hg.cell_far _ hlt (fun e => ?_)).trans hc
  have := (h0.lt b e.symm).2
  omega
theorem box_row {w w' : World} {B e n b j : Nat} {v u : Value} {xs : List Value} {w0 : World} (h0 : w0.ownsRow B e 1 v n xs) (hg : w.grownBy w' v.ownBlock) (hb : b < B) (hc : w.cell? ⟨b, j, none⟩ = some u) : w'.cell? ⟨b, j, none⟩ = some u := by
  have hlt := World.block_lt_of_cell? w _ hc
  exact (hg.cell_far _ hlt (own_far h0 hb)).trans hc
theorem news_alloc {w : World} {b : Nat} {u : Value} {o : Obj} (h : w.cell? ⟨b, 0, none⟩ = some u) : (w.alloc o).cell? ⟨b, 0, none⟩ = some u := by
  have hlt := World.block_lt_of_cell? w _ h
  exact (((Below.refl w.heap.size w).alloc (Nat.le_refl _) o).cell hlt).trans h
theorem alloc_cell {w : World} {p : Addr} {u : Value} {o : Obj} (h : w.cell? p = some u) : (w.alloc o).cell? p = some u :=
  (((Below.refl w.heap.size w).alloc (Nat.le_refl _) o).cell (World.block_lt_of_cell? w _ h)).trans h
theorem drew_cell {w : World} {p : Addr} {u : Value} (h : w.cell? p = some u) : w.drew.cell? p = some u := h
theorem blk_alloc {w : World} {b : Nat} {o p : Obj} (h : w.heap[b]? = some o) : (w.alloc p).heap[b]? = some o := (Below.heap_alloc w p b (lt_of_block h)).trans h
theorem blk_drew {w : World} {b : Nat} {o : Obj} (h : w.heap[b]? = some o) : w.drew.heap[b]? = some o := h
theorem blk_row {w w' : World} {B e n b : Nat} {v : Value} {o : Obj} {xs : List Value} {w0 : World} (h0 : w0.ownsRow B e 1 v n xs) (hg : w.grownBy w' v.ownBlock) (hb : b < B) (h : w.heap[b]? = some o) : w'.heap[b]? = some o :=
  (hg.block b (lt_of_block h) (own_far h0 hb)).trans h
theorem bel_row {a w w' : World} {B e n C : Nat} {v : Value} {xs : List Value} {w0 : World} (h0 : w0.ownsRow B e 1 v n xs) (hg : w.grownBy w' v.ownBlock) (hC : C ≤ B) (hs : C ≤ w.heap.size) (h : Below C a w) : Below C a w' :=
  h.grown hg hs (fun k hk => Nat.le_trans hC (own_row h0 k hk))
theorem news_drew {w : World} {b : Nat} {u : Value} (h : w.cell? ⟨b, 0, none⟩ = some u) : w.drew.cell? ⟨b, 0, none⟩ = some u := h
theorem news_new {w : World} {b : Nat} {u : Value} {t : TypeId} (h : w.heap.size = b) : (w.alloc (.cells #[u] t)).cell? ⟨b, 0, none⟩ = some u := by
  subst h; unfold World.cell?; rw [heap_alloc_new w _]; rfl
theorem news_list {w : World} {b : Nat} {u : Value} (h : w.cell? ⟨b, 0, none⟩ = some u) : ∀ (j : Nat) (x : Value), [u][j]? = some x → w.cell? ((⟨b, 0, none⟩ : Addr).add j) = some x := by
  intro j x hj
  have hj0 : j = 0 := by
    have := (List.getElem?_eq_some_iff.1 hj).1
    simp at this; omega
  subst hj0
  simp at hj
  subst hj
  have : (⟨b, 0, none⟩ : Addr).add 0 = ⟨b, 0, none⟩ := by unfold Addr.add; simp
  rw [this]; exact h

end Go.Proofs.Ythjicnddfjpnjaa
