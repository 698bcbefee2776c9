/-
  LEMMAS: the deque's frame in window.slide.
-/
import Derived.Test.YthjicnddfjpnjaaOld
import Derived.Test.YthjicnddfjpnjaaSlPlain
import Derived.Test.YthjicnddfjpnjaaBSl
import Derived.Maps.AppendAt
namespace Go.Proofs.Ythjicnddfjpnjaa
open Go.RowKit
set_option linter.unusedSimpArgs false
set_option linter.unusedVariables false

attribute [local go_sem] iteMin iteMax iteMinN iteMaxN

/-- two slices that lie apart -/
def Apart (o v : Value) : Prop := o.ownBlock = none ∨ o.ownBlock ≠ v.ownBlock
theorem Apart.ne {o v : Value} (h : Apart o v) {g : Nat} (hg : o.ownBlock = some g) : some g ≠ v.ownBlock := fun e => by
  rcases h with h | h
  · rw [h] at hg; cases hg
  · exact h (hg.trans e)
theorem Apart.of {o v : Value} (h : ∀ g, o.ownBlock = some g → some g ≠ v.ownBlock) : Apart o v := by
  cases ho : o.ownBlock with
  | none => exact .inl ho
  | some g => exact .inr (by rw [ho]; exact h g ho)
theorem Dq.grown {w w' : World} {D : Nat} {fb va vo o : Value} {ks vs : List Int} (h : Dq w D fb va vo ks vs) (hg : w.grownBy w' o.ownBlock) (hD : ∀ g, o.ownBlock = some g → D + 1 ≤ g) (ha : Apart o va) (ho : Apart o vo) : Dq w' D fb va vo ks vs := by
  have hne : ∀ v : Value, Apart o v → v.ownBlock = none ∨ v.ownBlock ≠ o.ownBlock := fun v h => by
    rcases h with h | h
    · rw [h]; cases v.ownBlock <;> simp
    · exact .inr (fun e => h e.symm)
  have hd := h.dc.grown hg (fun e => by have := hD D e.symm; omega)
  exact ⟨hd.a, hd.b, hd.c, hd.fz, h.ra.grown hg (hne va ha), h.rb.grown hg (hne vo ho), h.ap⟩
/-- a row of the call's own that the deque's calls do not touch -/
theorem own_fr {w w' : World} {D n : Nat} {e : TypeId} {v va vo va' vo' : Value} {xs : List Value} (h : w.ownsRow (D + 1) e 1 v n xs) (hf : Fr w w' D va vo va' vo') (ha : Apart v va) (ho : Apart v vo) : w'.ownsRow (D + 1) e 1 v n xs := by
  obtain ⟨hl, h⟩ := h
  rcases h with ⟨rfl, rfl⟩ | ⟨g, cap, cur, rfl, hg, hh, hn, hm, hs, hx⟩
  · exact ⟨hl, .inl ⟨rfl, rfl⟩⟩
  · have hgl : g < w.heap.size := (Array.getElem?_eq_some_iff.1 hh).1
    exact ⟨hl, .inr ⟨g, cap, cur, rfl, hg, by rw [hf.block g hgl (by omega) (ha.ne rfl) (ho.ne rfl)]; exact hh, hn, hm, hs, hx⟩⟩
theorem own_lt {w : World} {B n : Nat} {e : TypeId} {v : Value} {xs : List Value} (h : w.ownsRow B e 1 v n xs) : ∀ g, v.ownBlock = some g → g < w.heap.size := by
  intro g hg
  rcases h.2 with ⟨rfl, _⟩ | ⟨g', cap, cur, rfl, _, hh, _⟩
  · simp [Value.ownBlock] at hg
  · simp only [Value.ownBlock, Option.some.injEq] at hg; subst hg; exact (Array.getElem?_eq_some_iff.1 hh).1
theorem Apart.fr {w w' : World} {D : Nat} {v va vo va' vo' : Value} (hl : ∀ g, v.ownBlock = some g → g < w.heap.size) (hf : Fr w w' D va vo va' vo') (ha : Apart v va) (ho : Apart v vo) : Apart v va' ∧ Apart v vo' :=
  ⟨.of fun g hg e => by
     have := hl g hg
     rcases hf.na g e.symm with h | h
     · exact ha.ne hg h.symm
     · omega,
   .of fun g hg e => by
     have := hl g hg
     rcases hf.no g e.symm with h | h
     · exact ho.ne hg h.symm
     · omega⟩
theorem Apart.put {w : World} {B : Nat} {v v' va : Value} {xs : List Int} (h : Apart v va) (hr : RowC w B va xs) (hat : v'.ownBlock = v.ownBlock ∨ v'.ownBlock = some w.heap.size) : Apart v' va := .of fun g hg e => by
  rcases hat with h1 | h1
  · exact h.ne (h1.symm.trans hg) e
  · have := (hr.lt g e.symm).2
    rw [h1] at hg; injection hg with hg; omega
theorem Fr.base {w w1 w2 : World} {B D : Nat} {va vo va' vo' : Value} {ks vs : List Int} (hf : Fr w1 w2 D va vo va' vo') (hb : Below B w w1) (hB : B ≤ D) (hw : B ≤ w.heap.size) (hra : RowC w1 (D + 1) va ks) (hrb : RowC w1 (D + 1) vo vs) : Below B w w2 :=
  hb.trans ⟨hf.os, hf.tape, hf.output, hf.size, fun b hb' => hf.block b (by have := hb.size; omega) (by omega) (fun e => by have := (hra.lt b e.symm).1; omega) (fun e => by have := (hrb.lt b e.symm).1; omega)⟩
theorem DqStart {w : World} (fb : Value) (t : TypeId) : Dq (w.alloc (.cells #[.slice none 0 0, .slice none 0 0, fb] t)) w.heap.size fb (.slice none 0 0) (.slice none 0 0) [] [] :=
  ⟨by unfold World.cell?; rw [heap_alloc_new w _]; rfl, by unfold World.cell?; rw [heap_alloc_new w _]; rfl, by unfold World.cell?; rw [heap_alloc_new w _]; rfl, fun j => by unfold World.frozen?; rw [heap_alloc_new w _]; simp, .inl ⟨rfl, rfl⟩, .inl ⟨rfl, rfl⟩, .inl rfl⟩

end Go.Proofs.Ythjicnddfjpnjaa
