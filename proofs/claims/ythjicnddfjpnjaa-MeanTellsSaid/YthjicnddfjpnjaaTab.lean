/-
  A ROW of the call's own by its places, with its room.
-/
import Derived.Test.YthjicnddfjpnjaaPMin
import Derived.Laws.NewBlocks
namespace Go.Proofs.Ythjicnddfjpnjaa
open Go.RowKit
set_option linter.unusedSimpArgs false
set_option linter.unusedVariables false

/-- a row of the call's own, by its places, with its room -/
def OTab (w : World) (B e g N cap : Nat) (p : Nat → Int) : Prop := w.ownsRow B e 1 (.slice (some ⟨g, 0, none⟩) N cap) N ((tabI N p).map (Value.int .i64))
section
variable {w w' : World} {B e g N cap : Nat} {p q : Nat → Int}
theorem OTab.cell (h : OTab w B e g N cap p) {k : Nat} (hk : k < N) : w.cell? ⟨g, k, none⟩ = some (.int .i64 (p k)) := by
  rw [h.cellAt k (by omega), List.getElem?_map, tab_at hk]; rfl
theorem OTab.free (h : OTab w B e g N cap p) (k : Nat) : w.frozen? ⟨g, k, none⟩ = false := h.frozenAt k
theorem OTab.set (h : OTab w B e g N cap p) {k : Nat} {v : Int} (hk : k < N) (hv : q k = v) (ho : ∀ t, t < N → t ≠ k → q t = p t) : OTab (w.setCell ⟨g, k, none⟩ (.int .i64 v)) B e g N cap q := by
  have := h.stored k (.int .i64 v)
  unfold OTab
  rw [← tab_set hk hv ho, List.map_set]
  exact this.1
theorem OTab.eq (h : OTab w B e g N cap p) (ho : ∀ t, t < N → q t = p t) : OTab w B e g N cap q := by
  unfold OTab at *; rwa [tab_eq ho]
theorem OTab.drewN (h : OTab w B e g N cap p) (m : Nat) : OTab (w.drewN m) B e g N cap p := h
theorem OTab.drew (h : OTab w B e g N cap p) : OTab w.drew B e g N cap p := h
theorem OTab.alloc (h : OTab w B e g N cap p) (o : Obj) : OTab (w.alloc o) B e g N cap p := World.ownsRow.alloc h o
theorem OTab.lt (h : OTab w B e g N cap p) : B ≤ g ∧ g < w.heap.size := World.ownsRow.lt h g rfl
theorem OTab.below (h : OTab w B e g N cap p) (hb : Below w.heap.size w w') : OTab w' B e g N cap p := by
  obtain ⟨hl, h⟩ := h
  refine ⟨hl, ?_⟩
  rcases h with hn | ⟨g', cap', cur, hv, hg, hgg, rest⟩
  · exact .inl hn
  · exact .inr ⟨g', cap', cur, hv, hg, by rw [hb.block g' (Array.getElem?_eq_some_iff.1 hgg).1]; exact hgg, rest⟩
theorem OTab.kept (h : OTab w B e g N cap p) {row : Option Nat} (hg : w.grownBy w' row) (hne : row ≠ some g) : OTab w' B e g N cap p :=
  World.ownsRow.kept h hg (.inr (fun e => hne e.symm))
theorem OTab.setFar (h : OTab w B e g N cap p) {b j : Nat} {u : Value} (hb : b ≠ g) : OTab (w.setCell ⟨b, j, none⟩ u) B e g N cap p :=
  h.kept (row := some b) (by
    refine ⟨rfl, rfl, rfl, by simp [World.setCell], fun k hk hne => ?_⟩
    have hne' : ¬ b = k := fun e => hne (by rw [e])
    simp [World.setCell, Array.getElem?_modify, hne']) (fun e => hb (by injection e))
theorem OTab.base (h : OTab w B e g N cap p) {B' : Nat} (hB : B' ≤ B) : OTab w B' e g N cap p := by
  obtain ⟨hl, h⟩ := h
  refine ⟨hl, ?_⟩
  rcases h with hn | ⟨g', cap', cur, hv, hg, rest⟩
  · exact .inl hn
  · exact .inr ⟨g', cap', cur, hv, by omega, rest⟩
theorem OTab.cap_ (h : OTab w B e g N cap p) : N ≤ cap := by
  rcases h.2 with ⟨hc, _⟩ | ⟨g', cap', cur, hv, _, _, hn, _⟩
  · cases hc
  · injection hv with _ _ e3; omega
theorem OTab.ints (h : OTab w B e g N cap p) (hN : N ≤ 17592186044416) : IntsAt w (some ⟨g, 0, none⟩) N cap (tabI N p) := by
  refine ⟨tab_len N p, h.cap_, hN, fun h0 => ⟨_, rfl, (OTab.lt h).2, fun j x hj => ?_⟩⟩
  have hjl := (List.getElem?_eq_some_iff.1 hj).1
  rw [tab_len] at hjl
  rw [tab_at hjl] at hj
  injection hj with hj
  subst hj
  rw [show (⟨g, 0, none⟩ : Addr).add j = ⟨g, j, none⟩ by unfold Addr.add; split <;> simp_all]
  exact h.cell hjl
theorem OTab.news (h : OTab w B e g N cap p) : ∀ (j : Nat) (u : Value), ((tabI N p).map (Value.int .i64))[j]? = some u → w.cell? ((⟨g, 0, none⟩ : Addr).add j) = some u := by
  intro j u hj
  rw [show (⟨g, 0, none⟩ : Addr).add j = ⟨g, j, none⟩ by unfold Addr.add; split <;> simp_all]
  rw [List.getElem?_map] at hj
  have hjl : j < N := by
    rcases Nat.lt_or_ge j N with h1 | h1
    · exact h1
    · rw [List.getElem?_eq_none (by rw [tab_len]; exact h1)] at hj; cases hj
  rw [tab_at hjl] at hj
  simp at hj; subst hj
  exact h.cell hjl
theorem tab_one (N : Nat) (p : Nat → Int) : ∀ u ∈ (tabI N p).map (Value.int .i64), u.oneCell' = true := by
  intro u hu
  obtain ⟨x, _, rfl⟩ := List.mem_map.1 hu
  rfl
end
theorem OTab.made {w : World} {B e g N : Nat} (h : w.ownsRow B e 1 (.slice (some ⟨g, 0, none⟩) N N) N (madeCells (Value.int .i64 0).cells (N * 1)).toList) : OTab w B e g N N (fun _ => 0) := OwnTab.made h
/-- a copy, by append onto an empty row -/
theorem OTab.copied {w : World} {B e N : Nat} {v v' : Value} {p : Nat → Int} (h : w.ownsRow B e 1 v' (0 + N) ([] ++ (tabI N p).map (Value.int .i64))) (hn : v' = .slice none 0 0 ↔ v = .slice none 0 0 ∧ N = 0) (hv : v ≠ .slice none 0 0) :
    ∃ g cap, v' = .slice (some ⟨g, 0, none⟩) N cap ∧ OTab w B e g N cap p := by
  rw [Nat.zero_add, List.nil_append] at h
  have h0 := h
  rcases h.2 with ⟨h1, _⟩ | ⟨g, cap, cur, rfl, _⟩
  · exact absurd (hn.1 h1).1 hv
  · exact ⟨g, cap, rfl, h0⟩
theorem own_empty (w : World) (B e g : Nat) (hB : B ≤ w.heap.size) (hg : w.heap.size = g) : (w.alloc (.cells #[] e)).ownsRow B e 1 (.slice (some ⟨g, 0, none⟩) 0 0) 0 [] := by
  subst hg
  exact ⟨rfl, .inr ⟨w.heap.size, 0, #[], rfl, hB, heap_alloc_new w _, Nat.le_refl _, by unfold maxLen; omega, rfl, rfl⟩⟩

end Go.Proofs.Ythjicnddfjpnjaa
