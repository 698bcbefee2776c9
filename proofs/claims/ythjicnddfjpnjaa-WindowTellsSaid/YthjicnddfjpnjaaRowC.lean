/-
  LEMMAS: slices of ints of the call's own, resliced.
-/
import Derived.Test.YthjicnddfjpnjaaClkSl
import Derived.ArgAppend
import Derived.Deep.AppendLies
namespace Go.Proofs.Ythjicnddfjpnjaa
open Go.RowKit
set_option linter.unusedSimpArgs false
set_option linter.unusedVariables false

theorem rcInfo : (Try.prog.info? 3).map (fun i => (i.zero, i.size, i.bytes)) = some (some (.int .i64 0), 1, 8) := by kernel_rfl
/-- A SLICE OF INTS OF THE CALL's OWN, RESLICED OR NOT: nil; or its cells, up to the capacity, lie in a block from B on -/
def RowC (w : World) (B : Nat) (v : Value) (xs : List Int) : Prop :=
  (v = .slice none 0 0 ∧ xs = []) ∨ ∃ g off cap, v = .slice (some ⟨g, off, none⟩) xs.length cap ∧ B ≤ g ∧ g < w.heap.size ∧ xs.length ≤ cap ∧ cap ≤ maxLen ∧
    (∀ j, j < cap → (w.cell? ⟨g, off + j, none⟩).isSome = true ∧ w.frozen? ⟨g, off + j, none⟩ = false) ∧ (∀ j x, xs[j]? = some x → w.cell? ⟨g, off + j, none⟩ = some (.int .i64 x))
section
variable {w w' : World} {B : Nat} {v : Value} {xs : List Int}
theorem RowC.kept (h : RowC w B v xs) (hk : ∀ g, v.ownBlock = some g → g < w.heap.size → w'.heap[g]? = w.heap[g]?) (hs : w.heap.size ≤ w'.heap.size) : RowC w' B v xs := by
  rcases h with h | ⟨g, off, cap, rfl, h1, h2, h3, h4, h5, h6⟩
  · exact .inl h
  · have e := hk g rfl h2
    exact .inr ⟨g, off, cap, rfl, h1, by omega, h3, h4, fun j hj => ⟨by rw [World.cell?_of_block (w := w) e]; exact (h5 j hj).1, by rw [World.frozen?_of_block (w := w) e]; exact (h5 j hj).2⟩, fun j x hx => by rw [World.cell?_of_block (w := w) e]; exact h6 j x hx⟩
theorem RowC.lt (h : RowC w B v xs) : ∀ g, v.ownBlock = some g → B ≤ g ∧ g < w.heap.size := by
  intro g hg
  rcases h with ⟨rfl, _⟩ | ⟨g', off, cap, rfl, h1, h2, _⟩
  · simp [Value.ownBlock] at hg
  · simp only [Value.ownBlock, Option.some.injEq] at hg; subst hg; exact ⟨h1, h2⟩
theorem RowC.below (h : RowC w B v xs) (hb : Below w.heap.size w w') : RowC w' B v xs := h.kept (fun g _ hg => hb.block g hg) hb.size
theorem RowC.alloc (h : RowC w B v xs) (o : Obj) : RowC (w.alloc o) B v xs := h.below ((Below.refl _ _).alloc (Nat.le_refl _) o)
theorem RowC.grown (h : RowC w B v xs) {row : Option Nat} (hg : w.grownBy w' row) (hne : v.ownBlock = none ∨ v.ownBlock ≠ row) : RowC w' B v xs :=
  h.kept (fun g e hl => hg.block g hl (by rcases hne with h1 | h1
                                          · rw [h1] at e; cases e
                                          · rw [← e]; exact h1)) hg.size
theorem RowC.set (h : RowC w B v xs) (p : Addr) (u : Value) (hne : some p.block ≠ v.ownBlock) : RowC (w.setCell p u) B v xs :=
  h.kept (fun g e hl => Below.heap_setCell _ _ _ _ (fun e' => hne (by rw [e, e']))) (by have := ((Below.refl (0 : Nat) w).setCell (p := p) (Nat.zero_le _) u).size; exact this)
theorem RowC.drewN (h : RowC w B v xs) (m : Nat) : RowC (w.drewN m) B v xs := h.below (below_drewN (Below.refl _ _) m)
theorem RowC.drew (h : RowC w B v xs) : RowC w.drew B v xs := h.below (Below.refl _ _).drew
theorem RowC.of_own {e : TypeId} (h : w.ownsRow B e 1 v xs.length (xs.map (Value.int .i64))) : RowC w B v xs := by
  obtain ⟨hl, h⟩ := h
  rcases h with ⟨rfl, h0⟩ | ⟨g, cap, cur, rfl, hg, hh, hn, hm, hs, hx⟩
  · exact .inl ⟨rfl, List.eq_nil_of_length_eq_zero h0⟩
  · refine .inr ⟨g, 0, cap, rfl, hg, (Array.getElem?_eq_some_iff.1 hh).1, hn, hm, fun j hj => ⟨?_, by simp [World.frozen?, hh]⟩, fun j x hj => ?_⟩
    · have : j < cur.size := by omega
      simp [World.cell?, hh, this]
    · have hjl := (List.getElem?_eq_some_iff.1 hj).1
      have e3 : (cur.toList.take (xs.length * 1))[j]? = some (.int .i64 x) := by rw [hx, List.getElem?_map, hj]; rfl
      rw [List.getElem?_take, if_pos (by omega)] at e3
      simp [World.cell?, hh]
      simpa using e3
/-- all but the last m stay -/
theorem RowC.take {a : Addr} {n c : Nat} (h : RowC w B (.slice (some a) n c) xs) {k : Nat} (hk : k ≤ n) : RowC w B (.slice (some a) k c) (xs.take k) := by
  rcases h with ⟨h, _⟩ | ⟨g, off, cap, e, h1, h2, h3, h4, h5, h6⟩
  · cases h
  · injection e with e1 e2 e3
    injection e1 with e1
    subst e1; subst e2; subst e3
    refine .inr ⟨g, off, _, by rw [List.length_take, Nat.min_eq_left hk], h1, h2, by rw [List.length_take]; omega, h4, h5, fun j x hx => h6 j x ?_⟩
    rw [List.getElem?_take] at hx
    split at hx
    · exact hx
    · cases hx
theorem RowC.tail {g off n c : Nat} (h : RowC w B (.slice (some ⟨g, off, none⟩) n c) xs) (hn : 0 < n) : RowC w B (.slice (some ⟨g, off + 1, none⟩) (n - 1) (c - 1)) (xs.drop 1) := by
  rcases h with ⟨h, _⟩ | ⟨g', off', cap, e, h1, h2, h3, h4, h5, h6⟩
  · cases h
  · injection e with e1 e2 e3
    injection e1 with e1
    injection e1 with e1 e4
    subst e1; subst e2; subst e3; subst e4
    refine .inr ⟨g, off + 1, _, by rw [List.length_drop], h1, h2, by rw [List.length_drop]; omega, by omega, fun j hj => ?_, fun j x hx => ?_⟩
    · have := h5 (j + 1) (by omega)
      rw [show off + 1 + j = off + (j + 1) by omega]; exact this
    · rw [List.getElem?_drop] at hx
      have := h6 (1 + j) x hx
      rw [show off + 1 + j = off + (1 + j) by omega]; exact this
end
theorem setCells_one (w : World) (b o : Nat) (u : Value) : w.setCells b o [u] = w.setCell ⟨b, o, none⟩ u := by simp [World.setCells]
theorem grownBy_setCell (w : World) (p : Addr) (u : Value) : w.grownBy (w.setCell p u) (some p.block) :=
  ⟨rfl, rfl, rfl, ((Below.refl (0 : Nat) w).setCell (p := p) (Nat.zero_le _) u).size, fun k _ hk => Below.heap_setCell _ _ _ _ (fun e => hk (by rw [e]))⟩
theorem RowC.mono {w : World} {B B' : Nat} {v : Value} {xs : List Int} (h : RowC w B' v xs) (hb : B ≤ B') : RowC w B v xs := by
  rcases h with h | ⟨g, off, cap, rfl, h1, h2, h3, h4, h5, h6⟩
  · exact .inl h
  · exact .inr ⟨g, off, cap, rfl, by omega, h2, h3, h4, h5, h6⟩
theorem mapGet {xs : List Int} {j : Nat} {u : Value} (h : (xs.map (Value.int .i64))[j]? = some u) : ∃ y, xs[j]? = some y ∧ Value.int .i64 y = u := by
  rw [List.getElem?_map] at h
  exact Option.map_eq_some_iff.1 h
theorem addrOff (g off j : Nat) : (⟨g, off, none⟩ : Addr).add j = ⟨g, off + j, none⟩ := by unfold Addr.add; split <;> simp_all
/-- ONE MORE: in place, or in a new block -/
theorem run_appendC (w : World) (B : Nat) (ty : TypeId) (v : Value) (xs : List Int) (x : Int) (h : RowC w B v xs) (hB : B ≤ w.heap.size) (a : Addr) (c : Nat) (hx : w.cell? a = some (.int .i64 x)) (hn : xs.length < 17592186044416) :
    ∃ g off cp w', (Builtin.append_ #[23, 23] ty #[v, .slice (some a) 1 c]).run Try.prog w = .ok (.slice (some ⟨g, off, none⟩) (xs.length + 1) cp) w' ∧ RowC w' B (.slice (some ⟨g, off, none⟩) (xs.length + 1) cp) (xs ++ [x]) ∧ w.grownBy w' v.ownBlock ∧ (v.ownBlock = some g ∨ w.heap.size ≤ g) := by
  obtain ⟨i0, hi0, hz0, hz1, hz2⟩ := info_parts rcInfo
  have hnews : ∀ j u, [Value.int .i64 x][j]? = some u → w.cell? (a.add j) = some u := fun j u hj => by
    have hj0 : j = 0 := by
      have := (List.getElem?_eq_some_iff.1 hj).1
      simp at this; omega
    subst hj0
    simp at hj; subst hj
    have : a.add 0 = a := by unfold Addr.add; simp
    rw [this]; exact hx
  have h1 : ∀ u ∈ [Value.int .i64 x], u.oneCell' = true := by simp [Value.oneCell']
  rcases h with ⟨rfl, rfl⟩ | ⟨g, off, cap, rfl, e1, e2, e3, e4, e5, e6⟩
  · obtain ⟨g, cap, w', hr, h2, h3, h4, h5⟩ := run_append_lies (P := Try.prog) w 23 ty B 3 i0 (.int .i64 0) 1 8 Try.underlying23 hi0 hz0 hz1 hz2 rfl (by decide) (.slice none 0 0) 0 [] ⟨rfl, .inl ⟨rfl, rfl⟩⟩ a 1 c [.int .i64 x] rfl hnews h1 (by omega) (by unfold maxLen; omega) (by omega) hB _ rfl
    have hR : RowC w' B (.slice (some ⟨g, 0, none⟩) 1 cap) ([] ++ [x]) := RowC.of_own (e := 3) (by simpa using h2)
    exact ⟨g, 0, cap, w', by simpa using hr, by simpa using hR, h3, by rcases h4 with h4 | h4
                                                                       · simp [Value.ownBlock] at h4
                                                                       · right; omega⟩
  · by_cases hroom : xs.length + 1 ≤ cap
    · obtain ⟨q1, q2⟩ := e5 xs.length (by omega)
      have hr := run_append_room_cells (P := Try.prog) w 23 ty 3 i0 Try.underlying23 hi0 g off xs.length cap a 1 c [.int .i64 x] (by rw [hz1]; rfl) hnews h1 hroom
        (fun j hj => by
          have : j = 0 := by simp at hj; omega
          subst this; rw [hz1]; simpa using q1)
        (fun j hj => by
          have : j = 0 := by simp at hj; omega
          subst this; rw [hz1]; simpa using q2)
      rw [hz1, Nat.mul_one, setCells_one] at hr
      refine ⟨g, off, cap, _, hr, .inr ⟨g, off, cap, by simp, e1, ?_, by simp; omega, e4, fun j hj => ⟨?_, ?_⟩, fun j y hy => ?_⟩, grownBy_setCell w ⟨g, off + xs.length, none⟩ _, .inl rfl⟩
      · have := (grownBy_setCell w ⟨g, off + xs.length, none⟩ (.int .i64 x)).size; omega
      · by_cases e : j = xs.length
        · subst e; rw [World.cell?_setCell_same' _ _ _ q1]; rfl
        · rw [World.cell?_setCell_other _ _ _ _ (fun h => by injection h with _ h; omega)]; exact (e5 j hj).1
      · rw [World.frozen?_setCell]; exact (e5 j hj).2
      · rw [List.getElem?_append] at hy
        split at hy
        · rename_i hlt
          rw [World.cell?_setCell_other _ _ _ _ (fun h => by injection h with _ h; omega)]; exact e6 j y hy
        · rename_i hge
          have hj0 : j = xs.length := by
            have := (List.getElem?_eq_some_iff.1 hy).1
            simp at this; omega
          subst hj0
          simp at hy; subst hy
          exact World.cell?_setCell_same' _ _ _ q1
    · obtain ⟨v', w', hr, ho, hg⟩ := run_append_arg_grows (P := Try.prog) w 23 ty 3 i0 (.int .i64 0) 1 8 Try.underlying23 hi0 hz0 hz1 hz2 rfl (by decide) ⟨g, off, none⟩ xs.length cap (xs.map (Value.int .i64)) (by simp) (fun j u hj => by
          obtain ⟨y, hy, rfl⟩ := mapGet hj
          rw [addrOff]; exact e6 j y hy) a 1 c [.int .i64 x] rfl hnews (by omega) (by unfold maxLen; omega) (by omega)
      have hR : RowC w' w.heap.size v' (xs ++ [x]) := RowC.of_own (e := 3) (by simpa using ho)
      obtain ⟨hl, ho2⟩ := ho
      rcases ho2 with ⟨_, h0⟩ | ⟨g', cap', cur, rfl, hbg, _⟩
      · omega
      · exact ⟨g', 0, cap', w', hr, hR.mono hB, ⟨hg.os, hg.tape, hg.output, hg.size, fun k hk _ => hg.block k hk (fun e => by cases e)⟩, .inr hbg⟩

end Go.Proofs.Ythjicnddfjpnjaa
