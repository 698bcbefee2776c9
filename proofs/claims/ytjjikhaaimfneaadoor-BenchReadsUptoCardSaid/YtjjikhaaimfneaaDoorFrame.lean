/-
  LEMMAS for the rows' last step: what an argument is. No program in sight.
-/
import Derived.Test.YtjjikhaaimfneaaDoorSl
import Derived.ProofKit
import Derived.OpenShut
import Derived.ChangeOld
import Derived.SizedLaws
import Derived.Carry
namespace Go.Proofs.YtjjikhaaimfneaaDoor
open Go.RowKit Go.ChangeShapes Go.WideShapes
set_option linter.unusedSimpArgs false
set_option linter.unusedVariables false

section
variable {H : Type} {enc : TypeId × Value → H} {P : Program} {w : World} {base : Nat} {spare : Nat → Bool} {held : Bool}

/-- all leaves of the type are ints -/
def flatI (P : Program) : Nat → TypeId → Bool
  | 0, _ => false
  | k + 1, t => match P.underlying t with
    | some (.int .i64) => true
    | some (.struct fs) =>
      ((List.range (P.cellsOf t)).all fun j => (List.range fs.size).any fun i => match fs[i]? with
        | some f => decide (f.offset ≤ j) && decide (j < f.offset + P.cellsOf f.type)
        | none => false) &&
      ((List.range fs.size).all fun i => match fs[i]? with
        | some f => flatI P k f.type
        | none => false)
    | some (.array n e) => flatI P k e && decide (0 < P.cellsOf e) && decide (P.cellsOf t = n * P.cellsOf e)
    | _ => false

theorem flat_cells : ∀ (k : Nat) (t : TypeId) (fuel : Nat) (cs : List Value) (x : DataW H × List MemPlace), flatI P k t = true → DataW.trod enc P w base spare held fuel t cs = some x →
    ∀ (j : Nat) (v : Value), cs[j]? = some v → ∃ n : Int, v = .int .i64 n ∧ (Lit.int .i64 n).wf = true := by
  intro k
  induction k with
  | zero => intro t fuel cs x h; simp [flatI] at h
  | succ k ih =>
    intro t fuel cs x h hr j v hj
    unfold flatI at h
    split at h
    · rename_i hu
      obtain ⟨n, rfl, _, hw⟩ := DataW.trod_int hu hr
      have hj0 : j = 0 := by
        rcases Nat.eq_zero_or_pos j with h0 | h0
        · exact h0
        · rw [List.getElem?_eq_none (by simp; omega)] at hj; cases hj
      subst hj0
      simp at hj
      exact ⟨n, hj.symm, hw⟩
    · rename_i fs hu
      obtain ⟨xs, n, _, _, hcl, hxl, hg⟩ := DataW.trod_struct hu hr
      have hjl : j < cs.length := (List.getElem?_eq_some_iff.1 hj).1
      simp only [Bool.and_eq_true, List.all_eq_true, List.any_eq_true, List.mem_range] at h
      obtain ⟨h1, h2⟩ := h
      obtain ⟨i, hi, hf⟩ := h1 j (by omega)
      have hfs : fs[i]? = some fs[i] := Array.getElem?_eq_getElem hi
      have h3 := h2 i hi
      rw [hfs] at hf h3
      simp only [Bool.and_eq_true, decide_eq_true_eq] at hf
      have hgi := hg i fs[i] hfs
      have hxi : xs[i]? = some (xs[i]'(by omega)) := List.getElem?_eq_getElem (by omega)
      rw [hxi] at hgi
      refine ih _ _ _ _ h3 hgi (j - fs[i].offset) v ?_
      rw [List.getElem?_take, if_pos (by omega), List.getElem?_drop, show fs[i].offset + (j - fs[i].offset) = j from by omega]
      exact hj
    · rename_i n e hu
      obtain ⟨xs, m, _, _, hcl, hxl, hg⟩ := DataW.trod_array hu hr
      have hjl : j < cs.length := (List.getElem?_eq_some_iff.1 hj).1
      simp only [Bool.and_eq_true, decide_eq_true_eq] at h
      obtain ⟨⟨h1, h2⟩, h3⟩ := h
      have hi : j / P.cellsOf e < n := by rw [Nat.div_lt_iff_lt_mul h2]; omega
      have hgi := hg _ hi
      have hxi : xs[j / P.cellsOf e]? = some (xs[j / P.cellsOf e]'(by omega)) := List.getElem?_eq_getElem (by omega)
      rw [hxi] at hgi
      have hm := Nat.div_add_mod j (P.cellsOf e)
      have hm' : P.cellsOf e * (j / P.cellsOf e) = j / P.cellsOf e * P.cellsOf e := Nat.mul_comm _ _
      refine ih _ _ _ _ h1 hgi (j % P.cellsOf e) v ?_
      rw [List.getElem?_take, if_pos (Nat.mod_lt _ h2), List.getElem?_drop, show j / P.cellsOf e * P.cellsOf e + j % P.cellsOf e = j from by omega]
      exact hj
    · cases h

theorem list_of_cells (cs : List Value) (h : ∀ (j : Nat) (v : Value), cs[j]? = some v → ∃ n : Int, v = .int .i64 n ∧ (Lit.int .i64 n).wf = true) :
    ∃ l : List Int, cs = l.map (Value.int .i64) ∧ ∀ x ∈ l, (Lit.int .i64 x).wf = true := by
  induction cs with
  | nil => exact ⟨[], rfl, by simp⟩
  | cons c cs ih =>
    obtain ⟨n, rfl, hn⟩ := h 0 c rfl
    obtain ⟨l, rfl, hl⟩ := ih (fun j v hj => h (j + 1) v (by simpa using hj))
    refine ⟨n :: l, rfl, fun x hx => ?_⟩
    rcases List.mem_cons.1 hx with rfl | hx
    · exact hn
    · exact hl x hx

/-- a struct (or an array) of ints, by value -/
theorem open_flat {r : Reach} {b0 : Nat} {t : TypeId} {k n : Nat} {v : Value} {d : DataW H} {p : List MemPlace} (hfl : flatI P k t = true) (hC : P.cellsOf t = n) (hag : (match P.underlying t with | some (.struct _) => true | some (.array _ _) => true | _ => false) = true)
    (hv : Value.okWide P w r b0 t v) (h : DataW.Trod enc P w base spare held t v d p) : ∃ l : List Int, l.length = n ∧ v = .agg (l.map (Value.int .i64)).toArray ∧ ∀ x ∈ l, (Lit.int .i64 x).wf = true := by
  have : ∃ cs : Array Value, v = .agg cs ∧ cs.size = P.cellsOf t := by
    unfold Value.okWide at hv
    split at hv
    · obtain ⟨cs, h1, h2, _⟩ := hv; exact ⟨cs, h1, h2⟩
    · obtain ⟨cs, h1, h2, _⟩ := hv; exact ⟨cs, h1, h2⟩
    · rename_i h1 h2
      split at hag
      · rename_i fs hu; exact absurd hu (h1 fs)
      · rename_i m e hu; exact absurd hu (h2 m e)
      · cases hag
  obtain ⟨⟨cs⟩, rfl, hsz⟩ := this
  obtain ⟨fuel, hf⟩ := h
  have hc : ∀ (j : Nat) (v : Value), cs[j]? = some v → ∃ n : Int, v = .int .i64 n ∧ (Lit.int .i64 n).wf = true := flat_cells k t fuel cs _ hfl hf
  obtain ⟨l, rfl, hl⟩ := list_of_cells cs hc
  exact ⟨l, by simpa [hC] using hsz, by simp, hl⟩
end

theorem len2 {l : List Int} (h : l.length = 2) : ∃ a b, l = [a, b] := by
  match l, h with
  | [a, b], _ => exact ⟨a, b, rfl⟩
theorem len5 {l : List Int} (h : l.length = 5) : ∃ a b c d e, l = [a, b, c, d, e] := by
  match l, h with
  | [a, b, c, d, e], _ => exact ⟨a, b, c, d, e, rfl⟩
theorem len6 {l : List Int} (h : l.length = 6) : ∃ a b c d e f, l = [a, b, c, d, e, f] := by
  match l, h with
  | [a, b, c, d, e, f], _ => exact ⟨a, b, c, d, e, f, rfl⟩
theorem len14 {l : List Int} (h : l.length = 14) : ∃ a0 a1 a2 a3 a4 a5 a6 a7 a8 a9 a10 a11 a12 a13, l = [a0, a1, a2, a3, a4, a5, a6, a7, a8, a9, a10, a11, a12, a13] := by
  match l, h with
  | [a0, a1, a2, a3, a4, a5, a6, a7, a8, a9, a10, a11, a12, a13], _ => exact ⟨a0, a1, a2, a3, a4, a5, a6, a7, a8, a9, a10, a11, a12, a13, rfl⟩

section
variable {H : Type} {enc : TypeId × Value → H} {P : Program} {w : World} {base : Nat} {spare : Nat → Bool}
open Go.ChangeShapes
theorem open_ints_at {t e : TypeId} {a : Option Addr} {n c : Nat} {d : DataW H} {p : List MemPlace} (ht : P.underlying t = some (.slice e)) (he : P.underlying e = some (.int .i64)) (hcell : P.cellsOf e = 1)
    (h : DataW.Trod enc P w base (fun _ => true) true t (.slice a n c) d p) : ∃ xs : List Int, xs.length = n ∧ n ≤ c ∧ (∀ x ∈ xs, (Lit.int .i64 x).wf = true) ∧ (0 < n → ∃ ad, a = some ad ∧ ad.block < w.heap.size ∧ ∀ (j : Nat) (x : Int), xs[j]? = some x → w.cell? (ad.add j) = some (.int .i64 x)) ∧
      ∃ es sp, d = .nil ∧ n = 0 ∨ d = .slice es sp ∧ es.length + sp.length = c := by
  obtain ⟨fuel, hf⟩ := h
  rcases open_ints ht he hcell hf with ⟨hcs, hx⟩ | ⟨x, l, c', zs, hcs, hbx, hl, hm, hz, hx, hc, hwz⟩
  · simp [Value.cells] at hcs hx
    obtain ⟨rfl, rfl, rfl⟩ := hcs
    exact ⟨[], rfl, Nat.le_refl _, by simp, fun h => absurd h (by omega), [], [], .inl ⟨hx.1, rfl⟩⟩
  · simp [Value.cells] at hcs
    obtain ⟨rfl, rfl, rfl⟩ := hcs
    simp at hz
    refine ⟨zs.take n, by simp; omega, hl, fun y hy => hwz y (List.mem_of_mem_take hy), fun hn => ⟨x, rfl, ?_, fun j y hj => ?_⟩, ?_⟩
    · have h0 := hc 0 (by omega)
      have := World.block_lt_of_cell? w _ h0
      rwa [block_add] at this
    · have hjn : j < n := by
        have := (List.getElem?_eq_some_iff.1 hj).1
        simp at this; omega
      rw [List.getElem?_take, if_pos hjn] at hj
      rw [hc j (by omega), List.getD_eq_getElem?_getD, hj]
      rfl
    · have hd := (Prod.mk.inj hx).1
      exact ⟨_, _, .inr ⟨hd, by simp [lits]; omega⟩⟩
end

end Go.Proofs.YtjjikhaaimfneaaDoor
