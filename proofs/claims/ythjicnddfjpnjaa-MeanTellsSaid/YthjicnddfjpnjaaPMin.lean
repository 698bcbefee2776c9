/-
  PLAIN: least sums (chapter 6); a row of the call's own by its places.
-/
import Derived.Test.YthjicnddfjpnjaaPNum
import Derived.Test.YthjicnddfjpnjaaSl
namespace Go.Proofs.Ythjicnddfjpnjaa
open Go.RowKit
set_option linter.unusedSimpArgs false
set_option linter.unusedVariables false

def infI : Int := 1152921504606846976
def unI (N : Nat) : List Int := (List.range N).map fun (t : Nat) => if t = 0 then 0 else 1152921504606846976
theorem un_len (N : Nat) : (unI N).length = N := by simp [unI]
theorem un_get {N k : Nat} (h : k < N) : (if k = 0 then 0 else 1152921504606846976) = (unI N).getD k 0 := by
  rw [List.getD_eq_getElem?_getD]; simp [unI, List.getElem?_range, h]
/-- the least sum of the first j pairs that come to tick t -/
def cvA (xs ys : List Int) (t : Nat) : Nat → Int
  | 0 => 1152921504606846976
  | j + 1 => min (cvA xs ys t j) (plusI (xs.getD j 0) (ys.getD (t - j) 0))
def cvI (xs ys : List Int) (N : Nat) : List Int := (List.range N).map fun (t : Nat) => cvA xs ys t (t + 1)
theorem cv_len (xs ys : List Int) (N : Nat) : (cvI xs ys N).length = N := by simp [cvI]
theorem cv_get {xs ys : List Int} {N k : Nat} (h : k < N) : cvA xs ys k (k + 1) = (cvI xs ys N).getD k 0 := by
  rw [List.getD_eq_getElem?_getD]; simp [cvI, List.getElem?_range, h]
theorem cvA_b (xs ys : List Int) (t : Nat) : ∀ j, 0 ≤ cvA xs ys t j ∧ cvA xs ys t j ≤ 1152921504606846976
  | 0 => by simp [cvA]
  | j + 1 => by
    have := cvA_b xs ys t j
    have h1 := plus_ge (xs.getD j 0) (ys.getD (t - j) 0)
    have h2 := plus_le (xs.getD j 0) (ys.getD (t - j) 0)
    simp only [cvA]; omega
/-- the most by which xs is above ys, u ticks ahead, for the first u -/
def ovA (xs ys : List Int) (t : Nat) : Nat → Int
  | 0 => 0
  | u + 1 => max (ovA xs ys t u) (lessI (xs.getD (t + u) 0) (ys.getD u 0))
def ovI (xs ys : List Int) (n n' : Nat) : List Int := (List.range n).map fun (t : Nat) => ovA xs ys t (min n' (n - t))
theorem ov_len (xs ys : List Int) (n n' : Nat) : (ovI xs ys n n').length = n := by simp [ovI]
theorem ov_get {xs ys : List Int} {n n' k : Nat} (h : k < n) : ovA xs ys k (min n' (n - k)) = (ovI xs ys n n').getD k 0 := by
  rw [List.getD_eq_getElem?_getD]; simp [ovI, List.getElem?_range, h]
theorem ovA_b (xs ys : List Int) (t : Nat) : ∀ j, 0 ≤ ovA xs ys t j ∧ ovA xs ys t j ≤ 1152921504606846976
  | 0 => by simp [ovA]
  | j + 1 => by
    have := ovA_b xs ys t j
    have h1 := less_ge (xs.getD (t + j) 0) (ys.getD j 0)
    have h2 := less_le (xs.getD (t + j) 0) (ys.getD j 0)
    simp only [ovA]; omega
/-- a list by its places -/
def tabI (N : Nat) (p : Nat → Int) : List Int := (List.range N).map p
theorem tab_len (N : Nat) (p : Nat → Int) : (tabI N p).length = N := by simp [tabI]
theorem tab_at {N : Nat} {p : Nat → Int} {k : Nat} (h : k < N) : (tabI N p)[k]? = some (p k) := by simp [tabI, List.getElem?_range, h]
theorem tab_eq {N : Nat} {p q : Nat → Int} (h : ∀ t, t < N → p t = q t) : tabI N p = tabI N q := by
  unfold tabI
  apply List.map_congr_left
  intro t ht
  exact h t (List.mem_range.1 ht)
theorem tab_set {N : Nat} {p q : Nat → Int} {k : Nat} {v : Int} (hk : k < N) (hv : q k = v) (h : ∀ t, t < N → t ≠ k → q t = p t) : (tabI N p).set k v = tabI N q := by
  apply List.ext_getElem?
  intro j
  rw [List.getElem?_set]
  by_cases hj : j < N
  · by_cases hjk : k = j
    · subst hjk; rw [tab_at (p := q) hk, if_pos rfl, tab_len, if_pos hk, hv]
    · rw [if_neg hjk, tab_at (p := p) hj, tab_at (p := q) hj, h j hj (fun e => hjk e.symm)]
  · rw [List.getElem?_eq_none (by rw [tab_len]; omega), List.getElem?_eq_none (by rw [tab_len]; omega)]
    split
    · split
      · rename_i h1 h2; rw [tab_len] at h2; omega
      · rfl
    · rfl
/-- behind rows s and, of row s, u numbers -/
def ecP (xs ys : List Int) (s u t : Nat) : Int := cvA xs ys t (if s ≤ t ∧ t - s < u then s + 1 else min s (t + 1))
theorem ec_row {xs ys : List Int} {s n' t : Nat} (h : t < n') : ecP xs ys s n' t = ecP xs ys (s + 1) 0 t := by
  unfold ecP
  congr 1
  split <;> split <;> omega
theorem ec_end {xs ys : List Int} {s t : Nat} (h : t < s) : ecP xs ys s 0 t = cvA xs ys t (t + 1) := by
  unfold ecP
  congr 1
  split <;> omega
theorem ec_zero (xs ys : List Int) (t : Nat) : ecP xs ys 0 0 t = 1152921504606846976 := by simp [ecP, cvA]
theorem ec_other {xs ys : List Int} {s u t : Nat} (h : t ≠ s + u) : ecP xs ys s (u + 1) t = ecP xs ys s u t := by
  unfold ecP
  congr 1
  split <;> split <;> omega
theorem ec_this (xs ys : List Int) (s u : Nat) : ecP xs ys s (u + 1) (s + u) = min (ecP xs ys s u (s + u)) (plusI (xs.getD s 0) (ys.getD u 0)) := by
  unfold ecP
  rw [if_pos ⟨by omega, by omega⟩, if_neg (by omega), show min s (s + u + 1) = s by omega]
  simp only [cvA]
  rw [show s + u - s = u by omega]
/-- the same for Over -/
def eoP (xs ys : List Int) (n' s u t : Nat) : Int := ovA xs ys t (if t ≤ s ∧ s - t < u then s - t + 1 else min (s - t) n')
theorem eo_row {xs ys : List Int} {s n' t : Nat} : eoP xs ys n' s n' t = eoP xs ys n' (s + 1) 0 t := by
  unfold eoP
  congr 1
  split <;> split <;> omega
theorem eo_end {xs ys : List Int} {n n' t : Nat} : eoP xs ys n' n 0 t = ovA xs ys t (min n' (n - t)) := by
  unfold eoP
  congr 1
  split <;> omega
theorem eo_zero (xs ys : List Int) (n' t : Nat) : eoP xs ys n' 0 0 t = 0 := by
  unfold eoP
  rw [if_neg (by omega), show min (0 - t) n' = 0 by omega]; rfl
theorem eo_other {xs ys : List Int} {n' s u t : Nat} (h : t + u ≠ s) : eoP xs ys n' s (u + 1) t = eoP xs ys n' s u t := by
  unfold eoP
  congr 1
  split <;> split <;> omega
theorem eo_this {xs ys : List Int} {n' u t : Nat} (hu : u < n') : eoP xs ys n' (t + u) (u + 1) t = max (eoP xs ys n' (t + u) u t) (lessI (xs.getD (t + u) 0) (ys.getD u 0)) := by
  unfold eoP
  rw [if_pos ⟨by omega, by omega⟩, if_neg (by omega), show t + u - t + 1 = u + 1 by omega, show min (t + u - t) n' = u by omega]
  simp only [ovA]
/-- a row of the call's own, by its places -/
def OwnTab (w : World) (B e g N : Nat) (p : Nat → Int) : Prop := w.ownsRow B e 1 (.slice (some ⟨g, 0, none⟩) N N) N ((tabI N p).map (Value.int .i64))
section
variable {w w' : World} {B e g N : Nat} {p q : Nat → Int}
theorem OwnTab.cell (h : OwnTab w B e g N p) {k : Nat} (hk : k < N) : w.cell? ⟨g, k, none⟩ = some (.int .i64 (p k)) := by
  rw [h.cellAt k (by omega), List.getElem?_map, tab_at hk]; rfl
theorem OwnTab.free (h : OwnTab w B e g N p) (k : Nat) : w.frozen? ⟨g, k, none⟩ = false := h.frozenAt k
theorem OwnTab.set (h : OwnTab w B e g N p) {k : Nat} {v : Int} (hk : k < N) (hv : q k = v) (ho : ∀ t, t < N → t ≠ k → q t = p t) : OwnTab (w.setCell ⟨g, k, none⟩ (.int .i64 v)) B e g N q := by
  have := h.stored k (.int .i64 v)
  unfold OwnTab
  rw [← tab_set hk hv ho, List.map_set]
  exact this.1
theorem OwnTab.eq (h : OwnTab w B e g N p) (ho : ∀ t, t < N → q t = p t) : OwnTab w B e g N q := by
  unfold OwnTab at *; rwa [tab_eq ho]
theorem OwnTab.drewN (h : OwnTab w B e g N p) (m : Nat) : OwnTab (w.drewN m) B e g N p := by
  refine ⟨h.1, ?_⟩
  rcases h.2 with hn | ⟨g, cap, cur, hv, hg, hgg, rest⟩
  · exact .inl hn
  · exact .inr ⟨g, cap, cur, hv, hg, by rw [(below_drewN (Below.refl w.heap.size w) m).block g (Array.getElem?_eq_some_iff.1 hgg).1]; exact hgg, rest⟩
theorem OwnTab.lt (h : OwnTab w B e g N p) : B ≤ g ∧ g < w.heap.size := World.ownsRow.lt h g rfl
end
theorem OwnTab.made {w : World} {B e g N : Nat} (h : w.ownsRow B e 1 (.slice (some ⟨g, 0, none⟩) N N) N (madeCells (Value.int .i64 0).cells (N * 1)).toList) : OwnTab w B e g N (fun _ => 0) := by
  unfold OwnTab
  have e1 : (madeCells (Value.int .i64 0).cells (N * 1)).toList = (tabI N (fun _ => 0)).map (Value.int .i64) := by
    rw [show (Value.int .i64 0).cells = #[Value.int .i64 0] from rfl, toList_madeCells_one]
    apply List.ext_getElem?
    intro j
    by_cases hj : j < N
    · rw [List.getElem?_map, tab_at hj, List.getElem?_replicate]; simp [hj]
    · rw [List.getElem?_eq_none (by simp; omega), List.getElem?_eq_none (by simp [tab_len]; omega)]
  rw [← e1]; exact h
theorem OwnTab.ints {w : World} {B e g N : Nat} {p : Nat → Int} (h : OwnTab w B e g N p) (hN : N ≤ 17592186044416) : IntsAt w (some ⟨g, 0, none⟩) N N (tabI N p) := by
  refine ⟨tab_len N p, Nat.le_refl _, hN, fun h0 => ⟨_, rfl, (OwnTab.lt h).2, fun j x hj => ?_⟩⟩
  have hjl := (List.getElem?_eq_some_iff.1 hj).1
  rw [tab_len] at hjl
  rw [tab_at hjl] at hj
  injection hj with hj
  subst hj
  rw [show (⟨g, 0, none⟩ : Addr).add j = ⟨g, j, none⟩ by unfold Addr.add; split <;> simp_all]
  exact h.cell hjl

end Go.Proofs.Ythjicnddfjpnjaa
