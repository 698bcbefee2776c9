/-
  Lemmas and walks for the statement: PNum, PMin, Tab.
-/
import Derived.Test.YtkmodnggncadeaaQ01
import Derived.Laws.NewBlocks
namespace Go.Proofs.Ytkmodnggncadeaa
open Go.RowKit
set_option linter.unusedSimpArgs false
set_option linter.unusedVariables false
def fitI (a : Int) : Int := if a < 0 then 0 else if 1152921504606846976 < a then 1152921504606846976 else a
def plusI (a b : Int) : Int := if 1152921504606846976 < fitI a + fitI b then 1152921504606846976 else fitI a + fitI b
def lessI (a b : Int) : Int := if fitI b = 1152921504606846976 then 0 else if fitI a < fitI b then 0 else if fitI a = 1152921504606846976 then 1152921504606846976 else fitI a - fitI b
theorem fit_ge (a : Int) : 0 ≤ fitI a := by unfold fitI; omega
theorem fit_le (a : Int) : fitI a ≤ 1152921504606846976 := by unfold fitI; omega
theorem fit_fit (a : Int) : fitI (fitI a) = fitI a := by unfold fitI; omega
theorem plus_ge (a b : Int) : 0 ≤ plusI a b := by have := fit_ge a; have := fit_ge b; unfold plusI; omega
theorem plus_le (a b : Int) : plusI a b ≤ 1152921504606846976 := by unfold plusI; omega
theorem less_ge (a b : Int) : 0 ≤ lessI a b := by have := fit_ge b; unfold lessI; omega
theorem less_le (a b : Int) : lessI a b ≤ 1152921504606846976 := by have := fit_ge b; have := fit_le a; unfold lessI; omega
theorem fit_plus (a b : Int) : fitI (plusI a b) = plusI a b := by have := plus_ge a b; have := plus_le a b; unfold fitI; omega
theorem fit_less (a b : Int) : fitI (lessI a b) = lessI a b := by have := less_ge a b; have := less_le a b; unfold fitI; omega
end Go.Proofs.Ytkmodnggncadeaa
namespace Go.Proofs.Ytkmodnggncadeaa
open Go.RowKit
set_option linter.unusedSimpArgs false
set_option linter.unusedVariables false
def infI : Int := 1152921504606846976
def unI (N : Nat) : List Int := (List.range N).map fun (t : Nat) => if t = 0 then 0 else 1152921504606846976
theorem un_len (N : Nat) : (unI N).length = N := by simp [unI]
theorem un_get {N k : Nat} (h : k < N) : (if k = 0 then 0 else 1152921504606846976) = (unI N).getD k 0 := by
 rw [List.getD_eq_getElem?_getD]; simp [unI, List.getElem?_range, h]
def cvA (xs ys : List Int) (t : Nat) : Nat → Int
 | 0 => 1152921504606846976
 | j + 1 => min (cvA xs ys t j) (plusI (xs.getD j 0) (ys.getD (t - j) 0))
def cvI (xs ys : List Int) (N : Nat) : List Int := (List.range N).map fun (t : Nat) => cvA xs ys t (t + 1)
theorem cv_len (xs ys : List Int) (N : Nat) : (cvI xs ys N).length = N := by simp [cvI]
theorem cv_get {xs ys : List Int} {N k : Nat} (h : k < N) : cvA xs ys k (k + 1) = (cvI xs ys N).getD k 0 := by
 rw [List.getD_eq_getElem?_getD]; simp [cvI, List.getElem?_range, h]
theorem cvA_b (xs ys : List Int) (t : Nat) : ∀ j, 0 ≤ cvA xs ys t j ∧ cvA xs ys t j ≤ 1152921504606846976
 | 0 => by simp [cvA]
 | j + 1 => by
   have := cvA_b xs ys t j
   have h1 := plus_ge (xs.getD j 0) (ys.getD (t - j) 0)
   have h2 := plus_le (xs.getD j 0) (ys.getD (t - j) 0)
   simp only [cvA]; omega
def ovA (xs ys : List Int) (t : Nat) : Nat → Int
 | 0 => 0
 | u + 1 => max (ovA xs ys t u) (lessI (xs.getD (t + u) 0) (ys.getD u 0))
def ovI (xs ys : List Int) (n n' : Nat) : List Int := (List.range n).map fun (t : Nat) => ovA xs ys t (min n' (n - t))
theorem ov_len (xs ys : List Int) (n n' : Nat) : (ovI xs ys n n').length = n := by simp [ovI]
theorem ov_get {xs ys : List Int} {n n' k : Nat} (h : k < n) : ovA xs ys k (min n' (n - k)) = (ovI xs ys n n').getD k 0 := by
 rw [List.getD_eq_getElem?_getD]; simp [ovI, List.getElem?_range, h]
theorem ovA_b (xs ys : List Int) (t : Nat) : ∀ j, 0 ≤ ovA xs ys t j ∧ ovA xs ys t j ≤ 1152921504606846976
 | 0 => by simp [ovA]
 | j + 1 => by
   have := ovA_b xs ys t j
   have h1 := less_ge (xs.getD (t + j) 0) (ys.getD j 0)
   have h2 := less_le (xs.getD (t + j) 0) (ys.getD j 0)
   simp only [ovA]; omega
def tabI (N : Nat) (p : Nat → Int) : List Int := (List.range N).map p
theorem tab_len (N : Nat) (p : Nat → Int) : (tabI N p).length = N := by simp [tabI]
theorem tab_at {N : Nat} {p : Nat → Int} {k : Nat} (h : k < N) : (tabI N p)[k]? = some (p k) := by simp [tabI, List.getElem?_range, h]
theorem tab_eq {N : Nat} {p q : Nat → Int} (h : ∀ t, t < N → p t = q t) : tabI N p = tabI N q := by
 unfold tabI
 apply List.map_congr_left
 intro t ht
 exact h t (List.mem_range.1 ht)
theorem tab_set {N : Nat} {p q : Nat → Int} {k : Nat} {v : Int} (hk : k < N) (hv : q k = v) (h : ∀ t, t < N → t ≠ k → q t = p t) : (tabI N p).set k v = tabI N q := by
 apply List.ext_getElem?
 intro j
 rw [List.getElem?_set]
 by_cases hj : j < N
 · by_cases hjk : k = j
   · subst hjk; rw [tab_at (p := q) hk, if_pos rfl, tab_len, if_pos hk, hv]
   · rw [if_neg hjk, tab_at (p := p) hj, tab_at (p := q) hj, h j hj (fun e => hjk e.symm)]
 · rw [List.getElem?_eq_none (by rw [tab_len]; omega), List.getElem?_eq_none (by rw [tab_len]; omega)]
   split
   · split
     · rename_i h1 h2; rw [tab_len] at h2; omega
     · rfl
   · rfl
def ecP (xs ys : List Int) (s u t : Nat) : Int := cvA xs ys t (if s ≤ t ∧ t - s < u then s + 1 else min s (t + 1))
theorem ec_row {xs ys : List Int} {s n' t : Nat} (h : t < n') : ecP xs ys s n' t = ecP xs ys (s + 1) 0 t := by
 unfold ecP
 congr 1
 split <;> split <;> omega
theorem ec_end {xs ys : List Int} {s t : Nat} (h : t < s) : ecP xs ys s 0 t = cvA xs ys t (t + 1) := by
 unfold ecP
 congr 1
 split <;> omega
theorem ec_zero (xs ys : List Int) (t : Nat) : ecP xs ys 0 0 t = 1152921504606846976 := by simp [ecP, cvA]
theorem ec_other {xs ys : List Int} {s u t : Nat} (h : t ≠ s + u) : ecP xs ys s (u + 1) t = ecP xs ys s u t := by
 unfold ecP
 congr 1
 split <;> split <;> omega
theorem ec_this (xs ys : List Int) (s u : Nat) : ecP xs ys s (u + 1) (s + u) = min (ecP xs ys s u (s + u)) (plusI (xs.getD s 0) (ys.getD u 0)) := by
 unfold ecP
 rw [if_pos ⟨by omega, by omega⟩, if_neg (by omega), show min s (s + u + 1) = s by omega]
 simp only [cvA]
 rw [show s + u - s = u by omega]
def eoP (xs ys : List Int) (n' s u t : Nat) : Int := ovA xs ys t (if t ≤ s ∧ s - t < u then s - t + 1 else min (s - t) n')
theorem eo_row {xs ys : List Int} {s n' t : Nat} : eoP xs ys n' s n' t = eoP xs ys n' (s + 1) 0 t := by
 unfold eoP
 congr 1
 split <;> split <;> omega
theorem eo_end {xs ys : List Int} {n n' t : Nat} : eoP xs ys n' n 0 t = ovA xs ys t (min n' (n - t)) := by
 unfold eoP
 congr 1
 split <;> omega
theorem eo_zero (xs ys : List Int) (n' t : Nat) : eoP xs ys n' 0 0 t = 0 := by
 unfold eoP
 rw [if_neg (by omega), show min (0 - t) n' = 0 by omega]; rfl
theorem eo_other {xs ys : List Int} {n' s u t : Nat} (h : t + u ≠ s) : eoP xs ys n' s (u + 1) t = eoP xs ys n' s u t := by
 unfold eoP
 congr 1
 split <;> split <;> omega
theorem eo_this {xs ys : List Int} {n' u t : Nat} (hu : u < n') : eoP xs ys n' (t + u) (u + 1) t = max (eoP xs ys n' (t + u) u t) (lessI (xs.getD (t + u) 0) (ys.getD u 0)) := by
 unfold eoP
 rw [if_pos ⟨by omega, by omega⟩, if_neg (by omega), show t + u - t + 1 = u + 1 by omega, show min (t + u - t) n' = u by omega]
 simp only [ovA]
def OwnTab (w : World) (B e g N : Nat) (p : Nat → Int) : Prop := w.ownsRow B e 1 (.slice (some ⟨g, 0, none⟩) N N) N ((tabI N p).map (Value.int .i64))
section
variable {w w' : World} {B e g N : Nat} {p q : Nat → Int}
theorem OwnTab.cell (h : OwnTab w B e g N p) {k : Nat} (hk : k < N) : w.cell? ⟨g, k, none⟩ = some (.int .i64 (p k)) := by
 rw [h.cellAt k (by omega), List.getElem?_map, tab_at hk]; rfl
theorem OwnTab.free (h : OwnTab w B e g N p) (k : Nat) : w.frozen? ⟨g, k, none⟩ = false := h.frozenAt k
theorem OwnTab.set (h : OwnTab w B e g N p) {k : Nat} {v : Int} (hk : k < N) (hv : q k = v) (ho : ∀ t, t < N → t ≠ k → q t = p t) : OwnTab (w.setCell ⟨g, k, none⟩ (.int .i64 v)) B e g N q := by
 have := h.stored k (.int .i64 v)
 unfold OwnTab
 rw [← tab_set hk hv ho, List.map_set]
 exact this.1
theorem OwnTab.eq (h : OwnTab w B e g N p) (ho : ∀ t, t < N → q t = p t) : OwnTab w B e g N q := by
 unfold OwnTab at *; rwa [tab_eq ho]
theorem OwnTab.drewN (h : OwnTab w B e g N p) (m : Nat) : OwnTab (w.drewN m) B e g N p := by
 refine ⟨h.1, ?_⟩
 rcases h.2 with hn | ⟨g, cap, cur, hv, hg, hgg, rest⟩
 · exact .inl hn
 · exact .inr ⟨g, cap, cur, hv, hg, by rw [(below_drewN (Below.refl w.heap.size w) m).block g (Array.getElem?_eq_some_iff.1 hgg).1]; exact hgg, rest⟩
theorem OwnTab.lt (h : OwnTab w B e g N p) : B ≤ g ∧ g < w.heap.size := World.ownsRow.lt h g rfl
end
theorem OwnTab.made {w : World} {B e g N : Nat} (h : w.ownsRow B e 1 (.slice (some ⟨g, 0, none⟩) N N) N (madeCells (Value.int .i64 0).cells (N * 1)).toList) : OwnTab w B e g N (fun _ => 0) := by
 unfold OwnTab
 have e1 : (madeCells (Value.int .i64 0).cells (N * 1)).toList = (tabI N (fun _ => 0)).map (Value.int .i64) := by
  rw [show (Value.int .i64 0).cells = #[Value.int .i64 0] from rfl, toList_madeCells_one]
  apply List.ext_getElem?
  intro j
  by_cases hj : j < N
  · rw [List.getElem?_map, tab_at hj, List.getElem?_replicate]; simp [hj]
  · rw [List.getElem?_eq_none (by simp; omega), List.getElem?_eq_none (by simp [tab_len]; omega)]
 rw [← e1]; exact h
theorem OwnTab.ints {w : World} {B e g N : Nat} {p : Nat → Int} (h : OwnTab w B e g N p) (hN : N ≤ 17592186044416) : IntsAt w (some ⟨g, 0, none⟩) N N (tabI N p) := by
 refine ⟨tab_len N p, Nat.le_refl _, hN, fun h0 => ⟨_, rfl, (OwnTab.lt h).2, fun j x hj => ?_⟩⟩
 have hjl := (List.getElem?_eq_some_iff.1 hj).1
 rw [tab_len] at hjl
 rw [tab_at hjl] at hj
 injection hj with hj
 subst hj
 rw [show (⟨g, 0, none⟩ : Addr).add j = ⟨g, j, none⟩ by unfold Addr.add; split <;> simp_all]
 exact h.cell hjl
end Go.Proofs.Ytkmodnggncadeaa
namespace Go.Proofs.Ytkmodnggncadeaa
open Go.RowKit
set_option linter.unusedSimpArgs false
set_option linter.unusedVariables false
def OTab (w : World) (B e g N cap : Nat) (p : Nat → Int) : Prop := w.ownsRow B e 1 (.slice (some ⟨g, 0, none⟩) N cap) N ((tabI N p).map (Value.int .i64))
section
variable {w w' : World} {B e g N cap : Nat} {p q : Nat → Int}
theorem OTab.cell (h : OTab w B e g N cap p) {k : Nat} (hk : k < N) : w.cell? ⟨g, k, none⟩ = some (.int .i64 (p k)) := by
 rw [h.cellAt k (by omega), List.getElem?_map, tab_at hk]; rfl
theorem OTab.free (h : OTab w B e g N cap p) (k : Nat) : w.frozen? ⟨g, k, none⟩ = false := h.frozenAt k
theorem OTab.set (h : OTab w B e g N cap p) {k : Nat} {v : Int} (hk : k < N) (hv : q k = v) (ho : ∀ t, t < N → t ≠ k → q t = p t) : OTab (w.setCell ⟨g, k, none⟩ (.int .i64 v)) B e g N cap q := by
 have := h.stored k (.int .i64 v)
 unfold OTab
 rw [← tab_set hk hv ho, List.map_set]
 exact this.1
theorem OTab.eq (h : OTab w B e g N cap p) (ho : ∀ t, t < N → q t = p t) : OTab w B e g N cap q := by
 unfold OTab at *; rwa [tab_eq ho]
theorem OTab.drewN (h : OTab w B e g N cap p) (m : Nat) : OTab (w.drewN m) B e g N cap p := h
theorem OTab.drew (h : OTab w B e g N cap p) : OTab w.drew B e g N cap p := h
theorem OTab.alloc (h : OTab w B e g N cap p) (o : Obj) : OTab (w.alloc o) B e g N cap p := World.ownsRow.alloc h o
theorem OTab.lt (h : OTab w B e g N cap p) : B ≤ g ∧ g < w.heap.size := World.ownsRow.lt h g rfl
theorem OTab.below (h : OTab w B e g N cap p) (hb : Below w.heap.size w w') : OTab w' B e g N cap p := by
 obtain ⟨hl, h⟩ := h
 refine ⟨hl, ?_⟩
 rcases h with hn | ⟨g', cap', cur, hv, hg, hgg, rest⟩
 · exact .inl hn
 · exact .inr ⟨g', cap', cur, hv, hg, by rw [hb.block g' (Array.getElem?_eq_some_iff.1 hgg).1]; exact hgg, rest⟩
theorem OTab.kept (h : OTab w B e g N cap p) {row : Option Nat} (hg : w.grownBy w' row) (hne : row ≠ some g) : OTab w' B e g N cap p :=
 World.ownsRow.kept h hg (.inr (fun e => hne e.symm))
theorem OTab.setFar (h : OTab w B e g N cap p) {b j : Nat} {u : Value} (hb : b ≠ g) : OTab (w.setCell ⟨b, j, none⟩ u) B e g N cap p :=
 h.kept (row := some b) (by
  refine ⟨rfl, rfl, rfl, by simp [World.setCell], fun k hk hne => ?_⟩
  have hne' : ¬ b = k := fun e => hne (by rw [e])
  simp [World.setCell, Array.getElem?_modify, hne']) (fun e => hb (by injection e))
theorem OTab.base (h : OTab w B e g N cap p) {B' : Nat} (hB : B' ≤ B) : OTab w B' e g N cap p := by
 obtain ⟨hl, h⟩ := h
 refine ⟨hl, ?_⟩
 rcases h with hn | ⟨g', cap', cur, hv, hg, rest⟩
 · exact .inl hn
 · exact .inr ⟨g', cap', cur, hv, by omega, rest⟩
theorem OTab.cap_ (h : OTab w B e g N cap p) : N ≤ cap := by
 rcases h.2 with ⟨hc, _⟩ | ⟨g', cap', cur, hv, _, _, hn, _⟩
 · cases hc
 · injection hv with _ _ e3; omega
theorem OTab.ints (h : OTab w B e g N cap p) (hN : N ≤ 17592186044416) : IntsAt w (some ⟨g, 0, none⟩) N cap (tabI N p) := by
 refine ⟨tab_len N p, h.cap_, hN, fun h0 => ⟨_, rfl, (OTab.lt h).2, fun j x hj => ?_⟩⟩
 have hjl := (List.getElem?_eq_some_iff.1 hj).1
 rw [tab_len] at hjl
 rw [tab_at hjl] at hj
 injection hj with hj
 subst hj
 rw [show (⟨g, 0, none⟩ : Addr).add j = ⟨g, j, none⟩ by unfold Addr.add; split <;> simp_all]
 exact h.cell hjl
theorem OTab.news (h : OTab w B e g N cap p) : ∀ (j : Nat) (u : Value), ((tabI N p).map (Value.int .i64))[j]? = some u → w.cell? ((⟨g, 0, none⟩ : Addr).add j) = some u := by
 intro j u hj
 rw [show (⟨g, 0, none⟩ : Addr).add j = ⟨g, j, none⟩ by unfold Addr.add; split <;> simp_all]
 rw [List.getElem?_map] at hj
 have hjl : j < N := by
  rcases Nat.lt_or_ge j N with h1 | h1
  · exact h1
  · rw [List.getElem?_eq_none (by rw [tab_len]; exact h1)] at hj; cases hj
 rw [tab_at hjl] at hj
 simp at hj; subst hj
 exact h.cell hjl
theorem tab_one (N : Nat) (p : Nat → Int) : ∀ u ∈ (tabI N p).map (Value.int .i64), u.oneCell' = true := by
 intro u hu
 obtain ⟨x, _, rfl⟩ := List.mem_map.1 hu
 rfl
end
theorem OTab.made {w : World} {B e g N : Nat} (h : w.ownsRow B e 1 (.slice (some ⟨g, 0, none⟩) N N) N (madeCells (Value.int .i64 0).cells (N * 1)).toList) : OTab w B e g N N (fun _ => 0) := OwnTab.made h
theorem OTab.copied {w : World} {B e N : Nat} {v v' : Value} {p : Nat → Int} (h : w.ownsRow B e 1 v' (0 + N) ([] ++ (tabI N p).map (Value.int .i64))) (hn : v' = .slice none 0 0 ↔ v = .slice none 0 0 ∧ N = 0) (hv : v ≠ .slice none 0 0) :
 ∃ g cap, v' = .slice (some ⟨g, 0, none⟩) N cap ∧ OTab w B e g N cap p := by
 rw [Nat.zero_add, List.nil_append] at h
 have h0 := h
 rcases h.2 with ⟨h1, _⟩ | ⟨g, cap, cur, rfl, _⟩
 · exact absurd (hn.1 h1).1 hv
 · exact ⟨g, cap, rfl, h0⟩
theorem own_empty (w : World) (B e g : Nat) (hB : B ≤ w.heap.size) (hg : w.heap.size = g) : (w.alloc (.cells #[] e)).ownsRow B e 1 (.slice (some ⟨g, 0, none⟩) 0 0) 0 [] := by
 subst hg
 exact ⟨rfl, .inr ⟨w.heap.size, 0, #[], rfl, hB, heap_alloc_new w _, Nat.le_refl _, by unfold maxLen; omega, rfl, rfl⟩⟩
end Go.Proofs.Ytkmodnggncadeaa
