/-
  Lemmas and walks for the statement: PMin, Tab, PMost, PWeigh, PCycle2, VdP, VLate, R3, PSolve, PSolve2.
-/
import Derived.Test.YtagbikgfkakbfaaQ34
import Derived.Test.YtagbikgfkakbfaaQ01
import Derived.Laws.NewBlocks
import Derived.Test.YtagbikgfkakbfaaQ24
import Derived.Test.YtagbikgfkakbfaaQ11
import Derived.Test.YtagbikgfkakbfaaProg
import Derived.BigRegion
import Derived.Deep.DeepCutAuto
import Derived.OneCell
namespace Go.Proofs.Ytagbikgfkakbfaa
open Go.RowKit
set_option linter.unusedSimpArgs false
set_option linter.unusedVariables false
def infI : Int := 1152921504606846976
def unI (N : Nat) : List Int := (List.range N).map fun (t : Nat) => if t = 0 then 0 else 1152921504606846976
theorem un_len (N : Nat) : (unI N).length = N := by simp [unI]
theorem un_get {N k : Nat} (h : k < N) : (if k = 0 then 0 else 1152921504606846976) = (unI N).getD k 0 := by
 rw [List.getD_eq_getElem?_getD]; simp [unI, List.getElem?_range, h]
def cvA (xs ys : List Int) (t : Nat) : Nat → Int
 | 0 => 1152921504606846976
 | j + 1 => min (cvA xs ys t j) (plusI (xs.getD j 0) (ys.getD (t - j) 0))
def cvI (xs ys : List Int) (N : Nat) : List Int := (List.range N).map fun (t : Nat) => cvA xs ys t (t + 1)
theorem cv_len (xs ys : List Int) (N : Nat) : (cvI xs ys N).length = N := by simp [cvI]
theorem cv_get {xs ys : List Int} {N k : Nat} (h : k < N) : cvA xs ys k (k + 1) = (cvI xs ys N).getD k 0 := by
 rw [List.getD_eq_getElem?_getD]; simp [cvI, List.getElem?_range, h]
theorem cvA_b (xs ys : List Int) (t : Nat) : ∀ j, 0 ≤ cvA xs ys t j ∧ cvA xs ys t j ≤ 1152921504606846976
 | 0 => by simp [cvA]
 | j + 1 => by
   have := cvA_b xs ys t j
   have h1 := plus_ge (xs.getD j 0) (ys.getD (t - j) 0)
   have h2 := plus_le (xs.getD j 0) (ys.getD (t - j) 0)
   simp only [cvA]; omega
def ovA (xs ys : List Int) (t : Nat) : Nat → Int
 | 0 => 0
 | u + 1 => max (ovA xs ys t u) (lessI (xs.getD (t + u) 0) (ys.getD u 0))
def ovI (xs ys : List Int) (n n' : Nat) : List Int := (List.range n).map fun (t : Nat) => ovA xs ys t (min n' (n - t))
theorem ov_len (xs ys : List Int) (n n' : Nat) : (ovI xs ys n n').length = n := by simp [ovI]
theorem ov_get {xs ys : List Int} {n n' k : Nat} (h : k < n) : ovA xs ys k (min n' (n - k)) = (ovI xs ys n n').getD k 0 := by
 rw [List.getD_eq_getElem?_getD]; simp [ovI, List.getElem?_range, h]
theorem ovA_b (xs ys : List Int) (t : Nat) : ∀ j, 0 ≤ ovA xs ys t j ∧ ovA xs ys t j ≤ 1152921504606846976
 | 0 => by simp [ovA]
 | j + 1 => by
   have := ovA_b xs ys t j
   have h1 := less_ge (xs.getD (t + j) 0) (ys.getD j 0)
   have h2 := less_le (xs.getD (t + j) 0) (ys.getD j 0)
   simp only [ovA]; omega
def tabI (N : Nat) (p : Nat → Int) : List Int := (List.range N).map p
theorem tab_len (N : Nat) (p : Nat → Int) : (tabI N p).length = N := by simp [tabI]
theorem tab_at {N : Nat} {p : Nat → Int} {k : Nat} (h : k < N) : (tabI N p)[k]? = some (p k) := by simp [tabI, List.getElem?_range, h]
theorem tab_eq {N : Nat} {p q : Nat → Int} (h : ∀ t, t < N → p t = q t) : tabI N p = tabI N q := by
 unfold tabI
 apply List.map_congr_left
 intro t ht
 exact h t (List.mem_range.1 ht)
theorem tab_set {N : Nat} {p q : Nat → Int} {k : Nat} {v : Int} (hk : k < N) (hv : q k = v) (h : ∀ t, t < N → t ≠ k → q t = p t) : (tabI N p).set k v = tabI N q := by
 apply List.ext_getElem?
 intro j
 rw [List.getElem?_set]
 by_cases hj : j < N
 · by_cases hjk : k = j
   · subst hjk; rw [tab_at (p := q) hk, if_pos rfl, tab_len, if_pos hk, hv]
   · rw [if_neg hjk, tab_at (p := p) hj, tab_at (p := q) hj, h j hj (fun e => hjk e.symm)]
 · rw [List.getElem?_eq_none (by rw [tab_len]; omega), List.getElem?_eq_none (by rw [tab_len]; omega)]
   split
   · split
     · rename_i h1 h2; rw [tab_len] at h2; omega
     · rfl
   · rfl
def ecP (xs ys : List Int) (s u t : Nat) : Int := cvA xs ys t (if s ≤ t ∧ t - s < u then s + 1 else min s (t + 1))
theorem ec_row {xs ys : List Int} {s n' t : Nat} (h : t < n') : ecP xs ys s n' t = ecP xs ys (s + 1) 0 t := by
 unfold ecP
 congr 1
 split <;> split <;> omega
theorem ec_end {xs ys : List Int} {s t : Nat} (h : t < s) : ecP xs ys s 0 t = cvA xs ys t (t + 1) := by
 unfold ecP
 congr 1
 split <;> omega
theorem ec_zero (xs ys : List Int) (t : Nat) : ecP xs ys 0 0 t = 1152921504606846976 := by simp [ecP, cvA]
theorem ec_other {xs ys : List Int} {s u t : Nat} (h : t ≠ s + u) : ecP xs ys s (u + 1) t = ecP xs ys s u t := by
 unfold ecP
 congr 1
 split <;> split <;> omega
theorem ec_this (xs ys : List Int) (s u : Nat) : ecP xs ys s (u + 1) (s + u) = min (ecP xs ys s u (s + u)) (plusI (xs.getD s 0) (ys.getD u 0)) := by
 unfold ecP
 rw [if_pos ⟨by omega, by omega⟩, if_neg (by omega), show min s (s + u + 1) = s by omega]
 simp only [cvA]
 rw [show s + u - s = u by omega]
def eoP (xs ys : List Int) (n' s u t : Nat) : Int := ovA xs ys t (if t ≤ s ∧ s - t < u then s - t + 1 else min (s - t) n')
theorem eo_row {xs ys : List Int} {s n' t : Nat} : eoP xs ys n' s n' t = eoP xs ys n' (s + 1) 0 t := by
 unfold eoP
 congr 1
 split <;> split <;> omega
theorem eo_end {xs ys : List Int} {n n' t : Nat} : eoP xs ys n' n 0 t = ovA xs ys t (min n' (n - t)) := by
 unfold eoP
 congr 1
 split <;> omega
theorem eo_zero (xs ys : List Int) (n' t : Nat) : eoP xs ys n' 0 0 t = 0 := by
 unfold eoP
 rw [if_neg (by omega), show min (0 - t) n' = 0 by omega]; rfl
theorem eo_other {xs ys : List Int} {n' s u t : Nat} (h : t + u ≠ s) : eoP xs ys n' s (u + 1) t = eoP xs ys n' s u t := by
 unfold eoP
 congr 1
 split <;> split <;> omega
theorem eo_this {xs ys : List Int} {n' u t : Nat} (hu : u < n') : eoP xs ys n' (t + u) (u + 1) t = max (eoP xs ys n' (t + u) u t) (lessI (xs.getD (t + u) 0) (ys.getD u 0)) := by
 unfold eoP
 rw [if_pos ⟨by omega, by omega⟩, if_neg (by omega), show t + u - t + 1 = u + 1 by omega, show min (t + u - t) n' = u by omega]
 simp only [ovA]
def OwnTab (w : World) (B e g N : Nat) (p : Nat → Int) : Prop := w.ownsRow B e 1 (.slice (some ⟨g, 0, none⟩) N N) N ((tabI N p).map (Value.int .i64))
section
variable {w w' : World} {B e g N : Nat} {p q : Nat → Int}
theorem OwnTab.cell (h : OwnTab w B e g N p) {k : Nat} (hk : k < N) : w.cell? ⟨g, k, none⟩ = some (.int .i64 (p k)) := by
 rw [h.cellAt k (by omega), List.getElem?_map, tab_at hk]; rfl
theorem OwnTab.free (h : OwnTab w B e g N p) (k : Nat) : w.frozen? ⟨g, k, none⟩ = false := h.frozenAt k
theorem OwnTab.set (h : OwnTab w B e g N p) {k : Nat} {v : Int} (hk : k < N) (hv : q k = v) (ho : ∀ t, t < N → t ≠ k → q t = p t) : OwnTab (w.setCell ⟨g, k, none⟩ (.int .i64 v)) B e g N q := by
 have := h.stored k (.int .i64 v)
 unfold OwnTab
 rw [← tab_set hk hv ho, List.map_set]
 exact this.1
theorem OwnTab.eq (h : OwnTab w B e g N p) (ho : ∀ t, t < N → q t = p t) : OwnTab w B e g N q := by
 unfold OwnTab at *; rwa [tab_eq ho]
theorem OwnTab.drewN (h : OwnTab w B e g N p) (m : Nat) : OwnTab (w.drewN m) B e g N p := by
 refine ⟨h.1, ?_⟩
 rcases h.2 with hn | ⟨g, cap, cur, hv, hg, hgg, rest⟩
 · exact .inl hn
 · exact .inr ⟨g, cap, cur, hv, hg, by rw [(below_drewN (Below.refl w.heap.size w) m).block g (Array.getElem?_eq_some_iff.1 hgg).1]; exact hgg, rest⟩
theorem OwnTab.lt (h : OwnTab w B e g N p) : B ≤ g ∧ g < w.heap.size := World.ownsRow.lt h g rfl
end
theorem OwnTab.made {w : World} {B e g N : Nat} (h : w.ownsRow B e 1 (.slice (some ⟨g, 0, none⟩) N N) N (madeCells (Value.int .i64 0).cells (N * 1)).toList) : OwnTab w B e g N (fun _ => 0) := by
 unfold OwnTab
 have e1 : (madeCells (Value.int .i64 0).cells (N * 1)).toList = (tabI N (fun _ => 0)).map (Value.int .i64) := by
  rw [show (Value.int .i64 0).cells = #[Value.int .i64 0] from rfl, toList_madeCells_one]
  apply List.ext_getElem?
  intro j
  by_cases hj : j < N
  · rw [List.getElem?_map, tab_at hj, List.getElem?_replicate]; simp [hj]
  · rw [List.getElem?_eq_none (by simp; omega), List.getElem?_eq_none (by simp [tab_len]; omega)]
 rw [← e1]; exact h
theorem OwnTab.ints {w : World} {B e g N : Nat} {p : Nat → Int} (h : OwnTab w B e g N p) (hN : N ≤ 17592186044416) : IntsAt w (some ⟨g, 0, none⟩) N N (tabI N p) := by
 refine ⟨tab_len N p, Nat.le_refl _, hN, fun h0 => ⟨_, rfl, (OwnTab.lt h).2, fun j x hj => ?_⟩⟩
 have hjl := (List.getElem?_eq_some_iff.1 hj).1
 rw [tab_len] at hjl
 rw [tab_at hjl] at hj
 injection hj with hj
 subst hj
 rw [show (⟨g, 0, none⟩ : Addr).add j = ⟨g, j, none⟩ by unfold Addr.add; split <;> simp_all]
 exact h.cell hjl
end Go.Proofs.Ytagbikgfkakbfaa
namespace Go.Proofs.Ytagbikgfkakbfaa
open Go.RowKit
set_option linter.unusedSimpArgs false
set_option linter.unusedVariables false
def OTab (w : World) (B e g N cap : Nat) (p : Nat → Int) : Prop := w.ownsRow B e 1 (.slice (some ⟨g, 0, none⟩) N cap) N ((tabI N p).map (Value.int .i64))
section
variable {w w' : World} {B e g N cap : Nat} {p q : Nat → Int}
theorem OTab.cell (h : OTab w B e g N cap p) {k : Nat} (hk : k < N) : w.cell? ⟨g, k, none⟩ = some (.int .i64 (p k)) := by
 rw [h.cellAt k (by omega), List.getElem?_map, tab_at hk]; rfl
theorem OTab.free (h : OTab w B e g N cap p) (k : Nat) : w.frozen? ⟨g, k, none⟩ = false := h.frozenAt k
theorem OTab.set (h : OTab w B e g N cap p) {k : Nat} {v : Int} (hk : k < N) (hv : q k = v) (ho : ∀ t, t < N → t ≠ k → q t = p t) : OTab (w.setCell ⟨g, k, none⟩ (.int .i64 v)) B e g N cap q := by
 have := h.stored k (.int .i64 v)
 unfold OTab
 rw [← tab_set hk hv ho, List.map_set]
 exact this.1
theorem OTab.eq (h : OTab w B e g N cap p) (ho : ∀ t, t < N → q t = p t) : OTab w B e g N cap q := by
 unfold OTab at *; rwa [tab_eq ho]
theorem OTab.drewN (h : OTab w B e g N cap p) (m : Nat) : OTab (w.drewN m) B e g N cap p := h
theorem OTab.drew (h : OTab w B e g N cap p) : OTab w.drew B e g N cap p := h
theorem OTab.alloc (h : OTab w B e g N cap p) (o : Obj) : OTab (w.alloc o) B e g N cap p := World.ownsRow.alloc h o
theorem OTab.lt (h : OTab w B e g N cap p) : B ≤ g ∧ g < w.heap.size := World.ownsRow.lt h g rfl
theorem OTab.below (h : OTab w B e g N cap p) (hb : Below w.heap.size w w') : OTab w' B e g N cap p := by
 obtain ⟨hl, h⟩ := h
 refine ⟨hl, ?_⟩
 rcases h with hn | ⟨g', cap', cur, hv, hg, hgg, rest⟩
 · exact .inl hn
 · exact .inr ⟨g', cap', cur, hv, hg, by rw [hb.block g' (Array.getElem?_eq_some_iff.1 hgg).1]; exact hgg, rest⟩
theorem OTab.kept (h : OTab w B e g N cap p) {row : Option Nat} (hg : w.grownBy w' row) (hne : row ≠ some g) : OTab w' B e g N cap p :=
 World.ownsRow.kept h hg (.inr (fun e => hne e.symm))
theorem OTab.setFar (h : OTab w B e g N cap p) {b j : Nat} {u : Value} (hb : b ≠ g) : OTab (w.setCell ⟨b, j, none⟩ u) B e g N cap p :=
 h.kept (row := some b) (by
  refine ⟨rfl, rfl, rfl, by simp [World.setCell], fun k hk hne => ?_⟩
  have hne' : ¬ b = k := fun e => hne (by rw [e])
  simp [World.setCell, Array.getElem?_modify, hne']) (fun e => hb (by injection e))
theorem OTab.base (h : OTab w B e g N cap p) {B' : Nat} (hB : B' ≤ B) : OTab w B' e g N cap p := by
 obtain ⟨hl, h⟩ := h
 refine ⟨hl, ?_⟩
 rcases h with hn | ⟨g', cap', cur, hv, hg, rest⟩
 · exact .inl hn
 · exact .inr ⟨g', cap', cur, hv, by omega, rest⟩
theorem OTab.cap_ (h : OTab w B e g N cap p) : N ≤ cap := by
 rcases h.2 with ⟨hc, _⟩ | ⟨g', cap', cur, hv, _, _, hn, _⟩
 · cases hc
 · injection hv with _ _ e3; omega
theorem OTab.ints (h : OTab w B e g N cap p) (hN : N ≤ 17592186044416) : IntsAt w (some ⟨g, 0, none⟩) N cap (tabI N p) := by
 refine ⟨tab_len N p, h.cap_, hN, fun h0 => ⟨_, rfl, (OTab.lt h).2, fun j x hj => ?_⟩⟩
 have hjl := (List.getElem?_eq_some_iff.1 hj).1
 rw [tab_len] at hjl
 rw [tab_at hjl] at hj
 injection hj with hj
 subst hj
 rw [show (⟨g, 0, none⟩ : Addr).add j = ⟨g, j, none⟩ by unfold Addr.add; split <;> simp_all]
 exact h.cell hjl
theorem OTab.news (h : OTab w B e g N cap p) : ∀ (j : Nat) (u : Value), ((tabI N p).map (Value.int .i64))[j]? = some u → w.cell? ((⟨g, 0, none⟩ : Addr).add j) = some u := by
 intro j u hj
 rw [show (⟨g, 0, none⟩ : Addr).add j = ⟨g, j, none⟩ by unfold Addr.add; split <;> simp_all]
 rw [List.getElem?_map] at hj
 have hjl : j < N := by
  rcases Nat.lt_or_ge j N with h1 | h1
  · exact h1
  · rw [List.getElem?_eq_none (by rw [tab_len]; exact h1)] at hj; cases hj
 rw [tab_at hjl] at hj
 simp at hj; subst hj
 exact h.cell hjl
theorem tab_one (N : Nat) (p : Nat → Int) : ∀ u ∈ (tabI N p).map (Value.int .i64), u.oneCell' = true := by
 intro u hu
 obtain ⟨x, _, rfl⟩ := List.mem_map.1 hu
 rfl
end
theorem OTab.made {w : World} {B e g N : Nat} (h : w.ownsRow B e 1 (.slice (some ⟨g, 0, none⟩) N N) N (madeCells (Value.int .i64 0).cells (N * 1)).toList) : OTab w B e g N N (fun _ => 0) := OwnTab.made h
theorem OTab.copied {w : World} {B e N : Nat} {v v' : Value} {p : Nat → Int} (h : w.ownsRow B e 1 v' (0 + N) ([] ++ (tabI N p).map (Value.int .i64))) (hn : v' = .slice none 0 0 ↔ v = .slice none 0 0 ∧ N = 0) (hv : v ≠ .slice none 0 0) :
 ∃ g cap, v' = .slice (some ⟨g, 0, none⟩) N cap ∧ OTab w B e g N cap p := by
 rw [Nat.zero_add, List.nil_append] at h
 have h0 := h
 rcases h.2 with ⟨h1, _⟩ | ⟨g, cap, cur, rfl, _⟩
 · exact absurd (hn.1 h1).1 hv
 · exact ⟨g, cap, rfl, h0⟩
theorem own_empty (w : World) (B e g : Nat) (hB : B ≤ w.heap.size) (hg : w.heap.size = g) : (w.alloc (.cells #[] e)).ownsRow B e 1 (.slice (some ⟨g, 0, none⟩) 0 0) 0 [] := by
 subst hg
 exact ⟨rfl, .inr ⟨w.heap.size, 0, #[], rfl, hB, heap_alloc_new w _, Nat.le_refl _, by unfold maxLen; omega, rfl, rfl⟩⟩
end Go.Proofs.Ytagbikgfkakbfaa
namespace Go.Proofs.Ytagbikgfkakbfaa
open Go.RowKit
set_option linter.unusedSimpArgs false
set_option linter.unusedVariables false
def peOf (e : GE) : PE := ⟨e.src.toNat, e.dst.toNat, e.wt⟩
def pes (es : List GE) : List PE := es.map peOf
theorem pes_len (es : List GE) : (pes es).length = es.length := by simp [pes]
theorem pes_get {es : List GE} {k : Nat} {e : GE} (h : es[k]? = some e) : (pes es)[k]? = some (peOf e) := by simp [pes, h]
theorem pes_in {N : Nat} {es : List GE} (h : GraphOk (N : Int) es) : Inside N (pes es) := by
 intro e he
 obtain ⟨d, hd, rfl⟩ := List.mem_map.1 he
 have := h.2 d hd
 unfold EdgeOk at this
 simp only [peOf]; omega
theorem wsum_b {es : List GE} {N : Int} (h : GraphOk N es) : ∀ {l : List PE} {u v : Nat}, IsWalk (pes es) u l v → -(l.length * 1048576 : Int) ≤ wsum l ∧ wsum l ≤ l.length * 1048576
 | [], _, _, _ => by simp [wsum]
 | e :: l, u, v, ⟨he, _, hw⟩ => by
   have ih := wsum_b h hw
   obtain ⟨d, hd, rfl⟩ := List.mem_map.1 he
   have hd := h.2 d hd
   unfold EdgeOk at hd
   rw [wsum_cons, List.length_cons]
   simp only [peOf] at *
   omega
theorem siter_b {es : List GE} {N : Int} (h : GraphOk N es) (k v : Nat) : 0 ≤ siter (pes es) k v ∧ siter (pes es) k v ≤ k * 1048576 := by
 have h0 := siter_le (pes es) 0 k (by omega) v
 obtain ⟨u, l, hw, hl, he⟩ := siter_walk (pes es) k v
 have := (wsum_b h hw).2
 have h1 : siter (pes es) 0 v = 0 := rfl
 refine ⟨by omega, ?_⟩
 rw [he]; omega
theorem sfold_snoc (m nx : Nat → Int) (l : List PE) (e : PE) : sfold (l ++ [e]) m nx = upd (sfold l m nx) e.dst (max (sfold l m nx e.dst) (m e.src + e.wt)) := by
 unfold sfold; rw [List.foldl_append]; rfl
theorem sfold_take {es : List PE} {k : Nat} {e : PE} (h : es[k]? = some e) (m nx : Nat → Int) : sfold (es.take (k + 1)) m nx = upd (sfold (es.take k) m nx) e.dst (max (sfold (es.take k) m nx e.dst) (m e.src + e.wt)) := by
 have hk := (List.getElem?_eq_some_iff.1 h).1
 have e1 : es.take (k + 1) = es.take k ++ [e] := by
  rw [List.take_succ_eq_append_getElem hk]
  rw [List.getElem?_eq_getElem hk] at h; injection h with h; rw [h]
 rw [e1, sfold_snoc]
theorem siter_stay {es : List PE} {r : Nat} (h : ∀ v, siter es (r + 1) v = siter es r v) : ∀ k, r ≤ k → ∀ v, siter es k v = siter es r v := by
 intro k hk
 induction k with
 | zero => intro v; rw [show r = 0 by omega]
 | succ k ih =>
   intro v
   rcases (show r = k + 1 ∨ r ≤ k by omega) with h1 | h1
   · rw [h1]
   · have e : siter es k = siter es r := funext (ih h1)
     show sround es (siter es k) v = _
     rw [e]; exact h v
theorem siter_out {es : List PE} {N : Nat} (hin : Inside N es) : ∀ k v, N ≤ v → siter es k v = 0
 | 0, _, _ => rfl
 | k + 1, v, hv => by
   rcases sfold_from (siter es k) es (siter es k) v with h | ⟨e, he, hd, _⟩
   · show sfold es (siter es k) (siter es k) v = 0
     rw [h]; exact siter_out hin k v hv
   · have := (hin e he).2; omega
theorem tab_inj {N : Nat} {p q : Nat → Int} (h : tabI N p = tabI N q) : ∀ t, t < N → p t = q t := by
 intro t ht
 have h1 := tab_at (p := p) ht
 rw [h, tab_at ht] at h1
 injection h1 with h1; exact h1.symm
def HasPot (es : List GE) : Prop := ∃ p, Pot (pes es) p
theorem hasPot_of {es : List GE} {N r : Nat} (hg : GraphOk (N : Int) es) (h : tabI N (siter (pes es) (r + 1)) = tabI N (siter (pes es) r)) : HasPot es ∧ ∀ k, r ≤ k → ∀ v, siter (pes es) k v = siter (pes es) r v := by
 have hv : ∀ v, siter (pes es) (r + 1) v = siter (pes es) r v := fun v => by
  rcases Nat.lt_or_ge v N with h1 | h1
  · exact tab_inj h v h1
  · rw [siter_out (pes_in hg) _ _ h1, siter_out (pes_in hg) _ _ h1]
 exact ⟨⟨_, siter_fix hv⟩, siter_stay hv⟩
theorem same_of {es : List GE} {N k : Nat} (hg : GraphOk (N : Int) es) (hp : HasPot es) (hN : N ≤ k + 1) : tabI N (siter (pes es) (k + 1)) = tabI N (siter (pes es) k) := by
 obtain ⟨p, hp⟩ := hp
 exact tab_eq fun t _ => siter_still (pes_in hg) hN hp t
def QMostEnds (N : Nat) (es : List GE) (e : Ending) (w' : World) : Prop :=
 (HasPot es ∧ ∃ b d, e = .returned (.tuple #[.slice b N d, .bool true]) ∧ IntsAt w' b N d (tabI N (siter (pes es) N))) ∨ (¬ HasPot es ∧ e = .returned (.tuple #[.slice none 0 0, .bool false]))
end Go.Proofs.Ytagbikgfkakbfaa
namespace Go.Proofs.Ytagbikgfkakbfaa
open Go.RowKit
set_option linter.unusedSimpArgs false
set_option linter.unusedVariables false
def StepOk (es : List GE) (ns : List Int) (k : Nat) : Prop := ∃ m e, ns[k]? = some ((m : Nat) : Int) ∧ es[m]? = some e ∧ (k = 0 ∨ ∃ m' e', ns[k - 1]? = some ((m' : Nat) : Int) ∧ es[m']? = some e' ∧ e'.dst = e.src)
def wI (es : List GE) (ns : List Int) : Nat → Int
 | 0 => 0
 | k + 1 => IntKind.i64.wrap (wI es ns k + ((es[(ns.getD k 0).toNat]?).map GE.wt).getD 0)
theorem wI_succ {es : List GE} {ns : List Int} {k m : Nat} {e : GE} (hn : ns[k]? = some (m : Int)) (he : es[m]? = some e) : wI es ns (k + 1) = IntKind.i64.wrap (wI es ns k + e.wt) := by
 simp only [wI]; rw [getD_of hn]; simp [he]
def WeighSays (N : Int) (es : List GE) (ns : List Int) (s r : Int) : Prop :=
 (¬ GraphOk N es ∧ s = 0 ∧ r = 2) ∨ (GraphOk N es ∧ (∀ k, k < ns.length → StepOk es ns k) ∧ s = wI es ns ns.length ∧ r = 0) ∨ (GraphOk N es ∧ (∃ k, k < ns.length ∧ ¬ StepOk es ns k) ∧ s = 0 ∧ r = 1)
theorem weigh_one {N : Int} {es : List GE} {ns : List Int} {s r s' r' : Int} (h : WeighSays N es ns s r) (h' : WeighSays N es ns s' r') : s = s' ∧ r = r' := by
 rcases h with ⟨h1, rfl, rfl⟩ | ⟨h1, h2, rfl, rfl⟩ | ⟨h1, ⟨k, hk, h2⟩, rfl, rfl⟩ <;> rcases h' with ⟨g1, rfl, rfl⟩ | ⟨g1, g2, rfl, rfl⟩ | ⟨g1, ⟨j, hj, g2⟩, rfl, rfl⟩
 · exact ⟨rfl, rfl⟩
 · exact absurd g1 h1
 · exact absurd g1 h1
 · exact absurd h1 g1
 · exact ⟨rfl, rfl⟩
 · exact absurd (h2 j hj) g2
 · exact absurd h1 g1
 · exact absurd (g2 k hk) h2
 · exact ⟨rfl, rfl⟩
def WeighEnds (N : Int) (es : List GE) (ns : List Int) (e : Ending) : Prop := ∃ s r, e = .returned (.tuple #[.int .i64 s, .int .i64 r]) ∧ WeighSays N es ns s r
theorem weighEnds {N : Int} {es : List GE} {ns : List Int} {s r : Int} (h : WeighSays N es ns s r) : WeighEnds N es ns (.returned (.tuple #[.int .i64 s, .int .i64 r])) := ⟨s, r, rfl, h⟩
theorem EdgesAt.src_ {w w' : World} {a : Option Addr} {n c : Nat} {es : List GE} {k : Nat} (h : EdgesAt w a n c es) (hb : Below w.heap.size w w') (hk : k < n) : ∃ ad e, a = some ad ∧ (ad.add (k * 3)).block < w.heap.size ∧ es[k]? = some e ∧
 w'.cell? (ad.add (k * 3)) = some (.int .i64 e.src) ∧ w'.cell? ⟨(ad.add (k * 3)).block, (ad.add (k * 3)).off + 1, none⟩ = some (.int .i64 e.dst) ∧ w'.cell? ⟨(ad.add (k * 3)).block, (ad.add (k * 3)).off + 2, none⟩ = some (.int .i64 e.wt) := by
 obtain ⟨ad, x, y, z, h1, h2, h3, h4, h5, h6⟩ := h.getB hb hk
 exact ⟨ad, ⟨x, y, z⟩, h1, h2, h3.out, h4, h5, h6⟩
end Go.Proofs.Ytagbikgfkakbfaa
namespace Go.Proofs.Ytagbikgfkakbfaa
open Go.RowKit
set_option linter.unusedSimpArgs false
set_option linter.unusedVariables false
theorem wrap_small {x : Int} (h1 : -9223372036854775808 ≤ x) (h2 : x ≤ 9223372036854775807) : IntKind.i64.wrap x = x := by
 rw [IntWalk.i64_left]; unfold wrap64; omega
def bRow (es : List PE) (s : PS) (u p : Nat) : List Int := (List.range p).map fun k => s.b (prevN es s k u)
theorem bRow_len (es : List PE) (s : PS) (u p : Nat) : (bRow es s u p).length = p := by simp [bRow]
theorem bRow_at {es : List PE} {s : PS} {u p k : Nat} (hk : k < p) : (bRow es s u p)[k]? = some (s.b (prevN es s k u)) := by
 unfold bRow; rw [List.getElem?_map, List.getElem?_range hk]; rfl
theorem bRow_succ (es : List PE) (s : PS) (u p : Nat) : bRow es s u (p + 1) = bRow es s u p ++ [s.b (prevN es s p u)] := by
 unfold bRow; rw [List.range_succ, List.map_append]; rfl
structure CycSays (N : Nat) (es : List GE) (ns : List Int) : Prop where
 pos : 0 < ns.length
 le : ns.length ≤ N
 ok : ∀ k, k < ns.length → StepOk es ns k
 more : 0 < wI es ns ns.length
 ends : ∃ (m m' : Nat) (e e' : GE), ns[0]? = some (m : Int) ∧ es[m]? = some e ∧ ns[ns.length - 1]? = some (m' : Int) ∧ es[m']? = some e' ∧ e.src = e'.dst
theorem cyc_says {N : Nat} {es : List GE} {s : PS} {v p : Nat} (hg : GraphOk (N : Int) es) (hf : Found (pes es) N s v p) : CycSays N es (bRow (pes es) s (prevN (pes es) s N v) p).reverse := by
 obtain ⟨u, hu⟩ : ∃ u, prevN (pes es) s N v = u := ⟨_, rfl⟩
 have key : ∀ k, ∃ (m : Nat) (g : GE), s.b (prevN (pes es) s k u) = (m : Int) ∧ es[m]? = some g ∧ g.src = (prevN (pes es) s (k + 1) u : Nat) ∧ g.dst = (prevN (pes es) s k u : Nat) ∧ g.wt = (eby (pes es) s (prevN (pes es) s k u)).wt ∧ -1048576 ≤ g.wt ∧ g.wt ≤ 1048576 := by
  intro k
  have h1 := hf.on (N + k)
  rw [prevN_add, hu] at h1
  obtain ⟨_, h2, h3, h4, h5⟩ := h1
  have e1 : prevN (pes es) s (k + 1) u = (eby (pes es) s (prevN (pes es) s k u)).src := rfl
  rw [e1]
  generalize prevN (pes es) s k u = c at *
  generalize eby (pes es) s c = q at *
  rw [pes, List.getElem?_map] at h3
  obtain ⟨g, hg1, hg2⟩ := Option.map_eq_some_iff.1 h3
  have hok := hg.2 _ (List.mem_of_getElem? hg1)
  unfold EdgeOk at hok
  subst hg2
  simp only [peOf] at h5 ⊢
  exact ⟨(s.b c).toNat, g, by omega, hg1, by omega, by omega, rfl, by omega, by omega⟩
 rw [hu]
 have hlen : (bRow (pes es) s u p).reverse.length = p := by rw [List.length_reverse, bRow_len]
 have at' : ∀ k, k < p → (bRow (pes es) s u p).reverse[k]? = some (s.b (prevN (pes es) s (p - 1 - k) u)) := by
  intro k hk
  rw [List.getElem?_reverse (by rw [bRow_len]; exact hk), bRow_len]
  exact bRow_at (by omega)
 have hN : N ≤ 300 := by have := hg.1.2.1; omega
 have hw : ∀ k, k ≤ p → wI es (bRow (pes es) s u p).reverse k = backW (pes es) s u p - backW (pes es) s u (p - k) ∧ -(k * 1048576 : Int) ≤ wI es (bRow (pes es) s u p).reverse k ∧ wI es (bRow (pes es) s u p).reverse k ≤ k * 1048576 := by
  intro k
  induction k with
  | zero => intro _; simp [wI]
  | succ k ih =>
    intro hk
    obtain ⟨i1, i2, i3⟩ := ih (by omega)
    obtain ⟨m, g, g1, g2, g3, g4, g5, g6, g7⟩ := key (p - 1 - k)
    have hn := at' k (by omega)
    rw [g1] at hn
    have hpl := hf.le
    rw [wI_succ hn g2, wrap_small (by omega) (by omega)]
    have e2 : backW (pes es) s u (p - k) = backW (pes es) s u (p - 1 - k) + (eby (pes es) s (prevN (pes es) s (p - 1 - k) u)).wt := by
     rw [show p - k = p - 1 - k + 1 by omega]; rfl
    rw [show p - (k + 1) = p - 1 - k by omega]
    refine ⟨by omega, by omega, by omega⟩
 refine ⟨by rw [hlen]; exact hf.pos, by rw [hlen]; exact hf.le, fun k hk => ?_, ?_, ?_⟩
 · rw [hlen] at hk
   obtain ⟨m, g, g1, g2, g3, g4, _⟩ := key (p - 1 - k)
   have hn := at' k hk
   rw [g1] at hn
   refine ⟨m, g, hn, g2, ?_⟩
   rcases Nat.eq_zero_or_pos k with h0 | h0
   · exact .inl h0
   · right
     obtain ⟨m', g', f1, f2, f3, f4, _⟩ := key (p - 1 - (k - 1))
     have hn' := at' (k - 1) (by omega)
     rw [f1] at hn'
     refine ⟨m', g', hn', f2, ?_⟩
     rw [g3, f4, show p - 1 - (k - 1) = p - 1 - k + 1 by omega]
 · rw [hlen]
   have := (hw p (Nat.le_refl _)).1
   rw [this, Nat.sub_self]
   have h9 := hf.more
   rw [hu] at h9
   simp only [backW]
   omega
 · rw [hlen]
   have hpp := hf.pos
   obtain ⟨m, g, g1, g2, g3, g4, _⟩ := key (p - 1)
   obtain ⟨m', g', f1, f2, f3, f4, _⟩ := key 0
   have hn := at' 0 hpp
   have hn' := at' (p - 1) (by omega)
   rw [show p - 1 - 0 = p - 1 by omega, g1] at hn
   rw [show p - 1 - (p - 1) = 0 by omega, f1] at hn'
   refine ⟨m, m', g, g', hn, g2, hn', f2, ?_⟩
   have hb := hf.back
   rw [hu] at hb
   rw [g3, f4, show p - 1 + 1 = p by omega, hb]; rfl
end Go.Proofs.Ytagbikgfkakbfaa
namespace Go.Proofs.Ytagbikgfkakbfaa
open Go.RowKit
set_option linter.unusedSimpArgs false
set_option linter.unusedVariables false
section
variable {X : Sx} {who ratio : Int}
def geOf (X : Sx) (who ratio : Int) : List GE := X.edges.map fun E => ⟨(E.f : Int), (E.t : Int), wtE who ratio E.us⟩
theorem geOf_len : (geOf X who ratio).length = X.edges.length := by simp [geOf]
theorem geOf_at {k : Nat} {E : Edg} (h : X.edges[k]? = some E) : (geOf X who ratio)[k]? = some ⟨(E.f : Int), (E.t : Int), wtE who ratio E.us⟩ := by simp [geOf, h]
theorem geOf_inv {k : Nat} {e : GE} (h : (geOf X who ratio)[k]? = some e) : ∃ E, X.edges[k]? = some E ∧ e = ⟨(E.f : Int), (E.t : Int), wtE who ratio E.us⟩ := by
 simp only [geOf, List.getElem?_map, Option.map_eq_some_iff] at h
 obtain ⟨E, h1, h2⟩ := h
 exact ⟨E, h1, h2.symm⟩
theorem geOf_ok (hok : SxOk Gd UU X) (hm : X.edges.length ≤ 4800) (hg : goodArgs who ratio) : GraphOk (X.states.length : Int) (geOf X who ratio) := by
 have hmost := hok.most
 refine ⟨⟨by omega, by omega, by rw [geOf_len]; exact hm⟩, fun e he => ?_⟩
 obtain ⟨E, hE, rfl⟩ := List.mem_map.1 he
 obtain ⟨i, hi⟩ := List.mem_iff_getElem?.1 hE
 obtain ⟨h1, h2, h3⟩ := hok.tos i E hi
 obtain ⟨g0, g1, g2, g3⟩ := hg
 have h4 := wtE_sml h3 (show who = 0 ∨ who = 1 by omega) ⟨g2, g3⟩
 unfold EdgeOk
 dsimp only
 omega
theorem edgesAt_row {w : World} {B m c : Nat} {a : Option Addr} (h : w.ownsRow B 66 3 (.slice a m c) m (flatE who ratio X.edges)) (hm : X.edges.length = m) (hm3 : m ≤ 4800) : EdgesAt w a m c (geOf X who ratio) := by
 have e : flatE who ratio X.edges = flatS (X.edges.map fun E => [(E.f : Int), (E.t : Int), wtE who ratio E.us]) := flatE_S _ _ _
 rcases h.2 with ⟨h1, h2⟩ | ⟨g, cap, cur, h1, hg, hh, hn, hc, hs, hx⟩
 · injection h1 with h1 h3 h4
   subst h1; subst h2; subst h4
   exact ⟨by rw [geOf_len]; exact hm, Nat.le_refl _, by omega, fun h => by omega⟩
 · injection h1 with h1 _ h4
   subst h1; subst h4
   have hlt := (Array.getElem?_eq_some_iff.1 hh).1
   refine ⟨by rw [geOf_len]; exact hm, hn, by omega, fun _ => ⟨_, rfl, hlt, fun j e he => ?_⟩⟩
   obtain ⟨E, hE, rfl⟩ := geOf_inv he
   have key : ∀ (i : Nat) (x : Int), [(E.f : Int), (E.t : Int), wtE who ratio E.us][i]? = some x → w.cell? ⟨g, j * 3 + i, none⟩ = some (.int .i64 x) := fun i x hi => by
    have h5 := flatS_get (L := X.edges.map fun E => [(E.f : Int), (E.t : Int), wtE who ratio E.us]) (sz := 3) (fun t ht => by
     obtain ⟨E', _, rfl⟩ := List.mem_map.1 ht; rfl) (k := j) (by rw [List.getElem?_map, hE]; rfl) hi
    rw [← e, ← hx, List.getElem?_take] at h5
    split at h5
    · simp [World.cell?, hh]
      simpa using h5
    · cases h5
   have ea : ∀ i, (⟨g, 0, none⟩ : Addr).add i = ⟨g, i, none⟩ := fun i => by unfold Addr.add; split <;> simp_all
   rw [ea, ea, ea]
   exact ⟨key 0 _ rfl, key 1 _ rfl, key 2 _ rfl⟩
end
def mostOf (N : Nat) (es : List GE) : Int := (tabI N (siter (pes es) N)).foldl max 0
theorem foldl_max_ge (l : List Int) : ∀ a : Int, a ≤ l.foldl max a := by
 induction l with
 | nil => intro a; exact Int.le_refl a
 | cons x l ih => intro a; exact Int.le_trans (Int.le_max_left a x) (ih (max a x))
theorem foldl_max_le (l : List Int) {M : Int} : ∀ a : Int, a ≤ M → (∀ x ∈ l, x ≤ M) → l.foldl max a ≤ M := by
 induction l with
 | nil => intro a h _; exact h
 | cons x l ih => intro a h h'; exact ih (max a x) (Int.max_le.2 ⟨h, h' x (by simp)⟩) (fun y hy => h' y (by simp [hy]))
theorem mostOf_b {N : Nat} {es : List GE} (h : GraphOk (N : Int) es) : 0 ≤ mostOf N es ∧ mostOf N es ≤ 314572800 := by
 refine ⟨foldl_max_ge _ _, foldl_max_le _ _ (by omega) (fun x hx => ?_)⟩
 simp only [tabI, List.mem_map, List.mem_range] at hx
 obtain ⟨v, hv, rfl⟩ := hx
 have h1 := (siter_b h N v).2
 have h2 := h.1.2.1
 have h3 : (N : Int) * 1048576 ≤ 300 * 1048576 := Int.mul_le_mul_of_nonneg_right h2 (by omega)
 omega
theorem flOf_get {q : Nat} : ∀ {n i : Nat}, i < n * ((q + 1) * (q + 1)) → (flOf (q + 1) n)[i]? = some (i / ((q + 1) * (q + 1)), ⟨((i % ((q + 1) * (q + 1)) / (q + 1) : Nat) : Int), ((i % (q + 1) : Nat) : Int)⟩) := by
 intro n
 have hM : 0 < (q + 1) * (q + 1) := Nat.mul_pos (by omega) (by omega)
 obtain ⟨M, hMM⟩ : ∃ M, (q + 1) * (q + 1) = M := ⟨_, rfl⟩
 have hlen : ∀ n, (flOf (q + 1) n).length = n * M := by
  intro n
  induction n with
  | zero => simp [flOf]
  | succ n ih => rw [flOf_succ, List.length_append, ih, List.length_map, latesP_len, hMM, Nat.succ_mul]
 induction n with
 | zero => intro i hi; omega
 | succ n ih =>
   intro i hi
   rw [hMM] at hi ih hM ⊢
   rw [flOf_succ]
   by_cases h : i < n * M
   · rw [List.getElem?_append_left (by rw [hlen]; exact h)]
     exact ih h
   · rw [Nat.succ_mul] at hi
     have hi2 : i - n * M < M := by omega
     have hdv : i / M = n := by
      rw [Nat.div_eq_iff hM]
      have := Nat.succ_mul n M
      have := Nat.mul_comm n M
      omega
     have hmd : i % M = i - n * M := by
      have := Nat.div_add_mod i M
      rw [hdv, Nat.mul_comm] at this
      omega
     rw [List.getElem?_append_right (by rw [hlen]; omega), hlen, List.getElem?_map]
     have hl : (latesP (q + 1) ((q + 1) * (q + 1)))[i - n * M]? = some ⟨((((i - n * M) / (q + 1) : Nat)) : Int), (((i - n * M) % (q + 1) : Nat) : Int)⟩ := by
      rw [hMM]
      simp [latesP, List.getElem?_range, hi2]
     rw [hl, hdv, ← hmd]
     simp only [Option.map_some]
     have : i % M % (q + 1) = i % (q + 1) := by rw [← hMM]; exact Nat.mod_mul_left_mod i (q + 1) (q + 1)
     rw [this]
end Go.Proofs.Ytagbikgfkakbfaa
namespace Go.Proofs.Ytagbikgfkakbfaa
open Go.RowKit
set_option linter.unusedSimpArgs false
set_option linter.unusedVariables false
attribute [local go_sem] iteMin iteMax iteMinN iteMaxN
def lateF (N1 n : Nat) : P2 := ⟨((n % (N1 * N1) / N1 : Nat) : Int), ((n % N1 : Nat) : Int)⟩
set_option maxRecDepth 100000 in
set_option maxHeartbeats 2000000 in
theorem late_any (k0 k1 R Q : Int) (q n : Nat) (w : World) (hq : q ≤ 3) (hn : n ≤ 4800) :
 Calls Try.prog 19 #[.agg #[.int .i64 k0, .int .i64 k1, .int .i64 R, .int .i64 Q, .int .i64 q], .int .i64 n] w fun e w' => e = .returned (.agg #[.int .i64 (lateF (q + 1) n).x, .int .i64 (lateF (q + 1) n).y]) ∧ Below w.heap.size w w' := by
 obtain ⟨S, hS⟩ : ∃ S, w.heap.size = S := ⟨_, rfl⟩
 obtain ⟨N1, hN1⟩ : ∃ N1 : Nat, q + 1 = N1 := ⟨_, rfl⟩
 have h1 : 1 ≤ N1 ∧ N1 ≤ 4 := by omega
 have hc : (q : Int) + 1 = (N1 : Int) := by omega
 have hw1 : IntKind.i64.wrap ((q : Int) + 1) = (N1 : Int) := by rw [hc]; exact IntWalk.i64_in _ (by omega)
 obtain ⟨M, hM⟩ : ∃ M : Nat, N1 * N1 = M := ⟨_, rfl⟩
 have hM1 : 1 ≤ M ∧ M ≤ 16 := by
  have a1 := Nat.mul_le_mul h1.1 h1.1
  have a2 := Nat.mul_le_mul h1.2 h1.2
  omega
 have hw2 : IntKind.i64.wrap ((N1 : Int) * (N1 : Int)) = (M : Int) := by rw [← Int.natCast_mul, hM]; exact IntWalk.i64_in _ (by omega)
 obtain ⟨a, ha⟩ : ∃ a : Nat, n % M = a := ⟨_, rfl⟩
 obtain ⟨b, hb⟩ : ∃ b : Nat, a / N1 = b := ⟨_, rfl⟩
 obtain ⟨d, hd⟩ : ∃ d : Nat, n % N1 = d := ⟨_, rfl⟩
 have t1 : Int.tmod (n : Int) (M : Int) = (a : Int) := by rw [← ha]; rfl
 have t2 : Int.tdiv (a : Int) (N1 : Int) = (b : Int) := by rw [← hb]; rfl
 have t3 : Int.tmod (n : Int) (N1 : Int) = (d : Int) := by rw [← hd]; rfl
 have b1 : b ≤ a := by rw [← hb]; exact Nat.div_le_self _ _
 have b2 : a < M := by rw [← ha]; exact Nat.mod_lt _ (by omega)
 have b3 : d < N1 := by rw [← hd]; exact Nat.mod_lt _ (by omega)
 have w3 : IntKind.i64.wrap (a : Int) = (a : Int) := IntWalk.i64_in _ (by omega)
 have w4 : IntKind.i64.wrap (b : Int) = (b : Int) := IntWalk.i64_in _ (by omega)
 have w5 : IntKind.i64.wrap (d : Int) = (d : Int) := IntWalk.i64_in _ (by omega)
 have z1 : ((N1 : Int) == 0) = false := by simp; omega
 have z2 : ((M : Int) == 0) = false := by simp; omega
 have z3 : ¬ ((N1 : Int) = 0) := by omega
 have z4 : ¬ ((M : Int) = 0) := by omega
 have z5 : ¬ N1 = 0 := by omega
 have z6 : ¬ M = 0 := by omega
 have HR : Hid (lateF (q + 1) n = ⟨(b : Int), (d : Int)⟩) := hide (by unfold lateF; rw [hN1, hM, ha, hb, hd])
 rw [HR.out]
 clear hM ha hb hd hN1 hc
 go_enter Try.func19, Try.ntmps19
 go_upto_region 2 with fail
 obtain ⟨W, hW⟩ : ∃ W, W = (w.alloc (.cells #[.int .i64 k0, .int .i64 k1, .int .i64 R, .int .i64 Q, .int .i64 q] 24)).alloc (.cells #[.int .i64 0, .int .i64 0] 22) := ⟨_, rfl⟩
 rw [← hW]
 have hB : Below S w W := by rw [hW, ← hS]; exact ((Below.refl _ _).alloc (Nat.le_refl _) _).alloc (by simp) _
 have c0 : W.cell? ⟨S + 1, 0, none⟩ = some (.int .i64 0) := by rw [hW, ← hS]; simp [go_sem]
 have c1 : W.cell? ⟨S + 1, 1, none⟩ = some (.int .i64 0) := by rw [hW, ← hS]; simp [go_sem]
 have cf : ∀ j, W.frozen? ⟨S + 1, j, none⟩ = false := by intro j; rw [hW, ← hS]; simp [go_sem]
 clear hW
 go_region
 go_wp2
 refine bodyPost_ret (v := .agg #[.int .i64 (b : Int), .int .i64 (d : Int)]) ?_ rfl ⟨rfl, ?_⟩
 · simp [results, Try.f19, go_sem, c0, c1]
 · rw [hS]; exact ((hB.setCell (by simp only; omega) _).setCell (by simp only; omega) _).drew
end Go.Proofs.Ytagbikgfkakbfaa
namespace Go.Proofs.Ytagbikgfkakbfaa
open Go.RowKit
set_option linter.unusedSimpArgs false
set_option linter.unusedVariables false
def Ap (a b : Value) : Prop := a.ownBlock = none ∨ a.ownBlock ≠ b.ownBlock
theorem Ap.symm {a b : Value} (h : Ap a b) : Ap b a := by
 unfold Ap at *
 rcases h with h | h
 · by_cases hb : b.ownBlock = none
   · exact .inl hb
   · exact .inr (by rw [h]; exact hb)
 · exact .inr (fun e => h e.symm)
theorem Ap.new {a v : Value} {g H cap n : Nat} (h : Ap a v) (hg : v.ownBlock = some g ∨ g = H) (ha : ∀ k, a.ownBlock = some k → k < H) : Ap a (.slice (some ⟨g, 0, none⟩) n cap) := by
 unfold Ap at *
 rcases h with h | h
 · exact .inl h
 · by_cases hn : a.ownBlock = none
   · exact .inl hn
   · right
     intro e
     have e2 : a.ownBlock = some g := e
     rcases hg with hg | rfl
     · exact h (by rw [hg, e2])
     · have := ha _ e2; omega
theorem Ap.nil (b : Value) : Ap (.slice none 0 0) b := .inl rfl
structure R3 (w : World) (B e : Nat) (A1 A2 A3 : List Int) (v1 : Value) (k1 : Nat) (v2 : Value) (k2 : Nat) (v3 : Value) (k3 : Nat) : Prop where
 o1 : w.ownsRow B e 1 v1 k1 ((A1.take k1).map (Value.int .i64))
 o2 : w.ownsRow B e 1 v2 k2 ((A2.take k2).map (Value.int .i64))
 o3 : w.ownsRow B e 1 v3 k3 ((A3.take k3).map (Value.int .i64))
 a12 : Ap v1 v2
 a13 : Ap v1 v3
 a23 : Ap v2 v3
section
variable {w w' : World} {B e k1 k2 k3 : Nat} {A1 A2 A3 : List Int} {v1 v2 v3 : Value}
theorem R3.alloc (h : R3 w B e A1 A2 A3 v1 k1 v2 k2 v3 k3) (o : Obj) : R3 (w.alloc o) B e A1 A2 A3 v1 k1 v2 k2 v3 k3 := ⟨h.o1.alloc o, h.o2.alloc o, h.o3.alloc o, h.a12, h.a13, h.a23⟩
theorem R3.drew (h : R3 w B e A1 A2 A3 v1 k1 v2 k2 v3 k3) : R3 w.drew B e A1 A2 A3 v1 k1 v2 k2 v3 k3 := ⟨h.o1, h.o2, h.o3, h.a12, h.a13, h.a23⟩
theorem R3.drewN (h : R3 w B e A1 A2 A3 v1 k1 v2 k2 v3 k3) (m : Nat) : R3 (w.drewN m) B e A1 A2 A3 v1 k1 v2 k2 v3 k3 := ⟨h.o1, h.o2, h.o3, h.a12, h.a13, h.a23⟩
theorem R3.kept (h : R3 w B e A1 A2 A3 v1 k1 v2 k2 v3 k3) {g : Nat} (hg : w.grownBy w' (some g)) (hB : g < B) : R3 w' B e A1 A2 A3 v1 k1 v2 k2 v3 k3 := by
 have key : ∀ {v : Value} {n : Nat} {xs : List Value}, w.ownsRow B e 1 v n xs → w'.ownsRow B e 1 v n xs := fun ho => ho.kept hg (.inr (fun e => by have := own_row ho g e; omega))
 exact ⟨key h.o1, key h.o2, key h.o3, h.a12, h.a13, h.a23⟩
theorem R3.push1 (h : R3 w B e A1 A2 A3 v1 k1 v2 k2 v3 k3) {g cap H : Nat} {x : Int} (hk : k1 < A1.length) (hx : x = A1.getD k1 0) (ho : w'.ownsRow B e 1 (.slice (some ⟨g, 0, none⟩) (k1 + 1) cap) (k1 + 1) ((A1.take k1).map (Value.int .i64) ++ [.int .i64 x]))
 (hg : w.grownBy w' v1.ownBlock) (hat : v1.ownBlock = some g ∨ g = H) (hH : w.heap.size ≤ H) : R3 w' B e A1 A2 A3 (.slice (some ⟨g, 0, none⟩) (k1 + 1) cap) (k1 + 1) v2 k2 v3 k3 :=
 ⟨own_next hk hx ho, h.o2.kept hg h.a12.symm, h.o3.kept hg h.a13.symm, (h.a12.symm.new hat (fun k hk => Nat.lt_of_lt_of_le (h.o2.lt k hk).2 hH)).symm, (h.a13.symm.new hat (fun k hk => Nat.lt_of_lt_of_le (h.o3.lt k hk).2 hH)).symm, h.a23⟩
theorem R3.push2 (h : R3 w B e A1 A2 A3 v1 k1 v2 k2 v3 k3) {g cap H : Nat} {x : Int} (hk : k2 < A2.length) (hx : x = A2.getD k2 0) (ho : w'.ownsRow B e 1 (.slice (some ⟨g, 0, none⟩) (k2 + 1) cap) (k2 + 1) ((A2.take k2).map (Value.int .i64) ++ [.int .i64 x]))
 (hg : w.grownBy w' v2.ownBlock) (hat : v2.ownBlock = some g ∨ g = H) (hH : w.heap.size ≤ H) : R3 w' B e A1 A2 A3 v1 k1 (.slice (some ⟨g, 0, none⟩) (k2 + 1) cap) (k2 + 1) v3 k3 :=
 ⟨h.o1.kept hg h.a12, own_next hk hx ho, h.o3.kept hg h.a23.symm, h.a12.new hat (fun k hk => Nat.lt_of_lt_of_le (h.o1.lt k hk).2 hH), h.a13, (h.a23.symm.new hat (fun k hk => Nat.lt_of_lt_of_le (h.o3.lt k hk).2 hH)).symm⟩
theorem R3.push3 (h : R3 w B e A1 A2 A3 v1 k1 v2 k2 v3 k3) {g cap H : Nat} {x : Int} (hk : k3 < A3.length) (hx : x = A3.getD k3 0) (ho : w'.ownsRow B e 1 (.slice (some ⟨g, 0, none⟩) (k3 + 1) cap) (k3 + 1) ((A3.take k3).map (Value.int .i64) ++ [.int .i64 x]))
 (hg : w.grownBy w' v3.ownBlock) (hat : v3.ownBlock = some g ∨ g = H) (hH : w.heap.size ≤ H) : R3 w' B e A1 A2 A3 v1 k1 v2 k2 (.slice (some ⟨g, 0, none⟩) (k3 + 1) cap) (k3 + 1) :=
 ⟨h.o1.kept hg h.a13, h.o2.kept hg h.a23, own_next hk hx ho, h.a12, h.a13.new hat (fun k hk => Nat.lt_of_lt_of_le (h.o1.lt k hk).2 hH), h.a23.new hat (fun k hk => Nat.lt_of_lt_of_le (h.o2.lt k hk).2 hH)⟩
end
theorem far_row {w w' : World} {B e n S b : Nat} {v u : Value} {xs : List Value} {w0 : World} (h0 : w0.ownsRow B e 1 v n xs) (hg : w.grownBy w' v.ownBlock) (hS : w0.heap.size = S) (hb : S ≤ b) (hc : w.cell? ⟨b, 0, none⟩ = some u) : w'.cell? ⟨b, 0, none⟩ = some u := by
 have hlt := World.block_lt_of_cell? w _ hc
 refine (hg.cell_far _ hlt (fun e => ?_)).trans hc
 have := (h0.lt b e.symm).2
 omega
theorem box_row {w w' : World} {B e n b j : Nat} {v u : Value} {xs : List Value} {w0 : World} (h0 : w0.ownsRow B e 1 v n xs) (hg : w.grownBy w' v.ownBlock) (hb : b < B) (hc : w.cell? ⟨b, j, none⟩ = some u) : w'.cell? ⟨b, j, none⟩ = some u := by
 have hlt := World.block_lt_of_cell? w _ hc
 exact (hg.cell_far _ hlt (own_far h0 hb)).trans hc
theorem news_alloc {w : World} {b : Nat} {u : Value} {o : Obj} (h : w.cell? ⟨b, 0, none⟩ = some u) : (w.alloc o).cell? ⟨b, 0, none⟩ = some u := by
 have hlt := World.block_lt_of_cell? w _ h
 exact (((Below.refl w.heap.size w).alloc (Nat.le_refl _) o).cell hlt).trans h
theorem alloc_cell {w : World} {p : Addr} {u : Value} {o : Obj} (h : w.cell? p = some u) : (w.alloc o).cell? p = some u :=
 (((Below.refl w.heap.size w).alloc (Nat.le_refl _) o).cell (World.block_lt_of_cell? w _ h)).trans h
theorem drew_cell {w : World} {p : Addr} {u : Value} (h : w.cell? p = some u) : w.drew.cell? p = some u := h
theorem blk_alloc {w : World} {b : Nat} {o p : Obj} (h : w.heap[b]? = some o) : (w.alloc p).heap[b]? = some o := (Below.heap_alloc w p b (lt_of_block h)).trans h
theorem blk_drew {w : World} {b : Nat} {o : Obj} (h : w.heap[b]? = some o) : w.drew.heap[b]? = some o := h
theorem blk_row {w w' : World} {B e n b : Nat} {v : Value} {o : Obj} {xs : List Value} {w0 : World} (h0 : w0.ownsRow B e 1 v n xs) (hg : w.grownBy w' v.ownBlock) (hb : b < B) (h : w.heap[b]? = some o) : w'.heap[b]? = some o :=
 (hg.block b (lt_of_block h) (own_far h0 hb)).trans h
theorem bel_row {a w w' : World} {B e n C : Nat} {v : Value} {xs : List Value} {w0 : World} (h0 : w0.ownsRow B e 1 v n xs) (hg : w.grownBy w' v.ownBlock) (hC : C ≤ B) (hs : C ≤ w.heap.size) (h : Below C a w) : Below C a w' :=
 h.grown hg hs (fun k hk => Nat.le_trans hC (own_row h0 k hk))
theorem news_drew {w : World} {b : Nat} {u : Value} (h : w.cell? ⟨b, 0, none⟩ = some u) : w.drew.cell? ⟨b, 0, none⟩ = some u := h
theorem news_new {w : World} {b : Nat} {u : Value} {t : TypeId} (h : w.heap.size = b) : (w.alloc (.cells #[u] t)).cell? ⟨b, 0, none⟩ = some u := by
 subst h; unfold World.cell?; rw [heap_alloc_new w _]; rfl
theorem news_list {w : World} {b : Nat} {u : Value} (h : w.cell? ⟨b, 0, none⟩ = some u) : ∀ (j : Nat) (x : Value), [u][j]? = some x → w.cell? ((⟨b, 0, none⟩ : Addr).add j) = some x := by
 intro j x hj
 have hj0 : j = 0 := by
  have := (List.getElem?_eq_some_iff.1 hj).1
  simp at this; omega
 subst hj0
 simp at hj
 subst hj
 have : (⟨b, 0, none⟩ : Addr).add 0 = ⟨b, 0, none⟩ := by unfold Addr.add; simp
 rw [this]; exact h
end Go.Proofs.Ytagbikgfkakbfaa
namespace Go.Proofs.Ytagbikgfkakbfaa
open Go.RowKit
set_option linter.unusedSimpArgs false
set_option linter.unusedVariables false
theorem prun_snoc : ∀ (l : List PE) (k : Nat) (s : PS) (e : PE), prun (l ++ [e]) k s = pstep (prun l k s) (k + l.length) e
 | [], k, s, e => rfl
 | d :: l, k, s, e => by
   show prun (l ++ [e]) (k + 1) (pstep s k d) = _
   rw [prun_snoc l (k + 1) (pstep s k d) e, List.length_cons, show k + 1 + l.length = k + (l.length + 1) by omega]
   rfl
theorem prun_take {es : List PE} {k : Nat} {e : PE} (h : es[k]? = some e) (s : PS) : prun (es.take (k + 1)) 0 s = pstep (prun (es.take k) 0 s) k e := by
 have hk := (List.getElem?_eq_some_iff.1 h).1
 have e1 : es.take (k + 1) = es.take k ++ [e] := by
  rw [List.take_succ_eq_append_getElem hk]
  rw [List.getElem?_eq_getElem hk] at h; injection h with h; rw [h]
 rw [e1, prun_snoc, List.length_take, show 0 + min k es.length = k by omega]
theorem pstep_b {s : PS} {k : Nat} {e : PE} {M : Int} (hw : e.wt ≤ 1048576) (hs : ∀ v, 0 ≤ s.m v ∧ s.m v ≤ M) : ∀ v, 0 ≤ (pstep s k e).m v ∧ (pstep s k e).m v ≤ M + 1048576 := by
 intro v
 have h1 := hs v
 have h2 := hs e.src
 have h3 := hs e.dst
 unfold pstep
 split
 · simp only [upd]; split <;> omega
 · omega
theorem prun_b {N : Int} {es : List GE} (hg : GraphOk N es) {s : PS} {M : Int} (hs : ∀ v, 0 ≤ s.m v ∧ s.m v ≤ M) : ∀ k, k ≤ es.length → ∀ v, 0 ≤ (prun ((pes es).take k) 0 s).m v ∧ (prun ((pes es).take k) 0 s).m v ≤ M + k * 1048576
 | 0, _, v => by have := hs v; simp [prun]; omega
 | k + 1, hk, v => by
   have ih := prun_b hg hs k (by omega)
   have he : es[k]? = some (es[k]'(by omega)) := List.getElem?_eq_getElem (by omega)
   rw [prun_take (pes_get he)]
   have hok := hg.2 _ (List.getElem_mem (show k < es.length by omega))
   unfold EdgeOk at hok
   have := pstep_b (k := k) (e := peOf (es[k]'(by omega))) (by simp only [peOf]; omega) ih v
   omega
structure Two (w w' : World) (g1 g2 : Nat) : Prop where
 os : w'.os = w.os
 tape : w'.tape = w.tape
 output : w'.output = w.output
 size : w.heap.size ≤ w'.heap.size
 block : ∀ k, k < w.heap.size → k ≠ g1 → k ≠ g2 → w'.heap[k]? = w.heap[k]?
section
variable {w w' w'' : World} {g1 g2 : Nat}
theorem Two.refl (w : World) (g1 g2 : Nat) : Two w w g1 g2 := ⟨rfl, rfl, rfl, Nat.le_refl _, fun _ _ _ _ => rfl⟩
theorem Two.trans (h : Two w w' g1 g2) (h' : Two w' w'' g1 g2) : Two w w'' g1 g2 :=
 ⟨h'.os.trans h.os, h'.tape.trans h.tape, h'.output.trans h.output, Nat.le_trans h.size h'.size, fun k hk h1 h2 => (h'.block k (Nat.lt_of_lt_of_le hk h.size) h1 h2).trans (h.block k hk h1 h2)⟩
theorem Two.of_below (h : Below w.heap.size w w') : Two w w' g1 g2 := ⟨h.os, h.tape, h.output, h.size, fun k hk _ _ => h.block k hk⟩
theorem Two.alloc (h : Two w w' g1 g2) (o : Obj) : Two w (w'.alloc o) g1 g2 := h.trans (Two.of_below ((Below.refl _ _).alloc (Nat.le_refl _) o))
theorem Two.drewN (h : Two w w' g1 g2) (m : Nat) : Two w (w'.drewN m) g1 g2 := h.trans (Two.of_below (below_drewN (Below.refl _ _) m))
theorem Two.drew (h : Two w w' g1 g2) : Two w w'.drew g1 g2 := h.trans (Two.of_below (Below.refl _ _).drew)
theorem Two.set1 (h : Two w w' g1 g2) (j : Nat) (u : Value) : Two w (w'.setCell ⟨g1, j, none⟩ u) g1 g2 :=
 h.trans ⟨rfl, rfl, rfl, by simp [World.setCell], fun k _ h1 _ => by (have hne : ¬ g1 = k := (fun e => h1 e.symm)); simp [World.setCell, Array.getElem?_modify, hne]⟩
theorem Two.set2 (h : Two w w' g1 g2) (j : Nat) (u : Value) : Two w (w'.setCell ⟨g2, j, none⟩ u) g1 g2 :=
 h.trans ⟨rfl, rfl, rfl, by simp [World.setCell], fun k _ _ h2 => by (have hne : ¬ g2 = k := (fun e => h2 e.symm)); simp [World.setCell, Array.getElem?_modify, hne]⟩
theorem Two.cell (h : Two w w' g1 g2) {p : Addr} {v : Value} (h1 : p.block ≠ g1) (h2 : p.block ≠ g2) (hc : w.cell? p = some v) : w'.cell? p = some v := by
 have hb := World.block_lt_of_cell? w _ hc
 have := h.block p.block hb h1 h2
 rw [← hc]; simp [World.cell?, this]
theorem Two.below (h : Two w w' g1 g2) {B : Nat} (hB : B ≤ w.heap.size) (h1 : B ≤ g1) (h2 : B ≤ g2) : Below B w w' :=
 ⟨h.os, h.tape, h.output, h.size, fun k hk => h.block k (Nat.lt_of_lt_of_le hk hB) (by omega) (by omega)⟩
end
end Go.Proofs.Ytagbikgfkakbfaa
namespace Go.Proofs.Ytagbikgfkakbfaa
open Go.RowKit
set_option linter.unusedSimpArgs false
set_option linter.unusedVariables false
theorem prun_more (es : List PE) : ∀ (k : Nat) (s : PS), 0 ≤ (prun es k s).last → 0 ≤ s.last ∨ ∃ v, s.m v < (prun es k s).m v := by
 induction es with
 | nil => intro k s h; exact .inl h
 | cons e es ih =>
   intro k s h
   rcases ih (k + 1) (pstep s k e) h with h1 | ⟨v, h1⟩
   · by_cases hu : s.m e.dst < s.m e.src + e.wt
     · refine .inr ⟨e.dst, ?_⟩
       have h2 := prun_le es (k + 1) (pstep s k e) e.dst
       have h3 : (pstep s k e).m e.dst = s.m e.src + e.wt := by simp [pstep, hu, upd]
       show s.m e.dst < (prun es (k + 1) (pstep s k e)).m e.dst
       omega
     · left
       have h3 : pstep s k e = s := by simp [pstep, hu]
       rwa [h3] at h1
   · exact .inr ⟨v, Int.lt_of_le_of_lt (pstep_le s k e v) h1⟩
theorem piter_b {N : Int} {es : List GE} (hg : GraphOk N es) : ∀ r v, 0 ≤ (piter (pes es) r).m v ∧ (piter (pes es) r).m v ≤ r * 5033164800
 | 0, v => by simp [piter, pzero]
 | r + 1, v => by
   have ih := piter_b hg r
   have h1 := prun_b hg (s := { piter (pes es) r with last := -1 }) ih es.length (Nat.le_refl _) v
   have e1 : (pes es).take es.length = pes es := List.take_of_length_le (by rw [pes_len]; exact Nat.le_refl _)
   rw [e1] at h1
   have h2 : (piter (pes es) (r + 1)).m v = (prun (pes es) 0 { piter (pes es) r with last := -1 }).m v := rfl
   have h3 := hg.1.2.2
   rw [h2]
   omega
def Solved (N : Nat) (es : List GE) (q : PS) : Prop := ∃ r, r ≤ N ∧ q = piter (pes es) (r + 1) ∧ (q.last < 0 ∨ (r = N ∧ 0 ≤ q.last))
theorem solved_pot {N : Nat} {es : List GE} {q : PS} (hg : GraphOk (N : Int) es) (h : Solved N es q) (hl : q.last < 0) : HasPot es ∧ ∀ v, q.m v = siter (pes es) N v := by
 obtain ⟨r, hr, rfl, _⟩ := h
 have hst := prun_still (pes es) 0 { piter (pes es) r with last := -1 } hl
 have hp : Pot (pes es) (piter (pes es) (r + 1)).m := by
  refine ⟨fun v => (piter_b hg (r + 1) v).1, fun e he => ?_⟩
  have h2 := hst.2 e he
  have h1 : (prun (pes es) 0 { piter (pes es) r with last := -1 }).m = (piter (pes es) r).m := by rw [hst.1]
  have h1 : (piter (pes es) (r + 1)).m = (piter (pes es) r).m := h1
  rw [h1]; exact h2
 have hin := pes_in hg
 have hs := siter_fix (siter_still (k := N) hin (by omega) hp)
 refine ⟨⟨_, hp⟩, fun v => ?_⟩
 have h1 := piter_pot hs (r + 1) v
 have h2 := siter_pot hp N v
 omega
theorem solved_no {N : Nat} {es : List GE} {q : PS} (hg : GraphOk (N : Int) es) (h : Solved N es q) (hl : 0 ≤ q.last) : ¬ HasPot es := by
 rintro ⟨p, hp⟩
 obtain ⟨r, hr, rfl, h1 | ⟨rfl, h1⟩⟩ := h
 · omega
 · have hin := pes_in hg
   rcases prun_more (pes es) 0 { piter (pes es) r with last := -1 } hl with h2 | ⟨v, h2⟩
   · simp at h2
   · have e1 := piter_eq (k := r) hin (by omega) hp v
     have e2 := piter_eq (k := r + 1) hin (by omega) hp v
     have e3 := siter_still (k := r) hin (by omega) hp v
     have e4 : (prun (pes es) 0 { piter (pes es) r with last := -1 }).m v = (piter (pes es) (r + 1)).m v := rfl
     rw [e4] at h2
     simp only at h2
     omega
structure SolveEnds (N : Nat) (a : Option Addr) (n c : Nat) (es : List GE) (B : Nat) (e : Ending) (w' : World) (q : PS) (sb gm gb : Nat) : Prop where
 ret : e = .returned (.tuple #[.pointer (some ⟨sb, 0, none⟩), .int .i64 q.last])
 ok : Solved N es q
 c0 : w'.cell? ⟨sb, 0, none⟩ = some (.int .i64 N)
 c1 : w'.cell? ⟨sb, 1, none⟩ = some (.slice a n c)
 c2 : w'.cell? ⟨sb, 2, none⟩ = some (.slice (some ⟨gm, 0, none⟩) N N)
 c3 : w'.cell? ⟨sb, 3, none⟩ = some (.slice (some ⟨gb, 0, none⟩) N N)
 tm : OTab w' B 3 gm N N q.m
 tb : OTab w' B 3 gb N N q.b
theorem rep_tab {w : World} {B e g N : Nat} (h : w.heap[g]? = some (.cells (List.replicate N (Value.int .i64 (-1))).toArray e (0, 0))) (hB : B ≤ g) (hN : N ≤ maxLen) : OTab w B e g N N (fun _ => -1) := by
 refine ⟨by simp [tab_len], .inr ⟨g, N, _, rfl, hB, h, Nat.le_refl _, hN, by simp, ?_⟩⟩
 have e1 : (tabI N (fun _ => (-1 : Int))).map (Value.int .i64) = List.replicate N (Value.int .i64 (-1)) := by
  apply List.ext_getElem?
  intro j
  by_cases hj : j < N
  · rw [List.getElem?_map, tab_at hj, List.getElem?_replicate, if_pos hj]; rfl
  · rw [List.getElem?_eq_none (by simp [tab_len]; omega), List.getElem?_eq_none (by simp; omega)]
 rw [e1]; simp
theorem made_tab (w : World) {B e N : Nat} (hB : B ≤ w.heap.size) (hN : N ≤ maxLen) : OTab (w.alloc (.cells (madeCells (Value.int .i64 0).cells (N * 1)) e)) B e w.heap.size N N (fun _ => 0) := by
 have h := OwnTab.made (w := w.alloc (.cells (madeCells (Value.int .i64 0).cells (N * 1)) e)) (B := B) (e := e) (g := w.heap.size) (N := N) ⟨by simp [madeCells, Value.cells], .inr ⟨w.heap.size, N, _, rfl, hB, heap_alloc_new w _, Nat.le_refl _, hN, by simp [madeCells, Value.cells], List.take_of_length_le (by simp [madeCells, Value.cells])⟩⟩
 exact h
theorem made_tab' {w : World} {B e g N : Nat} (hg : w.heap.size = g) (hB : B ≤ g) (hN : N ≤ maxLen) : OTab (w.alloc (.cells (madeCells (Value.int .i64 0).cells (N * 1)) e)) B e g N N pzero.m := by
 subst hg; exact made_tab w hB hN
theorem made_tab2 {w : World} {B e g N : Nat} (hg : w.heap.size = g) (hB : B ≤ g) (hN : N ≤ maxLen) : OTab (w.alloc (.cells (madeCells #[Value.int .i64 0] N) e)) B e g N N pzero.m := by
 have h := made_tab' (e := e) hg hB hN
 rw [Nat.mul_one] at h
 exact h
theorem lt_of_get {w : World} {g : Nat} {o : Obj} (h : w.heap[g]? = some o) : g < w.heap.size := (Array.getElem?_eq_some_iff.1 h).1
section
variable {w : World} {v0 v1 v2 v3 : Value} {t : TypeId} {g : Nat}
theorem cell40 (hg : w.heap.size = g) : (w.alloc (.cells #[v0, v1, v2, v3] t)).cell? ⟨g, 0, none⟩ = some v0 := by subst hg; unfold World.cell?; rw [heap_alloc_new w _]; rfl
theorem cell41 (hg : w.heap.size = g) : (w.alloc (.cells #[v0, v1, v2, v3] t)).cell? ⟨g, 1, none⟩ = some v1 := by subst hg; unfold World.cell?; rw [heap_alloc_new w _]; rfl
theorem cell42 (hg : w.heap.size = g) : (w.alloc (.cells #[v0, v1, v2, v3] t)).cell? ⟨g, 2, none⟩ = some v2 := by subst hg; unfold World.cell?; rw [heap_alloc_new w _]; rfl
theorem cell43 (hg : w.heap.size = g) : (w.alloc (.cells #[v0, v1, v2, v3] t)).cell? ⟨g, 3, none⟩ = some v3 := by subst hg; unfold World.cell?; rw [heap_alloc_new w _]; rfl
end
def Began (N : Nat) (a : Option Addr) (n c : Nat) (B : Nat) (W : World) (p : Value) (wx : World) : Prop := ∃ sb gm gb : Nat, p = .pointer (some ⟨sb, 0, none⟩) ∧ wx.cell? ⟨sb, 0, none⟩ = some (.int .i64 N) ∧ wx.cell? ⟨sb, 1, none⟩ = some (.slice a n c) ∧
 wx.cell? ⟨sb, 2, none⟩ = some (.slice (some ⟨gm, 0, none⟩) N N) ∧ wx.cell? ⟨sb, 3, none⟩ = some (.slice (some ⟨gb, 0, none⟩) N N) ∧ OTab wx B 3 gm N N pzero.m ∧ OTab wx B 3 gb N N pzero.b ∧ (gm ≠ gb ∧ sb ≠ gm ∧ sb ≠ gb) ∧ Below B W wx
end Go.Proofs.Ytagbikgfkakbfaa
