/-
  Lemmas and walks for the statement: PMin, Tab, PMost, PWeigh, PCycle2, VdP, VLate.
-/
import Derived.Test.YtjjikhaaimfneaaGreatDoorU29
import Derived.Test.YtjjikhaaimfneaaGreatDoorU01
import Derived.Laws.NewBlocks
import Derived.Test.YtjjikhaaimfneaaGreatDoorU28
import Derived.Test.YtjjikhaaimfneaaGreatDoorU17
import Derived.Test.YtjjikhaaimfneaaGreatDoorU02
import Derived.Test.YtjjikhaaimfneaaGreatDoorProg
import Derived.BigRegion
import Derived.Deep.DeepCutAuto
namespace Go.Proofs.YtjjikhaaimfneaaGreatDoor
open Go.RowKit
set_option linter.unusedSimpArgs false
set_option linter.unusedVariables false
def infI : Int := 1152921504606846976
def unI (N : Nat) : List Int := (List.range N).map fun (t : Nat) => if t = 0 then 0 else 1152921504606846976
def cvA (xs ys : List Int) (t : Nat) : Nat → Int
 | 0 => 1152921504606846976
 | j + 1 => min (cvA xs ys t j) (plusI (xs.getD j 0) (ys.getD (t - j) 0))
def cvI (xs ys : List Int) (N : Nat) : List Int := (List.range N).map fun (t : Nat) => cvA xs ys t (t + 1)
def ovA (xs ys : List Int) (t : Nat) : Nat → Int
 | 0 => 0
 | u + 1 => max (ovA xs ys t u) (lessI (xs.getD (t + u) 0) (ys.getD u 0))
def ovI (xs ys : List Int) (n n' : Nat) : List Int := (List.range n).map fun (t : Nat) => ovA xs ys t (min n' (n - t))
def tabI (N : Nat) (p : Nat → Int) : List Int := (List.range N).map p
theorem tab_len (N : Nat) (p : Nat → Int) : (tabI N p).length = N := by simp [tabI]
theorem tab_at {N : Nat} {p : Nat → Int} {k : Nat} (h : k < N) : (tabI N p)[k]? = some (p k) := by simp [tabI, List.getElem?_range, h]
theorem tab_eq {N : Nat} {p q : Nat → Int} (h : ∀ t, t < N → p t = q t) : tabI N p = tabI N q := by
 unfold tabI
 apply List.map_congr_left
 intro t ht
 exact h t (List.mem_range.1 ht)
theorem tab_set {N : Nat} {p q : Nat → Int} {k : Nat} {v : Int} (hk : k < N) (hv : q k = v) (h : ∀ t, t < N → t ≠ k → q t = p t) : (tabI N p).set k v = tabI N q := by
 apply List.ext_getElem?
 intro j
 rw [List.getElem?_set]
 by_cases hj : j < N
 · by_cases hjk : k = j
   · subst hjk; rw [tab_at (p := q) hk, if_pos rfl, tab_len, if_pos hk, hv]
   · rw [if_neg hjk, tab_at (p := p) hj, tab_at (p := q) hj, h j hj (fun e => hjk e.symm)]
 · rw [List.getElem?_eq_none (by rw [tab_len]; omega), List.getElem?_eq_none (by rw [tab_len]; omega)]
   split
   · split
     · rename_i h1 h2; rw [tab_len] at h2; omega
     · rfl
   · rfl
def ecP (xs ys : List Int) (s u t : Nat) : Int := cvA xs ys t (if s ≤ t ∧ t - s < u then s + 1 else min s (t + 1))
def eoP (xs ys : List Int) (n' s u t : Nat) : Int := ovA xs ys t (if t ≤ s ∧ s - t < u then s - t + 1 else min (s - t) n')
def OwnTab (w : World) (B e g N : Nat) (p : Nat → Int) : Prop := w.ownsRow B e 1 (.slice (some ⟨g, 0, none⟩) N N) N ((tabI N p).map (Value.int .i64))
section
variable {w w' : World} {B e g N : Nat} {p q : Nat → Int}
theorem OwnTab.cell (h : OwnTab w B e g N p) {k : Nat} (hk : k < N) : w.cell? ⟨g, k, none⟩ = some (.int .i64 (p k)) := by
 rw [h.cellAt k (by omega), List.getElem?_map, tab_at hk]; rfl
theorem OwnTab.free (h : OwnTab w B e g N p) (k : Nat) : w.frozen? ⟨g, k, none⟩ = false := h.frozenAt k
theorem OwnTab.set (h : OwnTab w B e g N p) {k : Nat} {v : Int} (hk : k < N) (hv : q k = v) (ho : ∀ t, t < N → t ≠ k → q t = p t) : OwnTab (w.setCell ⟨g, k, none⟩ (.int .i64 v)) B e g N q := by
 have := h.stored k (.int .i64 v)
 unfold OwnTab
 rw [← tab_set hk hv ho, List.map_set]
 exact this.1
theorem OwnTab.eq (h : OwnTab w B e g N p) (ho : ∀ t, t < N → q t = p t) : OwnTab w B e g N q := by
 unfold OwnTab at *; rwa [tab_eq ho]
theorem OwnTab.drewN (h : OwnTab w B e g N p) (m : Nat) : OwnTab (w.drewN m) B e g N p := by
 refine ⟨h.1, ?_⟩
 rcases h.2 with hn | ⟨g, cap, cur, hv, hg, hgg, rest⟩
 · exact .inl hn
 · exact .inr ⟨g, cap, cur, hv, hg, by rw [(Go.below_drewN (Below.refl w.heap.size w) m).block g (Array.getElem?_eq_some_iff.1 hgg).1]; exact hgg, rest⟩
theorem OwnTab.lt (h : OwnTab w B e g N p) : B ≤ g ∧ g < w.heap.size := World.ownsRow.lt h g rfl
end
theorem OwnTab.made {w : World} {B e g N : Nat} (h : w.ownsRow B e 1 (.slice (some ⟨g, 0, none⟩) N N) N (madeCells (Value.int .i64 0).cells (N * 1)).toList) : OwnTab w B e g N (fun _ => 0) := by
 unfold OwnTab
 have e1 : (madeCells (Value.int .i64 0).cells (N * 1)).toList = (tabI N (fun _ => 0)).map (Value.int .i64) := by
  rw [show (Value.int .i64 0).cells = #[Value.int .i64 0] from rfl, toList_madeCells_one]
  apply List.ext_getElem?
  intro j
  by_cases hj : j < N
  · rw [List.getElem?_map, tab_at hj, List.getElem?_replicate]; simp [hj]
  · rw [List.getElem?_eq_none (by simp; omega), List.getElem?_eq_none (by simp [tab_len]; omega)]
 rw [← e1]; exact h
theorem OwnTab.ints {w : World} {B e g N : Nat} {p : Nat → Int} (h : OwnTab w B e g N p) (hN : N ≤ 17592186044416) : IntsAt w (some ⟨g, 0, none⟩) N N (tabI N p) := by
 refine ⟨tab_len N p, Nat.le_refl _, hN, fun h0 => ⟨_, rfl, (OwnTab.lt h).2, fun j x hj => ?_⟩⟩
 have hjl := (List.getElem?_eq_some_iff.1 hj).1
 rw [tab_len] at hjl
 rw [tab_at hjl] at hj
 injection hj with hj
 subst hj
 rw [show (⟨g, 0, none⟩ : Addr).add j = ⟨g, j, none⟩ by unfold Addr.add; split <;> simp_all]
 exact h.cell hjl
end Go.Proofs.YtjjikhaaimfneaaGreatDoor
namespace Go.Proofs.YtjjikhaaimfneaaGreatDoor
open Go.RowKit
set_option linter.unusedSimpArgs false
set_option linter.unusedVariables false
def OTab (w : World) (B e g N cap : Nat) (p : Nat → Int) : Prop := w.ownsRow B e 1 (.slice (some ⟨g, 0, none⟩) N cap) N ((tabI N p).map (Value.int .i64))
section
variable {w w' : World} {B e g N cap : Nat} {p q : Nat → Int}
theorem OTab.cell (h : OTab w B e g N cap p) {k : Nat} (hk : k < N) : w.cell? ⟨g, k, none⟩ = some (.int .i64 (p k)) := by
 rw [h.cellAt k (by omega), List.getElem?_map, tab_at hk]; rfl
theorem OTab.free (h : OTab w B e g N cap p) (k : Nat) : w.frozen? ⟨g, k, none⟩ = false := h.frozenAt k
theorem OTab.set (h : OTab w B e g N cap p) {k : Nat} {v : Int} (hk : k < N) (hv : q k = v) (ho : ∀ t, t < N → t ≠ k → q t = p t) : OTab (w.setCell ⟨g, k, none⟩ (.int .i64 v)) B e g N cap q := by
 have := h.stored k (.int .i64 v)
 unfold OTab
 rw [← tab_set hk hv ho, List.map_set]
 exact this.1
theorem OTab.eq (h : OTab w B e g N cap p) (ho : ∀ t, t < N → q t = p t) : OTab w B e g N cap q := by
 unfold OTab at *; rwa [tab_eq ho]
theorem OTab.drewN (h : OTab w B e g N cap p) (m : Nat) : OTab (w.drewN m) B e g N cap p := h
theorem OTab.drew (h : OTab w B e g N cap p) : OTab w.drew B e g N cap p := h
theorem OTab.alloc (h : OTab w B e g N cap p) (o : Obj) : OTab (w.alloc o) B e g N cap p := World.ownsRow.alloc h o
theorem OTab.lt (h : OTab w B e g N cap p) : B ≤ g ∧ g < w.heap.size := World.ownsRow.lt h g rfl
theorem OTab.below (h : OTab w B e g N cap p) (hb : Below w.heap.size w w') : OTab w' B e g N cap p := by
 obtain ⟨hl, h⟩ := h
 refine ⟨hl, ?_⟩
 rcases h with hn | ⟨g', cap', cur, hv, hg, hgg, rest⟩
 · exact .inl hn
 · exact .inr ⟨g', cap', cur, hv, hg, by rw [hb.block g' (Array.getElem?_eq_some_iff.1 hgg).1]; exact hgg, rest⟩
theorem OTab.kept (h : OTab w B e g N cap p) {row : Option Nat} (hg : w.grownBy w' row) (hne : row ≠ some g) : OTab w' B e g N cap p :=
 World.ownsRow.kept h hg (.inr (fun e => hne e.symm))
theorem OTab.setFar (h : OTab w B e g N cap p) {b j : Nat} {u : Value} (hb : b ≠ g) : OTab (w.setCell ⟨b, j, none⟩ u) B e g N cap p :=
 h.kept (row := some b) (by
  refine ⟨rfl, rfl, rfl, by simp [World.setCell], fun k hk hne => ?_⟩
  have hne' : ¬ b = k := fun e => hne (by rw [e])
  simp [World.setCell, Array.getElem?_modify, hne']) (fun e => hb (by injection e))
theorem OTab.base (h : OTab w B e g N cap p) {B' : Nat} (hB : B' ≤ B) : OTab w B' e g N cap p := by
 obtain ⟨hl, h⟩ := h
 refine ⟨hl, ?_⟩
 rcases h with hn | ⟨g', cap', cur, hv, hg, rest⟩
 · exact .inl hn
 · exact .inr ⟨g', cap', cur, hv, by omega, rest⟩
theorem OTab.cap_ (h : OTab w B e g N cap p) : N ≤ cap := by
 rcases h.2 with ⟨hc, _⟩ | ⟨g', cap', cur, hv, _, _, hn, _⟩
 · cases hc
 · injection hv with _ _ e3; omega
theorem OTab.ints (h : OTab w B e g N cap p) (hN : N ≤ 17592186044416) : IntsAt w (some ⟨g, 0, none⟩) N cap (tabI N p) := by
 refine ⟨tab_len N p, h.cap_, hN, fun h0 => ⟨_, rfl, (OTab.lt h).2, fun j x hj => ?_⟩⟩
 have hjl := (List.getElem?_eq_some_iff.1 hj).1
 rw [tab_len] at hjl
 rw [tab_at hjl] at hj
 injection hj with hj
 subst hj
 rw [show (⟨g, 0, none⟩ : Addr).add j = ⟨g, j, none⟩ by unfold Addr.add; split <;> simp_all]
 exact h.cell hjl
theorem OTab.news (h : OTab w B e g N cap p) : ∀ (j : Nat) (u : Value), ((tabI N p).map (Value.int .i64))[j]? = some u → w.cell? ((⟨g, 0, none⟩ : Addr).add j) = some u := by
 intro j u hj
 rw [show (⟨g, 0, none⟩ : Addr).add j = ⟨g, j, none⟩ by unfold Addr.add; split <;> simp_all]
 rw [List.getElem?_map] at hj
 have hjl : j < N := by
  rcases Nat.lt_or_ge j N with h1 | h1
  · exact h1
  · rw [List.getElem?_eq_none (by rw [tab_len]; exact h1)] at hj; cases hj
 rw [tab_at hjl] at hj
 simp at hj; subst hj
 exact h.cell hjl
end
theorem OTab.made {w : World} {B e g N : Nat} (h : w.ownsRow B e 1 (.slice (some ⟨g, 0, none⟩) N N) N (madeCells (Value.int .i64 0).cells (N * 1)).toList) : OTab w B e g N N (fun _ => 0) := OwnTab.made h
end Go.Proofs.YtjjikhaaimfneaaGreatDoor
namespace Go.Proofs.YtjjikhaaimfneaaGreatDoor
open Go.RowKit
set_option linter.unusedSimpArgs false
set_option linter.unusedVariables false
def peOf (e : GE) : PE := ⟨e.src.toNat, e.dst.toNat, e.wt⟩
def pes (es : List GE) : List PE := es.map peOf
theorem pes_len (es : List GE) : (pes es).length = es.length := by simp [pes]
theorem pes_get {es : List GE} {k : Nat} {e : GE} (h : es[k]? = some e) : (pes es)[k]? = some (peOf e) := by simp [pes, h]
theorem pes_in {N : Nat} {es : List GE} (h : GraphOk (N : Int) es) : Inside N (pes es) := by
 intro e he
 obtain ⟨d, hd, rfl⟩ := List.mem_map.1 he
 have := h.2 d hd
 unfold EdgeOk at this
 simp only [peOf]; omega
theorem wsum_b {es : List GE} {N : Int} (h : GraphOk N es) : ∀ {l : List PE} {u v : Nat}, IsWalk (pes es) u l v → -(l.length * 1048576 : Int) ≤ wsum l ∧ wsum l ≤ l.length * 1048576
 | [], _, _, _ => by simp [wsum]
 | e :: l, u, v, ⟨he, _, hw⟩ => by
   have ih := wsum_b h hw
   obtain ⟨d, hd, rfl⟩ := List.mem_map.1 he
   have hd := h.2 d hd
   unfold EdgeOk at hd
   rw [wsum_cons, List.length_cons]
   simp only [peOf] at *
   omega
theorem siter_b {es : List GE} {N : Int} (h : GraphOk N es) (k v : Nat) : 0 ≤ siter (pes es) k v ∧ siter (pes es) k v ≤ k * 1048576 := by
 have h0 := siter_le (pes es) 0 k (by omega) v
 obtain ⟨u, l, hw, hl, he⟩ := siter_walk (pes es) k v
 have := (wsum_b h hw).2
 have h1 : siter (pes es) 0 v = 0 := rfl
 refine ⟨by omega, ?_⟩
 rw [he]; omega
def HasPot (es : List GE) : Prop := ∃ p, Pot (pes es) p
def QMostEnds (N : Nat) (es : List GE) (e : Ending) (w' : World) : Prop :=
 (HasPot es ∧ ∃ b d, e = .returned (.tuple #[.slice b N d, .bool true]) ∧ IntsAt w' b N d (tabI N (siter (pes es) N))) ∨ (¬ HasPot es ∧ e = .returned (.tuple #[.slice none 0 0, .bool false]))
end Go.Proofs.YtjjikhaaimfneaaGreatDoor
namespace Go.Proofs.YtjjikhaaimfneaaGreatDoor
open Go.RowKit
set_option linter.unusedSimpArgs false
set_option linter.unusedVariables false
def StepOk (es : List GE) (ns : List Int) (k : Nat) : Prop := ∃ m e, ns[k]? = some ((m : Nat) : Int) ∧ es[m]? = some e ∧ (k = 0 ∨ ∃ m' e', ns[k - 1]? = some ((m' : Nat) : Int) ∧ es[m']? = some e' ∧ e'.dst = e.src)
def wI (es : List GE) (ns : List Int) : Nat → Int
 | 0 => 0
 | k + 1 => IntKind.i64.wrap (wI es ns k + ((es[(ns.getD k 0).toNat]?).map GE.wt).getD 0)
theorem wI_succ {es : List GE} {ns : List Int} {k m : Nat} {e : GE} (hn : ns[k]? = some (m : Int)) (he : es[m]? = some e) : wI es ns (k + 1) = IntKind.i64.wrap (wI es ns k + e.wt) := by
 simp only [wI]; rw [getD_of hn]; simp [he]
def WeighSays (N : Int) (es : List GE) (ns : List Int) (s r : Int) : Prop :=
 (¬ GraphOk N es ∧ s = 0 ∧ r = 2) ∨ (GraphOk N es ∧ (∀ k, k < ns.length → StepOk es ns k) ∧ s = wI es ns ns.length ∧ r = 0) ∨ (GraphOk N es ∧ (∃ k, k < ns.length ∧ ¬ StepOk es ns k) ∧ s = 0 ∧ r = 1)
def WeighEnds (N : Int) (es : List GE) (ns : List Int) (e : Ending) : Prop := ∃ s r, e = .returned (.tuple #[.int .i64 s, .int .i64 r]) ∧ WeighSays N es ns s r
end Go.Proofs.YtjjikhaaimfneaaGreatDoor
namespace Go.Proofs.YtjjikhaaimfneaaGreatDoor
open Go.RowKit
set_option linter.unusedSimpArgs false
set_option linter.unusedVariables false
theorem wrap_small {x : Int} (h1 : -9223372036854775808 ≤ x) (h2 : x ≤ 9223372036854775807) : IntKind.i64.wrap x = x := by
 rw [IntWalk.i64_left]; unfold wrap64; omega
def bRow (es : List PE) (s : PS) (u p : Nat) : List Int := (List.range p).map fun k => s.b (prevN es s k u)
theorem bRow_len (es : List PE) (s : PS) (u p : Nat) : (bRow es s u p).length = p := by simp [bRow]
theorem bRow_at {es : List PE} {s : PS} {u p k : Nat} (hk : k < p) : (bRow es s u p)[k]? = some (s.b (prevN es s k u)) := by
 unfold bRow; rw [List.getElem?_map, List.getElem?_range hk]; rfl
structure CycSays (N : Nat) (es : List GE) (ns : List Int) : Prop where
 pos : 0 < ns.length
 le : ns.length ≤ N
 ok : ∀ k, k < ns.length → StepOk es ns k
 more : 0 < wI es ns ns.length
 ends : ∃ (m m' : Nat) (e e' : GE), ns[0]? = some (m : Int) ∧ es[m]? = some e ∧ ns[ns.length - 1]? = some (m' : Int) ∧ es[m']? = some e' ∧ e.src = e'.dst
theorem cyc_says {N : Nat} {es : List GE} {s : PS} {v p : Nat} (hg : GraphOk (N : Int) es) (hf : Found (pes es) N s v p) : CycSays N es (bRow (pes es) s (prevN (pes es) s N v) p).reverse := by
 obtain ⟨u, hu⟩ : ∃ u, prevN (pes es) s N v = u := ⟨_, rfl⟩
 have key : ∀ k, ∃ (m : Nat) (g : GE), s.b (prevN (pes es) s k u) = (m : Int) ∧ es[m]? = some g ∧ g.src = (prevN (pes es) s (k + 1) u : Nat) ∧ g.dst = (prevN (pes es) s k u : Nat) ∧ g.wt = (eby (pes es) s (prevN (pes es) s k u)).wt ∧ -1048576 ≤ g.wt ∧ g.wt ≤ 1048576 := by
  intro k
  have h1 := hf.on (N + k)
  rw [prevN_add, hu] at h1
  obtain ⟨_, h2, h3, h4, h5⟩ := h1
  have e1 : prevN (pes es) s (k + 1) u = (eby (pes es) s (prevN (pes es) s k u)).src := rfl
  rw [e1]
  generalize prevN (pes es) s k u = c at *
  generalize eby (pes es) s c = q at *
  rw [pes, List.getElem?_map] at h3
  obtain ⟨g, hg1, hg2⟩ := Option.map_eq_some_iff.1 h3
  have hok := hg.2 _ (List.mem_of_getElem? hg1)
  unfold EdgeOk at hok
  subst hg2
  simp only [peOf] at h5 ⊢
  exact ⟨(s.b c).toNat, g, by omega, hg1, by omega, by omega, rfl, by omega, by omega⟩
 rw [hu]
 have hlen : (bRow (pes es) s u p).reverse.length = p := by rw [List.length_reverse, bRow_len]
 have at' : ∀ k, k < p → (bRow (pes es) s u p).reverse[k]? = some (s.b (prevN (pes es) s (p - 1 - k) u)) := by
  intro k hk
  rw [List.getElem?_reverse (by rw [bRow_len]; exact hk), bRow_len]
  exact bRow_at (by omega)
 have hN : N ≤ 300 := by have := hg.1.2.1; omega
 have hw : ∀ k, k ≤ p → wI es (bRow (pes es) s u p).reverse k = backW (pes es) s u p - backW (pes es) s u (p - k) ∧ -(k * 1048576 : Int) ≤ wI es (bRow (pes es) s u p).reverse k ∧ wI es (bRow (pes es) s u p).reverse k ≤ k * 1048576 := by
  intro k
  induction k with
  | zero => intro _; simp [wI]
  | succ k ih =>
    intro hk
    obtain ⟨i1, i2, i3⟩ := ih (by omega)
    obtain ⟨m, g, g1, g2, g3, g4, g5, g6, g7⟩ := key (p - 1 - k)
    have hn := at' k (by omega)
    rw [g1] at hn
    have hpl := hf.le
    rw [wI_succ hn g2, wrap_small (by omega) (by omega)]
    have e2 : backW (pes es) s u (p - k) = backW (pes es) s u (p - 1 - k) + (eby (pes es) s (prevN (pes es) s (p - 1 - k) u)).wt := by
     rw [show p - k = p - 1 - k + 1 by omega]; rfl
    rw [show p - (k + 1) = p - 1 - k by omega]
    refine ⟨by omega, by omega, by omega⟩
 refine ⟨by rw [hlen]; exact hf.pos, by rw [hlen]; exact hf.le, fun k hk => ?_, ?_, ?_⟩
 · rw [hlen] at hk
   obtain ⟨m, g, g1, g2, g3, g4, _⟩ := key (p - 1 - k)
   have hn := at' k hk
   rw [g1] at hn
   refine ⟨m, g, hn, g2, ?_⟩
   rcases Nat.eq_zero_or_pos k with h0 | h0
   · exact .inl h0
   · right
     obtain ⟨m', g', f1, f2, f3, f4, _⟩ := key (p - 1 - (k - 1))
     have hn' := at' (k - 1) (by omega)
     rw [f1] at hn'
     refine ⟨m', g', hn', f2, ?_⟩
     rw [g3, f4, show p - 1 - (k - 1) = p - 1 - k + 1 by omega]
 · rw [hlen]
   have := (hw p (Nat.le_refl _)).1
   rw [this, Nat.sub_self]
   have h9 := hf.more
   rw [hu] at h9
   simp only [backW]
   omega
 · rw [hlen]
   have hpp := hf.pos
   obtain ⟨m, g, g1, g2, g3, g4, _⟩ := key (p - 1)
   obtain ⟨m', g', f1, f2, f3, f4, _⟩ := key 0
   have hn := at' 0 hpp
   have hn' := at' (p - 1) (by omega)
   rw [show p - 1 - 0 = p - 1 by omega, g1] at hn
   rw [show p - 1 - (p - 1) = 0 by omega, f1] at hn'
   refine ⟨m, m', g, g', hn, g2, hn', f2, ?_⟩
   have hb := hf.back
   rw [hu] at hb
   rw [g3, f4, show p - 1 + 1 = p by omega, hb]; rfl
end Go.Proofs.YtjjikhaaimfneaaGreatDoor
namespace Go.Proofs.YtjjikhaaimfneaaGreatDoor
open Go.RowKit
set_option linter.unusedSimpArgs false
set_option linter.unusedVariables false
section
variable {X : Sx} {who ratio : Int}
def geOf (X : Sx) (who ratio : Int) : List GE := X.edges.map fun E => ⟨(E.f : Int), (E.t : Int), wtE who ratio E.us⟩
theorem geOf_len : (geOf X who ratio).length = X.edges.length := by simp [geOf]
theorem geOf_at {k : Nat} {E : Edg} (h : X.edges[k]? = some E) : (geOf X who ratio)[k]? = some ⟨(E.f : Int), (E.t : Int), wtE who ratio E.us⟩ := by simp [geOf, h]
theorem geOf_inv {k : Nat} {e : GE} (h : (geOf X who ratio)[k]? = some e) : ∃ E, X.edges[k]? = some E ∧ e = ⟨(E.f : Int), (E.t : Int), wtE who ratio E.us⟩ := by
 simp only [geOf, List.getElem?_map, Option.map_eq_some_iff] at h
 obtain ⟨E, h1, h2⟩ := h
 exact ⟨E, h1, h2.symm⟩
theorem geOf_ok (hok : SxOk Gd UU X) (hm : X.edges.length ≤ 4800) (hg : goodArgs who ratio) : GraphOk (X.states.length : Int) (geOf X who ratio) := by
 have hmost := hok.most
 refine ⟨⟨by omega, by omega, by rw [geOf_len]; exact hm⟩, fun e he => ?_⟩
 obtain ⟨E, hE, rfl⟩ := List.mem_map.1 he
 obtain ⟨i, hi⟩ := List.mem_iff_getElem?.1 hE
 obtain ⟨h1, h2, h3⟩ := hok.tos i E hi
 obtain ⟨g0, g1, g2, g3⟩ := hg
 have h4 := wtE_sml h3 (show who = 0 ∨ who = 1 by omega) ⟨g2, g3⟩
 unfold EdgeOk
 dsimp only
 omega
theorem edgesAt_row {w : World} {B m c : Nat} {a : Option Addr} (h : w.ownsRow B 86 3 (.slice a m c) m (flatE who ratio X.edges)) (hm : X.edges.length = m) (hm3 : m ≤ 4800) : EdgesAt w a m c (geOf X who ratio) := by
 have e : flatE who ratio X.edges = flatS (X.edges.map fun E => [(E.f : Int), (E.t : Int), wtE who ratio E.us]) := flatE_S _ _ _
 rcases h.2 with ⟨h1, h2⟩ | ⟨g, cap, cur, h1, hg, hh, hn, hc, hs, hx⟩
 · injection h1 with h1 h3 h4
   subst h1; subst h2; subst h4
   exact ⟨by rw [geOf_len]; exact hm, Nat.le_refl _, by omega, fun h => by omega⟩
 · injection h1 with h1 _ h4
   subst h1; subst h4
   have hlt := (Array.getElem?_eq_some_iff.1 hh).1
   refine ⟨by rw [geOf_len]; exact hm, hn, by omega, fun _ => ⟨_, rfl, hlt, fun j e he => ?_⟩⟩
   obtain ⟨E, hE, rfl⟩ := geOf_inv he
   have key : ∀ (i : Nat) (x : Int), [(E.f : Int), (E.t : Int), wtE who ratio E.us][i]? = some x → w.cell? ⟨g, j * 3 + i, none⟩ = some (.int .i64 x) := fun i x hi => by
    have h5 := flatS_get (L := X.edges.map fun E => [(E.f : Int), (E.t : Int), wtE who ratio E.us]) (sz := 3) (fun t ht => by
     obtain ⟨E', _, rfl⟩ := List.mem_map.1 ht; rfl) (k := j) (by rw [List.getElem?_map, hE]; rfl) hi
    rw [← e, ← hx, List.getElem?_take] at h5
    split at h5
    · simp [World.cell?, hh]
      simpa using h5
    · cases h5
   have ea : ∀ i, (⟨g, 0, none⟩ : Addr).add i = ⟨g, i, none⟩ := fun i => by unfold Addr.add; split <;> simp_all
   rw [ea, ea, ea]
   exact ⟨key 0 _ rfl, key 1 _ rfl, key 2 _ rfl⟩
end
def mostOf (N : Nat) (es : List GE) : Int := (tabI N (siter (pes es) N)).foldl max 0
theorem foldl_max_ge (l : List Int) : ∀ a : Int, a ≤ l.foldl max a := by
 induction l with
 | nil => intro a; exact Int.le_refl a
 | cons x l ih => intro a; exact Int.le_trans (Int.le_max_left a x) (ih (max a x))
theorem foldl_max_le (l : List Int) {M : Int} : ∀ a : Int, a ≤ M → (∀ x ∈ l, x ≤ M) → l.foldl max a ≤ M := by
 induction l with
 | nil => intro a h _; exact h
 | cons x l ih => intro a h h'; exact ih (max a x) (Int.max_le.2 ⟨h, h' x (by simp)⟩) (fun y hy => h' y (by simp [hy]))
theorem mostOf_b {N : Nat} {es : List GE} (h : GraphOk (N : Int) es) : 0 ≤ mostOf N es ∧ mostOf N es ≤ 314572800 := by
 refine ⟨foldl_max_ge _ _, foldl_max_le _ _ (by omega) (fun x hx => ?_)⟩
 simp only [tabI, List.mem_map, List.mem_range] at hx
 obtain ⟨v, hv, rfl⟩ := hx
 have h1 := (siter_b h N v).2
 have h2 := h.1.2.1
 have h3 : (N : Int) * 1048576 ≤ 300 * 1048576 := Int.mul_le_mul_of_nonneg_right h2 (by omega)
 omega
theorem flOf_get {q : Nat} : ∀ {n i : Nat}, i < n * ((q + 1) * (q + 1)) → (flOf (q + 1) n)[i]? = some (i / ((q + 1) * (q + 1)), ⟨((i % ((q + 1) * (q + 1)) / (q + 1) : Nat) : Int), ((i % (q + 1) : Nat) : Int)⟩) := by
 intro n
 have hM : 0 < (q + 1) * (q + 1) := Nat.mul_pos (by omega) (by omega)
 obtain ⟨M, hMM⟩ : ∃ M, (q + 1) * (q + 1) = M := ⟨_, rfl⟩
 have hlen : ∀ n, (flOf (q + 1) n).length = n * M := by
  intro n
  induction n with
  | zero => simp [flOf]
  | succ n ih => rw [flOf_succ, List.length_append, ih, List.length_map, latesP_len, hMM, Nat.succ_mul]
 induction n with
 | zero => intro i hi; omega
 | succ n ih =>
   intro i hi
   rw [hMM] at hi ih hM ⊢
   rw [flOf_succ]
   by_cases h : i < n * M
   · rw [List.getElem?_append_left (by rw [hlen]; exact h)]
     exact ih h
   · rw [Nat.succ_mul] at hi
     have hi2 : i - n * M < M := by omega
     have hdv : i / M = n := by
      rw [Nat.div_eq_iff hM]
      have := Nat.succ_mul n M
      have := Nat.mul_comm n M
      omega
     have hmd : i % M = i - n * M := by
      have := Nat.div_add_mod i M
      rw [hdv, Nat.mul_comm] at this
      omega
     rw [List.getElem?_append_right (by rw [hlen]; omega), hlen, List.getElem?_map]
     have hl : (latesP (q + 1) ((q + 1) * (q + 1)))[i - n * M]? = some ⟨((((i - n * M) / (q + 1) : Nat)) : Int), (((i - n * M) % (q + 1) : Nat) : Int)⟩ := by
      rw [hMM]
      simp [latesP, List.getElem?_range, hi2]
     rw [hl, hdv, ← hmd]
     simp only [Option.map_some]
     have : i % M % (q + 1) = i % (q + 1) := by rw [← hMM]; exact Nat.mod_mul_left_mod i (q + 1) (q + 1)
     rw [this]
end Go.Proofs.YtjjikhaaimfneaaGreatDoor
namespace Go.Proofs.YtjjikhaaimfneaaGreatDoor
open Go.RowKit
set_option linter.unusedSimpArgs false
set_option linter.unusedVariables false
attribute [local go_sem] iteMin iteMax iteMinN iteMaxN
def lateF (N1 n : Nat) : P2 := ⟨((n % (N1 * N1) / N1 : Nat) : Int), ((n % N1 : Nat) : Int)⟩
set_option maxRecDepth 100000 in
set_option maxHeartbeats 2000000 in
theorem late_any (k0 k1 R Q : Int) (q n : Nat) (w : World) (hq : q ≤ 3) (hn : n ≤ 4800) :
 Calls Tryz.prog 42 #[.agg #[.int .i64 k0, .int .i64 k1, .int .i64 R, .int .i64 Q, .int .i64 q], .int .i64 n] w fun e w' => e = .returned (.agg #[.int .i64 (lateF (q + 1) n).x, .int .i64 (lateF (q + 1) n).y]) ∧ Below w.heap.size w w' := by
 obtain ⟨S, hS⟩ : ∃ S, w.heap.size = S := ⟨_, rfl⟩
 obtain ⟨N1, hN1⟩ : ∃ N1 : Nat, q + 1 = N1 := ⟨_, rfl⟩
 have h1 : 1 ≤ N1 ∧ N1 ≤ 4 := by omega
 have hc : (q : Int) + 1 = (N1 : Int) := by omega
 have hw1 : IntKind.i64.wrap ((q : Int) + 1) = (N1 : Int) := by rw [hc]; exact IntWalk.i64_in _ (by omega)
 obtain ⟨M, hM⟩ : ∃ M : Nat, N1 * N1 = M := ⟨_, rfl⟩
 have hM1 : 1 ≤ M ∧ M ≤ 16 := by
  have a1 := Nat.mul_le_mul h1.1 h1.1
  have a2 := Nat.mul_le_mul h1.2 h1.2
  omega
 have hw2 : IntKind.i64.wrap ((N1 : Int) * (N1 : Int)) = (M : Int) := by rw [← Int.natCast_mul, hM]; exact IntWalk.i64_in _ (by omega)
 obtain ⟨a, ha⟩ : ∃ a : Nat, n % M = a := ⟨_, rfl⟩
 obtain ⟨b, hb⟩ : ∃ b : Nat, a / N1 = b := ⟨_, rfl⟩
 obtain ⟨d, hd⟩ : ∃ d : Nat, n % N1 = d := ⟨_, rfl⟩
 have t1 : Int.tmod (n : Int) (M : Int) = (a : Int) := by rw [← ha]; rfl
 have t2 : Int.tdiv (a : Int) (N1 : Int) = (b : Int) := by rw [← hb]; rfl
 have t3 : Int.tmod (n : Int) (N1 : Int) = (d : Int) := by rw [← hd]; rfl
 have b1 : b ≤ a := by rw [← hb]; exact Nat.div_le_self _ _
 have b2 : a < M := by rw [← ha]; exact Nat.mod_lt _ (by omega)
 have b3 : d < N1 := by rw [← hd]; exact Nat.mod_lt _ (by omega)
 have w3 : IntKind.i64.wrap (a : Int) = (a : Int) := IntWalk.i64_in _ (by omega)
 have w4 : IntKind.i64.wrap (b : Int) = (b : Int) := IntWalk.i64_in _ (by omega)
 have w5 : IntKind.i64.wrap (d : Int) = (d : Int) := IntWalk.i64_in _ (by omega)
 have z1 : ((N1 : Int) == 0) = false := by simp; omega
 have z2 : ((M : Int) == 0) = false := by simp; omega
 have z3 : ¬ ((N1 : Int) = 0) := by omega
 have z4 : ¬ ((M : Int) = 0) := by omega
 have z5 : ¬ N1 = 0 := by omega
 have z6 : ¬ M = 0 := by omega
 have HR : Hid (lateF (q + 1) n = ⟨(b : Int), (d : Int)⟩) := hide (by unfold lateF; rw [hN1, hM, ha, hb, hd])
 rw [HR.out]
 clear hM ha hb hd hN1 hc
 go_enter Tryz.func42, Tryz.ntmps42
 go_upto_region 2 with fail
 obtain ⟨W, hW⟩ : ∃ W, W = (w.alloc (.cells #[.int .i64 k0, .int .i64 k1, .int .i64 R, .int .i64 Q, .int .i64 q] 49)).alloc (.cells #[.int .i64 0, .int .i64 0] 47) := ⟨_, rfl⟩
 rw [← hW]
 have hB : Below S w W := by rw [hW, ← hS]; exact ((Below.refl _ _).alloc (Nat.le_refl _) _).alloc (by simp) _
 have c0 : W.cell? ⟨S + 1, 0, none⟩ = some (.int .i64 0) := by rw [hW, ← hS]; simp [go_sem]
 have c1 : W.cell? ⟨S + 1, 1, none⟩ = some (.int .i64 0) := by rw [hW, ← hS]; simp [go_sem]
 have cf : ∀ j, W.frozen? ⟨S + 1, j, none⟩ = false := by intro j; rw [hW, ← hS]; simp [go_sem]
 clear hW
 go_region
 go_wp2
 refine bodyPost_ret (v := .agg #[.int .i64 (b : Int), .int .i64 (d : Int)]) ?_ rfl ⟨rfl, ?_⟩
 · simp [results, Tryz.f42, go_sem, c0, c1]
 · rw [hS]; exact ((hB.setCell (by simp only; omega) _).setCell (by simp only; omega) _).drew
end Go.Proofs.YtjjikhaaimfneaaGreatDoor
