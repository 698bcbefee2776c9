/-
  Lemmas and walks for the statement: RegM2, SpcL, Find.
-/
import Derived.Test.YtjjikhaaimfneaaGreatDoorU19
import Derived.WalkKit
import Derived.RangeFuncCalls
import Derived.Test.YtjjikhaaimfneaaGreatDoorU05
import Derived.Test.YtjjikhaaimfneaaGreatDoorU02
namespace Go.Proofs.YtjjikhaaimfneaaGreatDoor
open Go Go.RowKit
set_option linter.unusedSimpArgs false
set_option linter.unusedVariables false
section
variable {P : Program} {ops : Array Oper} {Q : Exit → Act → World → Prop} {md : Region.Mode}
def ixs (cs : List Ch) : List (Nat × Nat × Nat × Nat) := cs.map fun c => (c.b, c.p, c.db, c.dp)
structure Frm (w0 : World) (cs : List Ch) (w : World) : Prop where
 os : w.os = w0.os
 tape : w.tape = w0.tape
 output : w.output = w0.output
 size : w0.heap.size ≤ w.heap.size
 block : ∀ b, b < w0.heap.size → (∀ (i : Nat) (c : Ch), cs[i]? = some c → c.v.ownBlock ≠ some b) → w.heap[b]? = w0.heap[b]?
def cur (c : Ch) (s : Nat) (v : Value) : Value := if s = 2 then v else c.v
def curN (c : Ch) (s : Nat) : Nat := if s = 2 then c.n + 1 else c.n
def curX (c : Ch) (s : Nat) : List Value := if s = 2 then c.xs ++ c.x else c.xs
structure RowsOk (w0 : World) (cs : List Ch) (B : Nat) (st : List Nat) (vs : List (Value × Value)) (w : World) : Prop where
 frm : Frm w0 cs w
 row : ∀ (i : Nat) (c : Ch) (s : Nat) (u v : Value), cs[i]? = some c → st[i]? = some s → vs[i]? = some (u, v) → w.ownsRow B c.e c.size (cur c s v) (curN c s) (curX c s) ∧ ((cur c s v).ownBlock = c.v.ownBlock ∨ ∃ g, (cur c s v).ownBlock = some g ∧ w0.heap.size ≤ g)
 apart : ∀ (i j : Nat) (c d : Ch) (s r : Nat) (u v x y : Value), i ≠ j → cs[i]? = some c → st[i]? = some s → vs[i]? = some (u, v) → cs[j]? = some d → st[j]? = some r → vs[j]? = some (x, y) → ∀ g, (cur c s v).ownBlock = some g → (cur d r y).ownBlock ≠ some g
 one : ∀ (i : Nat) (c : Ch) (u v : Value), cs[i]? = some c → st[i]? = some 1 → vs[i]? = some (u, v) → ∃ g, u = .slice (some ⟨g, 0, none⟩) 1 1 ∧ w0.heap.size ≤ g ∧ g < w.heap.size ∧ (∀ j x, c.x[j]? = some x → w.cell? ⟨g, j, none⟩ = some x) ∧
  ∀ (j : Nat) (d : Ch) (r : Nat) (y z : Value), cs[j]? = some d → st[j]? = some r → vs[j]? = some (y, z) → (cur d r z).ownBlock ≠ some g
theorem rows_lt {w : World} {B n : Nat} {e : TypeId} {size : Nat} {v : Value} {xs : List Value} (h : w.ownsRow B e size v n xs) : ∀ g, v.ownBlock = some g → B ≤ g ∧ g < w.heap.size := by
 intro g hg
 rcases h.2 with ⟨rfl, _⟩ | ⟨g', cap, cur, rfl, hb, hh, _⟩
 · simp [Value.ownBlock] at hg
 · simp only [Value.ownBlock, Option.some.injEq] at hg; subst hg; exact ⟨hb, (Array.getElem?_eq_some_iff.1 hh).1⟩
theorem rows_kept {w w' : World} {B n : Nat} {e : TypeId} {size : Nat} {v : Value} {xs : List Value} (h : w.ownsRow B e size v n xs) (hk : ∀ g, v.ownBlock = some g → w'.heap[g]? = w.heap[g]?) : w'.ownsRow B e size v n xs := by
 obtain ⟨hl, h⟩ := h
 rcases h with ⟨rfl, rfl⟩ | ⟨g, cap, cur, rfl, hg, hh, hn, hm, hs, hx⟩
 · exact ⟨hl, .inl ⟨rfl, rfl⟩⟩
 · exact ⟨hl, .inr ⟨g, cap, cur, rfl, hg, by rw [hk g rfl]; exact hh, hn, hm, hs, hx⟩⟩
theorem set_get {α : Type} {l : List α} {i j : Nat} {x y : α} (h : (l.set i x)[j]? = some y) : (i = j ∧ y = x) ∨ (i ≠ j ∧ l[j]? = some y) := by
 by_cases e : i = j
 · subst e
   have hl := (List.getElem?_eq_some_iff.1 h).1
   rw [List.length_set] at hl
   rw [List.getElem?_set_self hl] at h
   injection h with h
   exact .inl ⟨rfl, h.symm⟩
 · rw [List.getElem?_set_ne e] at h
   exact .inr ⟨e, h⟩
theorem RowsOk.lay {w0 w : World} {cs : List Ch} {B : Nat} {st : List Nat} {vs : List (Value × Value)} (h : RowsOk w0 cs B st vs w) {i : Nat} {c : Ch} {u v : Value} (hc : cs[i]? = some c) (hs : st[i]? = some 0) (hv : vs[i]? = some (u, v)) (e : TypeId) :
 RowsOk w0 cs B (st.set i 1) (vs.set i (.slice (some ⟨w.heap.size, 0, none⟩) 1 1, v)) (w.alloc (.cells c.x.toArray e)) := by
 have hB := (Below.refl w.heap.size w).alloc (Nat.le_refl _) (.cells c.x.toArray e)
 have hsz : (w.alloc (.cells c.x.toArray e)).heap.size = w.heap.size + 1 := by simp
 have old : ∀ (j : Nat) (d : Ch) (r : Nat) (y z : Value), cs[j]? = some d → (st.set i 1)[j]? = some r → (vs.set i (.slice (some ⟨w.heap.size, 0, none⟩) 1 1, v))[j]? = some (y, z) → ∃ r' y', st[j]? = some r' ∧ vs[j]? = some (y', z) ∧ cur d r z = cur d r' z ∧ curN d r = curN d r' ∧ curX d r = curX d r' := by
  intro j d r y z hd hr hy
  rcases set_get hr with ⟨rfl, rfl⟩ | ⟨hne, hr⟩
  · rcases set_get hy with ⟨_, hy⟩ | ⟨h', _⟩
    · injection hy with e1 e2
      subst e2
      exact ⟨0, u, hs, hv, rfl, rfl, rfl⟩
    · exact absurd rfl h'
  · rcases set_get hy with ⟨h', _⟩ | ⟨_, hy⟩
    · exact absurd h' hne
    · exact ⟨r, y, hr, hy, rfl, rfl, rfl⟩
 refine ⟨⟨h.frm.os, h.frm.tape, h.frm.output, by have := h.frm.size; omega, fun b hb hn => (hB.block b (by have := h.frm.size; omega)).trans (h.frm.block b hb hn)⟩, ?_, ?_, ?_⟩
 · intro j d r y z hd hr hy
   obtain ⟨r', y', e1, e2, e3, e4, e5⟩ := old j d r y z hd hr hy
   rw [e3, e4, e5]
   have hrow := h.row j d r' y' z hd e1 e2
   exact ⟨rows_kept hrow.1 (fun g hg => hB.block g (rows_lt hrow.1 g hg).2), hrow.2⟩
 · intro j k d d' r r' y z y' z' hjk hd hr hy hd' hr' hy'
   obtain ⟨_, _, e1, e2, e3, _⟩ := old j d r y z hd hr hy
   obtain ⟨_, _, e1', e2', e3', _⟩ := old k d' r' y' z' hd' hr' hy'
   rw [e3, e3']
   exact h.apart j k d d' _ _ _ _ _ _ hjk hd e1 e2 hd' e1' e2'
 · intro j d y z hd hr hy
   rcases set_get hr with ⟨rfl, _⟩ | ⟨hne, hr'⟩
   · rcases set_get hy with ⟨_, hy'⟩ | ⟨h', _⟩
     · injection hy' with e1 e2
       subst e1; subst e2
       obtain rfl : c = d := by rw [hc] at hd; injection hd
       refine ⟨w.heap.size, rfl, h.frm.size, by omega, fun k x hx => ?_, fun k d' r y' z' hd' hr' hy' hg => ?_⟩
       · have key : ∀ (W : World) (b : Nat), W.heap[b]? = some (.cells c.x.toArray e (0, 0)) → W.cell? ⟨b, k, none⟩ = some x := fun W b h => by simp [World.cell?, h, hx]
         exact key _ _ (World.alloc_heap_new w (.cells c.x.toArray e))
       · obtain ⟨r', y2, e1, e2, e3, _⟩ := old k d' r y' z' hd' hr' hy'
         rw [e3] at hg
         have := (rows_lt (h.row k d' r' y2 z' hd' e1 e2).1 _ hg).2
         omega
     · exact absurd rfl h'
   · rcases set_get hy with ⟨h', _⟩ | ⟨_, hy'⟩
     · exact absurd h' hne
     · obtain ⟨g, e1, e2, e3, e4, e5⟩ := h.one j d y z hd hr' hy'
       refine ⟨g, e1, e2, by omega, fun k x hx => (hB.cell (p := ⟨g, k, none⟩) e3).trans (e4 k x hx), fun k d' r y2 z2 hd' hr2 hy2 => ?_⟩
       obtain ⟨r', y3, f1, f2, f3, _⟩ := old k d' r y2 z2 hd' hr2 hy2
       rw [f3]
       exact e5 k d' r' y3 z2 hd' f1 f2
theorem RowsOk.app {w0 w w' : World} {cs : List Ch} {B : Nat} {st : List Nat} {vs : List (Value × Value)} (h : RowsOk w0 cs B st vs w) {i : Nat} {c : Ch} {u v v' : Value} (hc : cs[i]? = some c) (hs : st[i]? = some 1) (hv : vs[i]? = some (u, v))
 (hown : w'.ownsRow B c.e c.size v' (c.n + 1) (c.xs ++ c.x)) (hg : w.grownBy w' c.v.ownBlock) (hat : v'.ownBlock = c.v.ownBlock ∨ v'.ownBlock = some w.heap.size) :
 RowsOk w0 cs B (st.set i 2) (vs.set i (u, v')) w' := by
 have hcur : cur c 1 v = c.v := rfl
 have hci := h.row i c 1 u v hc hs hv
 have old : ∀ (j : Nat) (d : Ch) (r : Nat) (y z : Value), cs[j]? = some d → (st.set i 2)[j]? = some r → (vs.set i (u, v'))[j]? = some (y, z) → (i = j ∧ c = d ∧ r = 2 ∧ y = u ∧ z = v') ∨ (i ≠ j ∧ st[j]? = some r ∧ vs[j]? = some (y, z)) := by
  intro j d r y z hd hr hy
  rcases set_get hr with ⟨rfl, rfl⟩ | ⟨hne, hr⟩
  · rcases set_get hy with ⟨_, hy⟩ | ⟨h', _⟩
    · injection hy with e1 e2
      exact .inl ⟨rfl, by rw [hc] at hd; injection hd, rfl, e1, e2⟩
    · exact absurd rfl h'
  · rcases set_get hy with ⟨h', _⟩ | ⟨_, hy⟩
    · exact absurd h' hne
    · exact .inr ⟨hne, hr, hy⟩
 have far : ∀ (j : Nat) (d : Ch) (r : Nat) (y z : Value), i ≠ j → cs[j]? = some d → st[j]? = some r → vs[j]? = some (y, z) → ∀ g, (cur d r z).ownBlock = some g → some g ≠ c.v.ownBlock ∧ v'.ownBlock ≠ some g := by
  intro j d r y z hne hd hr hy g hgg
  have h1 := h.apart j i d c r 1 y z u v (Ne.symm hne) hd hr hy hc hs hv g hgg
  rw [hcur] at h1
  have hlt := (rows_lt (h.row j d r y z hd hr hy).1 g hgg).2
  refine ⟨fun e => h1 e.symm, fun e => ?_⟩
  rcases hat with h2 | h2
  · exact h1 (h2.symm.trans e)
  · rw [h2] at e; injection e with e; omega
 refine ⟨⟨hg.os.trans h.frm.os, hg.tape.trans h.frm.tape, hg.output.trans h.frm.output, Nat.le_trans h.frm.size hg.size, fun b hb hn => (hg.block b (by have := h.frm.size; omega) (fun e => hn i c hc e.symm)).trans (h.frm.block b hb hn)⟩, ?_, ?_, ?_⟩
 · intro j d r y z hd hr hy
   rcases old j d r y z hd hr hy with ⟨rfl, rfl, rfl, rfl, rfl⟩ | ⟨hne, hr', hy'⟩
   · refine ⟨hown, ?_⟩
     rcases hat with h2 | h2
     · exact .inl h2
     · exact .inr ⟨_, h2, h.frm.size⟩
   · have hrow := h.row j d r y z hd hr' hy'
     exact ⟨rows_kept hrow.1 (fun g hgg => hg.block g (rows_lt hrow.1 g hgg).2 (far j d r y z hne hd hr' hy' g hgg).1), hrow.2⟩
 · intro j k d d' r r' y z y' z' hjk hd hr hy hd' hr' hy' g hgg
   rcases old j d r y z hd hr hy with ⟨rfl, rfl, rfl, rfl, rfl⟩ | ⟨hne, h1, h2⟩
   · rcases old k d' r' y' z' hd' hr' hy' with ⟨e, _⟩ | ⟨hne, h1, h2⟩
     · exact absurd e hjk
     · intro e
       exact (far k d' r' y' z' hne hd' h1 h2 g e).2 hgg
   · rcases old k d' r' y' z' hd' hr' hy' with ⟨rfl, rfl, rfl, rfl, rfl⟩ | ⟨hne', h1', h2'⟩
     · exact (far j d r y z hne hd h1 h2 g hgg).2
     · exact h.apart j k d d' r r' y z y' z' hjk hd h1 h2 hd' h1' h2' g hgg
 · intro j d y z hd hr hy
   rcases old j d 1 y z hd hr hy with ⟨_, _, e, _⟩ | ⟨hne, hr', hy'⟩
   · cases e
   · obtain ⟨g, e1, e2, e3, e4, e5⟩ := h.one j d y z hd hr' hy'
     have hgc : c.v.ownBlock ≠ some g := by have := e5 i c 1 u v hc hs hv; rwa [hcur] at this
     refine ⟨g, e1, e2, Nat.lt_of_lt_of_le e3 hg.size, fun k x hx => ?_, fun k d' r y2 z2 hd' hr2 hy2 => ?_⟩
     · have he : w'.heap[g]? = w.heap[g]? := hg.block g e3 (fun e => hgc e.symm)
       exact (World.cell?_of_block (w := w) (a := ⟨g, k, none⟩) he).trans (e4 k x hx)
     · rcases old k d' r y2 z2 hd' hr2 hy2 with ⟨rfl, rfl, rfl, rfl, rfl⟩ | ⟨_, f1, f2⟩
       · intro e
         rcases hat with h2 | h2
         · exact hgc (h2.symm.trans e)
         · have e' : z2.ownBlock = some g := e
           rw [h2] at e'; injection e' with e'; omega
       · exact e5 k d' r y2 z2 hd' f1 f2
structure ChOk (P : Program) (ops : Array Oper) (a0 : Act) (cs : List Ch) (c : Ch) : Prop where
 lay : ∃ (o : Oper) (k : Nat) (X : Value), ops[c.b]? = some o ∧ o.guard = none ∧ o.dst = some c.db ∧ o.op = .buildSlice c.t 1 #[(0, .tmp k)] ∧ k ∉ slots (ixs cs) ∧ a0.tmps[k]? = some X ∧ ∀ w : World, (Instr.buildSlice c.t 1 #[(0, X)]).run P w = .ok (.slice (some ⟨w.heap.size, 0, none⟩) 1 1) (w.alloc (.cells c.x.toArray c.e))
 app : ∃ (o : Oper) (k : Nat), ops[c.p]? = some o ∧ o.guard = none ∧ o.dst = some c.dp ∧ o.op = .call { callee := .builtin .append, args := #[.tmp k, .tmp c.db], argTypes := #[c.t, c.t] } ∧ k ∉ slots (ixs cs) ∧ a0.tmps[k]? = some c.v
 info : ∃ (i : TypeInfo) (z : Value) (bytes : Nat), P.underlying c.t = some (.slice c.e) ∧ P.info? c.e = some i ∧ i.zero = some z ∧ i.size = c.size ∧ i.bytes = bytes ∧ z.cells.size = c.size ∧ 0 < c.size ∧ (c.n + 1) * bytes ≤ 140737488355328
 len : c.x.length = c.size
 cell : ∀ u ∈ c.x, u.oneCell' = true
 max : c.n + 1 ≤ maxLen
theorem evalOf {a : Act} {k : Nat} {v : Value} (h : a.tmps[k]? = some v) : a.eval (.tmp k) = v := by
 simp [Act.eval, h]
theorem addZ (g j : Nat) : (⟨g, 0, none⟩ : Addr).add j = ⟨g, j, none⟩ := by unfold Addr.add; split <;> simp_all
def JR (w0 : World) (a0 : Act) (cs : List Ch) (B : Nat) (st : List Nat) (a : Act) (w : World) : Prop :=
 ∃ vs : List (Value × Value), vs.length = cs.length ∧ a = puts (ixs cs) st vs a0 ∧ RowsOk w0 cs B st vs w
theorem ixs_get {cs : List Ch} {i b p : Nat} {d : Nat × Nat} (h : (ixs cs)[i]? = some (b, p, d)) : ∃ c, cs[i]? = some c ∧ c.b = b ∧ c.p = p ∧ d = (c.db, c.dp) := by
 unfold ixs at h
 rw [List.getElem?_map] at h
 obtain ⟨c, h1, h2⟩ := Option.map_eq_some_iff.1 h
 injection h2 with e1 e2
 injection e2 with e2 e3
 exact ⟨c, h1, e1, e2, e3.symm⟩
variable {F : World → Prop} {c : Nat}
theorem wpAnyG_appends {w0 : World} {a0 : Act} {cs : List Ch} {B : Nat} {L0 : Array Bool} {f : Nat} (hchk : chk md ops (ixs cs) L0 = true) (hnd : (slots (ixs cs)).Nodup) (hsl : ∀ d ∈ slots (ixs cs), d < a0.tmps.size)
 (hF : ∀ w, Frm w0 cs w → F w) (hok : ∀ (i : Nat) (d : Ch), cs[i]? = some d → ChOk P ops a0 cs d) (hB : B ≤ w0.heap.size)
 (hrow : ∀ (i : Nat) (d : Ch), cs[i]? = some d → w0.ownsRow B d.e d.size d.v d.n d.xs)
 (hap : ∀ (i j : Nat) (d d' : Ch), i ≠ j → cs[i]? = some d → cs[j]? = some d' → ∀ g, d.v.ownBlock = some g → d'.v.ownBlock ≠ some g)
 (he : ∀ vs w, vs.length = cs.length → RowsOk w0 cs B (List.replicate cs.length 2) vs w → wpAnyG P md ops Q c F f (lst (ixs cs) (List.replicate cs.length 2) L0) (puts (ixs cs) (List.replicate cs.length 2) vs a0) w) :
 wpAnyG P md ops Q c F (f + 2 * cs.length) L0 a0 w0 := by
 have hlen : (ixs cs).length = cs.length := by simp [ixs]
 have hz : ∀ (cs : List (Nat × Nat × Nat × Nat)) (k : Nat) (L : Array Bool), lst cs (List.replicate k 0) L = L := by
  intro cs
  induction cs with
  | nil => intro k L; simp [lst]
  | cons c cs ih =>
    intro k L
    obtain ⟨b, p, d⟩ := c
    cases k with
    | zero => simp [lst]
    | succ k => simp only [List.replicate_succ, lst, if_true]; exact ih k L
 have hzp : ∀ (cs : List (Nat × Nat × Nat × Nat)) (k : Nat) (vs : List (Value × Value)) (a : Act), puts cs (List.replicate k 0) vs a = a := by
  intro cs
  induction cs with
  | nil => intro k vs a; simp [puts]
  | cons c cs ih =>
    intro k vs a
    obtain ⟨b, p, db, dp⟩ := c
    cases k with
    | zero => simp [puts]
    | succ k =>
      cases vs with
      | nil => simp [List.replicate_succ, puts]
      | cons x vs => obtain ⟨u, v⟩ := x; simp only [List.replicate_succ, puts, if_true]; exact ih k vs a
 have hrem : ∀ k, rem (List.replicate k 0) = 2 * k := by
  intro k
  induction k with
  | zero => rfl
  | succ k ih => simp only [List.replicate_succ, rem, ih]; omega
 have h0 : ∀ {k i s : Nat}, (List.replicate k 0)[i]? = some s → s = 0 := fun {k i s} h => by
  obtain ⟨hl, he⟩ := List.getElem?_eq_some_iff.1 h
  simpa using he.symm
 have hJ0 : JR w0 a0 cs B (List.replicate cs.length 0) a0 w0 := by
  refine ⟨List.replicate cs.length (undef, undef), by simp, (hzp _ _ _ _).symm, ⟨⟨rfl, rfl, rfl, Nat.le_refl _, fun _ _ _ => rfl⟩, ?_, ?_, ?_⟩⟩
  · intro i d s u v hd hs hv
    obtain rfl := h0 hs
    exact ⟨hrow i d hd, .inl rfl⟩
  · intro i j d d' s r u v x y hij hd hs hv hd' hr hy
    obtain rfl := h0 hs
    obtain rfl := h0 hr
    exact hap i j d d' hij hd hd'
  · intro i d u v hd hs hv
    have := h0 hs; omega
 have key := wpAnyG_chains (P := P) (Q := Q) (c := c) (F := F) (L0 := L0) (f := f) (J := JR w0 a0 cs B) hchk (fun st a w ⟨vs, _, _, h⟩ => hF w h.frm) ?_ ?_ ?_ (2 * cs.length) (List.replicate cs.length 0) a0 w0 (hrem _) (by simp [hlen]) (fun s hs => by have := List.eq_of_mem_replicate hs; omega) hJ0
 · rw [hz] at key; exact key
 · intro st a w i b p d hst ⟨vs, hvl, ha, hR⟩ hi hs
   obtain ⟨ch, hch, rfl, rfl, rfl⟩ := ixs_get hi
   obtain ⟨o, k, X, ho, hg, hdst, hop, hk, hX, hrun⟩ := (hok i ch hch).lay
   have hil : i < vs.length := by rw [hvl]; exact (List.getElem?_eq_some_iff.1 hch).1
   obtain ⟨⟨u, v⟩, hv⟩ : ∃ x, vs[i]? = some x := ⟨_, List.getElem?_eq_getElem hil⟩
   refine wpOp_step ho fun K' hK => ?_
   have hw : Region.wanted o (yielded ops a.tmps) = true := by simp [Region.wanted, hg]
   rw [if_pos hw]
   have hev : a.eval (.tmp k) = X := evalOf (by rw [ha, puts_other _ _ _ _ _ hk]; exact hX)
   unfold Oper.wp execOp
   simp only [hop, Sem.run_bind, Sem.run_pure, Result.andThen_ok, List.map_toArray, List.map_cons, List.map_nil, hev, hrun]
   rw [Oper.upon_value]
   refine hK _ _ ⟨vs.set i (.slice (some ⟨w.heap.size, 0, none⟩) 1 1, v), by simpa using hvl, ?_, hR.lay hch hs hv _⟩
   rw [hdst, ha, puts_1 (ixs cs) st vs a0 i ch.b ch.p ch.db ch.dp _ u v hnd hi hs hv]
 · intro st a w i b p d hst ⟨vs, hvl, ha, hR⟩ hi hs
   obtain ⟨ch, hch, rfl, rfl, rfl⟩ := ixs_get hi
   obtain ⟨o, k, ho, hg, hdst, hop, hk, hX⟩ := (hok i ch hch).app
   obtain ⟨ti, z, bytes, ht, hti, htz, hts, htb, htzs, htp, hbt⟩ := (hok i ch hch).info
   have hil : i < vs.length := by rw [hvl]; exact (List.getElem?_eq_some_iff.1 hch).1
   obtain ⟨⟨u, v⟩, hv⟩ : ∃ x, vs[i]? = some x := ⟨_, List.getElem?_eq_getElem hil⟩
   obtain ⟨g, hu, _, _, hcell, _⟩ := hR.one i ch u v hch hs hv
   refine wpOp_step ho fun K' hK => ?_
   have hw : Region.wanted o (yielded ops a.tmps) = true := by simp [Region.wanted, hg]
   rw [if_pos hw]
   have hev : a.eval (.tmp k) = ch.v := evalOf (by rw [ha, puts_other _ _ _ _ _ hk]; exact hX)
   have hev2 : a.eval (.tmp ch.db) = .slice (some ⟨g, 0, none⟩) 1 1 := evalOf (by rw [ha, puts_at1 (ixs cs) st vs a0 i ch.b ch.p ch.db ch.dp u v hnd hsl hi hs hv, hu])
   have hrow' := (hR.row i ch 1 u v hch hs hv).1
   obtain ⟨v', w', hr, f1, f2, _, f4⟩ := run_append_own_at (P := P) w B ch.t o.type ch.e ti z ch.size bytes ht hti htz hts htb htzs htp ch.v ch.n ch.xs hrow' ⟨g, 0, none⟩ 1 1 ch.x (by rw [(hok i ch hch).len]; omega) (fun j x hx => by rw [addZ]; exact hcell j x hx) (hok i ch hch).cell (hok i ch hch).max hbt (Nat.le_trans hB hR.frm.size)
   unfold Oper.wp execOp
   simp only [hop, resolve, invoke, builtin, Sem.run_bind, Sem.run_pure, Result.andThen_ok, List.map_toArray, List.map_cons, List.map_nil, hev, hev2, hr]
   rw [Oper.upon_value]
   refine hK _ _ ⟨vs.set i (u, v'), by simpa using hvl, ?_, hR.app hch hs hv f1 f2 f4⟩
   rw [hdst, ha, puts_2 (ixs cs) st vs a0 i ch.b ch.p ch.db ch.dp u v v' hnd hi hs hv]
 · intro a w ⟨vs, hvl, ha, hR⟩
   rw [hlen] at ha hR ⊢
   rw [ha]
   exact he vs w hvl hR
structure Aft (w0 : World) (c1 c2 c3 : Ch) (B : Nat) (t1 t2 t3 : Value) (W : World) : Prop where
 frm : Frm w0 [c1, c2, c3] W
 q1 : W.ownsRow B c1.e c1.size t1 (c1.n + 1) (c1.xs ++ c1.x)
 q2 : W.ownsRow B c2.e c2.size t2 (c2.n + 1) (c2.xs ++ c2.x)
 q3 : W.ownsRow B c3.e c3.size t3 (c3.n + 1) (c3.xs ++ c3.x)
 o1 : t1.ownBlock = c1.v.ownBlock ∨ ∃ g, t1.ownBlock = some g ∧ w0.heap.size ≤ g
 o2 : t2.ownBlock = c2.v.ownBlock ∨ ∃ g, t2.ownBlock = some g ∧ w0.heap.size ≤ g
 o3 : t3.ownBlock = c3.v.ownBlock ∨ ∃ g, t3.ownBlock = some g ∧ w0.heap.size ≤ g
 a12 : ∀ g, t1.ownBlock = some g → t2.ownBlock ≠ some g
 a13 : ∀ g, t1.ownBlock = some g → t3.ownBlock ≠ some g
 a23 : ∀ g, t2.ownBlock = some g → t3.ownBlock ≠ some g
theorem all3 {C : Ch → Prop} {a b c : Ch} (h0 : C a) (h1 : C b) (h2 : C c) : ∀ (i : Nat) (d : Ch), [a, b, c][i]? = some d → C d := by
 intro i d h
 match i, h with
 | 0, h => obtain rfl : a = d := by simpa using h
           exact h0
 | 1, h => obtain rfl : b = d := by simpa using h
           exact h1
 | 2, h => obtain rfl : c = d := by simpa using h
           exact h2
 | i + 3, h => simp at h
theorem idx3 {a b c d : Ch} {i : Nat} (h : [a, b, c][i]? = some d) : (i = 0 ∧ a = d) ∨ (i = 1 ∧ b = d) ∨ (i = 2 ∧ c = d) := by
 match i, h with
 | 0, h => exact .inl ⟨rfl, by simpa using h⟩
 | 1, h => exact .inr (.inl ⟨rfl, by simpa using h⟩)
 | 2, h => exact .inr (.inr ⟨rfl, by simpa using h⟩)
 | i + 3, h => simp at h
theorem row_shape {w : World} {B n size : Nat} {e : TypeId} {v : Value} {xs : List Value} (h : w.ownsRow B e size v n xs) : ∃ a c, v = .slice a n c := by
 rcases h.2 with ⟨rfl, rfl⟩ | ⟨g, cap, cur, rfl, _⟩
 · exact ⟨none, 0, rfl⟩
 · exact ⟨_, _, rfl⟩
theorem len3p {α : Type} {l : List α} (h : l.length = 3) : ∃ a b c, l = [a, b, c] := by
 match l, h with
 | [a, b, c], _ => exact ⟨a, b, c, rfl⟩
theorem wpAnyG_appends3 {c1 c2 c3 : Ch} {w0 : World} {a0 : Act} {B : Nat} {L0 : Array Bool} {f fuel : Nat} (hfu : fuel = f + 6) (hchk : chk md ops (ixs [c1, c2, c3]) L0 = true) (hnd : (slots (ixs [c1, c2, c3])).Nodup) (hsl : ∀ d ∈ slots (ixs [c1, c2, c3]), d < a0.tmps.size)
 (hF : ∀ w, Frm w0 [c1, c2, c3] w → F w) (k1 : ChOk P ops a0 [c1, c2, c3] c1) (k2 : ChOk P ops a0 [c1, c2, c3] c2) (k3 : ChOk P ops a0 [c1, c2, c3] c3) (hB : B ≤ w0.heap.size)
 (r1 : w0.ownsRow B c1.e c1.size c1.v c1.n c1.xs) (r2 : w0.ownsRow B c2.e c2.size c2.v c2.n c2.xs) (r3 : w0.ownsRow B c3.e c3.size c3.v c3.n c3.xs)
 (a12 : ∀ g, c1.v.ownBlock = some g → c2.v.ownBlock ≠ some g) (a13 : ∀ g, c1.v.ownBlock = some g → c3.v.ownBlock ≠ some g) (a23 : ∀ g, c2.v.ownBlock = some g → c3.v.ownBlock ≠ some g)
 (he : ∀ (u1 u2 u3 : Value) (x1 x2 x3 : Option Addr) (m1 m2 m3 : Nat) (W : World), Aft w0 c1 c2 c3 B (.slice x1 (c1.n + 1) m1) (.slice x2 (c2.n + 1) m2) (.slice x3 (c3.n + 1) m3) W →
  wpAnyG P md ops Q c F f ((((((L0.setIfInBounds c1.b true).setIfInBounds c1.p true).setIfInBounds c2.b true).setIfInBounds c2.p true).setIfInBounds c3.b true).setIfInBounds c3.p true)
   ((((((a0.put (some c1.db) u1).put (some c1.dp) (.slice x1 (c1.n + 1) m1)).put (some c2.db) u2).put (some c2.dp) (.slice x2 (c2.n + 1) m2)).put (some c3.db) u3).put (some c3.dp) (.slice x3 (c3.n + 1) m3)) W) :
 wpAnyG P md ops Q c F fuel L0 a0 w0 := by
 subst hfu
 refine wpAnyG_appends (cs := [c1, c2, c3]) hchk hnd hsl hF (all3 k1 k2 k3) hB (all3 (C := fun d => w0.ownsRow B d.e d.size d.v d.n d.xs) r1 r2 r3) ?_ ?_
 · intro i j d d' hij hd hd' g hg hg'
   rcases idx3 hd with ⟨rfl, rfl⟩ | ⟨rfl, rfl⟩ | ⟨rfl, rfl⟩ <;> rcases idx3 hd' with ⟨rfl, rfl⟩ | ⟨rfl, rfl⟩ | ⟨rfl, rfl⟩
   · exact hij rfl
   · exact a12 g hg hg'
   · exact a13 g hg hg'
   · exact a12 g hg' hg
   · exact hij rfl
   · exact a23 g hg hg'
   · exact a13 g hg' hg
   · exact a23 g hg' hg
   · exact hij rfl
 · intro vs W hvl hR
   obtain ⟨⟨u1, t1⟩, ⟨u2, t2⟩, ⟨u3, t3⟩, rfl⟩ := len3p hvl
   have q1 := hR.row 0 _ 2 u1 t1 rfl rfl rfl
   have q2 := hR.row 1 _ 2 u2 t2 rfl rfl rfl
   have q3 := hR.row 2 _ 2 u3 t3 rfl rfl rfl
   have z12 := hR.apart 0 1 _ _ 2 2 u1 t1 u2 t2 (by decide) rfl rfl rfl rfl rfl rfl
   have z13 := hR.apart 0 2 _ _ 2 2 u1 t1 u3 t3 (by decide) rfl rfl rfl rfl rfl rfl
   have z23 := hR.apart 1 2 _ _ 2 2 u2 t2 u3 t3 (by decide) rfl rfl rfl rfl rfl rfl
   simp only [cur, curN, curX, if_true] at q1 q2 q3 z12 z13 z23
   obtain ⟨x1, m1, rfl⟩ := row_shape q1.1
   obtain ⟨x2, m2, rfl⟩ := row_shape q2.1
   obtain ⟨x3, m3, rfl⟩ := row_shape q3.1
   have h := he u1 u2 u3 x1 x2 x3 m1 m2 m3 W ⟨hR.frm, q1.1, q2.1, q3.1, q1.2, q2.2, q3.2, z12, z13, z23⟩
   clear he
   simp [ixs, lst, puts, List.replicate_succ]
   exact h
end
end Go.Proofs.YtjjikhaaimfneaaGreatDoor
namespace Go.Proofs.YtjjikhaaimfneaaGreatDoor
open Go.RowKit
set_option linter.unusedSimpArgs false
set_option linter.unusedVariables false
def flatS (ss : List (List Int)) : List Value := ss.flatMap fun s => s.map (Value.int .i64)
theorem flatS_snoc (ss : List (List Int)) (s : List Int) : flatS (ss ++ [s]) = flatS ss ++ s.map (Value.int .i64) := by simp [flatS]
def flat2 (l : List P2) : List Value := l.flatMap fun p => [.int .i64 p.x, .int .i64 p.y]
theorem flat2_snoc (l : List P2) (x y : Int) : flat2 (l ++ [⟨x, y⟩]) = flat2 l ++ [.int .i64 x, .int .i64 y] := by simp [flat2]
def ApV (o v : Value) : Prop := ∀ g, o.ownBlock = some g → v.ownBlock ≠ some g
structure Spc (w : World) (PB MB B : Nat) (v1 v2 v3 : Value) (ss : List (List Int)) (fr : List Int) (bys : List P2) : Prop where
 c0 : w.cell? ⟨PB, 0, none⟩ = some (.map (some MB))
 c1 : w.cell? ⟨PB, 1, none⟩ = some v1
 c2 : w.cell? ⟨PB, 2, none⟩ = some v2
 c3 : w.cell? ⟨PB, 3, none⟩ = some v3
 fz : ∀ j, w.frozen? ⟨PB, j, none⟩ = false
 mp : MapAt w MB ss
 r1 : w.ownsRow B 133 14 v1 ss.length (flatS ss)
 r2 : w.ownsRow B 3 1 v2 ss.length (fr.map (Value.int .i64))
 r3 : w.ownsRow B 47 2 v3 ss.length (flat2 bys)
 a12 : ApV v1 v2
 a13 : ApV v1 v3
 a23 : ApV v2 v3
 pm : PB ≠ MB
 pB : PB < B
 mB : MB < B
def Foot (PB MB : Nat) (v1 v2 v3 : Value) (b : Nat) : Prop := b = PB ∨ b = MB ∨ v1.ownBlock = some b ∨ v2.ownBlock = some b ∨ v3.ownBlock = some b
section
variable {w w' : World} {PB MB B : Nat} {v1 v2 v3 : Value} {ss : List (List Int)} {fr : List Int} {bys : List P2}
theorem Spc.lt (h : Spc w PB MB B v1 v2 v3 ss fr bys) : PB < w.heap.size := World.block_lt_of_cell? w _ h.c0
theorem Spc.foot_lt (h : Spc w PB MB B v1 v2 v3 ss fr bys) {b : Nat} (hb : Foot PB MB v1 v2 v3 b) : b < w.heap.size := by
 rcases hb with rfl | rfl | hb | hb | hb
 · exact h.lt
 · exact h.mp.lt
 · exact (rows_lt h.r1 b hb).2
 · exact (rows_lt h.r2 b hb).2
 · exact (rows_lt h.r3 b hb).2
theorem Spc.kept (h : Spc w PB MB B v1 v2 v3 ss fr bys) (hk : ∀ b, Foot PB MB v1 v2 v3 b → w'.heap[b]? = w.heap[b]?) : Spc w' PB MB B v1 v2 v3 ss fr bys := by
 have hp : w'.heap[PB]? = w.heap[PB]? := hk PB (.inl rfl)
 have hc : ∀ j, w'.cell? ⟨PB, j, none⟩ = w.cell? ⟨PB, j, none⟩ := fun j => World.cell?_of_block (w := w) (a := ⟨PB, j, none⟩) hp
 exact ⟨(hc 0).trans h.c0, (hc 1).trans h.c1, (hc 2).trans h.c2, (hc 3).trans h.c3, fun j => (World.frozen?_of_block (w := w) (a := ⟨PB, j, none⟩) hp).trans (h.fz j), h.mp.block (hk MB (.inr (.inl rfl))),
  rows_kept h.r1 (fun g hg => hk g (.inr (.inr (.inl hg)))), rows_kept h.r2 (fun g hg => hk g (.inr (.inr (.inr (.inl hg))))), rows_kept h.r3 (fun g hg => hk g (.inr (.inr (.inr (.inr hg))))), h.a12, h.a13, h.a23, h.pm, h.pB, h.mB⟩
theorem Spc.below (h : Spc w PB MB B v1 v2 v3 ss fr bys) (hb : Below w.heap.size w w') : Spc w' PB MB B v1 v2 v3 ss fr bys := h.kept fun b hf => hb.block b (h.foot_lt hf)
end
structure SFr (w w' : World) (PB MB : Nat) (v1 v2 v3 v1' v2' v3' : Value) : Prop where
 os : w'.os = w.os
 tape : w'.tape = w.tape
 output : w'.output = w.output
 size : w.heap.size ≤ w'.heap.size
 block : ∀ b, b < w.heap.size → ¬ Foot PB MB v1 v2 v3 b → w'.heap[b]? = w.heap[b]?
 foot : ∀ b, Foot PB MB v1' v2' v3' b → Foot PB MB v1 v2 v3 b ∨ w.heap.size ≤ b
theorem sliceShape {w : World} {B n size : Nat} {e : TypeId} {v : Value} {xs : List Value} (h : w.ownsRow B e size v n xs) : ∃ a c, v = .slice a n c := by
 rcases h.2 with ⟨rfl, rfl⟩ | ⟨g, cap, cur, rfl, _⟩
 · exact ⟨none, 0, rfl⟩
 · exact ⟨_, _, rfl⟩
end Go.Proofs.YtjjikhaaimfneaaGreatDoor
namespace Go.Proofs.YtjjikhaaimfneaaGreatDoor
open Go.RowKit
set_option linter.unusedSimpArgs false
set_option linter.unusedVariables false
attribute [local go_sem] iteMin iteMax iteMinN iteMaxN
set_option maxRecDepth 100000 in
set_option maxHeartbeats 4000000 in
theorem find_old (PB MB B : Nat) (v1 v2 v3 : Value) (ss : List (List Int)) (fr : List Int) (bys : List P2) (a0 a1 a2 a3 a4 a5 a6 a7 a8 a9 a10 a11 a12 a13 fo x y : Int) (w : World) (hSp : Spc w PB MB B v1 v2 v3 ss fr bys) (hg : Gd [a0, a1, a2, a3, a4, a5, a6, a7, a8, a9, a10, a11, a12, a13]) (i : Nat) (hi : ss[i]? = some [a0, a1, a2, a3, a4, a5, a6, a7, a8, a9, a10, a11, a12, a13]) :
 Calls Tryz.prog 66 #[.pointer (some ⟨PB, 0, none⟩), .agg #[.int .i64 a0, .int .i64 a1, .int .i64 a2, .int .i64 a3, .int .i64 a4, .int .i64 a5, .int .i64 a6, .int .i64 a7, .int .i64 a8, .int .i64 a9, .int .i64 a10, .int .i64 a11, .int .i64 a12, .int .i64 a13], .int .i64 fo, .agg #[.int .i64 x, .int .i64 y]] w fun e w' => e = .returned (.tuple #[.int .i64 (i : Int), .bool true]) ∧ Below w.heap.size w w' := by
 obtain ⟨S, hS⟩ : ∃ S, w.heap.size = S := ⟨_, rfl⟩
 have HSP := hide hSp
 have HG := hide hg
 go_enter Tryz.func66, Tryz.ntmps66
 go_upto_region 1 with fail
 obtain ⟨X, hX⟩ : ∃ X, X = (w.alloc (.cells #[.int .i64 a0, .int .i64 a1, .int .i64 a2, .int .i64 a3, .int .i64 a4, .int .i64 a5, .int .i64 a6, .int .i64 a7, .int .i64 a8, .int .i64 a9, .int .i64 a10, .int .i64 a11, .int .i64 a12, .int .i64 a13] 133)).alloc (.cells #[.int .i64 x, .int .i64 y] 47) := ⟨_, rfl⟩
 rw [← hX]
 have BA : Blk X S [.int .i64 a0, .int .i64 a1, .int .i64 a2, .int .i64 a3, .int .i64 a4, .int .i64 a5, .int .i64 a6, .int .i64 a7, .int .i64 a8, .int .i64 a9, .int .i64 a10, .int .i64 a11, .int .i64 a12, .int .i64 a13] := by
  have := (Blk.new w [.int .i64 a0, .int .i64 a1, .int .i64 a2, .int .i64 a3, .int .i64 a4, .int .i64 a5, .int .i64 a6, .int .i64 a7, .int .i64 a8, .int .i64 a9, .int .i64 a10, .int .i64 a11, .int .i64 a12, .int .i64 a13] 133).alloc (.cells #[.int .i64 x, .int .i64 y] 47)
  rw [hX]; simpa [hS] using this
 have BP : Blk X (S + 1) [.int .i64 x, .int .i64 y] := by
  have := Blk.new (w.alloc (.cells #[.int .i64 a0, .int .i64 a1, .int .i64 a2, .int .i64 a3, .int .i64 a4, .int .i64 a5, .int .i64 a6, .int .i64 a7, .int .i64 a8, .int .i64 a9, .int .i64 a10, .int .i64 a11, .int .i64 a12, .int .i64 a13] 133)) [.int .i64 x, .int .i64 y] 47
  rw [hX]; simpa [hS] using this
 have hWX : Below w.heap.size w X := by rw [hX]; exact ((Below.refl _ _).alloc (Nat.le_refl _) _).alloc (by simp) _
 have hsX : X.heap.size = S + 2 := by rw [hX, ← hS]; simp
 have HSX := hide (HSP.out.below hWX)
 have HBA := hide BA
 have HBP := hide BP
 have HWX := hide hWX
 clear hX BA BP hWX HSP hSp hg
 have hlk : ∀ m : Nat, (Instr.lookup 94 (.map (some MB)) (.agg #[.int .i64 a0, .int .i64 a1, .int .i64 a2, .int .i64 a3, .int .i64 a4, .int .i64 a5, .int .i64 a6, .int .i64 a7, .int .i64 a8, .int .i64 a9, .int .i64 a10, .int .i64 a11, .int .i64 a12, .int .i64 a13]) true).run Tryz.prog (X.drewN m) = .ok (.tuple #[.int .i64 (i : Int), .bool true]) (X.drewN m) := fun m => (HSX.out.below (Go.below_drewN (Below.refl _ _) m)).mp.look HG.out hi
 have p0 := HSX.out.c0
 have s_0 := (HBA.out 0 _ rfl).1
 have s_1 := (HBA.out 1 _ rfl).1
 have s_2 := (HBA.out 2 _ rfl).1
 have s_3 := (HBA.out 3 _ rfl).1
 have s_4 := (HBA.out 4 _ rfl).1
 have s_5 := (HBA.out 5 _ rfl).1
 have s_6 := (HBA.out 6 _ rfl).1
 have s_7 := (HBA.out 7 _ rfl).1
 have s_8 := (HBA.out 8 _ rfl).1
 have s_9 := (HBA.out 9 _ rfl).1
 have s_10 := (HBA.out 10 _ rfl).1
 have s_11 := (HBA.out 11 _ rfl).1
 have s_12 := (HBA.out 12 _ rfl).1
 have s_13 := (HBA.out 13 _ rfl).1
 clear hi HSX HBA HBP HG
 go_quiet (fail)
 go_wp2
 refine bodyPost_ret (v := .tuple #[.int .i64 (i : Int), .bool true]) (by simp [results, Tryz.f66, go_sem]) rfl ?_
 exact ⟨rfl, Go.below_drewN HWX.out _⟩
set_option maxRecDepth 100000 in
set_option maxHeartbeats 4000000 in
theorem find_full (PB MB B : Nat) (v1 v2 v3 : Value) (ss : List (List Int)) (fr : List Int) (bys : List P2) (a0 a1 a2 a3 a4 a5 a6 a7 a8 a9 a10 a11 a12 a13 fo x y : Int) (w : World) (hSp : Spc w PB MB B v1 v2 v3 ss fr bys) (hg : Gd [a0, a1, a2, a3, a4, a5, a6, a7, a8, a9, a10, a11, a12, a13]) (hn : [a0, a1, a2, a3, a4, a5, a6, a7, a8, a9, a10, a11, a12, a13] ∉ ss) (hl : ss.length = 300) :
 Calls Tryz.prog 66 #[.pointer (some ⟨PB, 0, none⟩), .agg #[.int .i64 a0, .int .i64 a1, .int .i64 a2, .int .i64 a3, .int .i64 a4, .int .i64 a5, .int .i64 a6, .int .i64 a7, .int .i64 a8, .int .i64 a9, .int .i64 a10, .int .i64 a11, .int .i64 a12, .int .i64 a13], .int .i64 fo, .agg #[.int .i64 x, .int .i64 y]] w fun e w' => e = .returned (.tuple #[.int .i64 0, .bool false]) ∧ Below w.heap.size w w' := by
 obtain ⟨S, hS⟩ : ∃ S, w.heap.size = S := ⟨_, rfl⟩
 have HSP := hide hSp
 have HG := hide hg
 go_enter Tryz.func66, Tryz.ntmps66
 go_upto_region 1 with fail
 obtain ⟨X, hX⟩ : ∃ X, X = (w.alloc (.cells #[.int .i64 a0, .int .i64 a1, .int .i64 a2, .int .i64 a3, .int .i64 a4, .int .i64 a5, .int .i64 a6, .int .i64 a7, .int .i64 a8, .int .i64 a9, .int .i64 a10, .int .i64 a11, .int .i64 a12, .int .i64 a13] 133)).alloc (.cells #[.int .i64 x, .int .i64 y] 47) := ⟨_, rfl⟩
 rw [← hX]
 have BA : Blk X S [.int .i64 a0, .int .i64 a1, .int .i64 a2, .int .i64 a3, .int .i64 a4, .int .i64 a5, .int .i64 a6, .int .i64 a7, .int .i64 a8, .int .i64 a9, .int .i64 a10, .int .i64 a11, .int .i64 a12, .int .i64 a13] := by
  have := (Blk.new w [.int .i64 a0, .int .i64 a1, .int .i64 a2, .int .i64 a3, .int .i64 a4, .int .i64 a5, .int .i64 a6, .int .i64 a7, .int .i64 a8, .int .i64 a9, .int .i64 a10, .int .i64 a11, .int .i64 a12, .int .i64 a13] 133).alloc (.cells #[.int .i64 x, .int .i64 y] 47)
  rw [hX]; simpa [hS] using this
 have BP : Blk X (S + 1) [.int .i64 x, .int .i64 y] := by
  have := Blk.new (w.alloc (.cells #[.int .i64 a0, .int .i64 a1, .int .i64 a2, .int .i64 a3, .int .i64 a4, .int .i64 a5, .int .i64 a6, .int .i64 a7, .int .i64 a8, .int .i64 a9, .int .i64 a10, .int .i64 a11, .int .i64 a12, .int .i64 a13] 133)) [.int .i64 x, .int .i64 y] 47
  rw [hX]; simpa [hS] using this
 have hWX : Below w.heap.size w X := by rw [hX]; exact ((Below.refl _ _).alloc (Nat.le_refl _) _).alloc (by simp) _
 have hsX : X.heap.size = S + 2 := by rw [hX, ← hS]; simp
 have HSX := hide (HSP.out.below hWX)
 have HBA := hide BA
 have HBP := hide BP
 have HWX := hide hWX
 clear hX BA BP hWX HSP hSp hg
 obtain ⟨cc, hlk⟩ : ∃ cc : Int, ∀ m : Nat, (Instr.lookup 94 (.map (some MB)) (.agg #[.int .i64 a0, .int .i64 a1, .int .i64 a2, .int .i64 a3, .int .i64 a4, .int .i64 a5, .int .i64 a6, .int .i64 a7, .int .i64 a8, .int .i64 a9, .int .i64 a10, .int .i64 a11, .int .i64 a12, .int .i64 a13]) true).run Tryz.prog (X.drewN m) = .ok (.tuple #[.int .i64 cc, .bool false]) (X.drewN m) := HSX.out.mp.missN HG.out hn
 obtain ⟨q1, d1, e1⟩ := sliceShape HSX.out.r1
 rw [hl] at e1
 have p0 := HSX.out.c0
 have p1 := HSX.out.c1
 rw [e1] at p1
 have s_0 := (HBA.out 0 _ rfl).1
 have s_1 := (HBA.out 1 _ rfl).1
 have s_2 := (HBA.out 2 _ rfl).1
 have s_3 := (HBA.out 3 _ rfl).1
 have s_4 := (HBA.out 4 _ rfl).1
 have s_5 := (HBA.out 5 _ rfl).1
 have s_6 := (HBA.out 6 _ rfl).1
 have s_7 := (HBA.out 7 _ rfl).1
 have s_8 := (HBA.out 8 _ rfl).1
 have s_9 := (HBA.out 9 _ rfl).1
 have s_10 := (HBA.out 10 _ rfl).1
 have s_11 := (HBA.out 11 _ rfl).1
 have s_12 := (HBA.out 12 _ rfl).1
 have s_13 := (HBA.out 13 _ rfl).1
 clear hn hl HSX HBA HBP HG e1
 go_quiet (fail)
 go_wp2
 refine bodyPost_ret (v := .tuple #[.int .i64 0, .bool false]) (by simp [results, Tryz.f66, go_sem]) rfl ?_
 exact ⟨rfl, Go.below_drewN HWX.out _⟩
end Go.Proofs.YtjjikhaaimfneaaGreatDoor
