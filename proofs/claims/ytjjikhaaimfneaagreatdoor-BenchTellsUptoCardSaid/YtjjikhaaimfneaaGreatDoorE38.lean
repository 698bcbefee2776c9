/-
  Lemmas and walks for the statement: RegM5.
-/
import Derived.Test.YtjjikhaaimfneaaGreatDoorE36
namespace Go.Proofs.YtjjikhaaimfneaaGreatDoor
open Go Go.RowKit
set_option linter.unusedSimpArgs false
set_option linter.unusedVariables false
section
variable {P : Program} {ops : Array Oper} {Q : Exit → Act → World → Prop} {md : Region.Mode} {F : World → Prop} {c : Nat}
def lisE (t : Bool) (e : Nat) (L : Array Bool) : Array Bool := if t then L.setIfInBounds e true else L
def chkE (md : Region.Mode) (ops : Array Oper) (cs : List (Nat × Nat × Nat × Nat)) (e : Nat) (L : Array Bool) : Bool :=
 (stages cs.length).all fun st => [false, true].all fun t => (rem st == 0 && t) || !(closedB md ops (lst cs st (lisE t e L))) || (!(Region.ready md ops (lst cs st (lisE t e L))).isEmpty && (Region.ready md ops (lst cs st (lisE t e L))).all fun i => mayAt cs st i 0 || (!t && i == e))
theorem closedB_of {L : Array Bool} (h : ClosedG md ops L) : closedB md ops L = true := by
 simp only [closedB, Bool.and_eq_true, decide_eq_true_eq, List.all_eq_true, List.mem_range]
 refine ⟨h.size, fun j hj => ?_⟩
 cases ho : ops[j]? with
 | none => rfl
 | some oj =>
   cases hl : L.getD j false with
   | false => rfl
   | true =>
     simp only [Bool.not_true, Bool.false_or]
     refine Array.all_eq_true.2 fun k hk => ?_
     cases hb : Region.binds md oj.after[k] with
     | false => rfl
     | true => simpa using h.closed j oj ho hl _ (Array.getElem_mem hk) hb
theorem wpAnyG_chainsE {cs : List (Nat × Nat × Nat × Nat)} {e : Nat} {L0 : Array Bool} {J : List Nat → Bool → Act → World → Prop} {f : Nat} (hcl : ClosedG md ops L0) (hchk : chkE md ops cs e L0 = true) (hJF : ∀ st t a w, J st t a w → F w)
 (h1 : ∀ st t a w i b p d, st.length = cs.length → J st t a w → cs[i]? = some (b, p, d) → st[i]? = some 0 → wpOp P ops Q b (J (st.set i 1) t) a w)
 (h2 : ∀ st t a w i b p d, st.length = cs.length → J st t a w → cs[i]? = some (b, p, d) → st[i]? = some 1 → wpOp P ops Q p (J (st.set i 2) t) a w)
 (h3 : ∀ st a w, st.length = cs.length → J st false a w → wpOp P ops Q e (J st true) a w)
 (he : ∀ a w, J (List.replicate cs.length 2) true a w → wpAnyG P md ops Q c F f (lst cs (List.replicate cs.length 2) (lisE true e L0)) a w) :
 ∀ (d : Nat) (st : List Nat) (t : Bool) (a : Act) (w : World), rem st + (if t then 0 else 1) = d → st.length = cs.length → (∀ s ∈ st, s ≤ 2) → ClosedG md ops (lst cs st (lisE t e L0)) → J st t a w → wpAnyG P md ops Q c F (f + d) (lst cs st (lisE t e L0)) a w := by
 intro d
 induction d with
 | zero =>
   intro st t a w hr hl hs hC hJ
   cases t with
   | false => simp at hr
   | true =>
     have e := rem_zero st hs (by omega)
     rw [hl] at e
     rw [e] at hJ ⊢
     exact he a w hJ
 | succ d ih =>
   intro st t a w hr hl hs hC hJ
   have hm := mem_stages st hs
   rw [hl] at hm
   have hc := List.all_eq_true.1 (List.all_eq_true.1 hchk st hm) t (by cases t <;> simp)
   simp only [Bool.or_eq_true, beq_iff_eq, Bool.and_eq_true, Bool.not_eq_true', List.all_eq_true] at hc
   rcases hc with (⟨hc, ht⟩ | hc) | ⟨hc1, hc2⟩
   · rw [ht] at hr; simp at hr; omega
   · rw [closedB_of hC] at hc; cases hc
   · refine ⟨fun h0 => by rw [h0] at hc1; simp at hc1, fun i hi => ?_⟩
     have hset : ∀ (j x : Nat), x ≤ 2 → ∀ s ∈ st.set j x, s ≤ 2 := fun j x hx s hs' => by
      rcases List.mem_or_eq_of_mem_set hs' with h | h
      · exact hs s h
      · omega
     rcases hc2 i hi with h | ⟨ht, rfl⟩
     · obtain ⟨j, b, p, dd, hj, h3⟩ := mayAt_spec cs st i 0 h
       rcases h3 with ⟨h3, rfl⟩ | ⟨h3, rfl⟩
       · refine wpOp_mono (fun a' w' hJ' => ⟨fun _ => hJF _ _ _ _ hJ', ?_⟩) (h1 st t a w j i p dd hl hJ hj h3)
         have hC' := hC.set hi
         rw [← lst_1 cs st _ j i p dd hj h3] at hC' ⊢
         exact ih _ t a' w' (by have := rem_set st j 0 (by omega) h3; simp only [Nat.zero_add] at this; omega) (by simpa using hl) (hset j 1 (by omega)) hC' hJ'
       · refine wpOp_mono (fun a' w' hJ' => ⟨fun _ => hJF _ _ _ _ hJ', ?_⟩) (h2 st t a w j b i dd hl hJ hj h3)
         have hC' := hC.set hi
         rw [← lst_2 cs st _ j b i dd hj h3] at hC' ⊢
         exact ih _ t a' w' (by have := rem_set st j 1 (by omega) h3; simp only [Nat.reduceAdd] at this; omega) (by simpa using hl) (hset j 2 (by omega)) hC' hJ'
     · subst ht
       refine wpOp_mono (fun a' w' hJ' => ⟨fun _ => hJF _ _ _ _ hJ', ?_⟩) (h3 st a w hl hJ)
       have hx : (lst cs st (lisE false i L0)).setIfInBounds i true = lst cs st (lisE true i L0) := (lst_comm cs st L0 i).symm
       have hC' := hC.set hi
       rw [hx] at hC' ⊢
       exact ih st true a' w' (by simp at hr ⊢; omega) hl hs hC' hJ'
section
variable {w0 : World} {a0 : Act} {cs : List Ch} {B : Nat}
theorem jr_1 (hnd : (slots (ixs cs)).Nodup) (hok : ∀ (i : Nat) (d : Ch), cs[i]? = some d → ChOk P ops a0 cs d) : ∀ st a w i b p d, st.length = (ixs cs).length → JR w0 a0 cs B st a w → (ixs cs)[i]? = some (b, p, d) → st[i]? = some 0 → wpOp P ops Q b (JR w0 a0 cs B (st.set i 1)) a w := by
 intro st a w i b p d hst ⟨vs, hvl, ha, hR⟩ hi hs
 obtain ⟨ch, hch, rfl, rfl, rfl⟩ := ixs_get hi
 obtain ⟨o, k, X, ho, hg, hdst, hop, hk, hX, hrun⟩ := (hok i ch hch).lay
 have hil : i < vs.length := by rw [hvl]; exact (List.getElem?_eq_some_iff.1 hch).1
 obtain ⟨⟨u, v⟩, hv⟩ : ∃ x, vs[i]? = some x := ⟨_, List.getElem?_eq_getElem hil⟩
 refine wpOp_step ho fun K' hK => ?_
 have hw : Region.wanted o (yielded ops a.tmps) = true := by simp [Region.wanted, hg]
 rw [if_pos hw]
 have hev : a.eval (.tmp k) = X := evalOf (by rw [ha, puts_other _ _ _ _ _ hk]; exact hX)
 unfold Oper.wp execOp
 simp only [hop, Sem.run_bind, Sem.run_pure, Result.andThen_ok, List.map_toArray, List.map_cons, List.map_nil, hev, hrun]
 rw [Oper.upon_value]
 refine hK _ _ ⟨vs.set i (.slice (some ⟨w.heap.size, 0, none⟩) 1 1, v), by simpa using hvl, ?_, hR.lay hch hs hv _⟩
 rw [hdst, ha, puts_1 (ixs cs) st vs a0 i ch.b ch.p ch.db ch.dp _ u v hnd hi hs hv]
theorem jr_2 (hnd : (slots (ixs cs)).Nodup) (hsl : ∀ d ∈ slots (ixs cs), d < a0.tmps.size) (hok : ∀ (i : Nat) (d : Ch), cs[i]? = some d → ChOk P ops a0 cs d) (hB : B ≤ w0.heap.size) : ∀ st a w i b p d, st.length = (ixs cs).length → JR w0 a0 cs B st a w → (ixs cs)[i]? = some (b, p, d) → st[i]? = some 1 → wpOp P ops Q p (JR w0 a0 cs B (st.set i 2)) a w := by
 intro st a w i b p d hst ⟨vs, hvl, ha, hR⟩ hi hs
 obtain ⟨ch, hch, rfl, rfl, rfl⟩ := ixs_get hi
 obtain ⟨o, k, ho, hg, hdst, hop, hk, hX⟩ := (hok i ch hch).app
 obtain ⟨ti, z, bytes, ht, hti, htz, hts, htb, htzs, htp, hbt⟩ := (hok i ch hch).info
 have hil : i < vs.length := by rw [hvl]; exact (List.getElem?_eq_some_iff.1 hch).1
 obtain ⟨⟨u, v⟩, hv⟩ : ∃ x, vs[i]? = some x := ⟨_, List.getElem?_eq_getElem hil⟩
 obtain ⟨g, hu, _, _, hcell, _⟩ := hR.one i ch u v hch hs hv
 refine wpOp_step ho fun K' hK => ?_
 have hw : Region.wanted o (yielded ops a.tmps) = true := by simp [Region.wanted, hg]
 rw [if_pos hw]
 have hev : a.eval (.tmp k) = ch.v := evalOf (by rw [ha, puts_other _ _ _ _ _ hk]; exact hX)
 have hev2 : a.eval (.tmp ch.db) = .slice (some ⟨g, 0, none⟩) 1 1 := evalOf (by rw [ha, puts_at1 (ixs cs) st vs a0 i ch.b ch.p ch.db ch.dp u v hnd hsl hi hs hv, hu])
 have hrow' := (hR.row i ch 1 u v hch hs hv).1
 obtain ⟨v', w', hr, f1, f2, _, f4⟩ := run_append_own_at (P := P) w B ch.t o.type ch.e ti z ch.size bytes ht hti htz hts htb htzs htp ch.v ch.n ch.xs hrow' ⟨g, 0, none⟩ 1 1 ch.x (by rw [(hok i ch hch).len]; omega) (fun j x hx => by rw [addZ]; exact hcell j x hx) (hok i ch hch).cell (hok i ch hch).max hbt (Nat.le_trans hB hR.frm.size)
 unfold Oper.wp execOp
 simp only [hop, resolve, invoke, builtin, Sem.run_bind, Sem.run_pure, Result.andThen_ok, List.map_toArray, List.map_cons, List.map_nil, hev, hev2, hr]
 rw [Oper.upon_value]
 refine hK _ _ ⟨vs.set i (u, v'), by simpa using hvl, ?_, hR.app hch hs hv f1 f2 f4⟩
 rw [hdst, ha, puts_2 (ixs cs) st vs a0 i ch.b ch.p ch.db ch.dp u v v' hnd hi hs hv]
theorem wpAnyG_appendsE {L0 : Array Bool} {f e de k T j : Nat} {oe : Oper} {ve : Value} {ad : Addr} (hoe : ops[e]? = some oe) (hge : oe.guard = none) (hde : oe.dst = some de) (hop : oe.op = .fieldAddr T (.tmp k) j) (hk : k ∉ slots (ixs cs)) (hdn : de ∉ slots (ixs cs)) (hak : a0.tmps[k]? = some (.pointer (some ad))) (hrun : ∀ w : World, (Instr.fieldAt T (.pointer (some ad)) j).run P w = .ok ve w)
 (hcl : closedB md ops L0 = true) (hchk : chkE md ops (ixs cs) e L0 = true) (hnd : (slots (ixs cs)).Nodup) (hsl : ∀ d ∈ slots (ixs cs), d < a0.tmps.size)
 (hF : ∀ w, Frm w0 cs w → F w) (hok : ∀ (i : Nat) (d : Ch), cs[i]? = some d → ChOk P ops a0 cs d) (hok' : ∀ (i : Nat) (d : Ch), cs[i]? = some d → ChOk P ops (a0.put (some de) ve) cs d) (hB : B ≤ w0.heap.size)
 (hrow : ∀ (i : Nat) (d : Ch), cs[i]? = some d → w0.ownsRow B d.e d.size d.v d.n d.xs)
 (hap : ∀ (i j : Nat) (d d' : Ch), i ≠ j → cs[i]? = some d → cs[j]? = some d' → ∀ g, d.v.ownBlock = some g → d'.v.ownBlock ≠ some g)
 (he : ∀ vs w, vs.length = cs.length → RowsOk w0 cs B (List.replicate cs.length 2) vs w → wpAnyG P md ops Q c F f (lst (ixs cs) (List.replicate cs.length 2) (L0.setIfInBounds e true)) (puts (ixs cs) (List.replicate cs.length 2) vs (a0.put (some de) ve)) w) :
 wpAnyG P md ops Q c F (f + (2 * cs.length + 1)) L0 a0 w0 := by
 have hlen : (ixs cs).length = cs.length := by simp [ixs]
 have hz : ∀ (cs : List (Nat × Nat × Nat × Nat)) (k : Nat) (L : Array Bool), lst cs (List.replicate k 0) L = L := by
  intro cs
  induction cs with
  | nil => intro k L; simp [lst]
  | cons c cs ih =>
    intro k L
    obtain ⟨b, p, d⟩ := c
    cases k with
    | zero => simp [lst]
    | succ k => simp only [List.replicate_succ, lst, if_true]; exact ih k L
 have hzp : ∀ (cs : List (Nat × Nat × Nat × Nat)) (k : Nat) (vs : List (Value × Value)) (a : Act), puts cs (List.replicate k 0) vs a = a := by
  intro cs
  induction cs with
  | nil => intro k vs a; simp [puts]
  | cons c cs ih =>
    intro k vs a
    obtain ⟨b, p, db, dp⟩ := c
    cases k with
    | zero => simp [puts]
    | succ k =>
      cases vs with
      | nil => simp [List.replicate_succ, puts]
      | cons x vs => obtain ⟨u, v⟩ := x; simp only [List.replicate_succ, puts, if_true]; exact ih k vs a
 have hrem : ∀ k, rem (List.replicate k 0) = 2 * k := by
  intro k
  induction k with
  | zero => rfl
  | succ k ih => simp only [List.replicate_succ, rem, ih]; omega
 have h0 : ∀ {k i s : Nat}, (List.replicate k 0)[i]? = some s → s = 0 := fun {k i s} h => by
  obtain ⟨hl, he⟩ := List.getElem?_eq_some_iff.1 h
  simpa using he.symm
 have hJ0 : JR w0 a0 cs B (List.replicate cs.length 0) a0 w0 := by
  refine ⟨List.replicate cs.length (undef, undef), by simp, (hzp _ _ _ _).symm, ⟨⟨rfl, rfl, rfl, Nat.le_refl _, fun _ _ _ => rfl⟩, ?_, ?_, ?_⟩⟩
  · intro i d s u v hd hs hv
    obtain rfl := h0 hs
    exact ⟨hrow i d hd, .inl rfl⟩
  · intro i j d d' s r u v x y hij hd hs hv hd' hr hy
    obtain rfl := h0 hs
    obtain rfl := h0 hr
    exact hap i j d d' hij hd hd'
  · intro i d u v hd hs hv
    have := h0 hs; omega
 have hsz : (a0.put (some de) ve).tmps.size = a0.tmps.size := by simp [Act.put]
 have key := wpAnyG_chainsE (P := P) (Q := Q) (c := c) (F := F) (L0 := L0) (f := f) (e := e) (J := fun st t => JR w0 (if t then a0.put (some de) ve else a0) cs B st) (closedB_spec hcl) hchk (fun st t a w ⟨vs, _, _, h⟩ => hF w h.frm) ?_ ?_ ?_ ?_ (2 * cs.length + 1) (List.replicate cs.length 0) false a0 w0 (by rw [hrem]; rfl) (by simp [hlen]) (fun s hs => by have := List.eq_of_mem_replicate hs; omega) (by rw [hz]; exact closedB_spec hcl) hJ0
 · rw [hz] at key; exact key
 · intro st t
   cases t with
   | false => exact jr_1 hnd hok st
   | true => exact jr_1 hnd hok' st
 · intro st t
   cases t with
   | false => exact jr_2 hnd hsl hok hB st
   | true => exact jr_2 hnd (fun d hd => by rw [hsz]; exact hsl d hd) hok' hB st
 · intro st a w hst ⟨vs, hvl, ha, hR⟩
   simp only [Bool.false_eq_true, if_false] at ha
   refine wpOp_step hoe fun K' hK => ?_
   have hw : Region.wanted oe (yielded ops a.tmps) = true := by simp [Region.wanted, hge]
   rw [if_pos hw]
   have hev : a.eval (.tmp k) = .pointer (some ad) := evalOf (by rw [ha, puts_other _ _ _ _ _ hk]; exact hak)
   unfold Oper.wp execOp
   simp only [hop, Sem.run_bind, Sem.run_pure, Result.andThen_ok, hev, hrun]
   rw [Oper.upon_value]
   refine hK _ _ ⟨vs, hvl, ?_, hR⟩
   rw [hde, ha, if_pos rfl, puts_comm _ _ _ _ _ _ hdn]
 · intro a w ⟨vs, hvl, ha, hR⟩
   rw [hlen] at ha hR ⊢
   rw [ha]
   exact he vs w hvl hR
end
theorem wpAnyG_appends4E {c1 c2 c3 c4 : Ch} {w0 : World} {a0 : Act} {B : Nat} {L0 : Array Bool} {f fuel : Nat} {e de k T j : Nat} {oe : Oper} {ve : Value} {ad : Addr} (hoe : ops[e]? = some oe) (hge : oe.guard = none) (hde : oe.dst = some de) (hop : oe.op = .fieldAddr T (.tmp k) j) (hk : k ∉ slots (ixs [c1, c2, c3, c4])) (hdn : de ∉ slots (ixs [c1, c2, c3, c4])) (hak : a0.tmps[k]? = some (.pointer (some ad))) (hrun : ∀ w : World, (Instr.fieldAt T (.pointer (some ad)) j).run P w = .ok ve w) (hfu : fuel = f + 9) (hcl : closedB md ops L0 = true) (hchk : chkE md ops (ixs [c1, c2, c3, c4]) e L0 = true) (hnd : (slots (ixs [c1, c2, c3, c4])).Nodup) (hsl : ∀ d ∈ slots (ixs [c1, c2, c3, c4]), d < a0.tmps.size)
 (hF : ∀ w, Frm w0 [c1, c2, c3, c4] w → F w) (k1 : ∀ a1, (a1 = a0 ∨ a1 = a0.put (some de) ve) → ChOk P ops a1 [c1, c2, c3, c4] c1) (k2 : ∀ a1, (a1 = a0 ∨ a1 = a0.put (some de) ve) → ChOk P ops a1 [c1, c2, c3, c4] c2) (k3 : ∀ a1, (a1 = a0 ∨ a1 = a0.put (some de) ve) → ChOk P ops a1 [c1, c2, c3, c4] c3) (k4 : ∀ a1, (a1 = a0 ∨ a1 = a0.put (some de) ve) → ChOk P ops a1 [c1, c2, c3, c4] c4) (hB : B ≤ w0.heap.size)
 (r1 : w0.ownsRow B c1.e c1.size c1.v c1.n c1.xs) (r2 : w0.ownsRow B c2.e c2.size c2.v c2.n c2.xs) (r3 : w0.ownsRow B c3.e c3.size c3.v c3.n c3.xs) (r4 : w0.ownsRow B c4.e c4.size c4.v c4.n c4.xs)
 (a12 : ∀ g, c1.v.ownBlock = some g → c2.v.ownBlock ≠ some g) (a13 : ∀ g, c1.v.ownBlock = some g → c3.v.ownBlock ≠ some g) (a14 : ∀ g, c1.v.ownBlock = some g → c4.v.ownBlock ≠ some g) (a23 : ∀ g, c2.v.ownBlock = some g → c3.v.ownBlock ≠ some g) (a24 : ∀ g, c2.v.ownBlock = some g → c4.v.ownBlock ≠ some g) (a34 : ∀ g, c3.v.ownBlock = some g → c4.v.ownBlock ≠ some g)
 (he : ∀ (u1 u2 u3 u4 : Value) (x1 x2 x3 x4 : Option Addr) (m1 m2 m3 m4 : Nat) (W : World), Aft4 w0 c1 c2 c3 c4 B (.slice x1 (c1.n + 1) m1) (.slice x2 (c2.n + 1) m2) (.slice x3 (c3.n + 1) m3) (.slice x4 (c4.n + 1) m4) W → wpAnyG P md ops Q c F f (((((((((L0.setIfInBounds e true).setIfInBounds c1.b true).setIfInBounds c1.p true).setIfInBounds c2.b true).setIfInBounds c2.p true).setIfInBounds c3.b true).setIfInBounds c3.p true).setIfInBounds c4.b true).setIfInBounds c4.p true) (((((((((a0.put (some de) ve).put (some c1.db) u1).put (some c1.dp) (.slice x1 (c1.n + 1) m1)).put (some c2.db) u2).put (some c2.dp) (.slice x2 (c2.n + 1) m2)).put (some c3.db) u3).put (some c3.dp) (.slice x3 (c3.n + 1) m3)).put (some c4.db) u4).put (some c4.dp) (.slice x4 (c4.n + 1) m4)) W) :
 wpAnyG P md ops Q c F fuel L0 a0 w0 := by
 subst hfu
 refine wpAnyG_appendsE (cs := [c1, c2, c3, c4]) hoe hge hde hop hk hdn hak hrun hcl hchk hnd hsl hF (all4 (C := fun d => ChOk P ops a0 [c1, c2, c3, c4] d) (k1 _ (.inl rfl)) (k2 _ (.inl rfl)) (k3 _ (.inl rfl)) (k4 _ (.inl rfl))) (all4 (C := fun d => ChOk P ops (a0.put (some de) ve) [c1, c2, c3, c4] d) (k1 _ (.inr rfl)) (k2 _ (.inr rfl)) (k3 _ (.inr rfl)) (k4 _ (.inr rfl))) hB (all4 (C := fun d => w0.ownsRow B d.e d.size d.v d.n d.xs) r1 r2 r3 r4) ?_ ?_
 · intro i j d d' hij hd hd' g hg hg'
   rcases idx4 hd with ⟨rfl, rfl⟩ | ⟨rfl, rfl⟩ | ⟨rfl, rfl⟩ | ⟨rfl, rfl⟩ <;> rcases idx4 hd' with ⟨rfl, rfl⟩ | ⟨rfl, rfl⟩ | ⟨rfl, rfl⟩ | ⟨rfl, rfl⟩
   · exact hij rfl
   · exact a12 g hg hg'
   · exact a13 g hg hg'
   · exact a14 g hg hg'
   · exact a12 g hg' hg
   · exact hij rfl
   · exact a23 g hg hg'
   · exact a24 g hg hg'
   · exact a13 g hg' hg
   · exact a23 g hg' hg
   · exact hij rfl
   · exact a34 g hg hg'
   · exact a14 g hg' hg
   · exact a24 g hg' hg
   · exact a34 g hg' hg
   · exact hij rfl
 · intro vs W hvl hR
   obtain ⟨⟨u1, t1⟩, ⟨u2, t2⟩, ⟨u3, t3⟩, ⟨u4, t4⟩, rfl⟩ := len4p hvl
   have q1 := hR.row 0 _ 2 u1 t1 rfl rfl rfl
   have q2 := hR.row 1 _ 2 u2 t2 rfl rfl rfl
   have q3 := hR.row 2 _ 2 u3 t3 rfl rfl rfl
   have q4 := hR.row 3 _ 2 u4 t4 rfl rfl rfl
   have z12 := hR.apart 0 1 _ _ 2 2 u1 t1 u2 t2 (by decide) rfl rfl rfl rfl rfl rfl
   have z13 := hR.apart 0 2 _ _ 2 2 u1 t1 u3 t3 (by decide) rfl rfl rfl rfl rfl rfl
   have z14 := hR.apart 0 3 _ _ 2 2 u1 t1 u4 t4 (by decide) rfl rfl rfl rfl rfl rfl
   have z23 := hR.apart 1 2 _ _ 2 2 u2 t2 u3 t3 (by decide) rfl rfl rfl rfl rfl rfl
   have z24 := hR.apart 1 3 _ _ 2 2 u2 t2 u4 t4 (by decide) rfl rfl rfl rfl rfl rfl
   have z34 := hR.apart 2 3 _ _ 2 2 u3 t3 u4 t4 (by decide) rfl rfl rfl rfl rfl rfl
   simp only [cur, curN, curX, if_true] at q1 q2 q3 q4 z12 z13 z14 z23 z24 z34
   obtain ⟨x1, m1, rfl⟩ := row_shape q1.1
   obtain ⟨x2, m2, rfl⟩ := row_shape q2.1
   obtain ⟨x3, m3, rfl⟩ := row_shape q3.1
   obtain ⟨x4, m4, rfl⟩ := row_shape q4.1
   have h := he u1 u2 u3 u4 x1 x2 x3 x4 m1 m2 m3 m4 W ⟨hR.frm, q1.1, q2.1, q3.1, q4.1, q1.2, q2.2, q3.2, q4.2, z12, z13, z14, z23, z24, z34⟩
   clear he
   simp [ixs, lst, puts, List.replicate_succ]
   exact h
end
end Go.Proofs.YtjjikhaaimfneaaGreatDoor
