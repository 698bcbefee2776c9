/-
  Lemmas and walks for the statement: StCon, RegM5.
-/
import Derived.Test.YtmmjopmffpfccaaQ45
import Derived.Test.YtmmjopmffpfccaaQ42
namespace Go.Proofs.Ytmmjopmffpfccaa
open Go.RowKit
set_option linter.unusedSimpArgs false
set_option linter.unusedVariables false
attribute [local go_sem] iteMin iteMax iteMinN iteMaxN
section
variable {k0 k1 R Q : Int} {q : Nat}
theorem sx_upto (hk : kindsOk k0 k1) (hr : rangeOk R Q (q : Int)) {n : Nat} (h : ∀ j, j < n → (rnds k0 k1 R Q q j).full = false ∧ j < (rnds k0 k1 R Q q j).states.length) : SxOk (GG k0 k1 R Q q) UU (rnds k0 k1 R Q q n) := by
 induction n with
 | zero => exact start_good hk hr
 | succ n ih =>
   have h1 := ih (fun j hj => h j (by omega))
   have h2 := (h n (by omega)).2
   rw [rnds_succ]
   exact h1.walk h2 (fun l hl s hs => stp_good (latesP_ok (Nat.le_refl _) l hl) hs)
theorem sx_edges {n : Nat} (h : ∀ j, j < n → (rnds k0 k1 R Q q j).full = false) (hf : (rnds k0 k1 R Q q n).full = false) : (rnds k0 k1 R Q q n).edges.length = n * ((q + 1) * (q + 1)) := by
 induction n with
 | zero => simp [rnds, rounds]
 | succ n ih =>
   have h1 := ih (fun j hj => h j (by omega)) (h n (by omega))
   rw [rnds_succ] at hf ⊢
   rw [Sx.walk_edges hf, h1, latesP_len]; exact (Nat.succ_mul n _).symm
theorem sx_ex (hk : kindsOk k0 k1) (hr : rangeOk R Q (q : Int)) : ∃ kk, SxEnds (step := stp k0 k1 R Q q) (startI k0 k1) (q + 1) kk := by
 have key : ∀ n, (∃ kk, SxEnds (step := stp k0 k1 R Q q) (startI k0 k1) (q + 1) kk) ∨ (∀ j, j < n → (rnds k0 k1 R Q q j).full = false ∧ j < (rnds k0 k1 R Q q j).states.length) := by
  intro n
  induction n with
  | zero => exact .inr fun j hj => absurd hj (by omega)
  | succ n ih =>
    rcases ih with h | h
    · exact .inl h
    · by_cases hc : (rnds k0 k1 R Q q n).full = false ∧ n < (rnds k0 k1 R Q q n).states.length
      · refine .inr fun j hj => ?_
        rcases (show j < n ∨ j = n by omega) with h' | rfl
        · exact h j h'
        · exact hc
      · refine .inl ⟨n, h, ?_⟩
        by_cases hf : (rnds k0 k1 R Q q n).full = false
        · exact .inr (fun h' => hc ⟨hf, h'⟩)
        · refine .inl ?_
          cases h9 : (rnds k0 k1 R Q q n).full with
          | true => exact h9
          | false => exact (hf h9).elim
 rcases key 301 with h | h
 · exact h
 · have h1 := (h 300 (by omega)).2
   have h2 := (sx_upto hk hr (n := 300) (fun j hj => h j (by omega))).most
   omega
theorem SxOk.weak {G G' U : List Int → Prop} {B : Sx} (h : SxOk G U B) (hg : ∀ s, G s → G' s) : SxOk G' U B := ⟨h.flen, h.blen, h.one, h.most, h.nodup, fun s hs => hg s (h.good s hs), h.tos, h.born⟩
end
def SofOk (X : Sx) (w : World) (e : Ending) (w' : World) : Prop := ∃ v0 v1 v2 v3 v4 B, e = .returned (.tuple #[.agg #[v0, v1, v2, v3, v4], .int .i64 0]) ∧ Below w.heap.size w w' ∧
 w'.ownsRow B 29 14 v0 X.states.length (flatS X.states) ∧ w'.ownsRow B 3 1 v1 X.edges.length ((fromsE X.edges).map (Value.int .i64)) ∧ w'.ownsRow B 3 1 v2 X.edges.length ((tosE X.edges).map (Value.int .i64)) ∧ w'.ownsRow B 22 2 v3 X.edges.length (flat2 (latesE X.edges)) ∧ w'.ownsRow B 34 6 v4 X.edges.length (flatU X.edges)
def StatesOk (X : Sx) (w : World) (e : Ending) (w' : World) : Prop := ∃ v B, e = .returned (.tuple #[v, .int .i64 0]) ∧ w'.ownsRow B 29 14 v X.states.length (flatS X.states) ∧ Below w.heap.size w w'
def LeadOk (X : Sx) (n : Int) (w : World) (e : Ending) (w' : World) : Prop :=
 ((n < 0 ∨ (X.states.length : Int) ≤ n) ∧ e = .returned (.tuple #[.slice none 0 0, .int .i64 3]) ∨ ∃ m : Nat, n = m ∧ m < X.states.length ∧ ∃ v B, e = .returned (.tuple #[v, .int .i64 0]) ∧ w'.ownsRow B 22 2 v (wayB X.fr X.bys m m).reverse.length (flat2 (wayB X.fr X.bys m m).reverse)) ∧ Below w.heap.size w w'
def GraphOk (X : Sx) (who ratio : Int) (w : World) (e : Ending) (w' : World) : Prop := ∃ v B, e = .returned (.tuple #[.agg #[.int .i64 X.states.length, v], .int .i64 0]) ∧ w'.ownsRow B 67 3 v X.edges.length (flatE who ratio X.edges) ∧ Below w.heap.size w w'
def badArgs (who ratio : Int) : Prop := who < 0 ∨ (0 ≤ who ∧ 1 < who) ∨ (0 ≤ who ∧ who ≤ 1 ∧ ratio < 1) ∨ (0 ≤ who ∧ who ≤ 1 ∧ 1 ≤ ratio ∧ 100 < ratio)
def goodArgs (who ratio : Int) : Prop := 0 ≤ who ∧ who ≤ 1 ∧ 1 ≤ ratio ∧ ratio ≤ 100
def StBad (k0 k1 R Q J r : Int) : Prop := (r = 5 ∨ r = 2 ∨ r = 4) ∧
 (∀ w : World, Calls Try.prog 17 #[.agg #[.int .i64 k0, .int .i64 k1, .int .i64 R, .int .i64 Q, .int .i64 J]] w fun e w' => e = .returned (.tuple #[.agg #[.slice none 0 0, .slice none 0 0, .slice none 0 0, .slice none 0 0, .slice none 0 0], .int .i64 r]) ∧ Below w.heap.size w w') ∧
 (∀ w : World, Calls Try.prog 18 #[.agg #[.int .i64 k0, .int .i64 k1, .int .i64 R, .int .i64 Q, .int .i64 J]] w fun e w' => e = .returned (.tuple #[.slice none 0 0, .int .i64 r]) ∧ Below w.heap.size w w') ∧
 (∀ (n : Int) (w : World), Calls Try.prog 19 #[.agg #[.int .i64 k0, .int .i64 k1, .int .i64 R, .int .i64 Q, .int .i64 J], .int .i64 n] w fun e w' => e = .returned (.tuple #[.slice none 0 0, .int .i64 r]) ∧ Below w.heap.size w w') ∧
 (∀ (who ratio : Int) (w : World), goodArgs who ratio → Calls Try.prog 20 #[.agg #[.int .i64 k0, .int .i64 k1, .int .i64 R, .int .i64 Q, .int .i64 J], .int .i64 who, .int .i64 ratio] w fun e w' => e = .returned (.tuple #[.agg #[.int .i64 0, .slice none 0 0], .int .i64 r]) ∧ Below w.heap.size w w')
def StGood (k0 k1 R Q J : Int) (X : Sx) : Prop := (SxOk Gd UU X ∧ (∃ q : Nat, J = q ∧ q ≤ 3 ∧ X.edges.map Edg.fl = flOf (q + 1) X.states.length)) ∧ 0 < X.edges.length ∧ X.edges.length ≤ 4800 ∧
 (∀ w : World, Calls Try.prog 17 #[.agg #[.int .i64 k0, .int .i64 k1, .int .i64 R, .int .i64 Q, .int .i64 J]] w fun e w' => SofOk X w e w') ∧
 (∀ w : World, Calls Try.prog 18 #[.agg #[.int .i64 k0, .int .i64 k1, .int .i64 R, .int .i64 Q, .int .i64 J]] w fun e w' => StatesOk X w e w') ∧
 (∀ (n : Int) (w : World), Calls Try.prog 19 #[.agg #[.int .i64 k0, .int .i64 k1, .int .i64 R, .int .i64 Q, .int .i64 J], .int .i64 n] w fun e w' => LeadOk X n w e w') ∧
 (∀ (who ratio : Int) (w : World), goodArgs who ratio → Calls Try.prog 20 #[.agg #[.int .i64 k0, .int .i64 k1, .int .i64 R, .int .i64 Q, .int .i64 J], .int .i64 who, .int .i64 ratio] w fun e w' => GraphOk X who ratio w e w')
set_option maxRecDepth 100000 in
set_option maxHeartbeats 4000000 in
theorem sof_wrong (k0 k1 R Q J r : Int) (w : World) (hw : WrongSays k0 k1 R Q J r) (h0 : r ≠ 0) :
 Calls Try.prog 17 #[.agg #[.int .i64 k0, .int .i64 k1, .int .i64 R, .int .i64 Q, .int .i64 J]] w fun e w' => e = .returned (.tuple #[.agg #[.slice none 0 0, .slice none 0 0, .slice none 0 0, .slice none 0 0, .slice none 0 0], .int .i64 r]) ∧ Below w.heap.size w w' := by
 have h0' : ((r : Int) != 0) = true := by simpa using h0
 have HW := hide hw
 have H0 := hide h0
 clear hw h0
 obtain ⟨S, hS⟩ : ∃ S, w.heap.size = S := ⟨_, rfl⟩
 go_enter Try.func17, Try.ntmps17
 go_wp2_with fail
 obtain ⟨W, hW⟩ : ∃ W, W = (w.alloc (.cells #[.int .i64 k0, .int .i64 k1, .int .i64 R, .int .i64 Q, .int .i64 J] 24)).alloc (.cells #[.slice none 0 0, .slice none 0 0, .slice none 0 0, .slice none 0 0, .slice none 0 0] 49) := ⟨_, rfl⟩
 rw [← hW]
 have b1 : Blk W (S + 1) [.slice none 0 0, .slice none 0 0, .slice none 0 0, .slice none 0 0, .slice none 0 0] := by
  have := Blk.new (w.alloc (.cells #[.int .i64 k0, .int .i64 k1, .int .i64 R, .int .i64 Q, .int .i64 J] 24)) [.slice none 0 0, .slice none 0 0, .slice none 0 0, .slice none 0 0, .slice none 0 0] 49
  rw [hW]; simpa [hS] using this
 have hWB : Below S w W := by rw [hW, ← hS]; exact ((Below.refl _ _).alloc (Nat.le_refl _) _).alloc (by simp) _
 refine (pstart_bad k0 k1 R Q J r W HW.out H0.out).mono ?_
 rintro e w1 ⟨rfl, hA⟩
 have B1 := b1.below hA b1.lt
 have hB := hide (hWB.trans (hA.mono (by have := hWB.size; omega)))
 clear hW b1 hWB hA
 obtain ⟨z0, zf0⟩ := B1 0 _ rfl
 obtain ⟨z1, zf1⟩ := B1 1 _ rfl
 obtain ⟨z2, zf2⟩ := B1 2 _ rfl
 obtain ⟨z3, zf3⟩ := B1 3 _ rfl
 obtain ⟨z4, zf4⟩ := B1 4 _ rfl
 have hlt : S + 1 < w1.heap.size := B1.lt
 have HB1 := hide B1
 clear B1
 go_wp2
 obtain ⟨Z, hZ⟩ : ∃ Z, Z = ((((w1.setCell ⟨S + 1, 0, none⟩ (.slice none 0 0)).setCell ⟨S + 1, 1, none⟩ (.slice none 0 0)).setCell ⟨S + 1, 2, none⟩ (.slice none 0 0)).setCell ⟨S + 1, 3, none⟩ (.slice none 0 0)).setCell ⟨S + 1, 4, none⟩ (.slice none 0 0) := ⟨_, rfl⟩
 rw [← hZ]
 obtain ⟨⟨y0, y1, y2, y3, y4⟩, hcz⟩ := set5 HB1.out hZ
 obtain ⟨Z2, hZ2⟩ : ∃ Z2, Z2 = Z.alloc (.cells #[.int .i64 0, .int .i64 0, .int .i64 0, .int .i64 0, .int .i64 0, .int .i64 0, .int .i64 0, .int .i64 0, .int .i64 0, .int .i64 0, .int .i64 0, .int .i64 0, .int .i64 0, .int .i64 0] 29) := ⟨_, rfl⟩
 rw [← hZ2]
 have k : ∀ {p : Addr} {v : Value}, Z.cell? p = some v → Z2.cell? p = some v := fun {p v} h => by rw [hZ2]; exact (((Below.refl Z.heap.size Z).alloc (Nat.le_refl _) _).cell (World.block_lt_of_cell? Z _ h)).trans h
 have y0 := k y0; have y1 := k y1; have y2 := k y2; have y3 := k y3; have y4 := k y4
 have hBZ : Below S w Z := ⟨hcz.os.trans hB.out.os, hcz.tape.trans hB.out.tape, hcz.output.trans hB.out.output, Nat.le_trans (by have := hB.out.size; omega) hcz.size, fun b hb => (hcz.block b (by omega) (by omega)).trans (hB.out.block b hb)⟩
 refine bodyPost_ret (v := .tuple #[.agg #[.slice none 0 0, .slice none 0 0, .slice none 0 0, .slice none 0 0, .slice none 0 0], .int .i64 r]) ?_ rfl ⟨rfl, ?_⟩
 · simp [results, Try.f17, go_sem, y0, y1, y2, y3, y4]
 · rw [hS, hZ2]; exact hBZ.alloc (by have := hcz.size; omega) _
end Go.Proofs.Ytmmjopmffpfccaa
namespace Go.Proofs.Ytmmjopmffpfccaa
open Go Go.RowKit
set_option linter.unusedSimpArgs false
set_option linter.unusedVariables false
section
variable {P : Program} {ops : Array Oper} {Q : Exit → Act → World → Prop} {md : Region.Mode} {F : World → Prop} {c : Nat}
def lisE (t : Bool) (e : Nat) (L : Array Bool) : Array Bool := if t then L.setIfInBounds e true else L
def chkE (md : Region.Mode) (ops : Array Oper) (cs : List (Nat × Nat × Nat × Nat)) (e : Nat) (L : Array Bool) : Bool :=
 (stages cs.length).all fun st => [false, true].all fun t => (rem st == 0 && t) || !(closedB md ops (lst cs st (lisE t e L))) || (!(Region.ready md ops (lst cs st (lisE t e L))).isEmpty && (Region.ready md ops (lst cs st (lisE t e L))).all fun i => mayAt cs st i 0 || (!t && i == e))
theorem closedB_of {L : Array Bool} (h : ClosedG md ops L) : closedB md ops L = true := by
 simp only [closedB, Bool.and_eq_true, decide_eq_true_eq, List.all_eq_true, List.mem_range]
 refine ⟨h.size, fun j hj => ?_⟩
 cases ho : ops[j]? with
 | none => rfl
 | some oj =>
   cases hl : L.getD j false with
   | false => rfl
   | true =>
     simp only [Bool.not_true, Bool.false_or]
     refine Array.all_eq_true.2 fun k hk => ?_
     cases hb : Region.binds md oj.after[k] with
     | false => rfl
     | true => simpa using h.closed j oj ho hl _ (Array.getElem_mem hk) hb
theorem wpAnyG_chainsE {cs : List (Nat × Nat × Nat × Nat)} {e : Nat} {L0 : Array Bool} {J : List Nat → Bool → Act → World → Prop} {f : Nat} (hcl : ClosedG md ops L0) (hchk : chkE md ops cs e L0 = true) (hJF : ∀ st t a w, J st t a w → F w)
 (h1 : ∀ st t a w i b p d, st.length = cs.length → J st t a w → cs[i]? = some (b, p, d) → st[i]? = some 0 → wpOp P ops Q b (J (st.set i 1) t) a w)
 (h2 : ∀ st t a w i b p d, st.length = cs.length → J st t a w → cs[i]? = some (b, p, d) → st[i]? = some 1 → wpOp P ops Q p (J (st.set i 2) t) a w)
 (h3 : ∀ st a w, st.length = cs.length → J st false a w → wpOp P ops Q e (J st true) a w)
 (he : ∀ a w, J (List.replicate cs.length 2) true a w → wpAnyG P md ops Q c F f (lst cs (List.replicate cs.length 2) (lisE true e L0)) a w) :
 ∀ (d : Nat) (st : List Nat) (t : Bool) (a : Act) (w : World), rem st + (if t then 0 else 1) = d → st.length = cs.length → (∀ s ∈ st, s ≤ 2) → ClosedG md ops (lst cs st (lisE t e L0)) → J st t a w → wpAnyG P md ops Q c F (f + d) (lst cs st (lisE t e L0)) a w := by
 intro d
 induction d with
 | zero =>
   intro st t a w hr hl hs hC hJ
   cases t with
   | false => simp at hr
   | true =>
     have e := rem_zero st hs (by omega)
     rw [hl] at e
     rw [e] at hJ ⊢
     exact he a w hJ
 | succ d ih =>
   intro st t a w hr hl hs hC hJ
   have hm := mem_stages st hs
   rw [hl] at hm
   have hc := List.all_eq_true.1 (List.all_eq_true.1 hchk st hm) t (by cases t <;> simp)
   simp only [Bool.or_eq_true, beq_iff_eq, Bool.and_eq_true, Bool.not_eq_true', List.all_eq_true] at hc
   rcases hc with (⟨hc, ht⟩ | hc) | ⟨hc1, hc2⟩
   · rw [ht] at hr; simp at hr; omega
   · rw [closedB_of hC] at hc; cases hc
   · refine ⟨fun h0 => by rw [h0] at hc1; simp at hc1, fun i hi => ?_⟩
     have hset : ∀ (j x : Nat), x ≤ 2 → ∀ s ∈ st.set j x, s ≤ 2 := fun j x hx s hs' => by
      rcases List.mem_or_eq_of_mem_set hs' with h | h
      · exact hs s h
      · omega
     rcases hc2 i hi with h | ⟨ht, rfl⟩
     · obtain ⟨j, b, p, dd, hj, h3⟩ := mayAt_spec cs st i 0 h
       rcases h3 with ⟨h3, rfl⟩ | ⟨h3, rfl⟩
       · refine wpOp_mono (fun a' w' hJ' => ⟨fun _ => hJF _ _ _ _ hJ', ?_⟩) (h1 st t a w j i p dd hl hJ hj h3)
         have hC' := hC.set hi
         rw [← lst_1 cs st _ j i p dd hj h3] at hC' ⊢
         exact ih _ t a' w' (by have := rem_set st j 0 (by omega) h3; simp only [Nat.zero_add] at this; omega) (by simpa using hl) (hset j 1 (by omega)) hC' hJ'
       · refine wpOp_mono (fun a' w' hJ' => ⟨fun _ => hJF _ _ _ _ hJ', ?_⟩) (h2 st t a w j b i dd hl hJ hj h3)
         have hC' := hC.set hi
         rw [← lst_2 cs st _ j b i dd hj h3] at hC' ⊢
         exact ih _ t a' w' (by have := rem_set st j 1 (by omega) h3; simp only [Nat.reduceAdd] at this; omega) (by simpa using hl) (hset j 2 (by omega)) hC' hJ'
     · subst ht
       refine wpOp_mono (fun a' w' hJ' => ⟨fun _ => hJF _ _ _ _ hJ', ?_⟩) (h3 st a w hl hJ)
       have hx : (lst cs st (lisE false i L0)).setIfInBounds i true = lst cs st (lisE true i L0) := (lst_comm cs st L0 i).symm
       have hC' := hC.set hi
       rw [hx] at hC' ⊢
       exact ih st true a' w' (by simp at hr ⊢; omega) hl hs hC' hJ'
section
variable {w0 : World} {a0 : Act} {cs : List Ch} {B : Nat}
theorem jr_1 (hnd : (slots (ixs cs)).Nodup) (hok : ∀ (i : Nat) (d : Ch), cs[i]? = some d → ChOk P ops a0 cs d) : ∀ st a w i b p d, st.length = (ixs cs).length → JR w0 a0 cs B st a w → (ixs cs)[i]? = some (b, p, d) → st[i]? = some 0 → wpOp P ops Q b (JR w0 a0 cs B (st.set i 1)) a w := by
 intro st a w i b p d hst ⟨vs, hvl, ha, hR⟩ hi hs
 obtain ⟨ch, hch, rfl, rfl, rfl⟩ := ixs_get hi
 obtain ⟨o, k, X, ho, hg, hdst, hop, hk, hX, hrun⟩ := (hok i ch hch).lay
 have hil : i < vs.length := by rw [hvl]; exact (List.getElem?_eq_some_iff.1 hch).1
 obtain ⟨⟨u, v⟩, hv⟩ : ∃ x, vs[i]? = some x := ⟨_, List.getElem?_eq_getElem hil⟩
 refine wpOp_step ho fun K' hK => ?_
 have hw : Region.wanted o (yielded ops a.tmps) = true := by simp [Region.wanted, hg]
 rw [if_pos hw]
 have hev : a.eval (.tmp k) = X := evalOf (by rw [ha, puts_other _ _ _ _ _ hk]; exact hX)
 unfold Oper.wp execOp
 simp only [hop, Sem.run_bind, Sem.run_pure, Result.andThen_ok, List.map_toArray, List.map_cons, List.map_nil, hev, hrun]
 rw [Oper.upon_value]
 refine hK _ _ ⟨vs.set i (.slice (some ⟨w.heap.size, 0, none⟩) 1 1, v), by simpa using hvl, ?_, hR.lay hch hs hv _⟩
 rw [hdst, ha, puts_1 (ixs cs) st vs a0 i ch.b ch.p ch.db ch.dp _ u v hnd hi hs hv]
theorem jr_2 (hnd : (slots (ixs cs)).Nodup) (hsl : ∀ d ∈ slots (ixs cs), d < a0.tmps.size) (hok : ∀ (i : Nat) (d : Ch), cs[i]? = some d → ChOk P ops a0 cs d) (hB : B ≤ w0.heap.size) : ∀ st a w i b p d, st.length = (ixs cs).length → JR w0 a0 cs B st a w → (ixs cs)[i]? = some (b, p, d) → st[i]? = some 1 → wpOp P ops Q p (JR w0 a0 cs B (st.set i 2)) a w := by
 intro st a w i b p d hst ⟨vs, hvl, ha, hR⟩ hi hs
 obtain ⟨ch, hch, rfl, rfl, rfl⟩ := ixs_get hi
 obtain ⟨o, k, ho, hg, hdst, hop, hk, hX⟩ := (hok i ch hch).app
 obtain ⟨ti, z, bytes, ht, hti, htz, hts, htb, htzs, htp, hbt⟩ := (hok i ch hch).info
 have hil : i < vs.length := by rw [hvl]; exact (List.getElem?_eq_some_iff.1 hch).1
 obtain ⟨⟨u, v⟩, hv⟩ : ∃ x, vs[i]? = some x := ⟨_, List.getElem?_eq_getElem hil⟩
 obtain ⟨g, hu, _, _, hcell, _⟩ := hR.one i ch u v hch hs hv
 refine wpOp_step ho fun K' hK => ?_
 have hw : Region.wanted o (yielded ops a.tmps) = true := by simp [Region.wanted, hg]
 rw [if_pos hw]
 have hev : a.eval (.tmp k) = ch.v := evalOf (by rw [ha, puts_other _ _ _ _ _ hk]; exact hX)
 have hev2 : a.eval (.tmp ch.db) = .slice (some ⟨g, 0, none⟩) 1 1 := evalOf (by rw [ha, puts_at1 (ixs cs) st vs a0 i ch.b ch.p ch.db ch.dp u v hnd hsl hi hs hv, hu])
 have hrow' := (hR.row i ch 1 u v hch hs hv).1
 obtain ⟨v', w', hr, f1, f2, _, f4⟩ := run_append_own_at (P := P) w B ch.t o.type ch.e ti z ch.size bytes ht hti htz hts htb htzs htp ch.v ch.n ch.xs hrow' ⟨g, 0, none⟩ 1 1 ch.x (by rw [(hok i ch hch).len]; omega) (fun j x hx => by rw [addZ]; exact hcell j x hx) (hok i ch hch).cell (hok i ch hch).max hbt (Nat.le_trans hB hR.frm.size)
 unfold Oper.wp execOp
 simp only [hop, resolve, invoke, builtin, Sem.run_bind, Sem.run_pure, Result.andThen_ok, List.map_toArray, List.map_cons, List.map_nil, hev, hev2, hr]
 rw [Oper.upon_value]
 refine hK _ _ ⟨vs.set i (u, v'), by simpa using hvl, ?_, hR.app hch hs hv f1 f2 f4⟩
 rw [hdst, ha, puts_2 (ixs cs) st vs a0 i ch.b ch.p ch.db ch.dp u v v' hnd hi hs hv]
theorem wpAnyG_appendsE {L0 : Array Bool} {f e de k T j : Nat} {oe : Oper} {ve : Value} {ad : Addr} (hoe : ops[e]? = some oe) (hge : oe.guard = none) (hde : oe.dst = some de) (hop : oe.op = .fieldAddr T (.tmp k) j) (hk : k ∉ slots (ixs cs)) (hdn : de ∉ slots (ixs cs)) (hak : a0.tmps[k]? = some (.pointer (some ad))) (hrun : ∀ w : World, (Instr.fieldAt T (.pointer (some ad)) j).run P w = .ok ve w)
 (hcl : closedB md ops L0 = true) (hchk : chkE md ops (ixs cs) e L0 = true) (hnd : (slots (ixs cs)).Nodup) (hsl : ∀ d ∈ slots (ixs cs), d < a0.tmps.size)
 (hF : ∀ w, Frm w0 cs w → F w) (hok : ∀ (i : Nat) (d : Ch), cs[i]? = some d → ChOk P ops a0 cs d) (hok' : ∀ (i : Nat) (d : Ch), cs[i]? = some d → ChOk P ops (a0.put (some de) ve) cs d) (hB : B ≤ w0.heap.size)
 (hrow : ∀ (i : Nat) (d : Ch), cs[i]? = some d → w0.ownsRow B d.e d.size d.v d.n d.xs)
 (hap : ∀ (i j : Nat) (d d' : Ch), i ≠ j → cs[i]? = some d → cs[j]? = some d' → ∀ g, d.v.ownBlock = some g → d'.v.ownBlock ≠ some g)
 (he : ∀ vs w, vs.length = cs.length → RowsOk w0 cs B (List.replicate cs.length 2) vs w → wpAnyG P md ops Q c F f (lst (ixs cs) (List.replicate cs.length 2) (L0.setIfInBounds e true)) (puts (ixs cs) (List.replicate cs.length 2) vs (a0.put (some de) ve)) w) :
 wpAnyG P md ops Q c F (f + (2 * cs.length + 1)) L0 a0 w0 := by
 have hlen : (ixs cs).length = cs.length := by simp [ixs]
 have hz : ∀ (cs : List (Nat × Nat × Nat × Nat)) (k : Nat) (L : Array Bool), lst cs (List.replicate k 0) L = L := by
  intro cs
  induction cs with
  | nil => intro k L; simp [lst]
  | cons c cs ih =>
    intro k L
    obtain ⟨b, p, d⟩ := c
    cases k with
    | zero => simp [lst]
    | succ k => simp only [List.replicate_succ, lst, if_true]; exact ih k L
 have hzp : ∀ (cs : List (Nat × Nat × Nat × Nat)) (k : Nat) (vs : List (Value × Value)) (a : Act), puts cs (List.replicate k 0) vs a = a := by
  intro cs
  induction cs with
  | nil => intro k vs a; simp [puts]
  | cons c cs ih =>
    intro k vs a
    obtain ⟨b, p, db, dp⟩ := c
    cases k with
    | zero => simp [puts]
    | succ k =>
      cases vs with
      | nil => simp [List.replicate_succ, puts]
      | cons x vs => obtain ⟨u, v⟩ := x; simp only [List.replicate_succ, puts, if_true]; exact ih k vs a
 have hrem : ∀ k, rem (List.replicate k 0) = 2 * k := by
  intro k
  induction k with
  | zero => rfl
  | succ k ih => simp only [List.replicate_succ, rem, ih]; omega
 have h0 : ∀ {k i s : Nat}, (List.replicate k 0)[i]? = some s → s = 0 := fun {k i s} h => by
  obtain ⟨hl, he⟩ := List.getElem?_eq_some_iff.1 h
  simpa using he.symm
 have hJ0 : JR w0 a0 cs B (List.replicate cs.length 0) a0 w0 := by
  refine ⟨List.replicate cs.length (undef, undef), by simp, (hzp _ _ _ _).symm, ⟨⟨rfl, rfl, rfl, Nat.le_refl _, fun _ _ _ => rfl⟩, ?_, ?_, ?_⟩⟩
  · intro i d s u v hd hs hv
    obtain rfl := h0 hs
    exact ⟨hrow i d hd, .inl rfl⟩
  · intro i j d d' s r u v x y hij hd hs hv hd' hr hy
    obtain rfl := h0 hs
    obtain rfl := h0 hr
    exact hap i j d d' hij hd hd'
  · intro i d u v hd hs hv
    have := h0 hs; omega
 have hsz : (a0.put (some de) ve).tmps.size = a0.tmps.size := by simp [Act.put]
 have key := wpAnyG_chainsE (P := P) (Q := Q) (c := c) (F := F) (L0 := L0) (f := f) (e := e) (J := fun st t => JR w0 (if t then a0.put (some de) ve else a0) cs B st) (closedB_spec hcl) hchk (fun st t a w ⟨vs, _, _, h⟩ => hF w h.frm) ?_ ?_ ?_ ?_ (2 * cs.length + 1) (List.replicate cs.length 0) false a0 w0 (by rw [hrem]; rfl) (by simp [hlen]) (fun s hs => by have := List.eq_of_mem_replicate hs; omega) (by rw [hz]; exact closedB_spec hcl) hJ0
 · rw [hz] at key; exact key
 · intro st t
   cases t with
   | false => exact jr_1 hnd hok st
   | true => exact jr_1 hnd hok' st
 · intro st t
   cases t with
   | false => exact jr_2 hnd hsl hok hB st
   | true => exact jr_2 hnd (fun d hd => by rw [hsz]; exact hsl d hd) hok' hB st
 · intro st a w hst ⟨vs, hvl, ha, hR⟩
   simp only [Bool.false_eq_true, if_false] at ha
   refine wpOp_step hoe fun K' hK => ?_
   have hw : Region.wanted oe (yielded ops a.tmps) = true := by simp [Region.wanted, hge]
   rw [if_pos hw]
   have hev : a.eval (.tmp k) = .pointer (some ad) := evalOf (by rw [ha, puts_other _ _ _ _ _ hk]; exact hak)
   unfold Oper.wp execOp
   simp only [hop, Sem.run_bind, Sem.run_pure, Result.andThen_ok, hev, hrun]
   rw [Oper.upon_value]
   refine hK _ _ ⟨vs, hvl, ?_, hR⟩
   rw [hde, ha, if_pos rfl, puts_comm _ _ _ _ _ _ hdn]
 · intro a w ⟨vs, hvl, ha, hR⟩
   rw [hlen] at ha hR ⊢
   rw [ha]
   exact he vs w hvl hR
end
theorem wpAnyG_appends4E {c1 c2 c3 c4 : Ch} {w0 : World} {a0 : Act} {B : Nat} {L0 : Array Bool} {f fuel : Nat} {e de k T j : Nat} {oe : Oper} {ve : Value} {ad : Addr} (hoe : ops[e]? = some oe) (hge : oe.guard = none) (hde : oe.dst = some de) (hop : oe.op = .fieldAddr T (.tmp k) j) (hk : k ∉ slots (ixs [c1, c2, c3, c4])) (hdn : de ∉ slots (ixs [c1, c2, c3, c4])) (hak : a0.tmps[k]? = some (.pointer (some ad))) (hrun : ∀ w : World, (Instr.fieldAt T (.pointer (some ad)) j).run P w = .ok ve w) (hfu : fuel = f + 9) (hcl : closedB md ops L0 = true) (hchk : chkE md ops (ixs [c1, c2, c3, c4]) e L0 = true) (hnd : (slots (ixs [c1, c2, c3, c4])).Nodup) (hsl : ∀ d ∈ slots (ixs [c1, c2, c3, c4]), d < a0.tmps.size)
 (hF : ∀ w, Frm w0 [c1, c2, c3, c4] w → F w) (k1 : ∀ a1, (a1 = a0 ∨ a1 = a0.put (some de) ve) → ChOk P ops a1 [c1, c2, c3, c4] c1) (k2 : ∀ a1, (a1 = a0 ∨ a1 = a0.put (some de) ve) → ChOk P ops a1 [c1, c2, c3, c4] c2) (k3 : ∀ a1, (a1 = a0 ∨ a1 = a0.put (some de) ve) → ChOk P ops a1 [c1, c2, c3, c4] c3) (k4 : ∀ a1, (a1 = a0 ∨ a1 = a0.put (some de) ve) → ChOk P ops a1 [c1, c2, c3, c4] c4) (hB : B ≤ w0.heap.size)
 (r1 : w0.ownsRow B c1.e c1.size c1.v c1.n c1.xs) (r2 : w0.ownsRow B c2.e c2.size c2.v c2.n c2.xs) (r3 : w0.ownsRow B c3.e c3.size c3.v c3.n c3.xs) (r4 : w0.ownsRow B c4.e c4.size c4.v c4.n c4.xs)
 (a12 : ∀ g, c1.v.ownBlock = some g → c2.v.ownBlock ≠ some g) (a13 : ∀ g, c1.v.ownBlock = some g → c3.v.ownBlock ≠ some g) (a14 : ∀ g, c1.v.ownBlock = some g → c4.v.ownBlock ≠ some g) (a23 : ∀ g, c2.v.ownBlock = some g → c3.v.ownBlock ≠ some g) (a24 : ∀ g, c2.v.ownBlock = some g → c4.v.ownBlock ≠ some g) (a34 : ∀ g, c3.v.ownBlock = some g → c4.v.ownBlock ≠ some g)
 (he : ∀ (u1 u2 u3 u4 : Value) (x1 x2 x3 x4 : Option Addr) (m1 m2 m3 m4 : Nat) (W : World), Aft4 w0 c1 c2 c3 c4 B (.slice x1 (c1.n + 1) m1) (.slice x2 (c2.n + 1) m2) (.slice x3 (c3.n + 1) m3) (.slice x4 (c4.n + 1) m4) W → wpAnyG P md ops Q c F f (((((((((L0.setIfInBounds e true).setIfInBounds c1.b true).setIfInBounds c1.p true).setIfInBounds c2.b true).setIfInBounds c2.p true).setIfInBounds c3.b true).setIfInBounds c3.p true).setIfInBounds c4.b true).setIfInBounds c4.p true) (((((((((a0.put (some de) ve).put (some c1.db) u1).put (some c1.dp) (.slice x1 (c1.n + 1) m1)).put (some c2.db) u2).put (some c2.dp) (.slice x2 (c2.n + 1) m2)).put (some c3.db) u3).put (some c3.dp) (.slice x3 (c3.n + 1) m3)).put (some c4.db) u4).put (some c4.dp) (.slice x4 (c4.n + 1) m4)) W) :
 wpAnyG P md ops Q c F fuel L0 a0 w0 := by
 subst hfu
 refine wpAnyG_appendsE (cs := [c1, c2, c3, c4]) hoe hge hde hop hk hdn hak hrun hcl hchk hnd hsl hF (all4 (C := fun d => ChOk P ops a0 [c1, c2, c3, c4] d) (k1 _ (.inl rfl)) (k2 _ (.inl rfl)) (k3 _ (.inl rfl)) (k4 _ (.inl rfl))) (all4 (C := fun d => ChOk P ops (a0.put (some de) ve) [c1, c2, c3, c4] d) (k1 _ (.inr rfl)) (k2 _ (.inr rfl)) (k3 _ (.inr rfl)) (k4 _ (.inr rfl))) hB (all4 (C := fun d => w0.ownsRow B d.e d.size d.v d.n d.xs) r1 r2 r3 r4) ?_ ?_
 · intro i j d d' hij hd hd' g hg hg'
   rcases idx4 hd with ⟨rfl, rfl⟩ | ⟨rfl, rfl⟩ | ⟨rfl, rfl⟩ | ⟨rfl, rfl⟩ <;> rcases idx4 hd' with ⟨rfl, rfl⟩ | ⟨rfl, rfl⟩ | ⟨rfl, rfl⟩ | ⟨rfl, rfl⟩
   · exact hij rfl
   · exact a12 g hg hg'
   · exact a13 g hg hg'
   · exact a14 g hg hg'
   · exact a12 g hg' hg
   · exact hij rfl
   · exact a23 g hg hg'
   · exact a24 g hg hg'
   · exact a13 g hg' hg
   · exact a23 g hg' hg
   · exact hij rfl
   · exact a34 g hg hg'
   · exact a14 g hg' hg
   · exact a24 g hg' hg
   · exact a34 g hg' hg
   · exact hij rfl
 · intro vs W hvl hR
   obtain ⟨⟨u1, t1⟩, ⟨u2, t2⟩, ⟨u3, t3⟩, ⟨u4, t4⟩, rfl⟩ := len4p hvl
   have q1 := hR.row 0 _ 2 u1 t1 rfl rfl rfl
   have q2 := hR.row 1 _ 2 u2 t2 rfl rfl rfl
   have q3 := hR.row 2 _ 2 u3 t3 rfl rfl rfl
   have q4 := hR.row 3 _ 2 u4 t4 rfl rfl rfl
   have z12 := hR.apart 0 1 _ _ 2 2 u1 t1 u2 t2 (by decide) rfl rfl rfl rfl rfl rfl
   have z13 := hR.apart 0 2 _ _ 2 2 u1 t1 u3 t3 (by decide) rfl rfl rfl rfl rfl rfl
   have z14 := hR.apart 0 3 _ _ 2 2 u1 t1 u4 t4 (by decide) rfl rfl rfl rfl rfl rfl
   have z23 := hR.apart 1 2 _ _ 2 2 u2 t2 u3 t3 (by decide) rfl rfl rfl rfl rfl rfl
   have z24 := hR.apart 1 3 _ _ 2 2 u2 t2 u4 t4 (by decide) rfl rfl rfl rfl rfl rfl
   have z34 := hR.apart 2 3 _ _ 2 2 u3 t3 u4 t4 (by decide) rfl rfl rfl rfl rfl rfl
   simp only [cur, curN, curX, if_true] at q1 q2 q3 q4 z12 z13 z14 z23 z24 z34
   obtain ⟨x1, m1, rfl⟩ := row_shape q1.1
   obtain ⟨x2, m2, rfl⟩ := row_shape q2.1
   obtain ⟨x3, m3, rfl⟩ := row_shape q3.1
   obtain ⟨x4, m4, rfl⟩ := row_shape q4.1
   have h := he u1 u2 u3 u4 x1 x2 x3 x4 m1 m2 m3 m4 W ⟨hR.frm, q1.1, q2.1, q3.1, q4.1, q1.2, q2.2, q3.2, q4.2, z12, z13, z14, z23, z24, z34⟩
   clear he
   simp [ixs, lst, puts, List.replicate_succ]
   exact h
end
end Go.Proofs.Ytmmjopmffpfccaa
