/-
  Lemmas and walks for the statement: SLe, StFl.
-/
import Derived.Test.YtmmjopmffpfccaaQ44
import Derived.Maps.AppendAt
namespace Go.Proofs.Ytmmjopmffpfccaa
open Go.RowKit
set_option linter.unusedSimpArgs false
set_option linter.unusedVariables false
attribute [local go_sem] iteMin iteMax iteMinN iteMaxN
def SlEnds (l : List P2) (w : World) (e : Ending) (w' : World) : Prop := ∃ v, e = .returned v ∧ w'.ownsRow w.heap.size 22 2 v l.length (flat2 l) ∧ Below w.heap.size w w'
theorem wayB_len (fr : List Int) (bys : List P2) : ∀ f n, (wayB fr bys f n).length ≤ f
 | 0, _ => Nat.le_refl _
 | f + 1, n => by
   simp only [wayB]
   split
   · exact Nat.zero_le _
   · simp only [List.length_cons]; have := wayB_len fr bys f (fr.getD n 0).toNat; omega
theorem step_appendP {ops : Array Oper} {o : Oper} {a : Act} {w : World} {K : Act → World → Prop} {Q : Exit → Act → World → Prop} {E : Prop} (hgd : o.guard = none) (s x : Operand) (t e : TypeId)
 (ho : o.op = .call { callee := .builtin .append, args := #[s, x], argTypes := #[t, t] }) (d : Nat) (hd : o.dst = some d) (base : Nat) (i : TypeInfo) (z : Value) (size bytes : Nat) (ht : Try.prog.underlying t = some (.slice e)) (hi : Try.prog.info? e = some i) (hz : i.zero = some z)
 (hsize : i.size = size) (hby : i.bytes = bytes) (hzs : z.cells.size = size) (hsz : 0 < size) (v : Value) (n : Nat) (xs : List Value) (hs : a.eval s = v) (hown : w.ownsRow base e size v n xs)
 (ad : Addr) (c : Nat) (hx : a.eval x = .slice (some ad) 1 c) (news : List Value) (hl : news.length = 1 * size) (hnews : ∀ j u, news[j]? = some u → w.cell? (ad.add j) = some u) (h1 : ∀ u ∈ news, u.oneCell' = true)
 (h63 : n + 1 ≤ maxLen) (hbytes : (n + 1) * bytes ≤ 140737488355328) (hbase : base ≤ w.heap.size)
 (hK : ∀ v' w', w'.ownsRow base e size v' (n + 1) (xs ++ news) → w.grownBy w' v.ownBlock → (v'.ownBlock = v.ownBlock ∨ v'.ownBlock = some w.heap.size) → K (a.put (some d) v') w') :
 if Region.wanted o (yielded ops a.tmps) = true then Oper.wp Try.prog o a w K Q else E := by
 have hw : Region.wanted o (yielded ops a.tmps) = true := by simp [Region.wanted, hgd]
 rw [if_pos hw]
 obtain ⟨v', w', hr, h2, h3, _, h4⟩ := run_append_own_at w base t o.type e i z size bytes ht hi hz hsize hby hzs hsz v n xs hown ad 1 c news hl hnews h1 h63 hbytes hbase
 unfold Oper.wp execOp
 simp only [ho, resolve, invoke, builtin, Sem.run_bind, Sem.run_pure, Result.andThen_ok, List.map_toArray, List.map_cons, List.map_nil, hs, hx, hr]
 rw [Oper.upon_value, hd]
 exact hK v' w' h2 h3 h4
theorem own_base {w : World} {B B' n size : Nat} {e : TypeId} {v : Value} {xs : List Value} (h : w.ownsRow B e size v n xs) (hb : B' ≤ B) : w.ownsRow B' e size v n xs := by
 obtain ⟨h1, h2⟩ := h
 refine ⟨h1, ?_⟩
 rcases h2 with h2 | ⟨g, cap, cur, a1, a2, a3⟩
 · exact .inl h2
 · exact .inr ⟨g, cap, cur, a1, Nat.le_trans hb a2, a3⟩
theorem slead_end {fr : List Int} {bys : List P2} {n f : Nat} {S B' : Nat} {w w' : World} {v' : Value} {px py : Int} (hS : w.heap.size = S) (hst : wayB fr bys n n = ⟨px, py⟩ :: wayB fr bys f f) (hr : w'.ownsRow B' 22 2 v' ((wayB fr bys f f).reverse.length + 1) (flat2 (wayB fr bys f f).reverse ++ [.int .i64 px, .int .i64 py])) (hB : S ≤ B') (hb : Below S w w') : SlEnds (wayB fr bys n n).reverse w (.returned v') w' := by
 refine ⟨v', rfl, ?_, by rw [hS]; exact hb⟩
 refine own_base (B := B') ?_ (by omega)
 rw [hst, List.reverse_cons, flat2_snoc, List.length_append]
 exact hr
theorem born_at {G U : List Int → Prop} {B : Sx} (h : SxOk G U B) {n k : Nat} {E : Edg} (h1 : 1 ≤ n) (hn : n < B.states.length) (hE : B.edges[k]? = some E) (ht : E.t = n) (hb : ∀ (j : Nat) (E' : Edg), j < k → B.edges[j]? = some E' → E'.t ≠ n) :
 B.fr[n]? = some (E.f : Int) ∧ B.bys[n]? = some E.l ∧ E.f < n := by
 obtain ⟨e, E0, a1, a2, a3, a4, a5, a6⟩ := h.born n h1 hn
 rcases Nat.lt_trichotomy e k with he | rfl | he
 · exact (hb e E0 he a1 a2).elim
 · rw [hE] at a1; injection a1 with a1; subst a1; exact ⟨a3, a4, a6⟩
 · exact (a5 k E he hE ht).elim
theorem born_ex {G U : List Int → Prop} {B : Sx} (h : SxOk G U B) {n : Nat} (h1 : 1 ≤ n) (hn : n < B.states.length) (hb : ∀ (j : Nat) (E' : Edg), j < B.edges.length → B.edges[j]? = some E' → E'.t ≠ n) : False := by
 obtain ⟨e, E0, a1, a2, _⟩ := h.born n h1 hn
 exact hb e E0 (List.getElem?_eq_some_iff.1 a1).1 a1 a2
set_option maxRecDepth 100000 in
set_option maxHeartbeats 8000000 in
theorem slead_all {G U : List Int → Prop} {X : Sx} (hok : SxOk G U X) (B : Nat) (v0 v4 : Value) (g1 g2 g3 c1 c2 c3 m : Nat) (w0 : World) (hm : X.edges.length = m) (hm3 : m ≤ 4800) (hm1 : 0 < m)
 (r1 : w0.ownsRow B 3 1 (.slice (some ⟨g1, 0, none⟩) m c1) m ((fromsE X.edges).map (Value.int .i64))) (r2 : w0.ownsRow B 3 1 (.slice (some ⟨g2, 0, none⟩) m c2) m ((tosE X.edges).map (Value.int .i64))) (r3 : w0.ownsRow B 22 2 (.slice (some ⟨g3, 0, none⟩) m c3) m (flat2 (latesE X.edges))) :
 ∀ (F n : Nat), n ≤ F → n < X.states.length → ∀ w, Below w0.heap.size w0 w → Calls Try.prog 23 #[.agg #[v0, .slice (some ⟨g1, 0, none⟩) m c1, .slice (some ⟨g2, 0, none⟩) m c2, .slice (some ⟨g3, 0, none⟩) m c3, v4], .int .i64 n] w fun e w' => SlEnds (wayB X.fr X.bys n n).reverse w e w' := by
 have HOK := hide hok; have HM := hide hm; have HR1 := hide r1; have HR2 := hide r2; have HR3 := hide r3
 have q1 := (rows_lt r1 g1 rfl).2
 have q2 := (rows_lt r2 g2 rfl).2
 have q3 := (rows_lt r3 g3 rfl).2
 have hmost := hok.most
 clear hok hm r1 r2 r3
 obtain ⟨i3, hi3, hy3, hz3, hu3⟩ := info_parts infoPair
 intro F
 induction F with
 | zero =>
   intro n hn hN w hb
   obtain rfl : n = 0 := by omega
   go_enter Try.func23, Try.ntmps23
   go_wp2
   go_ret
   exact ⟨_, rfl, ⟨by simp [flat2, wayB], .inl ⟨rfl, by simp [wayB]⟩⟩, (Below.refl _ _).alloc (Nat.le_refl _) _⟩
 | succ F ih =>
   intro n hn hN w hb
   have n0 : (0 : Int) ≤ (n : Int) := Int.natCast_nonneg _
   have HIH := hide ih
   clear ih
   have HN := hide hN
   rcases (show n = 0 ∨ 0 < n by omega) with rfl | hn0
   · go_enter Try.func23, Try.ntmps23
     go_wp2
     go_ret
     exact ⟨_, rfl, ⟨by simp [flat2, wayB], .inl ⟨rfl, by simp [wayB]⟩⟩, (Below.refl _ _).alloc (Nat.le_refl _) _⟩
   · have hn0' : ¬ (n : Int) = 0 := by omega
     have hn0b : ((n : Int) == 0) = false := by simpa using hn0'
     obtain ⟨S, hS⟩ : ∃ S, w.heap.size = S := ⟨_, rfl⟩
     have HB := hide hb
     clear hb
     go_enter Try.func23, Try.ntmps23
     go_wp2_with fail
     obtain ⟨Y, hY⟩ : ∃ Y, Y = w.alloc (.cells #[v0, .slice (some ⟨g1, 0, none⟩) m c1, .slice (some ⟨g2, 0, none⟩) m c2, .slice (some ⟨g3, 0, none⟩) m c3, v4] 49) := ⟨_, rfl⟩
     try rw [← hY]
     have BY : Blk Y S [v0, .slice (some ⟨g1, 0, none⟩) m c1, .slice (some ⟨g2, 0, none⟩) m c2, .slice (some ⟨g3, 0, none⟩) m c3, v4] := by
      have := Blk.new w [v0, .slice (some ⟨g1, 0, none⟩) m c1, .slice (some ⟨g2, 0, none⟩) m c2, .slice (some ⟨g3, 0, none⟩) m c3, v4] 49
      rw [hY]; simpa [hS] using this
     have hYB : Hid (Below S w Y) := hide (by rw [hY, ← hS]; exact (Below.refl _ _).alloc (Nat.le_refl _) _)
     have hYs : S < Y.heap.size := BY.lt
     have hSw : w0.heap.size ≤ S := by rw [← hS]; exact HB.out.size
     have hY0 : Hid (Below w0.heap.size w0 Y) := hide (HB.out.trans (hYB.out.mono hSw))
     have HBY := hide BY
     have HSS := hide hS
     clear hY BY
     go_loopw [12] (fun i wr => ∃ k : Nat, k ≤ m ∧ i = .int .i64 k ∧ Hid (∀ (j : Nat) (E' : Edg), j < k → X.edges[j]? = some E' → E'.t ≠ n) ∧ Hid (wr = Y)) (fun i _ => m - (intOf i).toNat)
     case atStart => exact ⟨0, Nat.zero_le _, rfl, hide (fun j _ h => by omega), hide rfl⟩
     case round =>
      obtain ⟨k, hk, rfl, hbef, hwr⟩ := hrel
      have hwr2 := hwr.out
      subst hwr2
      clear hwr
      have k0 : (0 : Int) ≤ (k : Int) := Int.natCast_nonneg _
      by_cases hlt : k < m
      · have hlt' : (k : Int) < (m : Int) := by omega
        obtain ⟨E, hE⟩ : ∃ E, X.edges[k]? = some E := ⟨_, List.getElem?_eq_getElem (by rw [HM.out]; exact hlt)⟩
        obtain ⟨t, ht⟩ : ∃ t : Int, (E.t : Int) = t := ⟨_, rfl⟩
        have p2 : wr.cell? ⟨g2, k, none⟩ = some (.int .i64 t) := (hY0.out.cell (p := ⟨g2, k, none⟩) q2).trans (own1_at HR2.out (by simp [tosE, hE, ht]))
        have HE := hide hE; have HT := hide ht
        clear hE ht
        by_cases hte : t = (n : Int)
        · have hteb : (t == (n : Int)) = true := by simpa using hte
          obtain ⟨f, hf⟩ : ∃ f : Nat, E.f = f := ⟨_, rfl⟩
          obtain ⟨⟨px, py⟩, hl⟩ : ∃ l, E.l = l := ⟨_, rfl⟩
          have hbo := born_at HOK.out hn0 HN.out HE.out (by have := HT.out; omega) hbef.out
          have p1 : wr.cell? ⟨g1, k, none⟩ = some (.int .i64 (f : Int)) := (hY0.out.cell (p := ⟨g1, k, none⟩) q1).trans (own1_at HR1.out (by simp [fromsE, HE.out, hf]))
          obtain ⟨p3, p4⟩ := own2_at HR3.out (k := k) (p := ⟨px, py⟩) (by simp [latesE, HE.out, hl])
          have p3 := (hY0.out.cell (p := ⟨g3, k * 2, none⟩) q3).trans p3
          have p4 := (hY0.out.cell (p := ⟨g3, k * 2 + 1, none⟩) q3).trans p4
          dsimp only at p3 p4
          have HST := hide (wayB_step HOK.out.back hn0 HN.out hbo.1 hbo.2.2 (hbo.2.1.trans (by rw [hl])))
          have hfn : f < n := by rw [← hf]; exact hbo.2.2
          rw [hf] at HST
          have hwl := wayB_len X.fr X.bys f f
          have hwr : (wayB X.fr X.bys f f).reverse.length ≤ 300 := by rw [List.length_reverse]; have := HN.out; omega
          clear hf hl hbo hbef HE HT hwl
          go_wp2_with fail
          obtain ⟨V, hV⟩ : ∃ V, wr.drew = V := ⟨_, rfl⟩
          have hbV : Below wr.heap.size wr V := by rw [← hV]; exact (Below.refl _ _).drew
          have BV := HBY.out.below hbV HBY.out.lt
          have kv : ∀ {p : Addr} {v : Value}, wr.cell? p = some v → V.cell? p = some v := fun {p v} h => (hbV.cell (World.block_lt_of_cell? wr p h)).trans h
          have hf0 : (fun w' : World => w'.cell? ⟨S, 0, none⟩ = some v0 ∧ w'.cell? ⟨S, 1, none⟩ = some (.slice (some ⟨g1, 0, none⟩) m c1) ∧ w'.cell? ⟨S, 2, none⟩ = some (.slice (some ⟨g2, 0, none⟩) m c2) ∧ w'.cell? ⟨S, 3, none⟩ = some (.slice (some ⟨g3, 0, none⟩) m c3) ∧ w'.cell? ⟨S, 4, none⟩ = some v4 ∧ w'.cell? ⟨g1, k, none⟩ = some (.int .i64 (f : Int)) ∧ w'.cell? ⟨g3, k * 2, none⟩ = some (.int .i64 px) ∧ w'.cell? ⟨g3, k * 2 + 1, none⟩ = some (.int .i64 py)) V := ⟨(BV 0 _ rfl).1, (BV 1 _ rfl).1, (BV 2 _ rfl).1, (BV 3 _ rfl).1, (BV 4 _ rfl).1, kv p1, kv p3, kv p4⟩
          have hF := hide hf0
          have HFB : Hid (∀ u, Below V.heap.size V u → (fun w' : World => w'.cell? ⟨S, 0, none⟩ = some v0 ∧ w'.cell? ⟨S, 1, none⟩ = some (.slice (some ⟨g1, 0, none⟩) m c1) ∧ w'.cell? ⟨S, 2, none⟩ = some (.slice (some ⟨g2, 0, none⟩) m c2) ∧ w'.cell? ⟨S, 3, none⟩ = some (.slice (some ⟨g3, 0, none⟩) m c3) ∧ w'.cell? ⟨S, 4, none⟩ = some v4 ∧ w'.cell? ⟨g1, k, none⟩ = some (.int .i64 (f : Int)) ∧ w'.cell? ⟨g3, k * 2, none⟩ = some (.int .i64 px) ∧ w'.cell? ⟨g3, k * 2 + 1, none⟩ = some (.int .i64 py)) u) := hide (fun u hb => by
           obtain ⟨f1, f2, f3, f4, f5, f6, f7, f8⟩ := hf0
           have k : ∀ {a : Addr} {v : Value}, V.cell? a = some v → u.cell? a = some v := fun {a v} h => (hb.cell (World.block_lt_of_cell? V a h)).trans h
           exact ⟨k f1, k f2, k f3, k f4, k f5, k f6, k f7, k f8⟩)
          have HV0 : Hid (Below w0.heap.size w0 V) := hide (hY0.out.trans (hbV.mono hY0.out.size))
          have HVw : Hid (Below S w V) := hide (hYB.out.trans (hbV.mono (by omega)))
          have hVs : S < V.heap.size := by have := hbV.size; omega
          clear hbV BV kv hf0 p1 p3 p4 hY0 HBY hYB
          refine wp_region_G 13 (fun w' : World => w'.cell? ⟨S, 0, none⟩ = some v0 ∧ w'.cell? ⟨S, 1, none⟩ = some (.slice (some ⟨g1, 0, none⟩) m c1) ∧ w'.cell? ⟨S, 2, none⟩ = some (.slice (some ⟨g2, 0, none⟩) m c2) ∧ w'.cell? ⟨S, 3, none⟩ = some (.slice (some ⟨g3, 0, none⟩) m c3) ∧ w'.cell? ⟨S, 4, none⟩ = some v4 ∧ w'.cell? ⟨g1, k, none⟩ = some (.int .i64 (f : Int)) ∧ w'.cell? ⟨g3, k * 2, none⟩ = some (.int .i64 px) ∧ w'.cell? ⟨g3, k * 2 + 1, none⟩ = some (.int .i64 py)) (by kernel_rfl) ?_
          rw [hV]
          clear hV
          refine wB 0 (v := ?v75) rfl (by kernel_rfl) (fun _ _ _ h => h) hF.out (Or.inl ⟨by rfl, ?y75⟩) ?r75
          case y75 => intro w h; (try dsimp only at h); go_split_ands; go_simp; all_goals (with_reducible rfl)
          try simp only [Act.put, List.setIfInBounds_toArray, List.set_cons_zero, List.set_cons_succ]
          refine wB 1 (v := ?v76) rfl (by kernel_rfl) (fun _ _ _ h => h) hF.out (Or.inl ⟨by rfl, ?y76⟩) ?r76
          case y76 => intro w h; (try dsimp only at h); go_split_ands; go_simp; all_goals (with_reducible rfl)
          try simp only [Act.put, List.setIfInBounds_toArray, List.set_cons_zero, List.set_cons_succ]
          refine wB 2 (v := ?v77) rfl (by kernel_rfl) (fun _ _ _ h => h) hF.out (Or.inl ⟨by rfl, ?y77⟩) ?r77
          case y77 => intro w h; (try dsimp only at h); go_split_ands; go_simp; all_goals (with_reducible rfl)
          try simp only [Act.put, List.setIfInBounds_toArray, List.set_cons_zero, List.set_cons_succ]
          refine wB 3 (v := ?v78) rfl (by kernel_rfl) (fun _ _ _ h => h) hF.out (Or.inl ⟨by rfl, ?y78⟩) ?r78
          case y78 => intro w h; (try dsimp only at h); go_split_ands; go_simp; all_goals (with_reducible rfl)
          try simp only [Act.put, List.setIfInBounds_toArray, List.set_cons_zero, List.set_cons_succ]
          refine wB 4 (v := ?v79) rfl (by kernel_rfl) (fun _ _ _ h => h) hF.out (Or.inl ⟨by rfl, ?y79⟩) ?r79
          case y79 => intro w h; (try dsimp only at h); go_split_ands; go_simp; all_goals (with_reducible rfl)
          try simp only [Act.put, List.setIfInBounds_toArray, List.set_cons_zero, List.set_cons_succ]
          refine wB 5 (v := ?v80) rfl (by kernel_rfl) (fun _ _ _ h => h) hF.out (Or.inl ⟨by rfl, ?y80⟩) ?r80
          case y80 => intro w h; (try dsimp only at h); go_split_ands; go_simp; all_goals (with_reducible rfl)
          try simp only [Act.put, List.setIfInBounds_toArray, List.set_cons_zero, List.set_cons_succ]
          refine wB 7 (v := ?v81) rfl (by kernel_rfl) (fun _ _ _ h => h) hF.out (Or.inl ⟨by rfl, ?y81⟩) ?r81
          case y81 => intro w h; (try dsimp only at h); go_split_ands; go_simp; all_goals (with_reducible rfl)
          try simp only [Act.put, List.setIfInBounds_toArray, List.set_cons_zero, List.set_cons_succ]
          refine wB 8 (v := ?v82) rfl (by kernel_rfl) (fun _ _ _ h => h) hF.out (Or.inl ⟨by rfl, ?y82⟩) ?r82
          case y82 => intro w h; (try dsimp only at h); go_split_ands; go_simp; all_goals (with_reducible rfl)
          try simp only [Act.put, List.setIfInBounds_toArray, List.set_cons_zero, List.set_cons_succ]
          refine wB 9 (v := ?v83) rfl (by kernel_rfl) (fun _ _ _ h => h) hF.out (Or.inl ⟨by rfl, ?y83⟩) ?r83
          case y83 => intro w h; (try dsimp only at h); go_split_ands; go_simp; all_goals (with_reducible rfl)
          try simp only [Act.put, List.setIfInBounds_toArray, List.set_cons_zero, List.set_cons_succ]
          refine wB 10 (v := ?v84) rfl (by kernel_rfl) (fun _ _ _ h => h) hF.out (Or.inl ⟨by rfl, ?y84⟩) ?r84
          case y84 => intro w h; (try dsimp only at h); go_split_ands; go_simp; all_goals (with_reducible rfl)
          try simp only [Act.put, List.setIfInBounds_toArray, List.set_cons_zero, List.set_cons_succ]
          refine wB 11 (v := ?v85) rfl (by kernel_rfl) (fun _ _ _ h => h) hF.out (Or.inl ⟨by rfl, ?y85⟩) ?r85
          case y85 => intro w h; (try dsimp only at h); go_split_ands; go_simp; all_goals (with_reducible rfl)
          try simp only [Act.put, List.setIfInBounds_toArray, List.set_cons_zero, List.set_cons_succ]
          refine wpAnyG_twoF (i := 6) (j := 12) rfl rfl (by kernel_rfl) (fun K hK => ?_) (fun K hK => ?_)
          · go_simp
            go_wp2_with (go_at_call 23; refine (HIH.out f (by omega) (by have := HN.out; omega) _ HV0.out).mono ?_; rintro e y ⟨v, rfl, hrow, hbel⟩; have hvs := hbel.size)
            refine hK.out _ _ (HFB.out _ hbel) ?_
            clear hK K
            try simp only [Act.put, List.setIfInBounds_toArray, List.set_cons_zero, List.set_cons_succ]
            refine wpAnyG_oneF (i := 12) rfl (by kernel_rfl) (fun K hK => ?_)
            go_simp
            refine hK.out _ _ (HFB.out _ (hbel.alloc hbel.size _)) ?_
            clear hK K
            try simp only [Act.put, List.setIfInBounds_toArray, List.set_cons_zero, List.set_cons_succ]
            refine wpAnyG_one (i := 13) rfl (by kernel_rfl) (by kernel_rfl) (fun K hK => ?_)
            refine step_appendP rfl (.tmp 26) (.tmp 32) 40 22 rfl 33 rfl V.heap.size i3 _ 2 16 Try.underlying40 hi3 hy3 hz3 hu3 rfl (by decide) v _ _ rfl (hrow.alloc _) ⟨y.heap.size, 0, none⟩ 1 rfl [.int .i64 px, .int .i64 py] rfl (news2' _ _ _) (by simp [Value.oneCell']) (by unfold maxLen; omega) (by omega) (by first | omega | (simp; omega)) (fun v' w' hr' hg' ho' => ?_)
            refine hK.out _ _ ?_
            clear hK K
            try simp only [Act.put, List.setIfInBounds_toArray, List.set_cons_zero, List.set_cons_succ]
            have hEND := hide (slead_end (w := w) HSS.out HST.out hr' (by omega) ((HVw.out.trans ((hbel.alloc hbel.size _).mono (by omega))).grown hg' (by have := hbel.size; first | omega | (simp; omega)) (fun q hq => by have := rows_lt hrow q hq; omega)))
            clear hr' hg' ho' hrow
            refine wpAnyG_one (i := 14) rfl (by kernel_rfl) (by kernel_rfl) (fun K hK => ?_)
            go_simp
            refine hK.out _ _ ?_
            clear hK K
            try simp only [Act.put, List.setIfInBounds_toArray, List.set_cons_zero, List.set_cons_succ]
            refine wpAnyG_done (by kernel_rfl) ?_ _
            go_wp2
            go_ret
            exact hEND.out
          · go_simp
            refine hK.out _ _ (HFB.out _ ((Below.refl _ _).alloc (Nat.le_refl _) _)) ?_
            clear hK K
            try simp only [Act.put, List.setIfInBounds_toArray, List.set_cons_zero, List.set_cons_succ]
            obtain ⟨X1, hX1⟩ : ∃ X1, X1 = V.alloc (.cells #[.int .i64 px, .int .i64 py] 22) := ⟨_, rfl⟩
            rw [← hX1]
            have hbX : Below V.heap.size V X1 := by rw [hX1]; exact (Below.refl _ _).alloc (Nat.le_refl _) _
            have hXs : X1.heap.size = V.heap.size + 1 := by rw [hX1]; simp
            have hnw : ∀ (j : Nat) (u : Value), [Value.int .i64 px, Value.int .i64 py][j]? = some u → X1.cell? ((⟨V.heap.size, 0, none⟩ : Addr).add j) = some u := by rw [hX1]; exact news2' _ _ _
            have HX0 : Hid (Below w0.heap.size w0 X1) := hide (HV0.out.trans (hbX.mono HV0.out.size))
            clear hX1
            refine wpAnyG_oneF (i := 6) rfl (by kernel_rfl) (fun K hK => ?_)
            go_simp
            go_wp2_with (go_at_call 23; refine (HIH.out f (by omega) (by have := HN.out; omega) _ HX0.out).mono ?_; rintro e y ⟨v, rfl, hrow, hbel⟩; have hvs := hbel.size)
            have hbV := hbX.trans (hbel.mono (by omega))
            refine hK.out _ _ (HFB.out _ hbV) ?_
            clear hK K
            try simp only [Act.put, List.setIfInBounds_toArray, List.set_cons_zero, List.set_cons_succ]
            refine wpAnyG_one (i := 13) rfl (by kernel_rfl) (by kernel_rfl) (fun K hK => ?_)
            refine step_appendP rfl (.tmp 26) (.tmp 32) 40 22 rfl 33 rfl X1.heap.size i3 _ 2 16 Try.underlying40 hi3 hy3 hz3 hu3 rfl (by decide) v _ _ rfl hrow ⟨V.heap.size, 0, none⟩ 1 rfl [.int .i64 px, .int .i64 py] rfl (fun j u hu => (hbel.cell (by rw [block_add]; show V.heap.size < _; omega)).trans (hnw j u hu)) (by simp [Value.oneCell']) (by unfold maxLen; omega) (by omega) hvs (fun v' w' hr' hg' ho' => ?_)
            refine hK.out _ _ ?_
            clear hK K
            try simp only [Act.put, List.setIfInBounds_toArray, List.set_cons_zero, List.set_cons_succ]
            have hEND := hide (slead_end (w := w) HSS.out HST.out hr' (by omega) ((HVw.out.trans (hbV.mono (by omega))).grown hg' (by have := hbel.size; first | omega | (simp; omega)) (fun q hq => by have := rows_lt hrow q hq; omega)))
            clear hr' hg' ho' hrow
            refine wpAnyG_one (i := 14) rfl (by kernel_rfl) (by kernel_rfl) (fun K hK => ?_)
            go_simp
            refine hK.out _ _ ?_
            clear hK K
            try simp only [Act.put, List.setIfInBounds_toArray, List.set_cons_zero, List.set_cons_succ]
            refine wpAnyG_done (by kernel_rfl) ?_ _
            go_wp2
            go_ret
            exact hEND.out
        · have hteb : (t == (n : Int)) = false := by simpa using hte
          go_wp2
          go_roundw
          case rel =>
           refine ⟨k + 1, by omega, by simp, hide (fun j E' hj hE' => ?_), hide trivial⟩
           rcases (show j < k ∨ j = k by omega) with h | rfl
           · exact hbef.out j E' h hE'
           · rw [HE.out] at hE'; injection hE' with hE'; subst hE'
             intro e; apply hte; rw [← HT.out, e]
          case measure => simp [intOf]; omega
      · obtain rfl : k = m := by omega
        exact (born_ex HOK.out hn0 HN.out (by rw [HM.out]; exact hbef.out)).elim
end Go.Proofs.Ytmmjopmffpfccaa
namespace Go.Proofs.Ytmmjopmffpfccaa
open Go.RowKit
set_option linter.unusedSimpArgs false
set_option linter.unusedVariables false
def Edg.fl (E : Edg) : Nat × P2 := (E.f, E.l)
section
variable {step : List Int → P2 → List Int × List Int}
theorem Sx.go_fl (B : Sx) (k : Nat) (l : P2) (h : (B.go step k l).full = false) : (B.go step k l).edges.map Edg.fl = B.edges.map Edg.fl ++ [(k, l)] := by
 unfold Sx.go at h ⊢
 (repeat' split at h) <;> (repeat' split) <;> simp_all [Edg.fl]
theorem Sx.walk_fl {B : Sx} {k : Nat} {ls : List P2} (h : (B.walk step k ls).full = false) : (B.walk step k ls).edges.map Edg.fl = B.edges.map Edg.fl ++ ls.map (fun l => (k, l)) := by
 induction ls generalizing B with
 | nil => simp [Sx.walk]
 | cons l ls ih =>
   have h1 : ((B.go step k l).walk step k ls).full = false := h
   have h2 := ih h1
   have h3 := Sx.go_fl B k l (Sx.walk_open h1)
   show ((B.go step k l).walk step k ls).edges.map Edg.fl = _
   rw [h2, h3]; simp
end
def flOf (N n : Nat) : List (Nat × P2) := (List.range n).flatMap fun k => (latesP N (N * N)).map fun l => (k, l)
theorem flOf_succ (N n : Nat) : flOf N (n + 1) = flOf N n ++ (latesP N (N * N)).map fun l => (n, l) := by simp [flOf, List.range_succ]
theorem sx_fl {k0 k1 R Q : Int} {q n : Nat} (h : ∀ j, j < n → (rnds k0 k1 R Q q j).full = false) (hf : (rnds k0 k1 R Q q n).full = false) : (rnds k0 k1 R Q q n).edges.map Edg.fl = flOf (q + 1) n := by
 induction n with
 | zero => simp [rnds, rounds, flOf]
 | succ n ih =>
   have h1 := ih (fun j hj => h j (by omega)) (h n (by omega))
   rw [rnds_succ] at hf ⊢
   rw [Sx.walk_fl hf, h1, flOf_succ]
theorem flOf_mem {q n : Nat} {p : Nat × P2} (h : p ∈ flOf (q + 1) n) : p.1 < n ∧ 0 ≤ p.2.x ∧ p.2.x ≤ (q : Int) ∧ 0 ≤ p.2.y ∧ p.2.y ≤ (q : Int) := by
 simp only [flOf, List.mem_flatMap, List.mem_range, List.mem_map] at h
 obtain ⟨k, hk, l, hl, rfl⟩ := h
 exact ⟨hk, latesP_ok (Nat.le_refl _) l hl⟩
theorem edge_late {es : List Edg} {q n : Nat} (h : es.map Edg.fl = flOf (q + 1) n) {E : Edg} (hE : E ∈ es) : 0 ≤ E.l.x ∧ E.l.x ≤ (q : Int) ∧ 0 ≤ E.l.y ∧ E.l.y ≤ (q : Int) := by
 have : E.fl ∈ flOf (q + 1) n := by rw [← h]; exact List.mem_map_of_mem hE
 exact (flOf_mem this).2
theorem rows_below {w w' : World} {B n : Nat} {e : TypeId} {size : Nat} {v : Value} {xs : List Value} (h : w.ownsRow B e size v n xs) (hb : Below w.heap.size w w') : w'.ownsRow B e size v n xs :=
 rows_kept h (fun g hg => hb.block g (rows_lt h g hg).2)
theorem wayB_mem {G U : List Int → Prop} {X : Sx} (h : SxOk G U X) : ∀ f n, n < X.states.length → ∀ p ∈ wayB X.fr X.bys f n, ∃ E ∈ X.edges, p = E.l
 | 0, n, _, p, hp => by simp [wayB] at hp
 | f + 1, n, hn, p, hp => by
   simp only [wayB] at hp
   split at hp
   · cases hp
   · rename_i h0
     obtain ⟨e, E, h1, h2, h3, h4, _, h6⟩ := h.born n (by omega) hn
     rcases List.mem_cons.1 hp with rfl | hp
     · exact ⟨E, List.mem_of_getElem? h1, by rw [List.getD_eq_getElem?_getD, h4]; rfl⟩
     · have e : (X.fr.getD n 0).toNat = E.f := by rw [List.getD_eq_getElem?_getD, h3]; simp
       rw [e] at hp
       exact wayB_mem h f E.f (by omega) p hp
theorem flat2_S (l : List P2) : flat2 l = flatS (l.map fun p => [p.x, p.y]) := by simp [flat2, flatS, List.flatMap_map]
theorem flatE_S (who ratio : Int) (es : List Edg) : flatE who ratio es = flatS (es.map fun E => [(E.f : Int), (E.t : Int), wtE who ratio E.us]) := by simp [flatE, flatS, List.flatMap_map]
theorem wtE_sml {who ratio : Int} {us : List Int} (hu : UU us) (hw : who = 0 ∨ who = 1) (hr : 1 ≤ ratio ∧ ratio ≤ 100) : -10000 ≤ wtE who ratio us ∧ wtE who ratio us ≤ 100 := by
 obtain ⟨h6, h1⟩ := hu
 obtain ⟨x0, x1, x2, x3, x4, x5, rfl⟩ := len6 h6
 have h2 := h1 x2 (by simp)
 have h3 := h1 x3 (by simp)
 have key : ∀ a b : Int, 0 ≤ a ∧ a ≤ 100 → 0 ≤ b ∧ b ≤ 100 → -10000 ≤ a - ratio * b ∧ a - ratio * b ≤ 100 := fun a b ha hb => by
  have m1 : 0 ≤ ratio * b := Int.mul_nonneg (by omega) (by omega)
  have m2 : ratio * b ≤ 100 * 100 := Int.le_trans (Int.mul_le_mul_of_nonneg_right hr.2 (by omega)) (Int.mul_le_mul_of_nonneg_left hb.2 (by omega))
  omega
 rcases hw with rfl | rfl
 · exact key x2 x3 h2 h3
 · exact key x3 x2 h3 h2
end Go.Proofs.Ytmmjopmffpfccaa
