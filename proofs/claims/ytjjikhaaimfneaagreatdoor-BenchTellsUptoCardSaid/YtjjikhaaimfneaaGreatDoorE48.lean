/-
  Lemmas and walks for the statement: VJud, VJud2.
-/
import Derived.Test.YtjjikhaaimfneaaGreatDoorE47
import Derived.Test.YtjjikhaaimfneaaGreatDoorE36
import Derived.Test.YtjjikhaaimfneaaGreatDoorE32
import Derived.Deep.DeepCutAuto
import Derived.Maps.AppendAt
import Derived.Deep.RegionHeld3
namespace Go.Proofs.YtjjikhaaimfneaaGreatDoor
open Go.RowKit
set_option linter.unusedSimpArgs false
set_option linter.unusedVariables false
attribute [local go_sem] iteMin iteMax iteMinN iteMaxN
theorem step_appendP {ops : Array Oper} {o : Oper} {a : Act} {w : World} {K : Act → World → Prop} {Q : Exit → Act → World → Prop} {E : Prop} (hgd : o.guard = none) (s x : Operand) (t e : TypeId)
 (ho : o.op = .call { callee := .builtin .append, args := #[s, x], argTypes := #[t, t] }) (d : Nat) (hd : o.dst = some d) (base : Nat) (i : TypeInfo) (z : Value) (size bytes : Nat) (ht : Tryz.prog.underlying t = some (.slice e)) (hi : Tryz.prog.info? e = some i) (hz : i.zero = some z)
 (hsize : i.size = size) (hby : i.bytes = bytes) (hzs : z.cells.size = size) (hsz : 0 < size) (v : Value) (n : Nat) (xs : List Value) (hs : a.eval s = v) (hown : w.ownsRow base e size v n xs)
 (ad : Addr) (c : Nat) (hx : a.eval x = .slice (some ad) 1 c) (news : List Value) (hl : news.length = 1 * size) (hnews : ∀ j u, news[j]? = some u → w.cell? (ad.add j) = some u) (h1 : ∀ u ∈ news, u.oneCell' = true)
 (h63 : n + 1 ≤ maxLen) (hbytes : (n + 1) * bytes ≤ 140737488355328) (hbase : base ≤ w.heap.size)
 (hK : ∀ v' w', w'.ownsRow base e size v' (n + 1) (xs ++ news) → w.grownBy w' v.ownBlock → (v'.ownBlock = v.ownBlock ∨ v'.ownBlock = some w.heap.size) → K (a.put (some d) v') w') :
 if Region.wanted o (yielded ops a.tmps) = true then Oper.wp Tryz.prog o a w K Q else E := by
 have hw : Region.wanted o (yielded ops a.tmps) = true := by simp [Region.wanted, hgd]
 rw [if_pos hw]
 obtain ⟨v', w', hr, h2, h3, _, h4⟩ := run_append_own_at w base t o.type e i z size bytes ht hi hz hsize hby hzs hsz v n xs hown ad 1 c news hl hnews h1 h63 hbytes hbase
 unfold Oper.wp execOp
 simp only [ho, resolve, invoke, builtin, Sem.run_bind, Sem.run_pure, Result.andThen_ok, List.map_toArray, List.map_cons, List.map_nil, hs, hx, hr]
 rw [Oper.upon_value, hd]
 exact hK v' w' h2 h3 h4
theorem meas9 {n m : Nat} (h : m < n) : n - ((m : Int) + 1).toNat < n - (m : Int).toNat := by omega
theorem row_type {w : World} {B n size g : Nat} {e t : TypeId} {v : Value} {xs : List Value} {arr : Array Value} (h : w.ownsRow B e size v n xs) (hT : w.heap[g]? = some (.cells arr t)) (hne : e ≠ t) : v.ownBlock ≠ some g := by
 intro hg
 rcases h.2 with ⟨rfl, _⟩ | ⟨g', cap, cur, rfl, _, hh, _⟩
 · simp [Value.ownBlock] at hg
 · simp only [Value.ownBlock, Option.some.injEq] at hg
   subst hg
   rw [hT] at hh
   injection hh with hh
   injection hh with _ h2
   exact hne h2.symm
theorem Blk.d4 {Z : World} {b : Nat} {v0 v1 v2 v3 : Value} (h : Blk Z b [v0, v1, v2, v3]) : Z.cell? ⟨b, 0, none⟩ = some v0 ∧ Z.cell? ⟨b, 1, none⟩ = some v1 ∧ Z.cell? ⟨b, 2, none⟩ = some v2 ∧ Z.cell? ⟨b, 3, none⟩ = some v3 :=
 ⟨(h 0 _ rfl).1, (h 1 _ rfl).1, (h 2 _ rfl).1, (h 3 _ rfl).1⟩
theorem ver_fin {w wr : World} {S B : Nat} {x0 x1 x2 x3 y0 y1 y2 y3 : Value} (b : Blk wr B [x0, x1, x2, x3]) (hB : Below S w wr) (hS : S ≤ B) : ∃ Z, Z = ((((wr.setCell ⟨B, 0, none⟩ y0).setCell ⟨B, 1, none⟩ y1).setCell ⟨B, 2, none⟩ y2).setCell ⟨B, 3, none⟩ y3) ∧ Blk Z B [y0, y1, y2, y3] ∧ Below S w Z ∧ ∀ g, g ≠ B → Z.heap[g]? = wr.heap[g]? :=
 ⟨_, rfl, ((((b.set (j := 0) (by simp) y0).set (j := 1) (by simp) y1).set (j := 2) (by simp) y2).set (j := 3) (by simp) y3), (((hB.setCell (p := ⟨B, 0, none⟩) hS y0).setCell (p := ⟨B, 1, none⟩) hS y1).setCell (p := ⟨B, 2, none⟩) hS y2).setCell (p := ⟨B, 3, none⟩) hS y3,
  fun g hg => (Below.heap_setCell _ ⟨B, 3, none⟩ y3 g hg).trans ((Below.heap_setCell _ ⟨B, 2, none⟩ y2 g hg).trans ((Below.heap_setCell _ ⟨B, 1, none⟩ y1 g hg).trans (Below.heap_setCell _ ⟨B, 0, none⟩ y0 g hg)))⟩
set_option maxRecDepth 100000 in
set_option maxHeartbeats 4000000 in
theorem jud_err (k0 k1 R Q J who ratio r : Int) (w : World) (hr : r ≠ 0) (h : ∀ w : World, Calls Tryz.prog 22 #[.agg #[.int .i64 k0, .int .i64 k1, .int .i64 R, .int .i64 Q, .int .i64 J], .int .i64 who, .int .i64 ratio] w fun e w' => e = .returned (.tuple #[.agg #[.int .i64 0, .slice none 0 0], .int .i64 r]) ∧ Below w.heap.size w w') :
 Calls Tryz.prog 21 #[.agg #[.int .i64 k0, .int .i64 k1, .int .i64 R, .int .i64 Q, .int .i64 J], .int .i64 who, .int .i64 ratio] w fun e w' => e = .returned (.tuple #[.agg #[.int .i64 0, .int .i64 0, .slice none 0 0, .slice none 0 0], .int .i64 r]) ∧ Below w.heap.size w w' := by
 have hrb : ((r : Int) == 0) = false := by simpa using hr
 have HH := hide h
 clear h hr
 obtain ⟨S, hS⟩ : ∃ S, w.heap.size = S := ⟨_, rfl⟩
 go_enter Tryz.func21, Tryz.ntmps21
 go_upto_region 1 with fail
 obtain ⟨W, hW⟩ : ∃ W, W = (w.alloc (.cells #[.int .i64 k0, .int .i64 k1, .int .i64 R, .int .i64 Q, .int .i64 J] 49)).alloc (.cells #[.int .i64 0, .int .i64 0, .slice none 0 0, .slice none 0 0] 52) := ⟨_, rfl⟩
 rw [← hW]
 have R0 : Blk W S [.int .i64 k0, .int .i64 k1, .int .i64 R, .int .i64 Q, .int .i64 J] := by
  have := (Blk.new w [.int .i64 k0, .int .i64 k1, .int .i64 R, .int .i64 Q, .int .i64 J] 49).alloc (.cells #[.int .i64 0, .int .i64 0, .slice none 0 0, .slice none 0 0] 52)
  rw [hW]; simpa [hS] using this
 have R1 : Blk W (S + 1) [.int .i64 0, .int .i64 0, .slice none 0 0, .slice none 0 0] := by
  have := Blk.new (w.alloc (.cells #[.int .i64 k0, .int .i64 k1, .int .i64 R, .int .i64 Q, .int .i64 J] 49)) [.int .i64 0, .int .i64 0, .slice none 0 0, .slice none 0 0] 52
  rw [hW]; simpa [hS] using this
 have BS : Below S w W := by rw [hW, ← hS]; exact ((Below.refl _ _).alloc (Nat.le_refl _) _).alloc (by simp) _
 have T1 : W.heap[S + 1]? = some (.cells #[.int .i64 0, .int .i64 0, .slice none 0 0, .slice none 0 0] 52) := by
  have := heap_alloc_new (w.alloc (.cells #[.int .i64 k0, .int .i64 k1, .int .i64 R, .int .i64 Q, .int .i64 J] 49)) (.cells #[.int .i64 0, .int .i64 0, .slice none 0 0, .slice none 0 0] 52)
  rw [hW]; simpa [hS] using this
 clear hW
 obtain ⟨r_0, r_1, r_2, r_3, r_4⟩ := R0.c5
 have H0 := hide R0; have H1 := hide R1; have HB := hide BS
 clear R0 R1 BS
 go_wp2_with fail
 refine (HH.out W).mono ?_
 rintro e w1 ⟨rfl, hA⟩
 clear r_0 r_1 r_2 r_3 r_4
 have R1 := H1.out.below hA H1.out.lt
 have BS := HB.out.trans (hA.mono (Nat.le_of_lt H0.out.lt))
 obtain ⟨V, hV⟩ : ∃ V, V = w1.alloc (.cells #[.int .i64 0, .slice none 0 0] 57) := ⟨_, rfl⟩
 have R1 := R1.alloc (.cells #[.int .i64 0, .slice none 0 0] 57)
 have BS := BS.alloc (by have := hA.size; have := H0.out.lt; omega) (.cells #[.int .i64 0, .slice none 0 0] 57)
 rw [← hV] at R1 BS
 have HR := hide R1; have HBS := hide BS
 go_upto_region 2 with fail
 rw [← hV]
 clear hV hA BS
 have f0 := (R1 0 _ rfl).2; have f1 := (R1 1 _ rfl).2; have f2 := (R1 2 _ rfl).2; have f3 := (R1 3 _ rfl).2
 obtain ⟨z0, z1, z2, z3⟩ := R1.d4
 clear R1
 go_wp2
 obtain ⟨Z, hZ, z, zB, -⟩ := ver_fin (y0 := .int .i64 0) (y1 := .int .i64 0) (y2 := .slice none 0 0) (y3 := .slice none 0 0) HR.out HBS.out (by omega)
 rw [← hZ]
 obtain ⟨c0, c1, c2, c3⟩ := z.d4
 refine bodyPost_ret (v := .tuple #[.agg #[.int .i64 0, .int .i64 0, .slice none 0 0, .slice none 0 0], .int .i64 r]) ?_ rfl ⟨rfl, ?_⟩
 · simp [results, Tryz.f21, go_sem, c0, c1, c2, c3]
 · rw [hS]; exact zB
set_option maxRecDepth 100000 in
set_option maxHeartbeats 8000000 in
theorem jud_pot (k0 k1 R Q J who ratio : Int) (X : Sx) (w : World) (hs : Srch k0 k1 R Q J 0 X) (hga : goodArgs who ratio) (hp : HasPot (geOf X who ratio)) :
 Calls Tryz.prog 21 #[.agg #[.int .i64 k0, .int .i64 k1, .int .i64 R, .int .i64 Q, .int .i64 J], .int .i64 who, .int .i64 ratio] w fun e w' => e = .returned (.tuple #[.agg #[.int .i64 1, .int .i64 (mostOf X.states.length (geOf X who ratio)), .slice none 0 0, .slice none 0 0], .int .i64 0]) ∧ Below w.heap.size w w' := by
 have SG := hide (srch_good hs)
 have HSR := hide hs
 have HGA := hide hga
 have HP := hide hp
 clear hs hga hp
 obtain ⟨S, hS⟩ : ∃ S, w.heap.size = S := ⟨_, rfl⟩
 go_enter Tryz.func21, Tryz.ntmps21
 go_upto_region 1 with fail
 obtain ⟨W, hW⟩ : ∃ W, W = (w.alloc (.cells #[.int .i64 k0, .int .i64 k1, .int .i64 R, .int .i64 Q, .int .i64 J] 49)).alloc (.cells #[.int .i64 0, .int .i64 0, .slice none 0 0, .slice none 0 0] 52) := ⟨_, rfl⟩
 rw [← hW]
 have R0 : Blk W S [.int .i64 k0, .int .i64 k1, .int .i64 R, .int .i64 Q, .int .i64 J] := by
  have := (Blk.new w [.int .i64 k0, .int .i64 k1, .int .i64 R, .int .i64 Q, .int .i64 J] 49).alloc (.cells #[.int .i64 0, .int .i64 0, .slice none 0 0, .slice none 0 0] 52)
  rw [hW]; simpa [hS] using this
 have R1 : Blk W (S + 1) [.int .i64 0, .int .i64 0, .slice none 0 0, .slice none 0 0] := by
  have := Blk.new (w.alloc (.cells #[.int .i64 k0, .int .i64 k1, .int .i64 R, .int .i64 Q, .int .i64 J] 49)) [.int .i64 0, .int .i64 0, .slice none 0 0, .slice none 0 0] 52
  rw [hW]; simpa [hS] using this
 have BS : Below S w W := by rw [hW, ← hS]; exact ((Below.refl _ _).alloc (Nat.le_refl _) _).alloc (by simp) _
 have T1 : W.heap[S + 1]? = some (.cells #[.int .i64 0, .int .i64 0, .slice none 0 0, .slice none 0 0] 52) := by
  have := heap_alloc_new (w.alloc (.cells #[.int .i64 k0, .int .i64 k1, .int .i64 R, .int .i64 Q, .int .i64 J] 49)) (.cells #[.int .i64 0, .int .i64 0, .slice none 0 0, .slice none 0 0] 52)
  rw [hW]; simpa [hS] using this
 clear hW
 obtain ⟨r_0, r_1, r_2, r_3, r_4⟩ := R0.c5
 have H0 := hide R0; have H1 := hide R1; have HB := hide BS
 clear R0 R1 BS
 go_wp2_with fail
 refine (graph_srch HSR.out who ratio W HGA.out).mono ?_
 rintro e w1 hres
 clear r_0 r_1 r_2 r_3 r_4
 rcases hres with ⟨h0, _⟩ | ⟨_, v, B, rfl, hrow, hA⟩
 · exact absurd rfl h0
 obtain ⟨a, c, hv⟩ := sliceShape hrow
 subst hv
 have hE := edgesAt_row hrow rfl SG.out.most
 have R0 := H0.out.below hA H0.out.lt
 have R1 := H1.out.below hA H1.out.lt
 have BS := HB.out.trans (hA.mono (Nat.le_of_lt H0.out.lt))
 have T1 := (hA.block (S + 1) H1.out.lt).trans T1
 obtain ⟨N, hN⟩ : ∃ N, X.states.length = N := ⟨_, rfl⟩
 obtain ⟨n, hn⟩ : ∃ n, X.edges.length = n := ⟨_, rfl⟩
 obtain ⟨es, hes⟩ : ∃ es, geOf X who ratio = es := ⟨_, rfl⟩
 have hG : GraphOk (N : Int) es := by rw [← hN, ← hes]; exact geOf_ok SG.out.ok SG.out.most HGA.out
 rw [hn, hes] at hE
 have HN := hide hN; have Hn := hide hn; have HES := hide hes; have HG := hide hG
 rw [hN, hn]
 clear hrow hN hn hes hG
 obtain ⟨V, hV⟩ : ∃ V, V = w1.alloc (.cells #[.int .i64 N, .slice a n c] 57) := ⟨_, rfl⟩
 obtain ⟨FB, hFB⟩ : ∃ FB, w1.heap.size = FB := ⟨_, rfl⟩
 have hAs : S + 1 < FB := by have := R1.lt; omega
 have R0 := R0.alloc (.cells #[.int .i64 N, .slice a n c] 57)
 have R1 := R1.alloc (.cells #[.int .i64 N, .slice a n c] 57)
 have R2 := Blk.new w1 [.int .i64 N, .slice a n c] 57
 have BS := BS.alloc (by omega) (.cells #[.int .i64 N, .slice a n c] 57)
 have hE := hE.below ((Below.refl w1.heap.size w1).alloc (Nat.le_refl _) (.cells #[.int .i64 N, .slice a n c] 57))
 have T1 := (heap_alloc_old w1 (.cells #[.int .i64 N, .slice a n c] 57) (show S + 1 < w1.heap.size by omega)).trans T1
 rw [← hV] at R0 R1 R2 BS hE T1
 rw [hFB] at R2
 go_upto_region 4 with fail
 (try rw [hFB])
 rw [← hV]
 clear hV hA hFB H0 H1 HB
 obtain ⟨g_0, g_1⟩ := R2.c2
 have H0 := hide R0; have H1 := hide R1; have H2 := hide R2; have HB := hide BS
 clear R0 R1 R2 BS
 go_wp2_with fail
 refine (most_ok N a n c es V hE HG.out).mono ?_
 rintro e w2 ⟨hm, hA⟩
 clear g_0 g_1
 have R0 := H0.out.below hA H0.out.lt
 have R1 := H1.out.below hA H1.out.lt
 have R2 := H2.out.below hA H2.out.lt
 have BS := HB.out.trans (hA.mono (Nat.le_of_lt H0.out.lt))
 have hE := hE.below hA
 have T1 := (hA.block (S + 1) H1.out.lt).trans T1
 clear hA H0 H1 H2 HB
 rcases hm with ⟨h1, _⟩ | ⟨_, _, b, d, rfl, hI⟩ | ⟨_, h1, _⟩
 · exact absurd HG.out h1
 case inr.inr => exact absurd (by rw [← HES.out]; exact HP.out) h1
 rw [Int.toNat_natCast] at hI
 rw [Int.toNat_natCast]
 have hN1 : 0 < N := by have := SG.out.ok.one; have := HN.out; omega
 have HH0 := hide R0; have HR := hide R1; have HBS := hide BS
 clear R0 R1 R2 BS hE
 go_wp2_with fail
 refine (smax_any b N d _ w2 hI hN1 (fun x hx => ?_)).mono ?_
 · simp only [tabI, List.mem_map, List.mem_range] at hx
   obtain ⟨v, hv, rfl⟩ := hx
   exact (siter_b HG.out N v).1
 rintro e w3 ⟨rfl, rfl⟩
 obtain ⟨mo, hmo⟩ : ∃ mo, (tabI N (siter (pes es) N)).foldl max 0 = mo := ⟨_, rfl⟩
 have HMO : Hid (mostOf X.states.length (geOf X who ratio) = mo) := hide (by rw [HN.out, HES.out]; exact hmo)
 rw [hmo]
 have R1 := HR.out
 have f0 := (R1 0 _ rfl).2; have f1 := (R1 1 _ rfl).2; have f2 := (R1 2 _ rfl).2; have f3 := (R1 3 _ rfl).2
 obtain ⟨z0, z1, z2, z3⟩ := R1.d4
 clear R1 hI hmo
 go_wp2
 obtain ⟨Z, hZ, z, zB, -⟩ := ver_fin (y0 := .int .i64 1) (y1 := .int .i64 mo) (y2 := .slice none 0 0) (y3 := .slice none 0 0) HR.out HBS.out (by omega)
 rw [← hZ]
 obtain ⟨c0, c1, c2, c3⟩ := z.d4
 refine bodyPost_ret (v := .tuple #[.agg #[.int .i64 1, .int .i64 mo, .slice none 0 0, .slice none 0 0], .int .i64 0]) ?_ rfl ⟨by rw [HMO.out], ?_⟩
 · simp [results, Tryz.f21, go_sem, c0, c1, c2, c3]
 · rw [hS]; exact zB
end Go.Proofs.YtjjikhaaimfneaaGreatDoor
namespace Go.Proofs.YtjjikhaaimfneaaGreatDoor
open Go.RowKit
set_option linter.unusedSimpArgs false
set_option linter.unusedVariables false
attribute [local go_sem] iteMin iteMax iteMinN iteMaxN
set_option maxRecDepth 100000 in
set_option maxHeartbeats 8000000 in
theorem jud_star (k0 k1 R Q J who ratio : Int) (X : Sx) (w : World) (hs : Srch k0 k1 R Q J 0 X) (hga : goodArgs who ratio) (hp : ¬ HasPot (geOf X who ratio)) :
 Calls Tryz.prog 21 #[.agg #[.int .i64 k0, .int .i64 k1, .int .i64 R, .int .i64 Q, .int .i64 J], .int .i64 who, .int .i64 ratio] w fun e w' => (∃ lv rv ld rd, e = .returned (.tuple #[.agg #[.int .i64 2, .int .i64 0, lv, rv], .int .i64 0]) ∧ VWay k0 k1 R Q J who ratio w' lv rv ld rd) ∧ Below w.heap.size w w' := by
 have SG := hide (srch_good hs)
 have HSR := hide hs
 have HGA := hide hga
 have HP := hide hp
 clear hs hga hp
 obtain ⟨S, hS⟩ : ∃ S, w.heap.size = S := ⟨_, rfl⟩
 go_enter Tryz.func21, Tryz.ntmps21
 go_upto_region 1 with fail
 obtain ⟨W, hW⟩ : ∃ W, W = (w.alloc (.cells #[.int .i64 k0, .int .i64 k1, .int .i64 R, .int .i64 Q, .int .i64 J] 49)).alloc (.cells #[.int .i64 0, .int .i64 0, .slice none 0 0, .slice none 0 0] 52) := ⟨_, rfl⟩
 rw [← hW]
 have R0 : Blk W S [.int .i64 k0, .int .i64 k1, .int .i64 R, .int .i64 Q, .int .i64 J] := by
  have := (Blk.new w [.int .i64 k0, .int .i64 k1, .int .i64 R, .int .i64 Q, .int .i64 J] 49).alloc (.cells #[.int .i64 0, .int .i64 0, .slice none 0 0, .slice none 0 0] 52)
  rw [hW]; simpa [hS] using this
 have R1 : Blk W (S + 1) [.int .i64 0, .int .i64 0, .slice none 0 0, .slice none 0 0] := by
  have := Blk.new (w.alloc (.cells #[.int .i64 k0, .int .i64 k1, .int .i64 R, .int .i64 Q, .int .i64 J] 49)) [.int .i64 0, .int .i64 0, .slice none 0 0, .slice none 0 0] 52
  rw [hW]; simpa [hS] using this
 have BS : Below S w W := by rw [hW, ← hS]; exact ((Below.refl _ _).alloc (Nat.le_refl _) _).alloc (by simp) _
 have T1 : W.heap[S + 1]? = some (.cells #[.int .i64 0, .int .i64 0, .slice none 0 0, .slice none 0 0] 52) := by
  have := heap_alloc_new (w.alloc (.cells #[.int .i64 k0, .int .i64 k1, .int .i64 R, .int .i64 Q, .int .i64 J] 49)) (.cells #[.int .i64 0, .int .i64 0, .slice none 0 0, .slice none 0 0] 52)
  rw [hW]; simpa [hS] using this
 clear hW
 obtain ⟨r_0, r_1, r_2, r_3, r_4⟩ := R0.c5
 have H0 := hide R0; have H1 := hide R1; have HB := hide BS
 clear R0 R1 BS
 go_wp2_with fail
 refine (graph_srch HSR.out who ratio W HGA.out).mono ?_
 rintro e w1 hres
 clear r_0 r_1 r_2 r_3 r_4
 rcases hres with ⟨h0, _⟩ | ⟨_, v, B, rfl, hrow, hA⟩
 · exact absurd rfl h0
 obtain ⟨a, c, hv⟩ := sliceShape hrow
 subst hv
 have hE := edgesAt_row hrow rfl SG.out.most
 have R0 := H0.out.below hA H0.out.lt
 have R1 := H1.out.below hA H1.out.lt
 have BS := HB.out.trans (hA.mono (Nat.le_of_lt H0.out.lt))
 have T1 := (hA.block (S + 1) H1.out.lt).trans T1
 obtain ⟨N, hN⟩ : ∃ N, X.states.length = N := ⟨_, rfl⟩
 obtain ⟨n, hn⟩ : ∃ n, X.edges.length = n := ⟨_, rfl⟩
 obtain ⟨es, hes⟩ : ∃ es, geOf X who ratio = es := ⟨_, rfl⟩
 have hG : GraphOk (N : Int) es := by rw [← hN, ← hes]; exact geOf_ok SG.out.ok SG.out.most HGA.out
 rw [hn, hes] at hE
 have HN := hide hN; have Hn := hide hn; have HES := hide hes; have HG := hide hG
 rw [hN, hn]
 clear hrow hN hn hes hG
 obtain ⟨V, hV⟩ : ∃ V, V = w1.alloc (.cells #[.int .i64 N, .slice a n c] 57) := ⟨_, rfl⟩
 obtain ⟨FB, hFB⟩ : ∃ FB, w1.heap.size = FB := ⟨_, rfl⟩
 have hAs : S + 1 < FB := by have := R1.lt; omega
 have R0 := R0.alloc (.cells #[.int .i64 N, .slice a n c] 57)
 have R1 := R1.alloc (.cells #[.int .i64 N, .slice a n c] 57)
 have R2 := Blk.new w1 [.int .i64 N, .slice a n c] 57
 have BS := BS.alloc (by omega) (.cells #[.int .i64 N, .slice a n c] 57)
 have hE := hE.below ((Below.refl w1.heap.size w1).alloc (Nat.le_refl _) (.cells #[.int .i64 N, .slice a n c] 57))
 have T1 := (heap_alloc_old w1 (.cells #[.int .i64 N, .slice a n c] 57) (show S + 1 < w1.heap.size by omega)).trans T1
 rw [← hV] at R0 R1 R2 BS hE T1
 rw [hFB] at R2
 go_upto_region 4 with fail
 (try rw [hFB])
 rw [← hV]
 clear hV hA hFB H0 H1 HB
 obtain ⟨g_0, g_1⟩ := R2.c2
 have H0 := hide R0; have H1 := hide R1; have H2 := hide R2; have HB := hide BS
 clear R0 R1 R2 BS
 go_wp2_with fail
 refine (most_ok N a n c es V hE HG.out).mono ?_
 rintro e w2 ⟨hm, hA⟩
 clear g_0 g_1
 have R0 := H0.out.below hA H0.out.lt
 have R1 := H1.out.below hA H1.out.lt
 have R2 := H2.out.below hA H2.out.lt
 have BS := HB.out.trans (hA.mono (Nat.le_of_lt H0.out.lt))
 have hE := hE.below hA
 have T1 := (hA.block (S + 1) H1.out.lt).trans T1
 clear hA H0 H1 H2 HB
 rcases hm with ⟨h1, _⟩ | ⟨_, h1, _⟩ | ⟨_, _, rfl⟩
 · exact absurd HG.out h1
 · exact absurd (by rw [HES.out]; exact h1) HP.out
 obtain ⟨g_0, g_1⟩ := R2.c2
 have H0 := hide R0; have H1 := hide R1; have H2 := hide R2; have HB := hide BS
 clear R0 R1 R2 BS
 go_wp2_with fail
 refine (cycle_ok N a n c es w2 hE HG.out).mono ?_
 rintro e w3 ⟨hcy, hA⟩
 clear g_0 g_1
 rcases hcy with ⟨h1, _⟩ | ⟨_, h1, _⟩ | ⟨_, _, b, m, d, ns, rfl, hI, hcs⟩
 · exact absurd HG.out h1
 · exact absurd (by rw [HES.out]; exact h1) HP.out
 rw [Int.toNat_natCast] at hcs
 have R0 := H0.out.below hA H0.out.lt
 have R1 := H1.out.below hA H1.out.lt
 have R2 := H2.out.below hA H2.out.lt
 have BS := HB.out.trans (hA.mono (Nat.le_of_lt H0.out.lt))
 have hE := hE.below hA
 have T1 := (hA.block (S + 1) H1.out.lt).trans T1
 clear hA H0 H1 H2 HB
 obtain ⟨c1, c2, f1, f2, hn1, hf1, hn2, hf2, hends⟩ := hcs.ends
 have hfo := HG.out.2 _ (List.mem_of_getElem? hf1)
 unfold EdgeOk at hfo
 obtain ⟨mm, hmm⟩ : ∃ mm : Nat, f1.src = (mm : Int) := ⟨f1.src.toNat, by omega⟩
 have hmN : mm < X.states.length := by have := HN.out; omega
 have hm0 : 0 < m := by rw [← hI.len]; exact hcs.pos
 obtain ⟨adn, y0, rfl, hby, e0, HY0⟩ := hI.get0 (Below.refl _ _) hm0
 obtain rfl : y0 = (c1 : Int) := by have := HY0.out; rw [hn1] at this; injection this with this; exact this.symm
 have hc1 : c1 < n := by rw [← hE.len]; exact (List.getElem?_eq_some_iff.1 hf1).1
 obtain ⟨ade, x1, x2, x3, rfl, hbe, HX, l0, l1, l2⟩ := hE.getB (Below.refl _ _) hc1
 obtain rfl : x1 = (mm : Int) := by have := HX.out; rw [hf1] at this; injection this with this; rw [this] at hmm; exact hmm
 have hc10 : (0 : Int) ≤ (c1 : Int) := Int.natCast_nonneg _
 have hc1' : (c1 : Int) < (n : Int) := by omega
 have hm0' : (0 : Int) < (m : Int) := by omega
 have HC : Hid (∀ w', Below w3.heap.size w3 w' → w'.cell? ⟨S, 0, none⟩ = some (.int .i64 k0) ∧ w'.cell? ⟨S, 1, none⟩ = some (.int .i64 k1) ∧ w'.cell? ⟨S, 2, none⟩ = some (.int .i64 R) ∧ w'.cell? ⟨S, 3, none⟩ = some (.int .i64 Q) ∧ w'.cell? ⟨S, 4, none⟩ = some (.int .i64 J) ∧ w'.cell? ⟨FB, 1, none⟩ = some (.slice (some ade) n c) ∧ w'.cell? adn = some (.int .i64 c1) ∧ w'.cell? (ade.add (c1 * 3)) = some (.int .i64 mm)) := hide (fun w' hb => by
  obtain ⟨a0, a1, a2, a3, a4⟩ := (R0.below hb R0.lt).c5
  exact ⟨a0, a1, a2, a3, a4, ((R2.below hb R2.lt) 1 _ rfl).1, (hb.cell (World.block_lt_of_cell? w3 _ e0)).trans e0, (hb.cell (World.block_lt_of_cell? w3 _ l0)).trans l0⟩)
 obtain ⟨ld, hld⟩ : ∃ ld, (wayB X.fr X.bys mm mm).reverse = ld := ⟨_, rfl⟩
 have HLEAD : Hid (∀ W : World, Calls Tryz.prog 41 #[.agg #[.int .i64 k0, .int .i64 k1, .int .i64 R, .int .i64 Q, .int .i64 J], .int .i64 mm] W fun e w' => (∃ la lc B, e = .returned (.tuple #[.slice la ld.length lc, .int .i64 0]) ∧ w'.ownsRow B 47 2 (.slice la ld.length lc) ld.length (flat2 ld)) ∧ Below W.heap.size W w') := hide (fun W => (lead_srch HSR.out (mm : Int) W).mono (by
  rintro e w' hres
  rcases hres with ⟨h0, _⟩ | ⟨_, hl, hb⟩
  · exact absurd rfl h0
  · rcases hl with ⟨h1, _⟩ | ⟨m', hm', hlt, v, B, rfl, hrow⟩
    · omega
    · obtain rfl : mm = m' := by omega
      rw [hld] at hrow
      obtain ⟨la, lc, rfl⟩ := sliceShape hrow
      exact ⟨⟨la, lc, B, rfl, hrow⟩, hb⟩))
 have hs3 : S + 1 < w3.heap.size := R1.lt
 have HR1 := hide R1; have HR0 := hide R0; have HBS := hide BS; have HI := hide hI; have HCS := hide hcs; have HLD := hide hld
 have HN1 := hide hn1; have HF1 := hide hf1; have HMM := hide hmm
 clear R0 R1 R2 BS hI hcs hld hE e0 l0 l1 l2 hn1 hf1 hn2 hf2 hends hfo hmm HX HY0 hby hbe
 go_upto_region 10 with fail
 go_region_held3 (fun w' => w'.cell? ⟨S, 0, none⟩ = some (.int .i64 k0) ∧ w'.cell? ⟨S, 1, none⟩ = some (.int .i64 k1) ∧ w'.cell? ⟨S, 2, none⟩ = some (.int .i64 R) ∧ w'.cell? ⟨S, 3, none⟩ = some (.int .i64 Q) ∧ w'.cell? ⟨S, 4, none⟩ = some (.int .i64 J) ∧ w'.cell? ⟨FB, 1, none⟩ = some (.slice (some ade) n c) ∧ w'.cell? adn = some (.int .i64 c1) ∧ w'.cell? (ade.add (c1 * 3)) = some (.int .i64 mm)) (((try dsimp only); exact HC.out _ (by (repeat' (first | (with_reducible assumption) | (with_reducible exact Below.refl _ _) | (with_reducible refine Below.alloc ?_ ?_ _) | (with_reducible refine Below.drew ?_) | (with_reducible refine Below.drewN ?_ _) | (with_reducible refine Below.trans ?_ (B2.mono ?_)) | omega | (simp; done) | (simp; omega))))))
  ((go_at_call 41; refine (HLEAD.out _).mono ?_; rintro e w4 ⟨⟨la, lc, B4, rfl, hrow4⟩, B2⟩; have hs4 := B2.size; (try simp at hs4)))
 all_goals trace "WAY"
 go_upto_region 12 with fail
 obtain ⟨q, hJq, hq3, hfl, hst⟩ := SG.out.fl
 have hB4 : Below w3.heap.size w3 w4 := by (repeat' (first | (with_reducible assumption) | (with_reducible exact Below.refl _ _) | (with_reducible refine Below.alloc ?_ ?_ _) | (with_reducible refine Below.drew ?_) | (with_reducible refine Below.drewN ?_ _) | (with_reducible refine Below.trans ?_ (B2.mono ?_)) | omega | (simp; done) | (simp; omega)))
 have T1 := (hB4.block (S + 1) HR1.out.lt).trans T1
 have hlv := row_type hrow4 T1 (by decide)
 have R0 := HR0.out.below hB4 HR0.out.lt
 have R1 := HR1.out.below hB4 HR1.out.lt
 have BS := HBS.out.trans (hB4.mono (by omega))
 have HI4 := hide (HI.out.below hB4)
 obtain ⟨VB, hVB⟩ : ∃ VB, w4.heap.size = VB := ⟨_, rfl⟩
 have hSV : S + 1 < VB := by rw [← hVB]; exact R1.lt
 obtain ⟨W5, hW5⟩ : ∃ W5, W5 = w4.alloc (.cells #[.int .i64 2, .int .i64 0, .slice la ld.length lc, .slice none 0 0] 52) := ⟨_, rfl⟩
 have P0 : Blk W5 VB [.int .i64 2, .int .i64 0, .slice la ld.length lc, .slice none 0 0] := by
  have := Blk.new w4 [.int .i64 2, .int .i64 0, .slice la ld.length lc, .slice none 0 0] 52
  rw [hW5, ← hVB]; exact this
 have HP0 := hide P0
 have HB5 : Hid (Below VB w4 W5) := hide (by rw [hW5, ← hVB]; exact (Below.refl _ _).alloc (Nat.le_refl _) _)
 have HLATE : Hid (∀ (k : Nat) (W : World), k ≤ 4800 → Calls Tryz.prog 42 #[.agg #[.int .i64 k0, .int .i64 k1, .int .i64 R, .int .i64 Q, .int .i64 J], .int .i64 k] W fun e w' => e = .returned (.agg #[.int .i64 (lateF (q + 1) k).x, .int .i64 (lateF (q + 1) k).y]) ∧ Below W.heap.size W w') := hide (fun k W hk => by rw [hJq]; exact late_any k0 k1 R Q q k W hq3 hk)
 obtain ⟨L, hL⟩ : ∃ L : Int → P2, L = fun n => lateF (q + 1) n.toNat := ⟨_, rfl⟩
 have HL := hide hL
 have H0r : Hid (W5.ownsRow (VB + 1) 47 2 (.slice none 0 0) 0 (flat2 ((ns.take 0).map L))) := hide ⟨by simp [flat2], .inl ⟨rfl, rfl⟩⟩
 have HR0 := hide R0; have HR1 := hide R1; have HBS := hide BS; have HROW := hide hrow4
 have HML := hide HI4.out.len
 have hlim := HI4.out.lim
 have HVB := hide hVB
 have HJQ := hide hJq
 have hmN3 : m ≤ 300 := by have := HCS.out.le; have := HI4.out.len; have := HG.out.1.2.1; omega
 have HCL : Hid (∀ k < m, ∃ ck : Nat, ns[k]? = some (ck : Int) ∧ ck ≤ 4800) := hide (fun k hk => by
  obtain ⟨mq, eq, a1, a2, _⟩ := HCS.out.ok k (by rw [HML.out]; exact hk)
  have := (List.getElem?_eq_some_iff.1 a2).1
  have := HG.out.1.2.2
  exact ⟨mq, a1, by omega⟩)
 (try rw [hVB])
 rw [← hW5]
 clear hW5 hB4 R0 R1 BS hrow4 P0 hJq hfl hst hL hs4
 go_wp2_with fail
 obtain ⟨i3, hi3, hy3, hz3, hu3⟩ := info_parts infoPair
 go_loopw [64] (fun i wr => ∃ (k : Nat) (rv : Value), k ≤ m ∧ i = .int .i64 k ∧ Hid (Blk wr VB [.int .i64 2, .int .i64 0, .slice la ld.length lc, rv]) ∧ Hid (wr.ownsRow (VB + 1) 47 2 rv k (flat2 ((ns.take k).map L))) ∧ Hid (Below VB w4 wr)) (fun i _ => m - (intOf i).toNat)
 case atStart => exact ⟨0, _, Nat.zero_le _, rfl, HP0, H0r, HB5⟩
 case round =>
  clear HP0 H0r HB5 W5
  obtain ⟨k, rv, hk, rfl, HP, HO, HBw⟩ := hrel
  have kk0 : (0 : Int) ≤ (k : Int) := Int.natCast_nonneg _
  by_cases hlt : k < m
  · have hlt' : (k : Int) < (m : Int) := by omega
    have f9 : IntKind.i64.wrap ((k : Int) + 1) = (k : Int) + 1 := IntWalk.i64_in _ (by omega)
    obtain ⟨ck, hck, hck2⟩ := HCL.out k hlt
    obtain ⟨va, vc, hv⟩ := sliceShape HO.out
    subst hv
    obtain ⟨ad', x, hae, hbd, hx, HX⟩ := HI4.out.getB (by rw [HVB.out]; exact HBw.out) hlt
    obtain rfl : adn = ad' := by injection hae
    obtain rfl : x = (ck : Int) := by have := HX.out; rw [hck] at this; injection this with this; exact this.symm
    have hHB := HBw.out
    have R0w := HR0.out.below hHB (by have := hSV; omega)
    obtain ⟨r_0, r_1, r_2, r_3, r_4⟩ := R0w.c5
    have p3 := (HP.out 3 _ rfl).1
    have HTK : Hid ((ns.take (k + 1)).map L = (ns.take k).map L ++ [lateF (q + 1) ck]) := hide (by rw [List.take_add_one, hck]; simp [HL.out])
    have hszw : VB < wr.heap.size := HP.out.lt
    clear hae hbd HX hHB R0w
    go_upto_region 15 with fail
    clear hx
    obtain ⟨V, hV⟩ : ∃ V, wr.drew = V := ⟨_, rfl⟩
    have hf0 : (fun w' : World => w'.cell? ⟨S, 0, none⟩ = some (.int .i64 k0) ∧ w'.cell? ⟨S, 1, none⟩ = some (.int .i64 k1) ∧ w'.cell? ⟨S, 2, none⟩ = some (.int .i64 R) ∧ w'.cell? ⟨S, 3, none⟩ = some (.int .i64 Q) ∧ w'.cell? ⟨S, 4, none⟩ = some (.int .i64 J) ∧ w'.cell? ⟨VB, 3, none⟩ = some (.slice va k vc)) V := by rw [← hV]; exact ⟨r_0, r_1, r_2, r_3, r_4, p3⟩
    have hF := hide hf0
    have HPV : Hid (Blk V VB [.int .i64 2, .int .i64 0, .slice la ld.length lc, .slice va k vc]) := hide (by rw [← hV]; exact HP.out.drew)
    have HOV : Hid (V.ownsRow (VB + 1) 47 2 (.slice va k vc) k (flat2 ((ns.take k).map L))) := hide (by rw [← hV]; exact HO.out)
    have HBV : Hid (Below VB w4 V) := hide (by rw [← hV]; exact HBw.out.drew)
    have HFB : Hid (∀ w' : World, Below VB w4 w' → Blk w' VB [.int .i64 2, .int .i64 0, .slice la ld.length lc, .slice va k vc] → (w'.cell? ⟨S, 0, none⟩ = some (.int .i64 k0) ∧ w'.cell? ⟨S, 1, none⟩ = some (.int .i64 k1) ∧ w'.cell? ⟨S, 2, none⟩ = some (.int .i64 R) ∧ w'.cell? ⟨S, 3, none⟩ = some (.int .i64 Q) ∧ w'.cell? ⟨S, 4, none⟩ = some (.int .i64 J) ∧ w'.cell? ⟨VB, 3, none⟩ = some (.slice va k vc))) := hide (fun w' hb hp => by
     obtain ⟨a0, a1, a2, a3, a4⟩ := (HR0.out.below hb (by have := hSV; omega)).c5
     exact ⟨a0, a1, a2, a3, a4, (hp 3 _ rfl).1⟩)
    clear hf0 r_0 r_1 r_2 r_3 r_4 p3 HP HO HBw hszw
    refine wp_region_G 8 (fun w' : World => w'.cell? ⟨S, 0, none⟩ = some (.int .i64 k0) ∧ w'.cell? ⟨S, 1, none⟩ = some (.int .i64 k1) ∧ w'.cell? ⟨S, 2, none⟩ = some (.int .i64 R) ∧ w'.cell? ⟨S, 3, none⟩ = some (.int .i64 Q) ∧ w'.cell? ⟨S, 4, none⟩ = some (.int .i64 J) ∧ w'.cell? ⟨VB, 3, none⟩ = some (.slice va k vc)) (by kernel_rfl) ?_
    rw [hV]
    clear hV
    refine kB 0 hF.out ?_
    refine kB 1 hF.out ?_
    refine kB 2 hF.out ?_
    refine kB 3 hF.out ?_
    refine wpAnyG_oneF (i := 4) rfl (by kernel_rfl) (fun K hK => ?_)
    go_simp
    refine (HLATE.out ck _ hck2).mono ?_
    rintro e w6 ⟨rfl, B6⟩
    have HP6 := hide (HPV.out.below B6 HPV.out.lt)
    have HO6 := hide (rows_below HOV.out B6)
    have HB6 := hide (HBV.out.trans (B6.mono (Nat.le_of_lt HPV.out.lt)))
    clear B6 HPV HOV HBV
    have hl6 : VB < w6.heap.size := HP6.out.lt
    refine hK.out _ _ (HFB.out _ HB6.out HP6.out) ?_
    clear hK K
    refine kL ?_
    refine wpAnyG_oneF (i := 5) rfl (by kernel_rfl) (fun K hK => ?_)
    go_simp
    refine hK.out _ _ (HFB.out _ (HB6.out.alloc (by omega) _) (HP6.out.alloc _)) ?_
    clear hK K
    refine kL ?_
    refine wpAnyG_oneF (i := 6) rfl (by kernel_rfl) (fun K hK => ?_)
    refine step_appendP rfl (.tmp 69) (.tmp 73) 50 47 rfl 74 rfl (VB + 1) i3 _ 2 16 Tryz.underlying50 hi3 hy3 hz3 hu3 rfl (by decide) (.slice va k vc) k _ rfl (HO6.out.alloc _) ⟨w6.heap.size, 0, none⟩ 1 rfl [.int .i64 (lateF (q + 1) ck).x, .int .i64 (lateF (q + 1) ck).y] rfl (news2' _ _ _) (by simp [Value.oneCell']) (by unfold maxLen; omega) (by omega) (by first | omega | (simp; omega)) (fun v' w7 hr' hg' ho' => ?_)
    obtain ⟨va', vc', hv'⟩ := sliceShape hr'
    subst hv'
    have P7 : Blk w7 VB [.int .i64 2, .int .i64 0, .slice la ld.length lc, .slice va k vc] := (HP6.out.alloc _).grown hg' (fun e => by have := rows_lt HO6.out VB e.symm; omega)
    have B7 : Below VB w4 w7 := (HB6.out.alloc (by omega) _).grown hg' (by simp; omega) (fun g hg => by have := rows_lt HO6.out g hg; omega)
    refine hK.out _ _ (HFB.out _ B7 P7) ?_
    clear hK K
    refine kL ?_
    have HP7 := hide P7; have HB7 := hide B7; have HO7 := hide hr'
    have p3 := (P7 3 _ rfl).1
    have pf := (P7 3 _ rfl).2
    clear P7 B7 hr' hg' ho'
    refine wpAnyG_oneF (i := 7) rfl (by kernel_rfl) (fun K hK => ?_)
    go_simp
    refine hK.out _ _ (HFB.out _ HB7.out HP7.out) ?_
    clear hK K
    refine kL ?_
    refine wpAnyG_one (i := 8) rfl (by kernel_rfl) (by kernel_rfl) (fun K hK => ?_)
    go_simp
    refine hK.out _ _ ?_
    clear hK K
    refine kL ?_
    refine wpAnyG_done (by kernel_rfl) ?_ _
    clear p3 pf hF
    go_wp2
    have hP8 := HP7.out.set (j := 3) (by simp) (.slice va' (k + 1) vc')
    have hlw : k + 1 ≤ m := hlt
    exact ⟨⟨k + 1, _, hlw, rfl, hide hP8, hide (by rw [HTK.out]; exact rows_kept (by simpa [flat2] using HO7.out) (fun g hg => Below.heap_setCell _ _ _ _ (by have := (rows_lt HO7.out g hg).1; simp only; omega))), hide (HB7.out.setCell (Nat.le_refl _) _)⟩, meas9 hlt⟩
  · obtain rfl : m = k := by omega
    have hHB := HBw.out
    have R1w := HR1.out.below hHB hSV
    have BSw := HBS.out.trans (hHB.mono (by omega))
    have hrv := sliceShape HO.out
    obtain ⟨va, vc, hv⟩ := hrv
    subst hv
    have HR1w := hide R1w; have HBSw := hide BSw; have HBw := HBw
    have fz0 := (R1w 0 _ rfl).2; have fz1 := (R1w 1 _ rfl).2; have fz2 := (R1w 2 _ rfl).2; have fz3 := (R1w 3 _ rfl).2
    obtain ⟨z0, z1, z2, z3⟩ := R1w.d4
    obtain ⟨q0, q1, q2, q3⟩ := HP.out.d4
    clear R1w BSw hHB
    go_wp2
    obtain ⟨Z, hZ, z, zB, zk⟩ := ver_fin (y0 := .int .i64 2) (y1 := .int .i64 0) (y2 := .slice la ld.length lc) (y3 := .slice va m vc) HR1w.out HBSw.out (by omega)
    rw [← hZ]
    obtain ⟨c0, c1', c2', c3⟩ := z.d4
    have hln : (ns.map L).length = m := by rw [List.length_map, HML.out]
    refine bodyPost_ret (v := .tuple #[.agg #[.int .i64 2, .int .i64 0, .slice la ld.length lc, .slice va m vc], .int .i64 0]) ?_ rfl ⟨⟨_, _, ld, ns.map L, rfl, ⟨X, q, ns, mm, B4, VB + 1, f1, c1, ?_⟩⟩, ?_⟩
    · simp [results, Tryz.f21, go_sem, c0, c1', c2', c3]
    · have hall : ns.take m = ns := List.take_of_length_le (by rw [HML.out]; omega)
      have HO' := HO.out
      rw [hall] at HO'
      have hrowZ := rows_kept HROW.out (w' := wr) (fun g hg => HBw.out.block g (by have := (rows_lt HROW.out g hg).2; rw [HVB.out] at this; exact this))
      exact ⟨HJQ.out, HGA.out, HSR.out, by rw [HN.out, HES.out]; exact HCS.out, HN1.out, by rw [HES.out]; exact HF1.out, HMM.out, hmN, HLD.out.symm, by rw [HL.out], rows_kept hrowZ (fun g hg => zk g (fun e => hlv (by rw [← e]; exact hg))), by rw [hln]; exact rows_kept HO' (fun g hg => zk g (fun e => by have := rows_lt HO' g hg; omega))⟩
    · rw [hS]; exact zB
end Go.Proofs.YtjjikhaaimfneaaGreatDoor
