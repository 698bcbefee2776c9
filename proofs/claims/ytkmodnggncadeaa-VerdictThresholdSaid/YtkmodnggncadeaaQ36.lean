/-
  Lemmas and walks for the statement: VJud.
-/
import Derived.Test.YtkmodnggncadeaaQ35
import Derived.Test.YtkmodnggncadeaaQ27
import Derived.Deep.DeepCutAuto
import Derived.Maps.AppendAt
namespace Go.Proofs.Ytkmodnggncadeaa
open Go.RowKit
set_option linter.unusedSimpArgs false
set_option linter.unusedVariables false
attribute [local go_sem] iteMin iteMax iteMinN iteMaxN
theorem step_appendP {ops : Array Oper} {o : Oper} {a : Act} {w : World} {K : Act → World → Prop} {Q : Exit → Act → World → Prop} {E : Prop} (hgd : o.guard = none) (s x : Operand) (t e : TypeId)
 (ho : o.op = .call { callee := .builtin .append, args := #[s, x], argTypes := #[t, t] }) (d : Nat) (hd : o.dst = some d) (base : Nat) (i : TypeInfo) (z : Value) (size bytes : Nat) (ht : Try.prog.underlying t = some (.slice e)) (hi : Try.prog.info? e = some i) (hz : i.zero = some z)
 (hsize : i.size = size) (hby : i.bytes = bytes) (hzs : z.cells.size = size) (hsz : 0 < size) (v : Value) (n : Nat) (xs : List Value) (hs : a.eval s = v) (hown : w.ownsRow base e size v n xs)
 (ad : Addr) (c : Nat) (hx : a.eval x = .slice (some ad) 1 c) (news : List Value) (hl : news.length = 1 * size) (hnews : ∀ j u, news[j]? = some u → w.cell? (ad.add j) = some u) (h1 : ∀ u ∈ news, u.oneCell' = true)
 (h63 : n + 1 ≤ maxLen) (hbytes : (n + 1) * bytes ≤ 140737488355328) (hbase : base ≤ w.heap.size)
 (hK : ∀ v' w', w'.ownsRow base e size v' (n + 1) (xs ++ news) → w.grownBy w' v.ownBlock → (v'.ownBlock = v.ownBlock ∨ v'.ownBlock = some w.heap.size) → K (a.put (some d) v') w') :
 if Region.wanted o (yielded ops a.tmps) = true then Oper.wp Try.prog o a w K Q else E := by
 have hw : Region.wanted o (yielded ops a.tmps) = true := by simp [Region.wanted, hgd]
 rw [if_pos hw]
 obtain ⟨v', w', hr, h2, h3, _, h4⟩ := run_append_own_at w base t o.type e i z size bytes ht hi hz hsize hby hzs hsz v n xs hown ad 1 c news hl hnews h1 h63 hbytes hbase
 unfold Oper.wp execOp
 simp only [ho, resolve, invoke, builtin, Sem.run_bind, Sem.run_pure, Result.andThen_ok, List.map_toArray, List.map_cons, List.map_nil, hs, hx, hr]
 rw [Oper.upon_value, hd]
 exact hK v' w' h2 h3 h4
theorem meas9 {n m : Nat} (h : m < n) : n - ((m : Int) + 1).toNat < n - (m : Int).toNat := by omega
theorem row_type {w : World} {B n size g : Nat} {e t : TypeId} {v : Value} {xs : List Value} {arr : Array Value} (h : w.ownsRow B e size v n xs) (hT : w.heap[g]? = some (.cells arr t)) (hne : e ≠ t) : v.ownBlock ≠ some g := by
 intro hg
 rcases h.2 with ⟨rfl, _⟩ | ⟨g', cap, cur, rfl, _, hh, _⟩
 · simp [Value.ownBlock] at hg
 · simp only [Value.ownBlock, Option.some.injEq] at hg
   subst hg
   rw [hT] at hh
   injection hh with hh
   injection hh with _ h2
   exact hne h2.symm
theorem Blk.d4 {Z : World} {b : Nat} {v0 v1 v2 v3 : Value} (h : Blk Z b [v0, v1, v2, v3]) : Z.cell? ⟨b, 0, none⟩ = some v0 ∧ Z.cell? ⟨b, 1, none⟩ = some v1 ∧ Z.cell? ⟨b, 2, none⟩ = some v2 ∧ Z.cell? ⟨b, 3, none⟩ = some v3 :=
 ⟨(h 0 _ rfl).1, (h 1 _ rfl).1, (h 2 _ rfl).1, (h 3 _ rfl).1⟩
theorem ver_fin {w wr : World} {S B : Nat} {x0 x1 x2 x3 y0 y1 y2 y3 : Value} (b : Blk wr B [x0, x1, x2, x3]) (hB : Below S w wr) (hS : S ≤ B) : ∃ Z, Z = ((((wr.setCell ⟨B, 0, none⟩ y0).setCell ⟨B, 1, none⟩ y1).setCell ⟨B, 2, none⟩ y2).setCell ⟨B, 3, none⟩ y3) ∧ Blk Z B [y0, y1, y2, y3] ∧ Below S w Z ∧ ∀ g, g ≠ B → Z.heap[g]? = wr.heap[g]? :=
 ⟨_, rfl, ((((b.set (j := 0) (by simp) y0).set (j := 1) (by simp) y1).set (j := 2) (by simp) y2).set (j := 3) (by simp) y3), (((hB.setCell (p := ⟨B, 0, none⟩) hS y0).setCell (p := ⟨B, 1, none⟩) hS y1).setCell (p := ⟨B, 2, none⟩) hS y2).setCell (p := ⟨B, 3, none⟩) hS y3,
  fun g hg => (Below.heap_setCell _ ⟨B, 3, none⟩ y3 g hg).trans ((Below.heap_setCell _ ⟨B, 2, none⟩ y2 g hg).trans ((Below.heap_setCell _ ⟨B, 1, none⟩ y1 g hg).trans (Below.heap_setCell _ ⟨B, 0, none⟩ y0 g hg)))⟩
set_option maxRecDepth 100000 in
set_option maxHeartbeats 4000000 in
theorem jud_err (k0 k1 R Q J who ratio r : Int) (w : World) (hr : r ≠ 0) (h : ∀ w : World, Calls Try.prog 14 #[.agg #[.int .i64 k0, .int .i64 k1, .int .i64 R, .int .i64 Q, .int .i64 J], .int .i64 who, .int .i64 ratio] w fun e w' => e = .returned (.tuple #[.agg #[.int .i64 0, .slice none 0 0], .int .i64 r]) ∧ Below w.heap.size w w') :
 Calls Try.prog 7 #[.agg #[.int .i64 k0, .int .i64 k1, .int .i64 R, .int .i64 Q, .int .i64 J], .int .i64 who, .int .i64 ratio] w fun e w' => e = .returned (.tuple #[.agg #[.int .i64 0, .int .i64 0, .slice none 0 0, .slice none 0 0], .int .i64 r]) ∧ Below w.heap.size w w' := by
 have hrb : ((r : Int) == 0) = false := by simpa using hr
 have HH := hide h
 clear h hr
 obtain ⟨S, hS⟩ : ∃ S, w.heap.size = S := ⟨_, rfl⟩
 go_enter Try.func7, Try.ntmps7
 go_upto_region 1 with fail
 obtain ⟨W, hW⟩ : ∃ W, W = (w.alloc (.cells #[.int .i64 k0, .int .i64 k1, .int .i64 R, .int .i64 Q, .int .i64 J] 24)).alloc (.cells #[.int .i64 0, .int .i64 0, .slice none 0 0, .slice none 0 0] 33) := ⟨_, rfl⟩
 rw [← hW]
 have R0 : Blk W S [.int .i64 k0, .int .i64 k1, .int .i64 R, .int .i64 Q, .int .i64 J] := by
  have := (Blk.new w [.int .i64 k0, .int .i64 k1, .int .i64 R, .int .i64 Q, .int .i64 J] 24).alloc (.cells #[.int .i64 0, .int .i64 0, .slice none 0 0, .slice none 0 0] 33)
  rw [hW]; simpa [hS] using this
 have R1 : Blk W (S + 1) [.int .i64 0, .int .i64 0, .slice none 0 0, .slice none 0 0] := by
  have := Blk.new (w.alloc (.cells #[.int .i64 k0, .int .i64 k1, .int .i64 R, .int .i64 Q, .int .i64 J] 24)) [.int .i64 0, .int .i64 0, .slice none 0 0, .slice none 0 0] 33
  rw [hW]; simpa [hS] using this
 have BS : Below S w W := by rw [hW, ← hS]; exact ((Below.refl _ _).alloc (Nat.le_refl _) _).alloc (by simp) _
 have T1 : W.heap[S + 1]? = some (.cells #[.int .i64 0, .int .i64 0, .slice none 0 0, .slice none 0 0] 33) := by
  have := heap_alloc_new (w.alloc (.cells #[.int .i64 k0, .int .i64 k1, .int .i64 R, .int .i64 Q, .int .i64 J] 24)) (.cells #[.int .i64 0, .int .i64 0, .slice none 0 0, .slice none 0 0] 33)
  rw [hW]; simpa [hS] using this
 clear hW
 obtain ⟨r_0, r_1, r_2, r_3, r_4⟩ := R0.c5
 have H0 := hide R0; have H1 := hide R1; have HB := hide BS
 clear R0 R1 BS
 go_wp2_with fail
 refine (HH.out W).mono ?_
 rintro e w1 ⟨rfl, hA⟩
 clear r_0 r_1 r_2 r_3 r_4
 have R1 := H1.out.below hA H1.out.lt
 have BS := HB.out.trans (hA.mono (Nat.le_of_lt H0.out.lt))
 obtain ⟨V, hV⟩ : ∃ V, V = w1.alloc (.cells #[.int .i64 0, .slice none 0 0] 56) := ⟨_, rfl⟩
 have R1 := R1.alloc (.cells #[.int .i64 0, .slice none 0 0] 56)
 have BS := BS.alloc (by have := hA.size; have := H0.out.lt; omega) (.cells #[.int .i64 0, .slice none 0 0] 56)
 rw [← hV] at R1 BS
 have HR := hide R1; have HBS := hide BS
 go_upto_region 2 with fail
 rw [← hV]
 clear hV hA BS
 have f0 := (R1 0 _ rfl).2; have f1 := (R1 1 _ rfl).2; have f2 := (R1 2 _ rfl).2; have f3 := (R1 3 _ rfl).2
 obtain ⟨z0, z1, z2, z3⟩ := R1.d4
 clear R1
 go_wp2
 obtain ⟨Z, hZ, z, zB, -⟩ := ver_fin (y0 := .int .i64 0) (y1 := .int .i64 0) (y2 := .slice none 0 0) (y3 := .slice none 0 0) HR.out HBS.out (by omega)
 rw [← hZ]
 obtain ⟨c0, c1, c2, c3⟩ := z.d4
 refine bodyPost_ret (v := .tuple #[.agg #[.int .i64 0, .int .i64 0, .slice none 0 0, .slice none 0 0], .int .i64 r]) ?_ rfl ⟨rfl, ?_⟩
 · simp [results, Try.f7, go_sem, c0, c1, c2, c3]
 · rw [hS]; exact zB
set_option maxRecDepth 100000 in
set_option maxHeartbeats 8000000 in
theorem jud_pot (k0 k1 R Q J who ratio : Int) (X : Sx) (w : World) (hs : Srch k0 k1 R Q J 0 X) (hga : goodArgs who ratio) (hp : HasPot (geOf X who ratio)) :
 Calls Try.prog 7 #[.agg #[.int .i64 k0, .int .i64 k1, .int .i64 R, .int .i64 Q, .int .i64 J], .int .i64 who, .int .i64 ratio] w fun e w' => e = .returned (.tuple #[.agg #[.int .i64 1, .int .i64 (mostOf X.states.length (geOf X who ratio)), .slice none 0 0, .slice none 0 0], .int .i64 0]) ∧ Below w.heap.size w w' := by
 have SG := hide (srch_good hs)
 have HSR := hide hs
 have HGA := hide hga
 have HP := hide hp
 clear hs hga hp
 obtain ⟨S, hS⟩ : ∃ S, w.heap.size = S := ⟨_, rfl⟩
 go_enter Try.func7, Try.ntmps7
 go_upto_region 1 with fail
 obtain ⟨W, hW⟩ : ∃ W, W = (w.alloc (.cells #[.int .i64 k0, .int .i64 k1, .int .i64 R, .int .i64 Q, .int .i64 J] 24)).alloc (.cells #[.int .i64 0, .int .i64 0, .slice none 0 0, .slice none 0 0] 33) := ⟨_, rfl⟩
 rw [← hW]
 have R0 : Blk W S [.int .i64 k0, .int .i64 k1, .int .i64 R, .int .i64 Q, .int .i64 J] := by
  have := (Blk.new w [.int .i64 k0, .int .i64 k1, .int .i64 R, .int .i64 Q, .int .i64 J] 24).alloc (.cells #[.int .i64 0, .int .i64 0, .slice none 0 0, .slice none 0 0] 33)
  rw [hW]; simpa [hS] using this
 have R1 : Blk W (S + 1) [.int .i64 0, .int .i64 0, .slice none 0 0, .slice none 0 0] := by
  have := Blk.new (w.alloc (.cells #[.int .i64 k0, .int .i64 k1, .int .i64 R, .int .i64 Q, .int .i64 J] 24)) [.int .i64 0, .int .i64 0, .slice none 0 0, .slice none 0 0] 33
  rw [hW]; simpa [hS] using this
 have BS : Below S w W := by rw [hW, ← hS]; exact ((Below.refl _ _).alloc (Nat.le_refl _) _).alloc (by simp) _
 have T1 : W.heap[S + 1]? = some (.cells #[.int .i64 0, .int .i64 0, .slice none 0 0, .slice none 0 0] 33) := by
  have := heap_alloc_new (w.alloc (.cells #[.int .i64 k0, .int .i64 k1, .int .i64 R, .int .i64 Q, .int .i64 J] 24)) (.cells #[.int .i64 0, .int .i64 0, .slice none 0 0, .slice none 0 0] 33)
  rw [hW]; simpa [hS] using this
 clear hW
 obtain ⟨r_0, r_1, r_2, r_3, r_4⟩ := R0.c5
 have H0 := hide R0; have H1 := hide R1; have HB := hide BS
 clear R0 R1 BS
 go_wp2_with fail
 refine (graph_srch HSR.out who ratio W HGA.out).mono ?_
 rintro e w1 hres
 clear r_0 r_1 r_2 r_3 r_4
 rcases hres with ⟨h0, _⟩ | ⟨_, v, B, rfl, hrow, hA⟩
 · exact absurd rfl h0
 obtain ⟨a, c, hv⟩ := sliceShape hrow
 subst hv
 have hE := edgesAt_row hrow rfl SG.out.most
 have R0 := H0.out.below hA H0.out.lt
 have R1 := H1.out.below hA H1.out.lt
 have BS := HB.out.trans (hA.mono (Nat.le_of_lt H0.out.lt))
 have T1 := (hA.block (S + 1) H1.out.lt).trans T1
 obtain ⟨N, hN⟩ : ∃ N, X.states.length = N := ⟨_, rfl⟩
 obtain ⟨n, hn⟩ : ∃ n, X.edges.length = n := ⟨_, rfl⟩
 obtain ⟨es, hes⟩ : ∃ es, geOf X who ratio = es := ⟨_, rfl⟩
 have hG : GraphOk (N : Int) es := by rw [← hN, ← hes]; exact geOf_ok SG.out.ok SG.out.most HGA.out
 rw [hn, hes] at hE
 have HN := hide hN; have Hn := hide hn; have HES := hide hes; have HG := hide hG
 rw [hN, hn]
 clear hrow hN hn hes hG
 obtain ⟨V, hV⟩ : ∃ V, V = w1.alloc (.cells #[.int .i64 N, .slice a n c] 56) := ⟨_, rfl⟩
 obtain ⟨FB, hFB⟩ : ∃ FB, w1.heap.size = FB := ⟨_, rfl⟩
 have hAs : S + 1 < FB := by have := R1.lt; omega
 have R0 := R0.alloc (.cells #[.int .i64 N, .slice a n c] 56)
 have R1 := R1.alloc (.cells #[.int .i64 N, .slice a n c] 56)
 have R2 := Blk.new w1 [.int .i64 N, .slice a n c] 56
 have BS := BS.alloc (by omega) (.cells #[.int .i64 N, .slice a n c] 56)
 have hE := hE.below ((Below.refl w1.heap.size w1).alloc (Nat.le_refl _) (.cells #[.int .i64 N, .slice a n c] 56))
 have T1 := (heap_alloc_old w1 (.cells #[.int .i64 N, .slice a n c] 56) (show S + 1 < w1.heap.size by omega)).trans T1
 rw [← hV] at R0 R1 R2 BS hE T1
 rw [hFB] at R2
 go_upto_region 4 with fail
 (try rw [hFB])
 rw [← hV]
 clear hV hA hFB H0 H1 HB
 obtain ⟨g_0, g_1⟩ := R2.c2
 have H0 := hide R0; have H1 := hide R1; have H2 := hide R2; have HB := hide BS
 clear R0 R1 R2 BS
 go_wp2_with fail
 refine (most_ok N a n c es V hE HG.out).mono ?_
 rintro e w2 ⟨hm, hA⟩
 clear g_0 g_1
 have R0 := H0.out.below hA H0.out.lt
 have R1 := H1.out.below hA H1.out.lt
 have R2 := H2.out.below hA H2.out.lt
 have BS := HB.out.trans (hA.mono (Nat.le_of_lt H0.out.lt))
 have hE := hE.below hA
 have T1 := (hA.block (S + 1) H1.out.lt).trans T1
 clear hA H0 H1 H2 HB
 rcases hm with ⟨h1, _⟩ | ⟨_, _, b, d, rfl, hI⟩ | ⟨_, h1, _⟩
 · exact absurd HG.out h1
 case inr.inr => exact absurd (by rw [← HES.out]; exact HP.out) h1
 rw [Int.toNat_natCast] at hI
 rw [Int.toNat_natCast]
 have hN1 : 0 < N := by have := SG.out.ok.one; have := HN.out; omega
 have HH0 := hide R0; have HR := hide R1; have HBS := hide BS
 clear R0 R1 R2 BS hE
 go_wp2_with fail
 refine (smax_any b N d _ w2 hI hN1 (fun x hx => ?_)).mono ?_
 · simp only [tabI, List.mem_map, List.mem_range] at hx
   obtain ⟨v, hv, rfl⟩ := hx
   exact (siter_b HG.out N v).1
 rintro e w3 ⟨rfl, rfl⟩
 obtain ⟨mo, hmo⟩ : ∃ mo, (tabI N (siter (pes es) N)).foldl max 0 = mo := ⟨_, rfl⟩
 have HMO : Hid (mostOf X.states.length (geOf X who ratio) = mo) := hide (by rw [HN.out, HES.out]; exact hmo)
 rw [hmo]
 have R1 := HR.out
 have f0 := (R1 0 _ rfl).2; have f1 := (R1 1 _ rfl).2; have f2 := (R1 2 _ rfl).2; have f3 := (R1 3 _ rfl).2
 obtain ⟨z0, z1, z2, z3⟩ := R1.d4
 clear R1 hI hmo
 go_wp2
 obtain ⟨Z, hZ, z, zB, -⟩ := ver_fin (y0 := .int .i64 1) (y1 := .int .i64 mo) (y2 := .slice none 0 0) (y3 := .slice none 0 0) HR.out HBS.out (by omega)
 rw [← hZ]
 obtain ⟨c0, c1, c2, c3⟩ := z.d4
 refine bodyPost_ret (v := .tuple #[.agg #[.int .i64 1, .int .i64 mo, .slice none 0 0, .slice none 0 0], .int .i64 0]) ?_ rfl ⟨by rw [HMO.out], ?_⟩
 · simp [results, Try.f7, go_sem, c0, c1, c2, c3]
 · rw [hS]; exact zB
end Go.Proofs.Ytkmodnggncadeaa
