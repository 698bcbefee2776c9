/-
  Lemmas and walks for the statement: VJud2, VTj, VJudA, BTl.
-/
import Derived.Test.YtjjikhaaimfneaaGreatDoorU46
import Derived.Deep.RegionHeld3
import Derived.Test.YtjjikhaaimfneaaGreatDoorU36
import Derived.Test.YtjjikhaaimfneaaGreatDoorU37
import Derived.Test.YtjjikhaaimfneaaGreatDoorU31
import Derived.Deep.DeepCutAuto
import Derived.Test.YtjjikhaaimfneaaGreatDoorU27
import Derived.Test.YtjjikhaaimfneaaGreatDoorU45
import Derived.Lib.AppendIntMem
namespace Go.Proofs.YtjjikhaaimfneaaGreatDoor
open Go.RowKit
set_option linter.unusedSimpArgs false
set_option linter.unusedVariables false
attribute [local go_sem] iteMin iteMax iteMinN iteMaxN
set_option maxRecDepth 100000 in
set_option maxHeartbeats 8000000 in
theorem jud_star (k0 k1 R Q J who ratio : Int) (X : Sx) (w : World) (hs : Srch k0 k1 R Q J 0 X) (hga : goodArgs who ratio) (hp : ¬ HasPot (geOf X who ratio)) :
 Calls Tryz.prog 21 #[.agg #[.int .i64 k0, .int .i64 k1, .int .i64 R, .int .i64 Q, .int .i64 J], .int .i64 who, .int .i64 ratio] w fun e w' => (∃ lv rv ld rd, e = .returned (.tuple #[.agg #[.int .i64 2, .int .i64 0, lv, rv], .int .i64 0]) ∧ VWay k0 k1 R Q J who ratio w' lv rv ld rd) ∧ Below w.heap.size w w' := by
 have SG := hide (srch_good hs)
 have HSR := hide hs
 have HGA := hide hga
 have HP := hide hp
 clear hs hga hp
 obtain ⟨S, hS⟩ : ∃ S, w.heap.size = S := ⟨_, rfl⟩
 go_enter Tryz.func21, Tryz.ntmps21
 go_upto_region 1 with fail
 obtain ⟨W, hW⟩ : ∃ W, W = (w.alloc (.cells #[.int .i64 k0, .int .i64 k1, .int .i64 R, .int .i64 Q, .int .i64 J] 49)).alloc (.cells #[.int .i64 0, .int .i64 0, .slice none 0 0, .slice none 0 0] 52) := ⟨_, rfl⟩
 rw [← hW]
 have R0 : Blk W S [.int .i64 k0, .int .i64 k1, .int .i64 R, .int .i64 Q, .int .i64 J] := by
  have := (Blk.new w [.int .i64 k0, .int .i64 k1, .int .i64 R, .int .i64 Q, .int .i64 J] 49).alloc (.cells #[.int .i64 0, .int .i64 0, .slice none 0 0, .slice none 0 0] 52)
  rw [hW]; simpa [hS] using this
 have R1 : Blk W (S + 1) [.int .i64 0, .int .i64 0, .slice none 0 0, .slice none 0 0] := by
  have := Blk.new (w.alloc (.cells #[.int .i64 k0, .int .i64 k1, .int .i64 R, .int .i64 Q, .int .i64 J] 49)) [.int .i64 0, .int .i64 0, .slice none 0 0, .slice none 0 0] 52
  rw [hW]; simpa [hS] using this
 have BS : Below S w W := by rw [hW, ← hS]; exact ((Below.refl _ _).alloc (Nat.le_refl _) _).alloc (by simp) _
 have T1 : W.heap[S + 1]? = some (.cells #[.int .i64 0, .int .i64 0, .slice none 0 0, .slice none 0 0] 52) := by
  have := heap_alloc_new (w.alloc (.cells #[.int .i64 k0, .int .i64 k1, .int .i64 R, .int .i64 Q, .int .i64 J] 49)) (.cells #[.int .i64 0, .int .i64 0, .slice none 0 0, .slice none 0 0] 52)
  rw [hW]; simpa [hS] using this
 clear hW
 obtain ⟨r_0, r_1, r_2, r_3, r_4⟩ := R0.c5
 have H0 := hide R0; have H1 := hide R1; have HB := hide BS
 clear R0 R1 BS
 go_wp2_with fail
 refine (graph_srch HSR.out who ratio W HGA.out).mono ?_
 rintro e w1 hres
 clear r_0 r_1 r_2 r_3 r_4
 rcases hres with ⟨h0, _⟩ | ⟨_, v, B, rfl, hrow, hA⟩
 · exact absurd rfl h0
 obtain ⟨a, c, hv⟩ := sliceShape hrow
 subst hv
 have hE := edgesAt_row hrow rfl SG.out.most
 have R0 := H0.out.below hA H0.out.lt
 have R1 := H1.out.below hA H1.out.lt
 have BS := HB.out.trans (hA.mono (Nat.le_of_lt H0.out.lt))
 have T1 := (hA.block (S + 1) H1.out.lt).trans T1
 obtain ⟨N, hN⟩ : ∃ N, X.states.length = N := ⟨_, rfl⟩
 obtain ⟨n, hn⟩ : ∃ n, X.edges.length = n := ⟨_, rfl⟩
 obtain ⟨es, hes⟩ : ∃ es, geOf X who ratio = es := ⟨_, rfl⟩
 have hG : GraphOk (N : Int) es := by rw [← hN, ← hes]; exact geOf_ok SG.out.ok SG.out.most HGA.out
 rw [hn, hes] at hE
 have HN := hide hN; have Hn := hide hn; have HES := hide hes; have HG := hide hG
 rw [hN, hn]
 clear hrow hN hn hes hG
 obtain ⟨V, hV⟩ : ∃ V, V = w1.alloc (.cells #[.int .i64 N, .slice a n c] 57) := ⟨_, rfl⟩
 obtain ⟨FB, hFB⟩ : ∃ FB, w1.heap.size = FB := ⟨_, rfl⟩
 have hAs : S + 1 < FB := by have := R1.lt; omega
 have R0 := R0.alloc (.cells #[.int .i64 N, .slice a n c] 57)
 have R1 := R1.alloc (.cells #[.int .i64 N, .slice a n c] 57)
 have R2 := Blk.new w1 [.int .i64 N, .slice a n c] 57
 have BS := BS.alloc (by omega) (.cells #[.int .i64 N, .slice a n c] 57)
 have hE := hE.below ((Below.refl w1.heap.size w1).alloc (Nat.le_refl _) (.cells #[.int .i64 N, .slice a n c] 57))
 have T1 := (heap_alloc_old w1 (.cells #[.int .i64 N, .slice a n c] 57) (show S + 1 < w1.heap.size by omega)).trans T1
 rw [← hV] at R0 R1 R2 BS hE T1
 rw [hFB] at R2
 go_upto_region 4 with fail
 (try rw [hFB])
 rw [← hV]
 clear hV hA hFB H0 H1 HB
 obtain ⟨g_0, g_1⟩ := R2.c2
 have H0 := hide R0; have H1 := hide R1; have H2 := hide R2; have HB := hide BS
 clear R0 R1 R2 BS
 go_wp2_with fail
 refine (most_ok N a n c es V hE HG.out).mono ?_
 rintro e w2 ⟨hm, hA⟩
 clear g_0 g_1
 have R0 := H0.out.below hA H0.out.lt
 have R1 := H1.out.below hA H1.out.lt
 have R2 := H2.out.below hA H2.out.lt
 have BS := HB.out.trans (hA.mono (Nat.le_of_lt H0.out.lt))
 have hE := hE.below hA
 have T1 := (hA.block (S + 1) H1.out.lt).trans T1
 clear hA H0 H1 H2 HB
 rcases hm with ⟨h1, _⟩ | ⟨_, h1, _⟩ | ⟨_, _, rfl⟩
 · exact absurd HG.out h1
 · exact absurd (by rw [HES.out]; exact h1) HP.out
 obtain ⟨g_0, g_1⟩ := R2.c2
 have H0 := hide R0; have H1 := hide R1; have H2 := hide R2; have HB := hide BS
 clear R0 R1 R2 BS
 go_wp2_with fail
 refine (cycle_ok N a n c es w2 hE HG.out).mono ?_
 rintro e w3 ⟨hcy, hA⟩
 clear g_0 g_1
 rcases hcy with ⟨h1, _⟩ | ⟨_, h1, _⟩ | ⟨_, _, b, m, d, ns, rfl, hI, hcs⟩
 · exact absurd HG.out h1
 · exact absurd (by rw [HES.out]; exact h1) HP.out
 rw [Int.toNat_natCast] at hcs
 have R0 := H0.out.below hA H0.out.lt
 have R1 := H1.out.below hA H1.out.lt
 have R2 := H2.out.below hA H2.out.lt
 have BS := HB.out.trans (hA.mono (Nat.le_of_lt H0.out.lt))
 have hE := hE.below hA
 have T1 := (hA.block (S + 1) H1.out.lt).trans T1
 clear hA H0 H1 H2 HB
 obtain ⟨c1, c2, f1, f2, hn1, hf1, hn2, hf2, hends⟩ := hcs.ends
 have hfo := HG.out.2 _ (List.mem_of_getElem? hf1)
 unfold EdgeOk at hfo
 obtain ⟨mm, hmm⟩ : ∃ mm : Nat, f1.src = (mm : Int) := ⟨f1.src.toNat, by omega⟩
 have hmN : mm < X.states.length := by have := HN.out; omega
 have hm0 : 0 < m := by rw [← hI.len]; exact hcs.pos
 obtain ⟨adn, y0, rfl, hby, e0, HY0⟩ := hI.get0 (Below.refl _ _) hm0
 obtain rfl : y0 = (c1 : Int) := by have := HY0.out; rw [hn1] at this; injection this with this; exact this.symm
 have hc1 : c1 < n := by rw [← hE.len]; exact (List.getElem?_eq_some_iff.1 hf1).1
 obtain ⟨ade, x1, x2, x3, rfl, hbe, HX, l0, l1, l2⟩ := hE.getB (Below.refl _ _) hc1
 obtain rfl : x1 = (mm : Int) := by have := HX.out; rw [hf1] at this; injection this with this; rw [this] at hmm; exact hmm
 have hc10 : (0 : Int) ≤ (c1 : Int) := Int.natCast_nonneg _
 have hc1' : (c1 : Int) < (n : Int) := by omega
 have hm0' : (0 : Int) < (m : Int) := by omega
 have HC : Hid (∀ w', Below w3.heap.size w3 w' → w'.cell? ⟨S, 0, none⟩ = some (.int .i64 k0) ∧ w'.cell? ⟨S, 1, none⟩ = some (.int .i64 k1) ∧ w'.cell? ⟨S, 2, none⟩ = some (.int .i64 R) ∧ w'.cell? ⟨S, 3, none⟩ = some (.int .i64 Q) ∧ w'.cell? ⟨S, 4, none⟩ = some (.int .i64 J) ∧ w'.cell? ⟨FB, 1, none⟩ = some (.slice (some ade) n c) ∧ w'.cell? adn = some (.int .i64 c1) ∧ w'.cell? (ade.add (c1 * 3)) = some (.int .i64 mm)) := hide (fun w' hb => by
  obtain ⟨a0, a1, a2, a3, a4⟩ := (R0.below hb R0.lt).c5
  exact ⟨a0, a1, a2, a3, a4, ((R2.below hb R2.lt) 1 _ rfl).1, (hb.cell (World.block_lt_of_cell? w3 _ e0)).trans e0, (hb.cell (World.block_lt_of_cell? w3 _ l0)).trans l0⟩)
 obtain ⟨ld, hld⟩ : ∃ ld, (wayB X.fr X.bys mm mm).reverse = ld := ⟨_, rfl⟩
 have HLEAD : Hid (∀ W : World, Calls Tryz.prog 41 #[.agg #[.int .i64 k0, .int .i64 k1, .int .i64 R, .int .i64 Q, .int .i64 J], .int .i64 mm] W fun e w' => (∃ la lc B, e = .returned (.tuple #[.slice la ld.length lc, .int .i64 0]) ∧ w'.ownsRow B 47 2 (.slice la ld.length lc) ld.length (flat2 ld)) ∧ Below W.heap.size W w') := hide (fun W => (lead_srch HSR.out (mm : Int) W).mono (by
  rintro e w' hres
  rcases hres with ⟨h0, _⟩ | ⟨_, hl, hb⟩
  · exact absurd rfl h0
  · rcases hl with ⟨h1, _⟩ | ⟨m', hm', hlt, v, B, rfl, hrow⟩
    · omega
    · obtain rfl : mm = m' := by omega
      rw [hld] at hrow
      obtain ⟨la, lc, rfl⟩ := sliceShape hrow
      exact ⟨⟨la, lc, B, rfl, hrow⟩, hb⟩))
 have hs3 : S + 1 < w3.heap.size := R1.lt
 have HR1 := hide R1; have HR0 := hide R0; have HBS := hide BS; have HI := hide hI; have HCS := hide hcs; have HLD := hide hld
 have HN1 := hide hn1; have HF1 := hide hf1; have HMM := hide hmm
 clear R0 R1 R2 BS hI hcs hld hE e0 l0 l1 l2 hn1 hf1 hn2 hf2 hends hfo hmm HX HY0 hby hbe
 go_upto_region 10 with fail
 go_region_held3 (fun w' => w'.cell? ⟨S, 0, none⟩ = some (.int .i64 k0) ∧ w'.cell? ⟨S, 1, none⟩ = some (.int .i64 k1) ∧ w'.cell? ⟨S, 2, none⟩ = some (.int .i64 R) ∧ w'.cell? ⟨S, 3, none⟩ = some (.int .i64 Q) ∧ w'.cell? ⟨S, 4, none⟩ = some (.int .i64 J) ∧ w'.cell? ⟨FB, 1, none⟩ = some (.slice (some ade) n c) ∧ w'.cell? adn = some (.int .i64 c1) ∧ w'.cell? (ade.add (c1 * 3)) = some (.int .i64 mm)) (((try dsimp only); exact HC.out _ (by (repeat' (first | (with_reducible assumption) | (with_reducible exact Below.refl _ _) | (with_reducible refine Below.alloc ?_ ?_ _) | (with_reducible refine Below.drew ?_) | (with_reducible refine Below.drewN ?_ _) | (with_reducible refine Below.trans ?_ (B2.mono ?_)) | omega | (simp; done) | (simp; omega))))))
  ((go_at_call 41; refine (HLEAD.out _).mono ?_; rintro e w4 ⟨⟨la, lc, B4, rfl, hrow4⟩, B2⟩; have hs4 := B2.size; (try simp at hs4)))
 all_goals trace "WAY"
 go_upto_region 12 with fail
 obtain ⟨q, hJq, hq3, hfl, hst⟩ := SG.out.fl
 have hB4 : Below w3.heap.size w3 w4 := by (repeat' (first | (with_reducible assumption) | (with_reducible exact Below.refl _ _) | (with_reducible refine Below.alloc ?_ ?_ _) | (with_reducible refine Below.drew ?_) | (with_reducible refine Below.drewN ?_ _) | (with_reducible refine Below.trans ?_ (B2.mono ?_)) | omega | (simp; done) | (simp; omega)))
 have T1 := (hB4.block (S + 1) HR1.out.lt).trans T1
 have hlv := row_type hrow4 T1 (by decide)
 have R0 := HR0.out.below hB4 HR0.out.lt
 have R1 := HR1.out.below hB4 HR1.out.lt
 have BS := HBS.out.trans (hB4.mono (by omega))
 have HI4 := hide (HI.out.below hB4)
 obtain ⟨VB, hVB⟩ : ∃ VB, w4.heap.size = VB := ⟨_, rfl⟩
 have hSV : S + 1 < VB := by rw [← hVB]; exact R1.lt
 obtain ⟨W5, hW5⟩ : ∃ W5, W5 = w4.alloc (.cells #[.int .i64 2, .int .i64 0, .slice la ld.length lc, .slice none 0 0] 52) := ⟨_, rfl⟩
 have P0 : Blk W5 VB [.int .i64 2, .int .i64 0, .slice la ld.length lc, .slice none 0 0] := by
  have := Blk.new w4 [.int .i64 2, .int .i64 0, .slice la ld.length lc, .slice none 0 0] 52
  rw [hW5, ← hVB]; exact this
 have HP0 := hide P0
 have HB5 : Hid (Below VB w4 W5) := hide (by rw [hW5, ← hVB]; exact (Below.refl _ _).alloc (Nat.le_refl _) _)
 have HLATE : Hid (∀ (k : Nat) (W : World), k ≤ 4800 → Calls Tryz.prog 42 #[.agg #[.int .i64 k0, .int .i64 k1, .int .i64 R, .int .i64 Q, .int .i64 J], .int .i64 k] W fun e w' => e = .returned (.agg #[.int .i64 (lateF (q + 1) k).x, .int .i64 (lateF (q + 1) k).y]) ∧ Below W.heap.size W w') := hide (fun k W hk => by rw [hJq]; exact late_any k0 k1 R Q q k W hq3 hk)
 obtain ⟨L, hL⟩ : ∃ L : Int → P2, L = fun n => lateF (q + 1) n.toNat := ⟨_, rfl⟩
 have HL := hide hL
 have H0r : Hid (W5.ownsRow (VB + 1) 47 2 (.slice none 0 0) 0 (flat2 ((ns.take 0).map L))) := hide ⟨by simp [flat2], .inl ⟨rfl, rfl⟩⟩
 have HR0 := hide R0; have HR1 := hide R1; have HBS := hide BS; have HROW := hide hrow4
 have HML := hide HI4.out.len
 have hlim := HI4.out.lim
 have HVB := hide hVB
 have HJQ := hide hJq
 have hmN3 : m ≤ 300 := by have := HCS.out.le; have := HI4.out.len; have := HG.out.1.2.1; omega
 have HCL : Hid (∀ k < m, ∃ ck : Nat, ns[k]? = some (ck : Int) ∧ ck ≤ 4800) := hide (fun k hk => by
  obtain ⟨mq, eq, a1, a2, _⟩ := HCS.out.ok k (by rw [HML.out]; exact hk)
  have := (List.getElem?_eq_some_iff.1 a2).1
  have := HG.out.1.2.2
  exact ⟨mq, a1, by omega⟩)
 (try rw [hVB])
 rw [← hW5]
 clear hW5 hB4 R0 R1 BS hrow4 P0 hJq hfl hst hL hs4
 go_wp2_with fail
 obtain ⟨i3, hi3, hy3, hz3, hu3⟩ := info_parts infoPair
 go_loopw [64] (fun i wr => ∃ (k : Nat) (rv : Value), k ≤ m ∧ i = .int .i64 k ∧ Hid (Blk wr VB [.int .i64 2, .int .i64 0, .slice la ld.length lc, rv]) ∧ Hid (wr.ownsRow (VB + 1) 47 2 rv k (flat2 ((ns.take k).map L))) ∧ Hid (Below VB w4 wr)) (fun i _ => m - (intOf i).toNat)
 case atStart => exact ⟨0, _, Nat.zero_le _, rfl, HP0, H0r, HB5⟩
 case round =>
  clear HP0 H0r HB5 W5
  obtain ⟨k, rv, hk, rfl, HP, HO, HBw⟩ := hrel
  have kk0 : (0 : Int) ≤ (k : Int) := Int.natCast_nonneg _
  by_cases hlt : k < m
  · have hlt' : (k : Int) < (m : Int) := by omega
    have f9 : IntKind.i64.wrap ((k : Int) + 1) = (k : Int) + 1 := IntWalk.i64_in _ (by omega)
    obtain ⟨ck, hck, hck2⟩ := HCL.out k hlt
    obtain ⟨va, vc, hv⟩ := sliceShape HO.out
    subst hv
    obtain ⟨ad', x, hae, hbd, hx, HX⟩ := HI4.out.getB (by rw [HVB.out]; exact HBw.out) hlt
    obtain rfl : adn = ad' := by injection hae
    obtain rfl : x = (ck : Int) := by have := HX.out; rw [hck] at this; injection this with this; exact this.symm
    have hHB := HBw.out
    have R0w := HR0.out.below hHB (by have := hSV; omega)
    obtain ⟨r_0, r_1, r_2, r_3, r_4⟩ := R0w.c5
    have p3 := (HP.out 3 _ rfl).1
    have HTK : Hid ((ns.take (k + 1)).map L = (ns.take k).map L ++ [lateF (q + 1) ck]) := hide (by rw [List.take_add_one, hck]; simp [HL.out])
    have hszw : VB < wr.heap.size := HP.out.lt
    clear hae hbd HX hHB R0w
    go_upto_region 15 with fail
    clear hx
    obtain ⟨V, hV⟩ : ∃ V, wr.drew = V := ⟨_, rfl⟩
    have hf0 : (fun w' : World => w'.cell? ⟨S, 0, none⟩ = some (.int .i64 k0) ∧ w'.cell? ⟨S, 1, none⟩ = some (.int .i64 k1) ∧ w'.cell? ⟨S, 2, none⟩ = some (.int .i64 R) ∧ w'.cell? ⟨S, 3, none⟩ = some (.int .i64 Q) ∧ w'.cell? ⟨S, 4, none⟩ = some (.int .i64 J) ∧ w'.cell? ⟨VB, 3, none⟩ = some (.slice va k vc)) V := by rw [← hV]; exact ⟨r_0, r_1, r_2, r_3, r_4, p3⟩
    have hF := hide hf0
    have HPV : Hid (Blk V VB [.int .i64 2, .int .i64 0, .slice la ld.length lc, .slice va k vc]) := hide (by rw [← hV]; exact HP.out.drew)
    have HOV : Hid (V.ownsRow (VB + 1) 47 2 (.slice va k vc) k (flat2 ((ns.take k).map L))) := hide (by rw [← hV]; exact HO.out)
    have HBV : Hid (Below VB w4 V) := hide (by rw [← hV]; exact HBw.out.drew)
    have HFB : Hid (∀ w' : World, Below VB w4 w' → Blk w' VB [.int .i64 2, .int .i64 0, .slice la ld.length lc, .slice va k vc] → (w'.cell? ⟨S, 0, none⟩ = some (.int .i64 k0) ∧ w'.cell? ⟨S, 1, none⟩ = some (.int .i64 k1) ∧ w'.cell? ⟨S, 2, none⟩ = some (.int .i64 R) ∧ w'.cell? ⟨S, 3, none⟩ = some (.int .i64 Q) ∧ w'.cell? ⟨S, 4, none⟩ = some (.int .i64 J) ∧ w'.cell? ⟨VB, 3, none⟩ = some (.slice va k vc))) := hide (fun w' hb hp => by
     obtain ⟨a0, a1, a2, a3, a4⟩ := (HR0.out.below hb (by have := hSV; omega)).c5
     exact ⟨a0, a1, a2, a3, a4, (hp 3 _ rfl).1⟩)
    clear hf0 r_0 r_1 r_2 r_3 r_4 p3 HP HO HBw hszw
    refine wp_region_G 8 (fun w' : World => w'.cell? ⟨S, 0, none⟩ = some (.int .i64 k0) ∧ w'.cell? ⟨S, 1, none⟩ = some (.int .i64 k1) ∧ w'.cell? ⟨S, 2, none⟩ = some (.int .i64 R) ∧ w'.cell? ⟨S, 3, none⟩ = some (.int .i64 Q) ∧ w'.cell? ⟨S, 4, none⟩ = some (.int .i64 J) ∧ w'.cell? ⟨VB, 3, none⟩ = some (.slice va k vc)) (by kernel_rfl) ?_
    rw [hV]
    clear hV
    refine kB 0 hF.out ?_
    refine kB 1 hF.out ?_
    refine kB 2 hF.out ?_
    refine kB 3 hF.out ?_
    refine wpAnyG_oneF (i := 4) rfl (by kernel_rfl) (fun K hK => ?_)
    go_simp
    refine (HLATE.out ck _ hck2).mono ?_
    rintro e w6 ⟨rfl, B6⟩
    have HP6 := hide (HPV.out.below B6 HPV.out.lt)
    have HO6 := hide (rows_below HOV.out B6)
    have HB6 := hide (HBV.out.trans (B6.mono (Nat.le_of_lt HPV.out.lt)))
    clear B6 HPV HOV HBV
    have hl6 : VB < w6.heap.size := HP6.out.lt
    refine hK.out _ _ (HFB.out _ HB6.out HP6.out) ?_
    clear hK K
    refine kL ?_
    refine wpAnyG_oneF (i := 5) rfl (by kernel_rfl) (fun K hK => ?_)
    go_simp
    refine hK.out _ _ (HFB.out _ (HB6.out.alloc (by omega) _) (HP6.out.alloc _)) ?_
    clear hK K
    refine kL ?_
    refine wpAnyG_oneF (i := 6) rfl (by kernel_rfl) (fun K hK => ?_)
    refine step_appendP rfl (.tmp 69) (.tmp 73) 50 47 rfl 74 rfl (VB + 1) i3 _ 2 16 Tryz.underlying50 hi3 hy3 hz3 hu3 rfl (by decide) (.slice va k vc) k _ rfl (HO6.out.alloc _) ⟨w6.heap.size, 0, none⟩ 1 rfl [.int .i64 (lateF (q + 1) ck).x, .int .i64 (lateF (q + 1) ck).y] rfl (news2' _ _ _) (by simp [Value.oneCell']) (by unfold maxLen; omega) (by omega) (by first | omega | (simp; omega)) (fun v' w7 hr' hg' ho' => ?_)
    obtain ⟨va', vc', hv'⟩ := sliceShape hr'
    subst hv'
    have P7 : Blk w7 VB [.int .i64 2, .int .i64 0, .slice la ld.length lc, .slice va k vc] := (HP6.out.alloc _).grown hg' (fun e => by have := rows_lt HO6.out VB e.symm; omega)
    have B7 : Below VB w4 w7 := (HB6.out.alloc (by omega) _).grown hg' (by simp; omega) (fun g hg => by have := rows_lt HO6.out g hg; omega)
    refine hK.out _ _ (HFB.out _ B7 P7) ?_
    clear hK K
    refine kL ?_
    have HP7 := hide P7; have HB7 := hide B7; have HO7 := hide hr'
    have p3 := (P7 3 _ rfl).1
    have pf := (P7 3 _ rfl).2
    clear P7 B7 hr' hg' ho'
    refine wpAnyG_oneF (i := 7) rfl (by kernel_rfl) (fun K hK => ?_)
    go_simp
    refine hK.out _ _ (HFB.out _ HB7.out HP7.out) ?_
    clear hK K
    refine kL ?_
    refine wpAnyG_one (i := 8) rfl (by kernel_rfl) (by kernel_rfl) (fun K hK => ?_)
    go_simp
    refine hK.out _ _ ?_
    clear hK K
    refine kL ?_
    refine wpAnyG_done (by kernel_rfl) ?_ _
    clear p3 pf hF
    go_wp2
    have hP8 := HP7.out.set (j := 3) (by simp) (.slice va' (k + 1) vc')
    have hlw : k + 1 ≤ m := hlt
    exact ⟨⟨k + 1, _, hlw, rfl, hide hP8, hide (by rw [HTK.out]; exact rows_kept (by simpa [flat2] using HO7.out) (fun g hg => Below.heap_setCell _ _ _ _ (by have := (rows_lt HO7.out g hg).1; simp only; omega))), hide (HB7.out.setCell (Nat.le_refl _) _)⟩, meas9 hlt⟩
  · obtain rfl : m = k := by omega
    have hHB := HBw.out
    have R1w := HR1.out.below hHB hSV
    have BSw := HBS.out.trans (hHB.mono (by omega))
    have hrv := sliceShape HO.out
    obtain ⟨va, vc, hv⟩ := hrv
    subst hv
    have HR1w := hide R1w; have HBSw := hide BSw; have HBw := HBw
    have fz0 := (R1w 0 _ rfl).2; have fz1 := (R1w 1 _ rfl).2; have fz2 := (R1w 2 _ rfl).2; have fz3 := (R1w 3 _ rfl).2
    obtain ⟨z0, z1, z2, z3⟩ := R1w.d4
    obtain ⟨q0, q1, q2, q3⟩ := HP.out.d4
    clear R1w BSw hHB
    go_wp2
    obtain ⟨Z, hZ, z, zB, zk⟩ := ver_fin (y0 := .int .i64 2) (y1 := .int .i64 0) (y2 := .slice la ld.length lc) (y3 := .slice va m vc) HR1w.out HBSw.out (by omega)
    rw [← hZ]
    obtain ⟨c0, c1', c2', c3⟩ := z.d4
    have hln : (ns.map L).length = m := by rw [List.length_map, HML.out]
    refine bodyPost_ret (v := .tuple #[.agg #[.int .i64 2, .int .i64 0, .slice la ld.length lc, .slice va m vc], .int .i64 0]) ?_ rfl ⟨⟨_, _, ld, ns.map L, rfl, ⟨X, q, ns, mm, B4, VB + 1, f1, c1, ?_⟩⟩, ?_⟩
    · simp [results, Tryz.f21, go_sem, c0, c1', c2', c3]
    · have hall : ns.take m = ns := List.take_of_length_le (by rw [HML.out]; omega)
      have HO' := HO.out
      rw [hall] at HO'
      have hrowZ := rows_kept HROW.out (w' := wr) (fun g hg => HBw.out.block g (by have := (rows_lt HROW.out g hg).2; rw [HVB.out] at this; exact this))
      exact ⟨HJQ.out, HGA.out, HSR.out, by rw [HN.out, HES.out]; exact HCS.out, HN1.out, by rw [HES.out]; exact HF1.out, HMM.out, hmN, HLD.out.symm, by rw [HL.out], rows_kept hrowZ (fun g hg => zk g (fun e => hlv (by rw [← e]; exact hg))), by rw [hln]; exact rows_kept HO' (fun g hg => zk g (fun e => by have := rows_lt HO' g hg; omega))⟩
    · rw [hS]; exact zB
end Go.Proofs.YtjjikhaaimfneaaGreatDoor
namespace Go.Proofs.YtjjikhaaimfneaaGreatDoor
open Go.RowKit
set_option linter.unusedSimpArgs false
set_option linter.unusedVariables false
attribute [local go_sem] iteMin iteMax iteMinN iteMaxN
end Go.Proofs.YtjjikhaaimfneaaGreatDoor
namespace Go.Proofs.YtjjikhaaimfneaaGreatDoor
open Go.RowKit
set_option linter.unusedSimpArgs false
set_option linter.unusedVariables false
theorem judge_any (k0 k1 R Q J who ratio : Int) (w : World) : Calls Tryz.prog 21 #[.agg #[.int .i64 k0, .int .i64 k1, .int .i64 R, .int .i64 Q, .int .i64 J], .int .i64 who, .int .i64 ratio] w fun e w' => JEnds k0 k1 R Q J who ratio e w' ∧ Below w.heap.size w w' := by
 by_cases hg : goodArgs who ratio
 case neg =>
  refine (jud_err k0 k1 R Q J who ratio 2 w (by omega) (fun W => graph_range k0 k1 R Q J who ratio W (by unfold goodArgs at hg; omega))).mono ?_
  rintro e w' ⟨rfl, hb⟩
  exact ⟨⟨0, 0, 2, _, _, rfl, .inl ⟨hg, rfl, rfl, rfl⟩, .inl ⟨by omega, rfl, rfl⟩⟩, hb⟩
 obtain ⟨r, X, hs⟩ := srch_ex k0 k1 R Q J
 by_cases hr : r = 0
 · subst hr
   by_cases hp : HasPot (geOf X who ratio)
   · refine (jud_pot k0 k1 R Q J who ratio X w hs hg hp).mono ?_
     rintro e w' ⟨rfl, hb⟩
     exact ⟨⟨1, _, 0, _, _, rfl, .inr ⟨hg, 0, X, hs, .inr ⟨rfl, rfl, .inl ⟨hp, rfl, rfl⟩⟩⟩, .inl ⟨by omega, rfl, rfl⟩⟩, hb⟩
   · refine (jud_star k0 k1 R Q J who ratio X w hs hg hp).mono ?_
     rintro e w' ⟨⟨lv, rv, ld, rd, rfl, hv⟩, hb⟩
     exact ⟨⟨2, 0, 0, _, _, rfl, .inr ⟨hg, 0, X, hs, .inr ⟨rfl, rfl, .inr ⟨hp, rfl, rfl⟩⟩⟩, .inr ⟨rfl, ld, rd, hv⟩⟩, hb⟩
 · refine (jud_err k0 k1 R Q J who ratio r w hr (fun W => (graph_srch hs who ratio W hg).mono (by
    rintro e w' (⟨_, h1, h2⟩ | ⟨h0, _⟩)
    · exact ⟨h1, h2⟩
    · exact absurd h0 hr))).mono ?_
   rintro e w' ⟨rfl, hb⟩
   exact ⟨⟨0, 0, r, _, _, rfl, .inr ⟨hg, r, X, hs, .inl ⟨hr, rfl, rfl, rfl⟩⟩, .inl ⟨by omega, rfl, rfl⟩⟩, hb⟩
theorem vsays_ex (k0 k1 R Q J who ratio : Int) : ∃ kind most err, VSays k0 k1 R Q J who ratio kind most err := by
 by_cases hg : goodArgs who ratio
 case neg => exact ⟨0, 0, 2, .inl ⟨hg, rfl, rfl, rfl⟩⟩
 obtain ⟨r, X, hs⟩ := srch_ex k0 k1 R Q J
 by_cases hr : r = 0
 · subst hr
   by_cases hp : HasPot (geOf X who ratio)
   · exact ⟨_, _, _, .inr ⟨hg, 0, X, hs, .inr ⟨rfl, rfl, .inl ⟨hp, rfl, rfl⟩⟩⟩⟩
   · exact ⟨_, _, _, .inr ⟨hg, 0, X, hs, .inr ⟨rfl, rfl, .inr ⟨hp, rfl, rfl⟩⟩⟩⟩
 · exact ⟨_, _, _, .inr ⟨hg, r, X, hs, .inl ⟨hr, rfl, rfl, rfl⟩⟩⟩
def TSays (k0 k1 R Q J who ratio n err : Int) : Prop :=
 ∃ kind most er, VSays k0 k1 R Q J who ratio kind most er ∧
  ((er ≠ 0 ∧ er ≠ 4 ∧ n = 0 ∧ err = er) ∨ ((er = 0 ∨ er = 4) ∧ ∃ j : Nat, (∀ i : Nat, i < j → ∃ kd mo, VSays k0 k1 R Q i who ratio kd mo 0 ∧ kd ≠ 2) ∧
    ((j = J.toNat + 1 ∧ n = 0 ∧ err = 3) ∨ (j < J.toNat + 1 ∧ ∃ kd mo e2, VSays k0 k1 R Q j who ratio kd mo e2 ∧ ((e2 ≠ 0 ∧ n = 0 ∧ err = e2) ∨ (e2 = 0 ∧ kd = 2 ∧ n = j ∧ err = 0))))))
end Go.Proofs.YtjjikhaaimfneaaGreatDoor
namespace Go.Proofs.YtjjikhaaimfneaaGreatDoor
open Go.RowKit
set_option linter.unusedSimpArgs false
set_option linter.unusedVariables false
theorem judge_w {k0 k1 R Q J who ratio kind most err : Int} (hv : VSays k0 k1 R Q J who ratio kind most err) (w : World) : Calls Tryz.prog 21 #[.agg #[.int .i64 k0, .int .i64 k1, .int .i64 R, .int .i64 Q, .int .i64 J], .int .i64 who, .int .i64 ratio] w fun e w' => (∃ la ln lc ra rn rc, e = .returned (.tuple #[.agg #[.int .i64 kind, .int .i64 most, .slice la ln lc, .slice ra rn rc], .int .i64 err])) ∧ Below w.heap.size w w' := by
 refine (judge_any k0 k1 R Q J who ratio w).mono ?_
 rintro e w' ⟨⟨kd, mo, er, lv, rv, rfl, hs, h⟩, hb⟩
 obtain ⟨rfl, rfl, rfl⟩ := vsays_one hv hs
 refine ⟨?_, hb⟩
 rcases h with ⟨_, rfl, rfl⟩ | ⟨_, ld, rd, hw⟩
 · exact ⟨_, _, _, _, _, _, rfl⟩
 · obtain ⟨X, q, ns, m, B, B', f, c, _, _, _, _, _, _, _, _, _, _, h1, h2⟩ := hw.way
   obtain ⟨a1, c1, rfl⟩ := sliceShape h1
   obtain ⟨a2, c2, rfl⟩ := sliceShape h2
   exact ⟨_, _, _, _, _, _, rfl⟩
theorem vsays_b {k0 k1 R Q J who ratio kind most err : Int} (h : VSays k0 k1 R Q J who ratio kind most err) : (err = 0 → kind = 1 ∨ kind = 2) ∧ 0 ≤ most ∧ most ≤ 314572800 := by
 rcases h with ⟨_, rfl, rfl, rfl⟩ | ⟨hg, r, X, hs, ⟨h0, rfl, rfl, rfl⟩ | ⟨rfl, rfl, ⟨_, rfl, rfl⟩ | ⟨_, rfl, rfl⟩⟩⟩
 · omega
 · omega
 · have SG := srch_good hs
   have := mostOf_b (geOf_ok SG.ok SG.most hg)
   omega
 · omega
theorem itoaG (n : Int) (h0 : -9223372036854775808 ≤ n) (h1 : n ≤ 9223372036854775807) (w : World) (h : GL w) : Calls Tryz.prog 35 #[.int .i64 n] w fun e w' => e = .returned (.string ⟨(Lib.itoa n).toArray⟩) ∧ Below w.heap.size w w' := by
 refine (Tryz.strconv_Itoa n h0 h1 w h.pw).mono ?_
 rintro e w' ⟨rfl, k, os, rfl⟩
 exact ⟨rfl, Lib.below_grow _ w (Nat.le_refl _) k os⟩
def stL : List UInt8 := [32, 115, 116, 97, 114, 118, 101, 115]
def boL : List UInt8 := [32, 98, 111, 117, 110, 100, 101, 100, 32]
theorem nDigits_le : ∀ (m u : Nat), u < 10 ^ (m + 1) → Lib.nDigits u ≤ m + 1
 | 0, u, h => by rw [Lib.nDigits_small (by simpa using h)]; exact Nat.le_refl _
 | m + 1, u, h => by
   by_cases h1 : u < 10
   · rw [Lib.nDigits_small h1]; omega
   · rw [Lib.nDigits_big h1]
     have := nDigits_le m (u / 10) (by rw [Nat.pow_succ] at h; omega)
     omega
theorem itoa_len12 {n : Int} (h0 : 0 ≤ n) (h1 : n ≤ 314572800) : (Lib.itoa n).length ≤ 9 := by
 unfold Lib.itoa
 rw [if_neg (by omega), Lib.decDigits_length]
 exact nDigits_le 8 n.toNat (by omega)
def lineL (who kind most : Int) : List UInt8 := if kind = 2 then Lib.itoa who ++ stL else (Lib.itoa who ++ boL) ++ Lib.itoa most
def TSay (s : List UInt8) (ratio : Int) (ls : List (List UInt8)) (r : Int) : Prop :=
 ∃ k0 k1 R Q J e, PSays s k0 k1 R Q J e ∧ ((e ≠ 0 ∧ ls = [] ∧ r = e) ∨ (e = 0 ∧ ∃ a0 m0 e0 a1 m1 e1, VSays k0 k1 R Q J 0 ratio a0 m0 e0 ∧ VSays k0 k1 R Q J 1 ratio a1 m1 e1 ∧
  ((e0 ≠ 0 ∧ ls = [] ∧ r = e0) ∨ (e0 = 0 ∧ e1 ≠ 0 ∧ ls = [] ∧ r = e1) ∨ (e0 = 0 ∧ e1 = 0 ∧ ls = [lineL 0 a0 m0, lineL 1 a1 m1] ∧ r = 0))))
def TlEnds (s : List UInt8) (ratio : Int) (e : Ending) (w : World) : Prop := ∃ ls r v B, e = .returned (.tuple #[v, .int .i64 r]) ∧ TSay s ratio ls r ∧ w.ownsRow B 9 1 v ls.length (ls.map strV)
theorem tl_nil (s : List UInt8) (ratio r : Int) (w : World) (h : TSay s ratio [] r) : TlEnds s ratio (.returned (.tuple #[.slice none 0 0, .int .i64 r])) w := ⟨[], r, _, 0, rfl, h, rfl, .inl ⟨rfl, rfl⟩⟩
end Go.Proofs.YtjjikhaaimfneaaGreatDoor
