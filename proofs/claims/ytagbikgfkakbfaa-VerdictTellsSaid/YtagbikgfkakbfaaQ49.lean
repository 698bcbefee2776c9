/-
  Lemmas and walks for the statement: VTwo.
-/
import Derived.Test.YtagbikgfkakbfaaQ48
namespace Go.Proofs.Ytagbikgfkakbfaa
open Go.RowKit
set_option linter.unusedSimpArgs false
set_option linter.unusedVariables false
attribute [local go_sem] iteMin iteMax iteMinN iteMaxN
set_option maxRecDepth 100000 in
set_option maxHeartbeats 16000000 in
theorem vtells_two (w : World) (k0 k1 R Q J who ratio most er : Int) (hv : VSays k0 k1 R Q J who ratio 2 most er) : Calls Try.prog 4 #[.agg #[.int .i64 k0, .int .i64 k1, .int .i64 R, .int .i64 Q, .int .i64 J], .int .i64 who, .int .i64 ratio] w fun e w' => e = .returned (.bool true) ∧ Below w.heap.size w w' := by
 have HJ := hide (judge_two hv)
 obtain ⟨rfl, rfl⟩ := vsays_two hv rfl
 have HT := hide (tjudge_v hv)
 clear hv
 obtain ⟨S, hS⟩ : ∃ S, w.heap.size = S := ⟨_, rfl⟩
 go_enter Try.func4, Try.ntmps4
 go_upto_region 1 with fail
 obtain ⟨W, hW⟩ : ∃ W, W = w.alloc (.cells #[.int .i64 k0, .int .i64 k1, .int .i64 R, .int .i64 Q, .int .i64 J] 24) := ⟨_, rfl⟩
 rw [← hW]
 have R0 : Blk W S [.int .i64 k0, .int .i64 k1, .int .i64 R, .int .i64 Q, .int .i64 J] := by
  have := Blk.new w [.int .i64 k0, .int .i64 k1, .int .i64 R, .int .i64 Q, .int .i64 J] 24
  rw [hW]; simpa [hS] using this
 have BS : Below S w W := by rw [hW, ← hS]; exact (Below.refl _ _).alloc (Nat.le_refl _) _
 clear hW
 obtain ⟨r_0, r_1, r_2, r_3, r_4⟩ := R0.c5
 have H0 := hide R0; have HB := hide BS
 clear R0 BS
 go_wp2_with fail
 refine (HJ.out W).mono ?_
 rintro e w1 ⟨⟨ld, rd, a1, c1, a2, c2, rfl, P1, P2, ht⟩, hA⟩
 clear r_0 r_1 r_2 r_3 r_4 HJ
 obtain ⟨n1, hn1⟩ : ∃ n, ld.length = n := ⟨_, rfl⟩
 obtain ⟨n2, hn2⟩ : ∃ n, rd.length = n := ⟨_, rfl⟩
 obtain ⟨s0, s1, s2, s3, s4, s5, s6, s7, s8, s9, s10, s11, s12, s13, hsm, hp1, hp2⟩ := tells_play ht
 obtain ⟨l1, l2, l3⟩ : n1 ≤ 300 ∧ n2 ≤ 300 ∧ 0 < n2 := ⟨by rw [← hn1]; exact ht.l1, by rw [← hn2]; exact ht.l2, by rw [← hn2]; exact ht.l3⟩
 have hwho : who = 0 ∨ who = 1 := by have := ht.args; unfold goodArgs at this; omega
 have hrat : 1 ≤ ratio ∧ ratio ≤ 100 := by have := ht.args; unfold goodArgs at this; omega
 have E1 := eqState (sm_wf (hsm s0 (by simp))) (sm_wf (hsm s1 (by simp))) (sm_wf (hsm s2 (by simp))) (sm_wf (hsm s3 (by simp))) (sm_wf (hsm s4 (by simp))) (sm_wf (hsm s5 (by simp))) (sm_wf (hsm s6 (by simp))) (sm_wf (hsm s7 (by simp))) (sm_wf (hsm s8 (by simp))) (sm_wf (hsm s9 (by simp))) (sm_wf (hsm s10 (by simp))) (sm_wf (hsm s11 (by simp))) (sm_wf (hsm s12 (by simp))) (sm_wf (hsm s13 (by simp)))
 have HE := hide E1
 rw [hn1] at P1 hp1 hp2 ⊢
 rw [hn2] at P2 hp2 ⊢
 have HP1 := hide hp1; have HP2 := hide hp2
 have HWHO := hide hwho; have HRAT := hide hrat; have HN1 := hide hn1; have HN2 := hide hn2
 clear hp1 hp2 hwho hrat E1 hsm ht hn1 hn2
 obtain ⟨V, hV⟩ : ∃ V, V = w1.alloc (.cells #[.int .i64 2, .int .i64 0, .slice a1 n1 c1, .slice a2 n2 c2] 33) := ⟨_, rfl⟩
 obtain ⟨T, hT⟩ : ∃ T, w1.heap.size = T := ⟨_, rfl⟩
 have R0 := H0.out.below hA H0.out.lt
 have BS := HB.out.trans (hA.mono (Nat.le_of_lt H0.out.lt))
 have hST : S < T := by have := R0.lt; omega
 have hb := (Below.refl w1.heap.size w1).alloc (Nat.le_refl _) (.cells #[.int .i64 2, .int .i64 0, .slice a1 n1 c1, .slice a2 n2 c2] 33)
 have P1 := P1.below hb
 have P2 := P2.below hb
 have R0 := R0.alloc (.cells #[.int .i64 2, .int .i64 0, .slice a1 n1 c1, .slice a2 n2 c2] 33)
 have BS := BS.alloc (by omega) (.cells #[.int .i64 2, .int .i64 0, .slice a1 n1 c1, .slice a2 n2 c2] 33)
 have R1 := Blk.new w1 [.int .i64 2, .int .i64 0, .slice a1 n1 c1, .slice a2 n2 c2] 33
 rw [← hV] at R0 R1 BS P1 P2
 rw [hT] at R1
 clear hA H0 HB hb
 have H0 := hide R0; have H1 := hide R1; have HB := hide BS; have HQ1 := hide P1; have HQ2 := hide P2
 clear R0 R1 BS P1 P2
 go_upto_region 2 with fail
 (try rw [hT])
 rw [← hV]
 clear hV
 have r_0 := (H0.out 0 _ rfl).1
 have r_1 := (H0.out 1 _ rfl).1
 have r_2 := (H0.out 2 _ rfl).1
 have r_3 := (H0.out 3 _ rfl).1
 have r_4 := (H0.out 4 _ rfl).1
 go_wp2_with fail
 refine (HT.out V).mono ?_
 rintro e w2 ⟨rfl, hA⟩
 clear r_0 r_1 r_2 r_3 r_4 HT
 have R0 := H0.out.below hA H0.out.lt
 have R1 := H1.out.below hA H1.out.lt
 have BS := HB.out.trans (hA.mono (Nat.le_of_lt H0.out.lt))
 have P1 := HQ1.out.below hA
 have P2 := HQ2.out.below hA
 clear hA H0 H1 HB HQ1 HQ2
 have H0 := hide R0; have H1 := hide R1; have HB := hide BS; have HQ1 := hide P1; have HQ2 := hide P2
 clear R0 R1 BS P1 P2
 have r_0 := (H0.out 0 _ rfl).1
 have r_1 := (H0.out 1 _ rfl).1
 have r_2 := (H0.out 2 _ rfl).1
 have r_3 := (H0.out 3 _ rfl).1
 have r_4 := (H0.out 4 _ rfl).1
 have v_0 := (H1.out 0 _ rfl).1
 have v_1 := (H1.out 1 _ rfl).1
 have v_2 := (H1.out 2 _ rfl).1
 have v_3 := (H1.out 3 _ rfl).1
 go_wp2_with fail
 refine (HP1.out w2 _ _ HQ1.out).mono ?_
 rintro e w3 ⟨⟨a3, c3, L3, rfl, _, _⟩, hA⟩
 clear r_0 r_1 r_2 r_3 r_4 v_0 v_1 v_2 v_3 HP1
 obtain ⟨Z, hZ⟩ : ∃ Z, Z = w3.alloc (.cells #[.int .i64 s0, .int .i64 s1, .int .i64 s2, .int .i64 s3, .int .i64 s4, .int .i64 s5, .int .i64 s6, .int .i64 s7, .int .i64 s8, .int .i64 s9, .int .i64 s10, .int .i64 s11, .int .i64 s12, .int .i64 s13] 41) := ⟨_, rfl⟩
 obtain ⟨U, hU⟩ : ∃ U, w3.heap.size = U := ⟨_, rfl⟩
 have R0 := H0.out.below hA H0.out.lt
 have R1 := H1.out.below hA H1.out.lt
 have BS := HB.out.trans (hA.mono (Nat.le_of_lt H0.out.lt))
 have P1 := HQ1.out.below hA
 have P2 := HQ2.out.below hA
 have hTU : T < U := by have := R1.lt; omega
 have hb := (Below.refl w3.heap.size w3).alloc (Nat.le_refl _) (.cells #[.int .i64 s0, .int .i64 s1, .int .i64 s2, .int .i64 s3, .int .i64 s4, .int .i64 s5, .int .i64 s6, .int .i64 s7, .int .i64 s8, .int .i64 s9, .int .i64 s10, .int .i64 s11, .int .i64 s12, .int .i64 s13] 41)
 have P1 := P1.below hb
 have P2 := P2.below hb
 have R0 := R0.alloc (.cells #[.int .i64 s0, .int .i64 s1, .int .i64 s2, .int .i64 s3, .int .i64 s4, .int .i64 s5, .int .i64 s6, .int .i64 s7, .int .i64 s8, .int .i64 s9, .int .i64 s10, .int .i64 s11, .int .i64 s12, .int .i64 s13] 41)
 have R1 := R1.alloc (.cells #[.int .i64 s0, .int .i64 s1, .int .i64 s2, .int .i64 s3, .int .i64 s4, .int .i64 s5, .int .i64 s6, .int .i64 s7, .int .i64 s8, .int .i64 s9, .int .i64 s10, .int .i64 s11, .int .i64 s12, .int .i64 s13] 41)
 have BS := BS.alloc (by omega) (.cells #[.int .i64 s0, .int .i64 s1, .int .i64 s2, .int .i64 s3, .int .i64 s4, .int .i64 s5, .int .i64 s6, .int .i64 s7, .int .i64 s8, .int .i64 s9, .int .i64 s10, .int .i64 s11, .int .i64 s12, .int .i64 s13] 41)
 have R2 := Blk.new w3 [.int .i64 s0, .int .i64 s1, .int .i64 s2, .int .i64 s3, .int .i64 s4, .int .i64 s5, .int .i64 s6, .int .i64 s7, .int .i64 s8, .int .i64 s9, .int .i64 s10, .int .i64 s11, .int .i64 s12, .int .i64 s13] 41
 rw [← hZ] at R0 R1 R2 BS P1 P2
 rw [hU] at R2
 have hUZ : U < Z.heap.size := R2.lt
 clear hA H0 H1 HB HQ1 HQ2 hb
 have H0 := hide R0; have H1 := hide R1; have H2 := hide R2; have HB := hide BS; have HQ1 := hide P1; have HQ2 := hide P2
 clear R0 R1 R2 BS P1 P2
 go_upto_region 8 with fail
 (try rw [hU])
 rw [← hZ]
 clear hZ
 obtain ⟨ZS, hZS⟩ : ∃ ZS, Z.heap.size = ZS := ⟨_, rfl⟩
 have HC : Hid (∀ w', Below ZS Z w' → w'.cell? ⟨S, 0, none⟩ = some (.int .i64 k0) ∧ w'.cell? ⟨S, 1, none⟩ = some (.int .i64 k1) ∧ w'.cell? ⟨S, 2, none⟩ = some (.int .i64 R) ∧ w'.cell? ⟨S, 3, none⟩ = some (.int .i64 Q) ∧ w'.cell? ⟨S, 4, none⟩ = some (.int .i64 J) ∧ w'.cell? ⟨T, 2, none⟩ = some (.slice a1 n1 c1) ∧ w'.cell? ⟨T, 3, none⟩ = some (.slice a2 n2 c2)) := hide (fun w' hb => by
  have q0 := H0.out.below hb (by omega)
  have q1 := H1.out.below hb (by omega)
  exact ⟨(q0 0 _ rfl).1, (q0 1 _ rfl).1, (q0 2 _ rfl).1, (q0 3 _ rfl).1, (q0 4 _ rfl).1, (q1 2 _ rfl).1, (q1 3 _ rfl).1⟩)
 rename_i KK hKK
 refine wp_region_G 7 (fun w' => w'.cell? ⟨S, 0, none⟩ = some (.int .i64 k0) ∧ w'.cell? ⟨S, 1, none⟩ = some (.int .i64 k1) ∧ w'.cell? ⟨S, 2, none⟩ = some (.int .i64 R) ∧ w'.cell? ⟨S, 3, none⟩ = some (.int .i64 Q) ∧ w'.cell? ⟨S, 4, none⟩ = some (.int .i64 J) ∧ w'.cell? ⟨T, 2, none⟩ = some (.slice a1 n1 c1) ∧ w'.cell? ⟨T, 3, none⟩ = some (.slice a2 n2 c2)) (by kernel_rfl) ?_
 obtain ⟨Y, hY⟩ : ∃ Y, Y = Z.drew := ⟨_, rfl⟩
 rw [← hY]
 have HBY : Hid (Below ZS Z Y) := hide (by rw [hY]; exact (Below.refl _ _).drew)
 have HQ1 := hide (HQ1.out.below (by rw [hZS]; exact HBY.out))
 have HQ2 := hide (HQ2.out.below (by rw [hZS]; exact HBY.out))
 clear hY
 have hF := hide (HC.out Y HBY.out)
 refine kB 0 hF.out ?_
 refine kB 1 hF.out ?_
 refine kB 2 hF.out ?_
 refine kB 3 hF.out ?_
 refine kB 4 hF.out ?_
 clear hF
 refine wpAnyG_twoF (i := 5) (j := 12) rfl rfl (by kernel_rfl) (fun K hK => ?_) (fun K hK => ?_)
 · go_simp
   obtain ⟨X5, hX⟩ : ∃ X, X = Y.alloc (.cells #[.slice a1 n1 c1, .slice a2 n2 c2] 31) := ⟨_, rfl⟩
   obtain ⟨SB, hSB⟩ : ∃ B, Y.heap.size = B := ⟨_, rfl⟩
   rw [← hX, hSB]
   have hb := (Below.refl Y.heap.size Y).alloc (Nat.le_refl _) (.cells #[.slice a1 n1 c1, .slice a2 n2 c2] 31)
   have hsz : ZS ≤ Y.heap.size := by have := HBY.out.size; omega
   have HSL := Blk.new Y [.slice a1 n1 c1, .slice a2 n2 c2] 31
   rw [← hX] at hb HSL
   rw [hSB] at HSL
   clear hX
   have HBX5 := hide (HBY.out.trans (hb.mono hsz))
   have HSL := hide HSL
   have HQ1 := hide (HQ1.out.below hb)
   have HQ2 := hide (HQ2.out.below hb)
   refine hK.out _ _ (HC.out _ HBX5.out) ?_
   clear hK K
   refine kL ?_
   refine wpAnyG_twoF (i := 6) (j := 12) rfl rfl (by kernel_rfl) (fun K hK => ?_) (fun K hK => ?_)
   · go_wp2_with (go_at_call 9; refine (concat_two SB a1 a2 n1 c1 n2 c2 ld rd _ HQ1.out HQ2.out HSL.out (by omega) (by omega)).mono ?_; rintro e w5 ⟨⟨g5, G5, rfl, P5⟩, hb5⟩)
     have hb := hb5
     have hsz : ZS ≤ X5.heap.size := by have := HBX5.out.size; omega
     have HBw5 := hide (HBX5.out.trans (hb.mono hsz))
     have HP5 := hide P5
     refine hK.out _ _ (HC.out _ HBw5.out) ?_
     clear hK K
     refine kL ?_
     refine wpAnyG_twoF (i := 7) (j := 12) rfl rfl (by kernel_rfl) (fun K hK => ?_) (fun K hK => ?_)
     · go_simp
       refine (HP2.out _ _ _ HP5.out).mono ?_
       rintro e w6 ⟨⟨a6, c6, L6, rfl, HR6, hnew, HT6⟩, hb6⟩
       have hb := hb6
       have hsz : ZS ≤ w5.heap.size := by have := HBw5.out.size; omega
       have HBw6 := hide (HBw5.out.trans (hb.mono hsz))
       refine hK.out _ _ (HC.out _ HBw6.out) ?_
       clear hK K
       refine kL ?_
       refine kC 8 ?_
       refine kC 9 ?_
       refine kC 10 ?_
       refine kC 11 ?_
       refine wpAnyG_one (i := 12) rfl (by kernel_rfl) (by kernel_rfl) (fun K hK => ?_)
       go_simp
       obtain ⟨X12, hX⟩ : ∃ X, X = w6.alloc (.cells #[.int .i64 0, .int .i64 0, .int .i64 0, .int .i64 0, .int .i64 0, .int .i64 0, .int .i64 0, .int .i64 0, .int .i64 0, .int .i64 0, .int .i64 0, .int .i64 0, .int .i64 0, .int .i64 0] 41) := ⟨_, rfl⟩
       obtain ⟨B2, hB2⟩ : ∃ B, w6.heap.size = B := ⟨_, rfl⟩
       rw [← hX, hB2]
       have hb := (Below.refl w6.heap.size w6).alloc (Nat.le_refl _) (.cells #[.int .i64 0, .int .i64 0, .int .i64 0, .int .i64 0, .int .i64 0, .int .i64 0, .int .i64 0, .int .i64 0, .int .i64 0, .int .i64 0, .int .i64 0, .int .i64 0, .int .i64 0, .int .i64 0] 41)
       have hsz : ZS ≤ w6.heap.size := by have := HBw6.out.size; omega
       have HTB := heap_newC w6 #[.int .i64 0, .int .i64 0, .int .i64 0, .int .i64 0, .int .i64 0, .int .i64 0, .int .i64 0, .int .i64 0, .int .i64 0, .int .i64 0, .int .i64 0, .int .i64 0, .int .i64 0, .int .i64 0] 41
       rw [← hX] at hb HTB
       have hlX : B2 < X12.heap.size := (Array.getElem?_eq_some_iff.1 (by rw [hB2] at HTB; exact HTB)).1
       rw [hB2] at HTB
       clear hX
       have HBX12 := hide (HBw6.out.trans (hb.mono hsz))
       have HTB := hide HTB
       have hB2Z : ZS ≤ B2 := by omega
       have hB2n : ∀ ad, a6 = some ad → B2 ≠ ad.block := fun ad h => by obtain ⟨ad', e, hlt, _⟩ := HR6.out.2.2.2 (by have := HT6.out.1; omega); rw [h] at e; injection e with e; subst e; omega
       have HR6 := hide (HR6.out.below hb)
       refine hK.out _ _ ?_
       clear hK K
       refine kL ?_
       refine kC 13 ?_
       refine wpAnyG_row (i := 14) B2 #[.int .i64 s0, .int .i64 s1, .int .i64 s2, .int .i64 s3, .int .i64 s4, .int .i64 s5, .int .i64 s6, .int .i64 s7, .int .i64 s8, .int .i64 s9, .int .i64 s10, .int .i64 s11, .int .i64 s12, .int .i64 s13] HTB.out rfl (by kernel_rfl) (by kernel_rfl) rfl rfl (by kernel_rfl) (by kernel_rfl) (by kernel_rfl) (by kernel_rfl) (ints_one [s0, s1, s2, s3, s4, s5, s6, s7, s8, s9, s10, s11, s12, s13]) (by rfl) (by rfl) ?_
       refine kC 15 ?_
       refine wpAnyG_done (by kernel_rfl) ?_ _
       obtain ⟨Z2, hZ2⟩ : ∃ X, X = World.setRow X12 B2 #[.int .i64 s0, .int .i64 s1, .int .i64 s2, .int .i64 s3, .int .i64 s4, .int .i64 s5, .int .i64 s6, .int .i64 s7, .int .i64 s8, .int .i64 s9, .int .i64 s10, .int .i64 s11, .int .i64 s12, .int .i64 s13] := ⟨_, rfl⟩
       rw [← hZ2]
       have FT : Blk Z2 B2 [.int .i64 s0, .int .i64 s1, .int .i64 s2, .int .i64 s3, .int .i64 s4, .int .i64 s5, .int .i64 s6, .int .i64 s7, .int .i64 s8, .int .i64 s9, .int .i64 s10, .int .i64 s11, .int .i64 s12, .int .i64 s13] := by rw [hZ2]; exact blk_of_heap (setRow_heap _ _ _ _ _ _ HTB.out)
       have FB : Below ZS Z Z2 := by rw [hZ2]; exact below_setRow HBX12.out hB2Z _
       have FR : RoundsAt Z2 a6 L6.length c6 L6 := by rw [hZ2]; exact rounds_row HR6.out hB2n _
       clear hZ2
       refine hKK _ _ ?_
       obtain ⟨hl6, hin6, hp6⟩ := HT6.out
       obtain ⟨ad6, ha6, hlt6, _⟩ := FR.2.2.2 (by omega)
       subst ha6
       rw [hl6] at FR ⊢
       have hd6 := rounds_drop FR (k := n1) (by omega)
       have en6 : n1 + n2 - n1 = n2 := by omega
       rw [en6] at hd6
       have T1 := H1.out.below FB (by omega)
       have U1 := H2.out.below FB (by omega)
       have hBS : Below S w Z2 := HB.out.trans (FB.mono (by omega))
       have hwho := HWHO.out
       have hrat := HRAT.out
       have hpd : decide (0 < brI who ratio (List.drop n1 L6) n2) = true := decide_eq_true hp6
       have hc6 : n1 + n2 ≤ c6 := FR.2.1
       clear hp6
       have HD6 := hide hd6; have HIN6 := hide hin6; have HWR := hide (And.intro hwho hrat); have HBS := hide hBS; have HPD := hide hpd
       have v_2 := (T1 2 _ rfl).1; have v_3 := (T1 3 _ rfl).1
       have u_0 := (U1 0 _ rfl).1; have t_0 := (FT 0 _ rfl).1
       have u_1 := (U1 1 _ rfl).1; have t_1 := (FT 1 _ rfl).1
       have u_2 := (U1 2 _ rfl).1; have t_2 := (FT 2 _ rfl).1
       have u_3 := (U1 3 _ rfl).1; have t_3 := (FT 3 _ rfl).1
       have u_4 := (U1 4 _ rfl).1; have t_4 := (FT 4 _ rfl).1
       have u_5 := (U1 5 _ rfl).1; have t_5 := (FT 5 _ rfl).1
       have u_6 := (U1 6 _ rfl).1; have t_6 := (FT 6 _ rfl).1
       have u_7 := (U1 7 _ rfl).1; have t_7 := (FT 7 _ rfl).1
       have u_8 := (U1 8 _ rfl).1; have t_8 := (FT 8 _ rfl).1
       have u_9 := (U1 9 _ rfl).1; have t_9 := (FT 9 _ rfl).1
       have u_10 := (U1 10 _ rfl).1; have t_10 := (FT 10 _ rfl).1
       have u_11 := (U1 11 _ rfl).1; have t_11 := (FT 11 _ rfl).1
       have u_12 := (U1 12 _ rfl).1; have t_12 := (FT 12 _ rfl).1
       have u_13 := (U1 13 _ rfl).1; have t_13 := (FT 13 _ rfl).1
       have hE := HE.out
       clear hd6 hin6 hwho hrat hBS hpd T1 U1 FT FB FR hlt6 HR6 HTB HP2
       go_wp2_with (go_at_call 10; refine (tbrings_run _ _ _ (List.drop n1 L6) who ratio _ HD6.out HIN6.out HWR.out.1 HWR.out.2 (by omega)).mono ?_; rintro e w7 ⟨rfl, hb7⟩)
       go_ret
       exact ⟨by rw [HPD.out]; rfl, by rw [hS]; exact HBS.out.trans (hb7.mono (by have := HBS.out.size; omega))⟩
     · go_simp
       obtain ⟨X12, hX⟩ : ∃ X, X = w5.alloc (.cells #[.int .i64 0, .int .i64 0, .int .i64 0, .int .i64 0, .int .i64 0, .int .i64 0, .int .i64 0, .int .i64 0, .int .i64 0, .int .i64 0, .int .i64 0, .int .i64 0, .int .i64 0, .int .i64 0] 41) := ⟨_, rfl⟩
       obtain ⟨B2, hB2⟩ : ∃ B, w5.heap.size = B := ⟨_, rfl⟩
       rw [← hX, hB2]
       have hb := (Below.refl w5.heap.size w5).alloc (Nat.le_refl _) (.cells #[.int .i64 0, .int .i64 0, .int .i64 0, .int .i64 0, .int .i64 0, .int .i64 0, .int .i64 0, .int .i64 0, .int .i64 0, .int .i64 0, .int .i64 0, .int .i64 0, .int .i64 0, .int .i64 0] 41)
       have hsz : ZS ≤ w5.heap.size := by have := HBw5.out.size; omega
       have HTB := heap_newC w5 #[.int .i64 0, .int .i64 0, .int .i64 0, .int .i64 0, .int .i64 0, .int .i64 0, .int .i64 0, .int .i64 0, .int .i64 0, .int .i64 0, .int .i64 0, .int .i64 0, .int .i64 0, .int .i64 0] 41
       rw [← hX] at hb HTB
       have hlX : B2 < X12.heap.size := (Array.getElem?_eq_some_iff.1 (by rw [hB2] at HTB; exact HTB)).1
       rw [hB2] at HTB
       clear hX
       have HBX12 := hide (HBw5.out.trans (hb.mono hsz))
       have HTB := hide HTB
       have hB2Z : ZS ≤ B2 := by omega
       have HP5 := hide (HP5.out.below hb)
       refine hK.out _ _ (HC.out _ HBX12.out) ?_
       clear hK K
       refine kL ?_
       refine wpAnyG_one (i := 7) rfl (by kernel_rfl) (by kernel_rfl) (fun K hK => ?_)
       go_simp
       refine (HP2.out _ _ _ HP5.out).mono ?_
       rintro e w6 ⟨⟨a6, c6, L6, rfl, HR6, hnew, HT6⟩, hb6⟩
       have hb := hb6
       have hsz : ZS ≤ X12.heap.size := by have := HBX12.out.size; omega
       have HBw6 := hide (HBX12.out.trans (hb.mono hsz))
       have hB2n : ∀ ad, a6 = some ad → B2 ≠ ad.block := fun ad h => by have h1 := hnew.out ad h; have h2 := hlX; omega
       have HTB := hide ((hb.block _ hlX).trans HTB.out)
       have hlX := Nat.lt_of_lt_of_le hlX hb.size
       refine hK.out _ _ ?_
       clear hK K
       refine kL ?_
       refine kC 8 ?_
       refine kC 9 ?_
       refine kC 10 ?_
       refine kC 11 ?_
       refine kC 13 ?_
       refine wpAnyG_row (i := 14) B2 #[.int .i64 s0, .int .i64 s1, .int .i64 s2, .int .i64 s3, .int .i64 s4, .int .i64 s5, .int .i64 s6, .int .i64 s7, .int .i64 s8, .int .i64 s9, .int .i64 s10, .int .i64 s11, .int .i64 s12, .int .i64 s13] HTB.out rfl (by kernel_rfl) (by kernel_rfl) rfl rfl (by kernel_rfl) (by kernel_rfl) (by kernel_rfl) (by kernel_rfl) (ints_one [s0, s1, s2, s3, s4, s5, s6, s7, s8, s9, s10, s11, s12, s13]) (by rfl) (by rfl) ?_
       refine kC 15 ?_
       refine wpAnyG_done (by kernel_rfl) ?_ _
       obtain ⟨Z2, hZ2⟩ : ∃ X, X = World.setRow w6 B2 #[.int .i64 s0, .int .i64 s1, .int .i64 s2, .int .i64 s3, .int .i64 s4, .int .i64 s5, .int .i64 s6, .int .i64 s7, .int .i64 s8, .int .i64 s9, .int .i64 s10, .int .i64 s11, .int .i64 s12, .int .i64 s13] := ⟨_, rfl⟩
       rw [← hZ2]
       have FT : Blk Z2 B2 [.int .i64 s0, .int .i64 s1, .int .i64 s2, .int .i64 s3, .int .i64 s4, .int .i64 s5, .int .i64 s6, .int .i64 s7, .int .i64 s8, .int .i64 s9, .int .i64 s10, .int .i64 s11, .int .i64 s12, .int .i64 s13] := by rw [hZ2]; exact blk_of_heap (setRow_heap _ _ _ _ _ _ HTB.out)
       have FB : Below ZS Z Z2 := by rw [hZ2]; exact below_setRow HBw6.out hB2Z _
       have FR : RoundsAt Z2 a6 L6.length c6 L6 := by rw [hZ2]; exact rounds_row HR6.out hB2n _
       clear hZ2
       refine hKK _ _ ?_
       obtain ⟨hl6, hin6, hp6⟩ := HT6.out
       obtain ⟨ad6, ha6, hlt6, _⟩ := FR.2.2.2 (by omega)
       subst ha6
       rw [hl6] at FR ⊢
       have hd6 := rounds_drop FR (k := n1) (by omega)
       have en6 : n1 + n2 - n1 = n2 := by omega
       rw [en6] at hd6
       have T1 := H1.out.below FB (by omega)
       have U1 := H2.out.below FB (by omega)
       have hBS : Below S w Z2 := HB.out.trans (FB.mono (by omega))
       have hwho := HWHO.out
       have hrat := HRAT.out
       have hpd : decide (0 < brI who ratio (List.drop n1 L6) n2) = true := decide_eq_true hp6
       have hc6 : n1 + n2 ≤ c6 := FR.2.1
       clear hp6
       have HD6 := hide hd6; have HIN6 := hide hin6; have HWR := hide (And.intro hwho hrat); have HBS := hide hBS; have HPD := hide hpd
       have v_2 := (T1 2 _ rfl).1; have v_3 := (T1 3 _ rfl).1
       have u_0 := (U1 0 _ rfl).1; have t_0 := (FT 0 _ rfl).1
       have u_1 := (U1 1 _ rfl).1; have t_1 := (FT 1 _ rfl).1
       have u_2 := (U1 2 _ rfl).1; have t_2 := (FT 2 _ rfl).1
       have u_3 := (U1 3 _ rfl).1; have t_3 := (FT 3 _ rfl).1
       have u_4 := (U1 4 _ rfl).1; have t_4 := (FT 4 _ rfl).1
       have u_5 := (U1 5 _ rfl).1; have t_5 := (FT 5 _ rfl).1
       have u_6 := (U1 6 _ rfl).1; have t_6 := (FT 6 _ rfl).1
       have u_7 := (U1 7 _ rfl).1; have t_7 := (FT 7 _ rfl).1
       have u_8 := (U1 8 _ rfl).1; have t_8 := (FT 8 _ rfl).1
       have u_9 := (U1 9 _ rfl).1; have t_9 := (FT 9 _ rfl).1
       have u_10 := (U1 10 _ rfl).1; have t_10 := (FT 10 _ rfl).1
       have u_11 := (U1 11 _ rfl).1; have t_11 := (FT 11 _ rfl).1
       have u_12 := (U1 12 _ rfl).1; have t_12 := (FT 12 _ rfl).1
       have u_13 := (U1 13 _ rfl).1; have t_13 := (FT 13 _ rfl).1
       have hE := HE.out
       clear hd6 hin6 hwho hrat hBS hpd T1 U1 FT FB FR hlt6 HR6 HTB HP2
       go_wp2_with (go_at_call 10; refine (tbrings_run _ _ _ (List.drop n1 L6) who ratio _ HD6.out HIN6.out HWR.out.1 HWR.out.2 (by omega)).mono ?_; rintro e w7 ⟨rfl, hb7⟩)
       go_ret
       exact ⟨by rw [HPD.out]; rfl, by rw [hS]; exact HBS.out.trans (hb7.mono (by have := HBS.out.size; omega))⟩
   · go_simp
     obtain ⟨X12, hX⟩ : ∃ X, X = X5.alloc (.cells #[.int .i64 0, .int .i64 0, .int .i64 0, .int .i64 0, .int .i64 0, .int .i64 0, .int .i64 0, .int .i64 0, .int .i64 0, .int .i64 0, .int .i64 0, .int .i64 0, .int .i64 0, .int .i64 0] 41) := ⟨_, rfl⟩
     obtain ⟨B2, hB2⟩ : ∃ B, X5.heap.size = B := ⟨_, rfl⟩
     rw [← hX, hB2]
     have hb := (Below.refl X5.heap.size X5).alloc (Nat.le_refl _) (.cells #[.int .i64 0, .int .i64 0, .int .i64 0, .int .i64 0, .int .i64 0, .int .i64 0, .int .i64 0, .int .i64 0, .int .i64 0, .int .i64 0, .int .i64 0, .int .i64 0, .int .i64 0, .int .i64 0] 41)
     have hsz : ZS ≤ X5.heap.size := by have := HBX5.out.size; omega
     have HTB := heap_newC X5 #[.int .i64 0, .int .i64 0, .int .i64 0, .int .i64 0, .int .i64 0, .int .i64 0, .int .i64 0, .int .i64 0, .int .i64 0, .int .i64 0, .int .i64 0, .int .i64 0, .int .i64 0, .int .i64 0] 41
     rw [← hX] at hb HTB
     have hlX : B2 < X12.heap.size := (Array.getElem?_eq_some_iff.1 (by rw [hB2] at HTB; exact HTB)).1
     rw [hB2] at HTB
     clear hX
     have HBX12 := hide (HBX5.out.trans (hb.mono hsz))
     have HTB := hide HTB
     have hB2Z : ZS ≤ B2 := by omega
     have HSL := hide (HSL.out.below hb HSL.out.lt)
     have HQ1 := hide (HQ1.out.below hb)
     have HQ2 := hide (HQ2.out.below hb)
     refine hK.out _ _ (HC.out _ HBX12.out) ?_
     clear hK K
     refine kL ?_
     refine wpAnyG_oneF (i := 6) rfl (by kernel_rfl) (fun K hK => ?_)
     go_wp2_with (go_at_call 9; refine (concat_two SB a1 a2 n1 c1 n2 c2 ld rd _ HQ1.out HQ2.out HSL.out (by omega) (by omega)).mono ?_; rintro e w5 ⟨⟨g5, G5, rfl, P5⟩, hb5⟩)
     have hb := hb5
     have hsz : ZS ≤ X12.heap.size := by have := HBX12.out.size; omega
     have HBw5 := hide (HBX12.out.trans (hb.mono hsz))
     have HP5 := hide P5
     have HTB := hide ((hb.block _ hlX).trans HTB.out)
     have hlX := Nat.lt_of_lt_of_le hlX hb.size
     refine hK.out _ _ (HC.out _ HBw5.out) ?_
     clear hK K
     refine kL ?_
     refine wpAnyG_one (i := 7) rfl (by kernel_rfl) (by kernel_rfl) (fun K hK => ?_)
     go_simp
     refine (HP2.out _ _ _ HP5.out).mono ?_
     rintro e w6 ⟨⟨a6, c6, L6, rfl, HR6, hnew, HT6⟩, hb6⟩
     have hb := hb6
     have hsz : ZS ≤ w5.heap.size := by have := HBw5.out.size; omega
     have HBw6 := hide (HBw5.out.trans (hb.mono hsz))
     have hB2n : ∀ ad, a6 = some ad → B2 ≠ ad.block := fun ad h => by have h1 := hnew.out ad h; have h2 := hlX; omega
     have HTB := hide ((hb.block _ hlX).trans HTB.out)
     have hlX := Nat.lt_of_lt_of_le hlX hb.size
     refine hK.out _ _ ?_
     clear hK K
     refine kL ?_
     refine kC 8 ?_
     refine kC 9 ?_
     refine kC 10 ?_
     refine kC 11 ?_
     refine kC 13 ?_
     refine wpAnyG_row (i := 14) B2 #[.int .i64 s0, .int .i64 s1, .int .i64 s2, .int .i64 s3, .int .i64 s4, .int .i64 s5, .int .i64 s6, .int .i64 s7, .int .i64 s8, .int .i64 s9, .int .i64 s10, .int .i64 s11, .int .i64 s12, .int .i64 s13] HTB.out rfl (by kernel_rfl) (by kernel_rfl) rfl rfl (by kernel_rfl) (by kernel_rfl) (by kernel_rfl) (by kernel_rfl) (ints_one [s0, s1, s2, s3, s4, s5, s6, s7, s8, s9, s10, s11, s12, s13]) (by rfl) (by rfl) ?_
     refine kC 15 ?_
     refine wpAnyG_done (by kernel_rfl) ?_ _
     obtain ⟨Z2, hZ2⟩ : ∃ X, X = World.setRow w6 B2 #[.int .i64 s0, .int .i64 s1, .int .i64 s2, .int .i64 s3, .int .i64 s4, .int .i64 s5, .int .i64 s6, .int .i64 s7, .int .i64 s8, .int .i64 s9, .int .i64 s10, .int .i64 s11, .int .i64 s12, .int .i64 s13] := ⟨_, rfl⟩
     rw [← hZ2]
     have FT : Blk Z2 B2 [.int .i64 s0, .int .i64 s1, .int .i64 s2, .int .i64 s3, .int .i64 s4, .int .i64 s5, .int .i64 s6, .int .i64 s7, .int .i64 s8, .int .i64 s9, .int .i64 s10, .int .i64 s11, .int .i64 s12, .int .i64 s13] := by rw [hZ2]; exact blk_of_heap (setRow_heap _ _ _ _ _ _ HTB.out)
     have FB : Below ZS Z Z2 := by rw [hZ2]; exact below_setRow HBw6.out hB2Z _
     have FR : RoundsAt Z2 a6 L6.length c6 L6 := by rw [hZ2]; exact rounds_row HR6.out hB2n _
     clear hZ2
     refine hKK _ _ ?_
     obtain ⟨hl6, hin6, hp6⟩ := HT6.out
     obtain ⟨ad6, ha6, hlt6, _⟩ := FR.2.2.2 (by omega)
     subst ha6
     rw [hl6] at FR ⊢
     have hd6 := rounds_drop FR (k := n1) (by omega)
     have en6 : n1 + n2 - n1 = n2 := by omega
     rw [en6] at hd6
     have T1 := H1.out.below FB (by omega)
     have U1 := H2.out.below FB (by omega)
     have hBS : Below S w Z2 := HB.out.trans (FB.mono (by omega))
     have hwho := HWHO.out
     have hrat := HRAT.out
     have hpd : decide (0 < brI who ratio (List.drop n1 L6) n2) = true := decide_eq_true hp6
     have hc6 : n1 + n2 ≤ c6 := FR.2.1
     clear hp6
     have HD6 := hide hd6; have HIN6 := hide hin6; have HWR := hide (And.intro hwho hrat); have HBS := hide hBS; have HPD := hide hpd
     have v_2 := (T1 2 _ rfl).1; have v_3 := (T1 3 _ rfl).1
     have u_0 := (U1 0 _ rfl).1; have t_0 := (FT 0 _ rfl).1
     have u_1 := (U1 1 _ rfl).1; have t_1 := (FT 1 _ rfl).1
     have u_2 := (U1 2 _ rfl).1; have t_2 := (FT 2 _ rfl).1
     have u_3 := (U1 3 _ rfl).1; have t_3 := (FT 3 _ rfl).1
     have u_4 := (U1 4 _ rfl).1; have t_4 := (FT 4 _ rfl).1
     have u_5 := (U1 5 _ rfl).1; have t_5 := (FT 5 _ rfl).1
     have u_6 := (U1 6 _ rfl).1; have t_6 := (FT 6 _ rfl).1
     have u_7 := (U1 7 _ rfl).1; have t_7 := (FT 7 _ rfl).1
     have u_8 := (U1 8 _ rfl).1; have t_8 := (FT 8 _ rfl).1
     have u_9 := (U1 9 _ rfl).1; have t_9 := (FT 9 _ rfl).1
     have u_10 := (U1 10 _ rfl).1; have t_10 := (FT 10 _ rfl).1
     have u_11 := (U1 11 _ rfl).1; have t_11 := (FT 11 _ rfl).1
     have u_12 := (U1 12 _ rfl).1; have t_12 := (FT 12 _ rfl).1
     have u_13 := (U1 13 _ rfl).1; have t_13 := (FT 13 _ rfl).1
     have hE := HE.out
     clear hd6 hin6 hwho hrat hBS hpd T1 U1 FT FB FR hlt6 HR6 HTB HP2
     go_wp2_with (go_at_call 10; refine (tbrings_run _ _ _ (List.drop n1 L6) who ratio _ HD6.out HIN6.out HWR.out.1 HWR.out.2 (by omega)).mono ?_; rintro e w7 ⟨rfl, hb7⟩)
     go_ret
     exact ⟨by rw [HPD.out]; rfl, by rw [hS]; exact HBS.out.trans (hb7.mono (by have := HBS.out.size; omega))⟩
 · go_simp
   obtain ⟨X12, hX⟩ : ∃ X, X = Y.alloc (.cells #[.int .i64 0, .int .i64 0, .int .i64 0, .int .i64 0, .int .i64 0, .int .i64 0, .int .i64 0, .int .i64 0, .int .i64 0, .int .i64 0, .int .i64 0, .int .i64 0, .int .i64 0, .int .i64 0] 41) := ⟨_, rfl⟩
   obtain ⟨B2, hB2⟩ : ∃ B, Y.heap.size = B := ⟨_, rfl⟩
   rw [← hX, hB2]
   have hb := (Below.refl Y.heap.size Y).alloc (Nat.le_refl _) (.cells #[.int .i64 0, .int .i64 0, .int .i64 0, .int .i64 0, .int .i64 0, .int .i64 0, .int .i64 0, .int .i64 0, .int .i64 0, .int .i64 0, .int .i64 0, .int .i64 0, .int .i64 0, .int .i64 0] 41)
   have hsz : ZS ≤ Y.heap.size := by have := HBY.out.size; omega
   have HTB := heap_newC Y #[.int .i64 0, .int .i64 0, .int .i64 0, .int .i64 0, .int .i64 0, .int .i64 0, .int .i64 0, .int .i64 0, .int .i64 0, .int .i64 0, .int .i64 0, .int .i64 0, .int .i64 0, .int .i64 0] 41
   rw [← hX] at hb HTB
   have hlX : B2 < X12.heap.size := (Array.getElem?_eq_some_iff.1 (by rw [hB2] at HTB; exact HTB)).1
   rw [hB2] at HTB
   clear hX
   have HBX12 := hide (HBY.out.trans (hb.mono hsz))
   have HTB := hide HTB
   have hB2Z : ZS ≤ B2 := by omega
   have HQ1 := hide (HQ1.out.below hb)
   have HQ2 := hide (HQ2.out.below hb)
   refine hK.out _ _ (HC.out _ HBX12.out) ?_
   clear hK K
   refine kL ?_
   refine wpAnyG_oneF (i := 5) rfl (by kernel_rfl) (fun K hK => ?_)
   go_simp
   obtain ⟨X5, hX⟩ : ∃ X, X = X12.alloc (.cells #[.slice a1 n1 c1, .slice a2 n2 c2] 31) := ⟨_, rfl⟩
   obtain ⟨SB, hSB⟩ : ∃ B, X12.heap.size = B := ⟨_, rfl⟩
   rw [← hX, hSB]
   have hb := (Below.refl X12.heap.size X12).alloc (Nat.le_refl _) (.cells #[.slice a1 n1 c1, .slice a2 n2 c2] 31)
   have hsz : ZS ≤ X12.heap.size := by have := HBX12.out.size; omega
   have HSL := Blk.new X12 [.slice a1 n1 c1, .slice a2 n2 c2] 31
   rw [← hX] at hb HSL
   rw [hSB] at HSL
   clear hX
   have HBX5 := hide (HBX12.out.trans (hb.mono hsz))
   have HSL := hide HSL
   have HTB := hide ((hb.block _ hlX).trans HTB.out)
   have hlX := Nat.lt_of_lt_of_le hlX hb.size
   have HQ1 := hide (HQ1.out.below hb)
   have HQ2 := hide (HQ2.out.below hb)
   refine hK.out _ _ (HC.out _ HBX5.out) ?_
   clear hK K
   refine kL ?_
   refine wpAnyG_oneF (i := 6) rfl (by kernel_rfl) (fun K hK => ?_)
   go_wp2_with (go_at_call 9; refine (concat_two SB a1 a2 n1 c1 n2 c2 ld rd _ HQ1.out HQ2.out HSL.out (by omega) (by omega)).mono ?_; rintro e w5 ⟨⟨g5, G5, rfl, P5⟩, hb5⟩)
   have hb := hb5
   have hsz : ZS ≤ X5.heap.size := by have := HBX5.out.size; omega
   have HBw5 := hide (HBX5.out.trans (hb.mono hsz))
   have HP5 := hide P5
   have HTB := hide ((hb.block _ hlX).trans HTB.out)
   have hlX := Nat.lt_of_lt_of_le hlX hb.size
   refine hK.out _ _ (HC.out _ HBw5.out) ?_
   clear hK K
   refine kL ?_
   refine wpAnyG_one (i := 7) rfl (by kernel_rfl) (by kernel_rfl) (fun K hK => ?_)
   go_simp
   refine (HP2.out _ _ _ HP5.out).mono ?_
   rintro e w6 ⟨⟨a6, c6, L6, rfl, HR6, hnew, HT6⟩, hb6⟩
   have hb := hb6
   have hsz : ZS ≤ w5.heap.size := by have := HBw5.out.size; omega
   have HBw6 := hide (HBw5.out.trans (hb.mono hsz))
   have hB2n : ∀ ad, a6 = some ad → B2 ≠ ad.block := fun ad h => by have h1 := hnew.out ad h; have h2 := hlX; omega
   have HTB := hide ((hb.block _ hlX).trans HTB.out)
   have hlX := Nat.lt_of_lt_of_le hlX hb.size
   refine hK.out _ _ ?_
   clear hK K
   refine kL ?_
   refine kC 8 ?_
   refine kC 9 ?_
   refine kC 10 ?_
   refine kC 11 ?_
   refine kC 13 ?_
   refine wpAnyG_row (i := 14) B2 #[.int .i64 s0, .int .i64 s1, .int .i64 s2, .int .i64 s3, .int .i64 s4, .int .i64 s5, .int .i64 s6, .int .i64 s7, .int .i64 s8, .int .i64 s9, .int .i64 s10, .int .i64 s11, .int .i64 s12, .int .i64 s13] HTB.out rfl (by kernel_rfl) (by kernel_rfl) rfl rfl (by kernel_rfl) (by kernel_rfl) (by kernel_rfl) (by kernel_rfl) (ints_one [s0, s1, s2, s3, s4, s5, s6, s7, s8, s9, s10, s11, s12, s13]) (by rfl) (by rfl) ?_
   refine kC 15 ?_
   refine wpAnyG_done (by kernel_rfl) ?_ _
   obtain ⟨Z2, hZ2⟩ : ∃ X, X = World.setRow w6 B2 #[.int .i64 s0, .int .i64 s1, .int .i64 s2, .int .i64 s3, .int .i64 s4, .int .i64 s5, .int .i64 s6, .int .i64 s7, .int .i64 s8, .int .i64 s9, .int .i64 s10, .int .i64 s11, .int .i64 s12, .int .i64 s13] := ⟨_, rfl⟩
   rw [← hZ2]
   have FT : Blk Z2 B2 [.int .i64 s0, .int .i64 s1, .int .i64 s2, .int .i64 s3, .int .i64 s4, .int .i64 s5, .int .i64 s6, .int .i64 s7, .int .i64 s8, .int .i64 s9, .int .i64 s10, .int .i64 s11, .int .i64 s12, .int .i64 s13] := by rw [hZ2]; exact blk_of_heap (setRow_heap _ _ _ _ _ _ HTB.out)
   have FB : Below ZS Z Z2 := by rw [hZ2]; exact below_setRow HBw6.out hB2Z _
   have FR : RoundsAt Z2 a6 L6.length c6 L6 := by rw [hZ2]; exact rounds_row HR6.out hB2n _
   clear hZ2
   refine hKK _ _ ?_
   obtain ⟨hl6, hin6, hp6⟩ := HT6.out
   obtain ⟨ad6, ha6, hlt6, _⟩ := FR.2.2.2 (by omega)
   subst ha6
   rw [hl6] at FR ⊢
   have hd6 := rounds_drop FR (k := n1) (by omega)
   have en6 : n1 + n2 - n1 = n2 := by omega
   rw [en6] at hd6
   have T1 := H1.out.below FB (by omega)
   have U1 := H2.out.below FB (by omega)
   have hBS : Below S w Z2 := HB.out.trans (FB.mono (by omega))
   have hwho := HWHO.out
   have hrat := HRAT.out
   have hpd : decide (0 < brI who ratio (List.drop n1 L6) n2) = true := decide_eq_true hp6
   have hc6 : n1 + n2 ≤ c6 := FR.2.1
   clear hp6
   have HD6 := hide hd6; have HIN6 := hide hin6; have HWR := hide (And.intro hwho hrat); have HBS := hide hBS; have HPD := hide hpd
   have v_2 := (T1 2 _ rfl).1; have v_3 := (T1 3 _ rfl).1
   have u_0 := (U1 0 _ rfl).1; have t_0 := (FT 0 _ rfl).1
   have u_1 := (U1 1 _ rfl).1; have t_1 := (FT 1 _ rfl).1
   have u_2 := (U1 2 _ rfl).1; have t_2 := (FT 2 _ rfl).1
   have u_3 := (U1 3 _ rfl).1; have t_3 := (FT 3 _ rfl).1
   have u_4 := (U1 4 _ rfl).1; have t_4 := (FT 4 _ rfl).1
   have u_5 := (U1 5 _ rfl).1; have t_5 := (FT 5 _ rfl).1
   have u_6 := (U1 6 _ rfl).1; have t_6 := (FT 6 _ rfl).1
   have u_7 := (U1 7 _ rfl).1; have t_7 := (FT 7 _ rfl).1
   have u_8 := (U1 8 _ rfl).1; have t_8 := (FT 8 _ rfl).1
   have u_9 := (U1 9 _ rfl).1; have t_9 := (FT 9 _ rfl).1
   have u_10 := (U1 10 _ rfl).1; have t_10 := (FT 10 _ rfl).1
   have u_11 := (U1 11 _ rfl).1; have t_11 := (FT 11 _ rfl).1
   have u_12 := (U1 12 _ rfl).1; have t_12 := (FT 12 _ rfl).1
   have u_13 := (U1 13 _ rfl).1; have t_13 := (FT 13 _ rfl).1
   have hE := HE.out
   clear hd6 hin6 hwho hrat hBS hpd T1 U1 FT FB FR hlt6 HR6 HTB HP2
   go_wp2_with (go_at_call 10; refine (tbrings_run _ _ _ (List.drop n1 L6) who ratio _ HD6.out HIN6.out HWR.out.1 HWR.out.2 (by omega)).mono ?_; rintro e w7 ⟨rfl, hb7⟩)
   go_ret
   exact ⟨by rw [HPD.out]; rfl, by rw [hS]; exact HBS.out.trans (hb7.mono (by have := HBS.out.size; omega))⟩
end Go.Proofs.Ytagbikgfkakbfaa
