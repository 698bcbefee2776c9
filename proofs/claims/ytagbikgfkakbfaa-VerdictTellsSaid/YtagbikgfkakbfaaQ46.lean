/-
  Lemmas and walks for the statement: VJudA, VThr, PlayR.
-/
import Derived.Test.YtagbikgfkakbfaaQ40
import Derived.Test.YtagbikgfkakbfaaQ45
import Derived.Test.YtagbikgfkakbfaaQ34
import Derived.Test.YtagbikgfkakbfaaQ26
namespace Go.Proofs.Ytagbikgfkakbfaa
open Go.RowKit
set_option linter.unusedSimpArgs false
set_option linter.unusedVariables false
theorem judge_any (k0 k1 R Q J who ratio : Int) (w : World) : Calls Try.prog 7 #[.agg #[.int .i64 k0, .int .i64 k1, .int .i64 R, .int .i64 Q, .int .i64 J], .int .i64 who, .int .i64 ratio] w fun e w' => JEnds k0 k1 R Q J who ratio e w' ∧ Below w.heap.size w w' := by
 by_cases hg : goodArgs who ratio
 case neg =>
  refine (jud_err k0 k1 R Q J who ratio 2 w (by omega) (fun W => graph_range k0 k1 R Q J who ratio W (by unfold goodArgs at hg; omega))).mono ?_
  rintro e w' ⟨rfl, hb⟩
  exact ⟨⟨0, 0, 2, _, _, rfl, .inl ⟨hg, rfl, rfl, rfl⟩, .inl ⟨by omega, rfl, rfl⟩⟩, hb⟩
 obtain ⟨r, X, hs⟩ := srch_ex k0 k1 R Q J
 by_cases hr : r = 0
 · subst hr
   by_cases hp : HasPot (geOf X who ratio)
   · refine (jud_pot k0 k1 R Q J who ratio X w hs hg hp).mono ?_
     rintro e w' ⟨rfl, hb⟩
     exact ⟨⟨1, _, 0, _, _, rfl, .inr ⟨hg, 0, X, hs, .inr ⟨rfl, rfl, .inl ⟨hp, rfl, rfl⟩⟩⟩, .inl ⟨by omega, rfl, rfl⟩⟩, hb⟩
   · refine (jud_star k0 k1 R Q J who ratio X w hs hg hp).mono ?_
     rintro e w' ⟨⟨lv, rv, ld, rd, rfl, hv⟩, hb⟩
     exact ⟨⟨2, 0, 0, _, _, rfl, .inr ⟨hg, 0, X, hs, .inr ⟨rfl, rfl, .inr ⟨hp, rfl, rfl⟩⟩⟩, .inr ⟨rfl, ld, rd, hv⟩⟩, hb⟩
 · refine (jud_err k0 k1 R Q J who ratio r w hr (fun W => (graph_srch hs who ratio W hg).mono (by
    rintro e w' (⟨_, h1, h2⟩ | ⟨h0, _⟩)
    · exact ⟨h1, h2⟩
    · exact absurd h0 hr))).mono ?_
   rintro e w' ⟨rfl, hb⟩
   exact ⟨⟨0, 0, r, _, _, rfl, .inr ⟨hg, r, X, hs, .inl ⟨hr, rfl, rfl, rfl⟩⟩, .inl ⟨by omega, rfl, rfl⟩⟩, hb⟩
theorem tjudge_any (k0 k1 R Q J who ratio : Int) (w : World) : Calls Try.prog 6 #[.agg #[.int .i64 k0, .int .i64 k1, .int .i64 R, .int .i64 Q, .int .i64 J], .int .i64 who, .int .i64 ratio] w fun e w' => (∃ kind most err, e = .returned (.tuple #[.int .i64 kind, .int .i64 most, .int .i64 err]) ∧ VSays k0 k1 R Q J who ratio kind most err) ∧ Below w.heap.size w w' := by
 by_cases hg : goodArgs who ratio
 case neg =>
  refine (tj_range k0 k1 R Q J who ratio w hg).mono ?_
  rintro e w' ⟨rfl, hb⟩
  exact ⟨⟨0, 0, 2, rfl, .inl ⟨hg, rfl, rfl, rfl⟩⟩, hb⟩
 obtain ⟨r, X, hs⟩ := srch_ex k0 k1 R Q J
 by_cases hr : r = 0
 · subst hr
   refine (tj_good k0 k1 R Q J who ratio X w hs hg).mono ?_
   rintro e w' ⟨⟨kind, most, rfl, h⟩, hb⟩
   exact ⟨⟨kind, most, 0, rfl, .inr ⟨hg, 0, X, hs, .inr ⟨rfl, rfl, h⟩⟩⟩, hb⟩
 · refine (tj_err k0 k1 R Q J who ratio r X w hs hg hr).mono ?_
   rintro e w' ⟨rfl, hb⟩
   exact ⟨⟨0, 0, r, rfl, .inr ⟨hg, r, X, hs, .inl ⟨hr, rfl, rfl, rfl⟩⟩⟩, hb⟩
theorem vsays_ex (k0 k1 R Q J who ratio : Int) : ∃ kind most err, VSays k0 k1 R Q J who ratio kind most err := by
 by_cases hg : goodArgs who ratio
 case neg => exact ⟨0, 0, 2, .inl ⟨hg, rfl, rfl, rfl⟩⟩
 obtain ⟨r, X, hs⟩ := srch_ex k0 k1 R Q J
 by_cases hr : r = 0
 · subst hr
   by_cases hp : HasPot (geOf X who ratio)
   · exact ⟨_, _, _, .inr ⟨hg, 0, X, hs, .inr ⟨rfl, rfl, .inl ⟨hp, rfl, rfl⟩⟩⟩⟩
   · exact ⟨_, _, _, .inr ⟨hg, 0, X, hs, .inr ⟨rfl, rfl, .inr ⟨hp, rfl, rfl⟩⟩⟩⟩
 · exact ⟨_, _, _, .inr ⟨hg, r, X, hs, .inl ⟨hr, rfl, rfl, rfl⟩⟩⟩
theorem vsays_jit {k0 k1 R Q J who ratio kind most err : Int} (h : VSays k0 k1 R Q J who ratio kind most err) (he : err = 0 ∨ err = 4) : 0 ≤ J ∧ J ≤ 3 := by
 rcases h with ⟨_, _, _, rfl⟩ | ⟨_, r, X, hs, ⟨h0, _, _, rfl⟩ | ⟨rfl, rfl, _⟩⟩
 · omega
 · have := (srch_ok hs (by omega)).2; unfold rangeOk at this; omega
 · have := (srch_ok hs (.inl rfl)).2; unfold rangeOk at this; omega
theorem vsays_err {k0 k1 R Q J who ratio kind most err : Int} (h : VSays k0 k1 R Q J who ratio kind most err) : err = 0 ∨ err = 2 ∨ err = 4 ∨ err = 5 := by
 rcases h with ⟨_, _, _, rfl⟩ | ⟨_, r, X, hs, ⟨h0, _, _, rfl⟩ | ⟨rfl, rfl, _⟩⟩
 · omega
 · have := srch_err hs h0; omega
 · omega
def TSays (k0 k1 R Q J who ratio n err : Int) : Prop :=
 ∃ kind most er, VSays k0 k1 R Q J who ratio kind most er ∧
  ((er ≠ 0 ∧ er ≠ 4 ∧ n = 0 ∧ err = er) ∨ ((er = 0 ∨ er = 4) ∧ ∃ j : Nat, (∀ i : Nat, i < j → ∃ kd mo, VSays k0 k1 R Q i who ratio kd mo 0 ∧ kd ≠ 2) ∧
    ((j = J.toNat + 1 ∧ n = 0 ∧ err = 3) ∨ (j < J.toNat + 1 ∧ ∃ kd mo e2, VSays k0 k1 R Q j who ratio kd mo e2 ∧ ((e2 ≠ 0 ∧ n = 0 ∧ err = e2) ∨ (e2 = 0 ∧ kd = 2 ∧ n = j ∧ err = 0))))))
end Go.Proofs.Ytagbikgfkakbfaa
namespace Go.Proofs.Ytagbikgfkakbfaa
open Go.RowKit
set_option linter.unusedSimpArgs false
set_option linter.unusedVariables false
attribute [local go_sem] iteMin iteMax iteMinN iteMaxN
theorem judge_v {k0 k1 R Q J who ratio kind most err : Int} (hv : VSays k0 k1 R Q J who ratio kind most err) (w : World) : Calls Try.prog 7 #[.agg #[.int .i64 k0, .int .i64 k1, .int .i64 R, .int .i64 Q, .int .i64 J], .int .i64 who, .int .i64 ratio] w fun e w' => (∃ la ln lc ra rn rc, e = .returned (.tuple #[.agg #[.int .i64 kind, .int .i64 most, .slice la ln lc, .slice ra rn rc], .int .i64 err])) ∧ Below w.heap.size w w' := by
 refine (judge_any k0 k1 R Q J who ratio w).mono ?_
 rintro e w' ⟨⟨kd, mo, er, lv, rv, rfl, hs, h⟩, hb⟩
 obtain ⟨rfl, rfl, rfl⟩ := vsays_one hv hs
 refine ⟨?_, hb⟩
 rcases h with ⟨_, rfl, rfl⟩ | ⟨_, ld, rd, hw⟩
 · exact ⟨_, _, _, _, _, _, rfl⟩
 · obtain ⟨X, q, ns, m, B, B', f, c, _, _, _, _, _, _, _, _, _, _, h1, h2⟩ := hw.way
   obtain ⟨a1, c1, rfl⟩ := sliceShape h1
   obtain ⟨a2, c2, rfl⟩ := sliceShape h2
   exact ⟨_, _, _, _, _, _, rfl⟩
theorem tjudge_v {k0 k1 R Q J who ratio kind most err : Int} (hv : VSays k0 k1 R Q J who ratio kind most err) (w : World) : Calls Try.prog 6 #[.agg #[.int .i64 k0, .int .i64 k1, .int .i64 R, .int .i64 Q, .int .i64 J], .int .i64 who, .int .i64 ratio] w fun e w' => e = .returned (.tuple #[.int .i64 kind, .int .i64 most, .int .i64 err]) ∧ Below w.heap.size w w' := by
 refine (tjudge_any k0 k1 R Q J who ratio w).mono ?_
 rintro e w' ⟨⟨kd, mo, er, rfl, hs⟩, hb⟩
 obtain ⟨rfl, rfl, rfl⟩ := vsays_one hv hs
 exact ⟨rfl, hb⟩
set_option maxRecDepth 100000 in
set_option maxHeartbeats 8000000 in
theorem thr_any (k0 k1 R Q J who ratio : Int) (w : World) : Calls Try.prog 5 #[.agg #[.int .i64 k0, .int .i64 k1, .int .i64 R, .int .i64 Q, .int .i64 J], .int .i64 who, .int .i64 ratio] w fun e w' => (∃ n err, e = .returned (.tuple #[.int .i64 n, .int .i64 err]) ∧ TSays k0 k1 R Q J who ratio n err) ∧ Below w.heap.size w w' := by
 obtain ⟨kind, most, er, hv⟩ := vsays_ex k0 k1 R Q J who ratio
 have HV := hide hv
 have her := vsays_err hv
 clear hv
 obtain ⟨S, hS⟩ : ∃ S, w.heap.size = S := ⟨_, rfl⟩
 go_enter Try.func5, Try.ntmps5
 go_upto_region 1 with fail
 obtain ⟨W, hW⟩ : ∃ W, W = w.alloc (.cells #[.int .i64 k0, .int .i64 k1, .int .i64 R, .int .i64 Q, .int .i64 J] 24) := ⟨_, rfl⟩
 rw [← hW]
 have R0 : Blk W S [.int .i64 k0, .int .i64 k1, .int .i64 R, .int .i64 Q, .int .i64 J] := by
  have := Blk.new w [.int .i64 k0, .int .i64 k1, .int .i64 R, .int .i64 Q, .int .i64 J] 24
  rw [hW]; simpa [hS] using this
 have BS : Below S w W := by rw [hW, ← hS]; exact (Below.refl _ _).alloc (Nat.le_refl _) _
 clear hW
 obtain ⟨r_0, r_1, r_2, r_3, r_4⟩ := R0.c5
 have H0 := hide R0; have HB := hide BS
 clear R0 BS
 go_wp2_with fail
 refine (judge_v HV.out W).mono ?_
 rintro e w1 ⟨⟨la, ln, lc, ra, rn, rc, rfl⟩, hA⟩
 clear r_0 r_1 r_2 r_3 r_4
 obtain ⟨V, hVV⟩ : ∃ V, V = w1.alloc (.cells #[.int .i64 kind, .int .i64 most, .slice la ln lc, .slice ra rn rc] 33) := ⟨_, rfl⟩
 have hAV : Below W.heap.size W V := by rw [hVV]; exact hA.alloc hA.size _
 have H0 := hide (H0.out.below hAV H0.out.lt)
 have HB := hide (HB.out.trans (hAV.mono (Nat.le_of_lt (by have := HB.out.size; have := World.block_lt_of_cell? W _ (show W.cell? ⟨S, 0, none⟩ = _ from (by assumption : Hid (Blk W S _)).out 0 _ rfl |>.1); omega))))
 go_upto_region 2 with fail
 rw [← hVV]
 clear hVV hA hAV
 by_cases h04 : er = 0 ∨ er = 4
 case neg =>
  have hb1 : ((er : Int) == 0) = false := by simp; omega
  have hb2 : ((er : Int) == 4) = false := by simp; omega
  have hb3 : ((er : Int) != 0) = true := by simp; omega
  have hb4 : ((er : Int) != 4) = true := by simp; omega
  have H04 := hide h04
  clear h04
  go_wp2
  go_ret2
  exact ⟨⟨0, er, rfl, kind, most, er, HV.out, .inl ⟨by have := H04.out; omega, by have := H04.out; omega, rfl, rfl⟩⟩, by rw [hS]; exact HB.out⟩
 have hJ := vsays_jit HV.out h04
 obtain ⟨q, rfl⟩ : ∃ q : Nat, J = (q : Int) := ⟨J.toNat, by omega⟩
 have q4 : (q : Int) ≤ 3 := by omega
 have q0 : (0 : Int) ≤ (q : Int) := Int.natCast_nonneg _
 have f9 : IntKind.i64.wrap ((q : Int) + 1) = (q : Int) + 1 := IntWalk.i64_in _ (by omega)
 have r_4 := (H0.out 4 _ rfl).1
 have hcase : ((er : Int) = 0) ∨ (er = 4 ∧ ((er : Int) == 0) = false) := by rcases h04 with h | h; exact .inl h; exact .inr ⟨h, by rw [h]; rfl⟩
 have H04 := hide h04
 have HW0 : Hid (∀ i : Nat, i < 0 → ∃ kd mo, VSays k0 k1 R Q i who ratio kd mo 0 ∧ kd ≠ 2) := hide (fun i h => by omega)
 clear h04 her
 have HBV : Hid (Below (S + 1) V V) := hide (Below.refl _ _)
 rcases hcase with h | ⟨h, hb⟩
 all_goals
  subst h
  go_wp2_with fail
  clear r_4
  go_loopw [31] (fun i wr => ∃ j : Nat, j ≤ q + 1 ∧ i = .int .i64 j ∧ Hid (∀ i : Nat, i < j → ∃ kd mo, VSays k0 k1 R Q i who ratio kd mo 0 ∧ kd ≠ 2) ∧ Hid (Below (S + 1) V wr)) (fun i _ => q + 1 - (intOf i).toNat)
  case atStart => exact ⟨0, Nat.zero_le _, rfl, HW0, HBV⟩
  case round =>
   clear HW0 HBV
   obtain ⟨j, hj, rfl, HJ, HBw⟩ := hrel
   have j0 : (0 : Int) ≤ (j : Int) := Int.natCast_nonneg _
   by_cases hjl : j < q + 1
   · have hjl' : (j : Int) < (q : Int) + 1 := by omega
     have fj : IntKind.i64.wrap ((j : Int) + 1) = (j : Int) + 1 := IntWalk.i64_in _ (by omega)
     obtain ⟨kd, mo, e2, hv2⟩ := vsays_ex k0 k1 R Q (j : Int) who ratio
     have HV2 := hide hv2
     clear hv2
     have R0 := H0.out.below HBw.out (by omega)
     obtain ⟨r_0, r_1, r_2, r_3, r_4⟩ := R0.c5
     obtain ⟨Y, hY⟩ : ∃ Y, Y = wr.alloc (.cells #[.int .i64 k0, .int .i64 k1, .int .i64 R, .int .i64 Q, .int .i64 q] 24) := ⟨_, rfl⟩
     have PY := Blk.new wr [.int .i64 k0, .int .i64 k1, .int .i64 R, .int .i64 Q, .int .i64 q] 24
     rw [← hY] at PY
     have hsz : S + 1 ≤ wr.heap.size := R0.lt
     have hBY : Below (S + 1) V Y := by rw [hY]; exact HBw.out.alloc hsz _
     have y4 := (PY 4 _ rfl).1
     have yf := (PY 4 _ rfl).2
     go_upto_region 8 with fail
     rw [← hY]
     clear hY r_0 r_1 r_2 r_3 r_4 R0
     have PZ := PY.set (j := 4) (by simp) (.int .i64 j)
     have hBZ := hBY.setCell (p := ⟨wr.heap.size, 4, none⟩) hsz (.int .i64 j)
     obtain ⟨Z, hZ⟩ : ∃ Z, Z = Y.setCell ⟨wr.heap.size, 4, none⟩ (.int .i64 j) := ⟨_, rfl⟩
     rw [← hZ] at PZ hBZ
     have PZ : Blk Z wr.heap.size [.int .i64 k0, .int .i64 k1, .int .i64 R, .int .i64 Q, .int .i64 j] := PZ
     obtain ⟨z_0, z_1, z_2, z_3, z_4⟩ := PZ.c5
     have hZs := PZ.lt
     have HBZ := hide hBZ
     go_upto_region 9 with fail
     rw [← hZ]
     clear hZ y4 yf PY hBY PZ hBZ
     go_wp2_with fail
     refine (judge_v HV2.out Z).mono ?_
     rintro e w5 ⟨⟨la2, ln2, lc2, ra2, rn2, rc2, rfl⟩, hA5⟩
     clear z_0 z_1 z_2 z_3 z_4
     obtain ⟨U, hU⟩ : ∃ U, U = w5.alloc (.cells #[.int .i64 kd, .int .i64 mo, .slice la2 ln2 lc2, .slice ra2 rn2 rc2] 33) := ⟨_, rfl⟩
     have PU := Blk.new w5 [.int .i64 kd, .int .i64 mo, .slice la2 ln2 lc2, .slice ra2 rn2 rc2] 33
     rw [← hU] at PU
     have u0 := (PU 0 _ rfl).1
     have HBU : Hid (Below (S + 1) V U) := hide (by rw [hU]; exact (HBZ.out.trans (hA5.mono (by omega))).alloc (by have := hA5.size; omega) _)
     go_upto_region 10 with fail
     rw [← hU]
     clear hU PU hA5
     by_cases he2 : e2 = 0
     case neg =>
      have heb : ((e2 : Int) == 0) = false := by simpa using he2
      have HE2 := hide he2
      clear he2
      go_wp2
      go_ret2
      exact ⟨⟨0, e2, rfl, kind, most, _, HV.out, .inr ⟨by first | exact .inl rfl | exact .inr rfl, j, HJ.out, .inr ⟨by omega, kd, mo, e2, HV2.out, .inl ⟨HE2.out, rfl, rfl⟩⟩⟩⟩, by rw [hS]; exact HB.out.trans (HBU.out.mono (by omega))⟩
     subst he2
     by_cases hk2 : kd = 2
     · subst hk2
       go_wp2
       go_ret2
       exact ⟨⟨j, 0, rfl, kind, most, _, HV.out, .inr ⟨by first | exact .inl rfl | exact .inr rfl, j, HJ.out, .inr ⟨by omega, 2, mo, 0, HV2.out, .inr ⟨rfl, rfl, rfl, rfl⟩⟩⟩⟩, by rw [hS]; exact HB.out.trans (HBU.out.mono (by omega))⟩
     · have hkb : ((kd : Int) == 2) = false := by simpa using hk2
       have HJ2 : Hid (∀ i : Nat, i < j + 1 → ∃ kd mo, VSays k0 k1 R Q i who ratio kd mo 0 ∧ kd ≠ 2) := hide (fun i hi => by
        by_cases hij : i = j
        · subst hij; exact ⟨kd, mo, HV2.out, hk2⟩
        · exact HJ.out i (by omega))
       clear hk2
       have hm9 : j + 1 ≤ q + 1 := hjl
       go_wp2
       exact ⟨⟨j + 1, hm9, rfl, HJ2, HBU⟩, meas9 hjl⟩
   · obtain rfl : j = q + 1 := by omega
     go_wp2
     go_ret2
     exact ⟨⟨0, 3, rfl, kind, most, _, HV.out, .inr ⟨by first | exact .inl rfl | exact .inr rfl, q + 1, HJ.out, .inl ⟨by simp, rfl, rfl⟩⟩⟩, by rw [hS]; exact HB.out.trans (HBw.out.mono (by omega))⟩
end Go.Proofs.Ytagbikgfkakbfaa
namespace Go.Proofs.Ytagbikgfkakbfaa
open Go.RowKit
set_option linter.unusedSimpArgs false
set_option linter.unusedVariables false
theorem roundInfo : (Try.prog.info? 71).map (fun i => (i.zero, i.size, i.bytes)) = some (some (.agg #[.int .i64 0, .int .i64 0, .int .i64 0, .int .i64 0, .int .i64 0, .int .i64 0]), 6, 48) := by kernel_rfl
theorem own6_drew {w : World} {B n : Nat} {e : TypeId} {v : Value} {xs : List Value} (h : w.ownsRow B e 6 v n xs) : w.drew.ownsRow B e 6 v n xs := h
theorem news6 (w : World) (vs : List Value) (t : TypeId) : ∀ (j : Nat) (u : Value), vs[j]? = some u → (w.alloc (.cells vs.toArray t)).cell? ((⟨w.heap.size, 0, none⟩ : Addr).add j) = some u := fun j u hj => by
 have e1 : (⟨w.heap.size, 0, none⟩ : Addr).add j = ⟨w.heap.size, j, none⟩ := by unfold Addr.add; split <;> simp_all
 rw [e1]; exact (Blk.new w vs t j u hj).1
end Go.Proofs.Ytagbikgfkakbfaa
