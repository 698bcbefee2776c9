/-
  Lemmas and walks for the statement: TopMeanW.
-/
import Derived.Test.YtjjikhaaimfneaaGreatDoorU53
namespace Go.Proofs.YtjjikhaaimfneaaGreatDoor
open Go.RowKit
set_option linter.unusedSimpArgs false
set_option linter.unusedVariables false
set_option maxRecDepth 100000 in
set_option maxHeartbeats 8000000 in
theorem topMeanW (w : World) (k0 k1 R Q J who ratio : Int) (hG : GL w) : Calls Tryz.prog 6 #[.agg #[.int .i64 k0, .int .i64 k1, .int .i64 R, .int .i64 Q, .int .i64 J], .int .i64 who, .int .i64 ratio] w fun e w' => e = .returned (.bool true) ∧ Below w.heap.size w w' := by
 obtain ⟨kind, most, er, hv⟩ := vsays_ex k0 k1 R Q J who ratio
 have HV := hide hv
 have HG := hide hG
 clear hv hG
 obtain ⟨S, hS⟩ : ∃ S, w.heap.size = S := ⟨_, rfl⟩
 go_enter Tryz.func6, Tryz.ntmps6
 go_upto_region 1 with fail
 obtain ⟨W, hW⟩ : ∃ W, W = w.alloc (.cells #[.int .i64 k0, .int .i64 k1, .int .i64 R, .int .i64 Q, .int .i64 J] 49) := ⟨_, rfl⟩
 rw [← hW]
 have R0 : Blk W S [.int .i64 k0, .int .i64 k1, .int .i64 R, .int .i64 Q, .int .i64 J] := by
  have := Blk.new w [.int .i64 k0, .int .i64 k1, .int .i64 R, .int .i64 Q, .int .i64 J] 49
  rw [hW]; simpa [hS] using this
 have BS : Below S w W := by rw [hW, ← hS]; exact (Below.refl _ _).alloc (Nat.le_refl _) _
 clear hW
 have H0 := hide R0; have HB := hide BS
 have HGW := hide (HG.out.below (by rw [hS]; exact BS))
 clear R0 BS
 go_upto_region 3 with (go_at_call 7; refine (alive_any W HGW.out).mono ?_; rintro e w1 ⟨rfl, hb⟩; have H1 := hide (H0.out.below hb H0.out.lt); have HB1 := hide (HB.out.trans (hb.mono (Nat.le_of_lt H0.out.lt))); clear hb)
 have hs1 : S ≤ w1.heap.size := Nat.le_of_lt H1.out.lt
 obtain ⟨r_0, r_1, r_2, r_3, r_4⟩ := H1.out.c5
 go_wp2_with fail
 refine (judge_w HV.out w1).mono ?_
 rintro e w2 ⟨⟨la, ln, lc, ra, rn, rc, rfl⟩, hb⟩
 clear r_0 r_1 r_2 r_3 r_4
 have H2 := hide (H1.out.below hb H1.out.lt)
 have HB2 := hide (HB1.out.trans (hb.mono hs1))
 clear hb H0 HB H1 HB1 HGW
 obtain ⟨V, hV⟩ : ∃ V, V = w2.alloc (.cells #[.int .i64 kind, .int .i64 most, .slice la ln lc, .slice ra rn rc] 52) := ⟨_, rfl⟩
 obtain ⟨T, hT⟩ : ∃ T, w2.heap.size = T := ⟨_, rfl⟩
 have H3 := hide (show Blk V S [.int .i64 k0, .int .i64 k1, .int .i64 R, .int .i64 Q, .int .i64 J] from by rw [hV]; exact H2.out.alloc _)
 have HV3 : Hid (Blk V T [.int .i64 kind, .int .i64 most, .slice la ln lc, .slice ra rn rc]) := hide (by rw [hV, ← hT]; exact Blk.new w2 _ _)
 have HB3 := hide (show Below S w V from by rw [hV]; exact HB2.out.alloc (Nat.le_of_lt H2.out.lt) _)
 clear H2 HB2
 go_upto_region 4 with fail
 (try rw [hT])
 rw [← hV]
 clear hV hT
 obtain ⟨r_0, r_1, r_2, r_3, r_4⟩ := H3.out.c5
 go_wp2_with fail
 refine (graph_v HV.out V).mono ?_
 rintro e w4 ⟨⟨N, ga, gn, gc, es, rfl, hE, hGr, hsay⟩, hb⟩
 clear r_0 r_1 r_2 r_3 r_4
 have hSV : S < V.heap.size := H3.out.lt
 have HV4 := hide (HV3.out.below hb HV3.out.lt)
 have HB4 := hide (HB3.out.trans (hb.mono (by omega)))
 clear hb H3 HV3 HB3 hSV
 obtain ⟨Y, hY⟩ : ∃ V, V = w4.alloc (.cells #[.int .i64 N, .slice ga gn gc] 57) := ⟨_, rfl⟩
 obtain ⟨U, hU⟩ : ∃ T, w4.heap.size = T := ⟨_, rfl⟩
 have HV5 := hide (show Blk Y T [.int .i64 kind, .int .i64 most, .slice la ln lc, .slice ra rn rc] from by rw [hY]; exact HV4.out.alloc _)
 have HU5 : Hid (Blk Y U [.int .i64 N, .slice ga gn gc]) := hide (by rw [hY, ← hU]; exact Blk.new w4 _ _)
 have HB5 := hide (show Below S w Y from by rw [hY]; exact HB4.out.alloc (by have := HB4.out.size; omega) _)
 have HE5 := hide (show EdgesAt Y ga gn gc es from by rw [hY]; exact hE.below ((Below.refl w4.heap.size w4).alloc (Nat.le_refl _) _))
 have HGO := hide hGr; have HSY := hide hsay
 clear HV4 HB4 hE hGr hsay
 go_upto_region 5 with fail
 (try rw [hU])
 rw [← hY]
 clear hY hU
 have g_0 := (HU5.out 0 _ rfl).1; have g_1 := (HU5.out 1 _ rfl).1
 go_wp2_with fail
 refine (great_ok N ga gn gc es Y HE5.out HGO.out).mono ?_
 rintro e w6 ⟨⟨x, y, r, rfl, hgs⟩, hb⟩
 clear g_0 g_1
 have hTY : T < Y.heap.size := HV5.out.lt
 have HV6 := hide (HV5.out.below hb hTY)
 have HB6 := hide (HB5.out.trans (hb.mono (by have := HB5.out.size; omega)))
 have HGS := hide hgs
 clear hb HV5 HU5 HB5 HE5 hTY hgs
 obtain ⟨Z, hZ⟩ : ∃ V, V = w6.alloc (.cells #[.int .i64 x, .int .i64 y] 61) := ⟨_, rfl⟩
 obtain ⟨F, hF⟩ : ∃ T, w6.heap.size = T := ⟨_, rfl⟩
 have HV7 := hide (show Blk Z T [.int .i64 kind, .int .i64 most, .slice la ln lc, .slice ra rn rc] from by rw [hZ]; exact HV6.out.alloc _)
 have HF7 : Hid (Blk Z F [.int .i64 x, .int .i64 y]) := hide (by rw [hZ, ← hF]; exact Blk.new w6 _ _)
 have HB7 := hide (show Below S w Z from by rw [hZ]; exact HB6.out.alloc (by have := HB6.out.size; omega) _)
 clear HV6 HB6
 go_upto_region 6 with fail
 (try rw [hF])
 rw [← hZ]
 clear hZ hF
 have v_0 := (HV7.out 0 _ rfl).1
 have f_0 := (HF7.out 0 _ rfl).1
 by_cases he : er = 0
 case neg =>
  have hb1 : ((er : Int) != 0) = true := by simp; exact he
  have hb2 : ((er : Int) == 0) = false := by simp; exact he
  go_wp2
  go_ret
  exact ⟨by simp, by first | exact HB7.out | (rw [hS]; exact HB7.out)⟩
 subst he
 obtain ⟨hc, hk⟩ := HSY.out rfl
 obtain ⟨rfl, hx⟩ := great_sign HGO.out hc HGS.out
 by_cases hk2 : kind = 2
 · have hx2 : 0 < x := hx.2 (hk.1 hk2)
   have hb3 : ((kind : Int) == 2) = true := by simp; exact hk2
   have hb4 : decide (0 < x) = true := decide_eq_true hx2
   clear hc hk hx hk2
   go_wp2
   go_ret
   exact ⟨by simp, by first | exact HB7.out | (rw [hS]; exact HB7.out)⟩
 · have hx2 : ¬ 0 < x := fun h => hk2 (hk.2 (hx.1 h))
   have hb3 : ((kind : Int) == 2) = false := by simp; exact hk2
   have hb4 : decide (0 < x) = false := decide_eq_false hx2
   clear hc hk hx hk2
   go_wp2
   go_ret
   exact ⟨by simp, by first | exact HB7.out | (rw [hS]; exact HB7.out)⟩
end Go.Proofs.YtjjikhaaimfneaaGreatDoor
