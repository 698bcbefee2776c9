/-
  Lemmas and walks for the statement: BTell.
-/
import Derived.Test.YtjjikhaaimfneaaGreatDoorU47
namespace Go.Proofs.YtjjikhaaimfneaaGreatDoor
open Go.RowKit
set_option linter.unusedSimpArgs false
set_option linter.unusedVariables false
theorem blk_heapB {w : World} {b : Nat} {vs : List Value} {t : TypeId} (h : w.heap[b]? = some (.cells vs.toArray t (0, 0))) : Blk w b vs := fun j v hj => by
 constructor
 · simp only [World.cell?, h]; simpa using hj
 · simp [World.frozen?, h]
theorem own_below {w w' : World} {B : Nat} {e : TypeId} {v : Value} {n : Nat} {xs : List Value} (h : w.ownsRow B e 1 v n xs) (hb : Below w.heap.size w w') : w'.ownsRow B e 1 v n xs := by
 refine ⟨h.1, ?_⟩
 rcases h.2 with h0 | ⟨g, cap, cur, hv, hB, hg, h1, h2, h3, h4⟩
 · exact .inl h0
 · exact .inr ⟨g, cap, cur, hv, hB, (hb.block g (Array.getElem?_eq_some_iff.1 hg).1).trans hg, h1, h2, h3, h4⟩
theorem d4b {Z : World} {b : Nat} {v0 v1 v2 v3 : Value} (h : Blk Z b [v0, v1, v2, v3]) : Z.cell? ⟨b, 0, none⟩ = some v0 ∧ Z.cell? ⟨b, 1, none⟩ = some v1 ∧ Z.cell? ⟨b, 2, none⟩ = some v2 ∧ Z.cell? ⟨b, 3, none⟩ = some v3 :=
 ⟨(h 0 _ rfl).1, (h 1 _ rfl).1, (h 2 _ rfl).1, (h 3 _ rfl).1⟩
set_option maxRecDepth 100000 in
set_option maxHeartbeats 16000000 in
theorem tell_any (s : ByteArray) (hs : s.size ≤ 2000000) (ratio : Int) (w : World) (hG : GL w) : Calls Tryz.prog 18 #[.string s, .int .i64 ratio] w fun e w' => TlEnds s.data.toList ratio e w' ∧ Below w.heap.size w w' := by
 obtain ⟨i0, hi0, hz0, hz1, hz2⟩ := info_parts strInfoB
 have HG := hide hG
 clear hG
 obtain ⟨S, hS⟩ : ∃ S, w.heap.size = S := ⟨_, rfl⟩
 go_enter Tryz.func18, Tryz.ntmps18
 go_wp2_with fail
 refine (parse_any s hs w HG.out).mono ?_
 rintro e w1 ⟨⟨k0, k1, R, Q, J, e00, rfl, hps⟩, hA⟩
 have HPS := hide hps
 clear hps
 obtain ⟨W, hW⟩ : ∃ W, W = w1.alloc (.cells #[.int .i64 k0, .int .i64 k1, .int .i64 R, .int .i64 Q, .int .i64 J] 49) := ⟨_, rfl⟩
 obtain ⟨T, hT⟩ : ∃ T, w1.heap.size = T := ⟨_, rfl⟩
 have HHW : Hid (W.heap[T]? = some (.cells #[.int .i64 k0, .int .i64 k1, .int .i64 R, .int .i64 Q, .int .i64 J] 49 (0, 0))) := hide (by rw [hW, ← hT]; exact World.alloc_heap_new w1 _)
 have HBW := hide (show Below S w W from by rw [hW, ← hS]; exact hA.alloc hA.size _)
 clear hA
 go_upto_region 2 with fail
 (try rw [hT])
 rw [← hW]
 clear hW hT
 by_cases he : e00 = 0
 case neg =>
  have hb1 : ((e00 : Int) != 0) = true := by simp; exact he
  have hb2 : ((e00 : Int) == 0) = false := by simp; exact he
  go_wp2
  go_ret2
  exact ⟨tl_nil _ _ _ _ ⟨k0, k1, R, Q, J, e00, HPS.out, .inl ⟨he, rfl, rfl⟩⟩, by rw [hS]; exact HBW.out⟩
 subst he
 obtain ⟨a0, m0, e0, v0⟩ := vsays_ex k0 k1 R Q J 0 ratio
 obtain ⟨a1, m1, e1, v1⟩ := vsays_ex k0 k1 R Q J 1 ratio
 have V0 := hide v0; have V1 := hide v1
 have HK0 := hide (vsays_b v0); have HK1 := hide (vsays_b v1)
 clear v0 v1
 go_upto_region 6 with fail
 go_loopw [8, 20] (fun v i wr => ∃ k : Nat, k ≤ 2 ∧ i = .int .i64 k ∧ (1 ≤ k → e0 = 0) ∧ (2 ≤ k → e1 = 0) ∧ Hid (wr.ownsRow w.heap.size 9 1 v k (([lineL 0 a0 m0, lineL 1 a1 m1].take k).map strV)) ∧ Hid (wr.heap[T]? = some (.cells #[.int .i64 k0, .int .i64 k1, .int .i64 R, .int .i64 Q, .int .i64 J] 49 (0, 0))) ∧ Hid (Below S w wr)) (fun _ i _ => 2 - (intOf i).toNat)
 case atStart => exact ⟨0, by omega, rfl, fun h => absurd h (by omega), fun h => absurd h (by omega), hide ⟨rfl, .inl ⟨rfl, rfl⟩⟩, HHW, HBW⟩
 case round =>
  obtain ⟨k, hk, rfl, hz0e, hz1e, HO, HH, HB⟩ := hrel
  clear HHW HBW
  have k0' : (0 : Int) ≤ (k : Int) := Int.natCast_nonneg _
  by_cases hlt : k < 2
  · rcases (show k = 0 ∨ k = 1 by omega) with rfl | rfl
    · have HGr := hide (HG.out.below (by rw [hS]; exact HB.out))
      have hsz : S ≤ wr.heap.size := by have := HB.out.size; omega
      have hTz : T < wr.heap.size := (Array.getElem?_eq_some_iff.1 HH.out).1
      have HR0 := hide (blk_heapB (vs := [.int .i64 k0, .int .i64 k1, .int .i64 R, .int .i64 Q, .int .i64 J]) HH.out)
      obtain ⟨r_0, r_1, r_2, r_3, r_4⟩ := HR0.out.c5
      go_wp2_with fail
      refine (judge_w V0.out wr).mono ?_
      rintro e w2 ⟨⟨la, ln, lc, ra, rn, rc, rfl⟩, hb⟩
      clear r_0 r_1 r_2 r_3 r_4 HR0
      have hnb := row_typeB HO.out HH.out (by decide)
      have HO2 := hide (show w2.ownsRow w.heap.size 9 1 u8 0 (([lineL 0 a0 m0, lineL 1 a1 m1].take 0).map strV) from own_below HO.out hb)
      have HH2 := hide (show w2.heap[T]? = some (.cells #[.int .i64 k0, .int .i64 k1, .int .i64 R, .int .i64 Q, .int .i64 J] 49 (0, 0)) from (hb.block T hTz).trans HH.out)
      have HB2 := hide (HB.out.trans (hb.mono hsz))
      have HG2 := hide (HGr.out.below hb)
      clear HO HH HB HGr hb hnb
      obtain ⟨V, hV⟩ : ∃ V, V = w2.alloc (.cells #[.int .i64 a0, .int .i64 m0, .slice la ln lc, .slice ra rn rc] 52) := ⟨_, rfl⟩
      obtain ⟨U, hU⟩ : ∃ U, w2.heap.size = U := ⟨_, rfl⟩
      have hown : V.ownsRow w.heap.size 9 1 u8 0 (([lineL 0 a0 m0, lineL 1 a1 m1].take 0).map strV) := by rw [hV]; exact HO2.out.alloc _
      have HHV : Hid (V.heap[T]? = some (.cells #[.int .i64 k0, .int .i64 k1, .int .i64 R, .int .i64 Q, .int .i64 J] 49 (0, 0))) := hide (by rw [hV]; exact (((Below.refl w2.heap.size w2).alloc (Nat.le_refl _) _).block T (Array.getElem?_eq_some_iff.1 HH2.out).1).trans HH2.out)
      have HBV := hide (show Below S w V from by rw [hV]; exact HB2.out.alloc (by have := HB2.out.size; omega) _)
      have HGV := hide (show GL V from by rw [hV]; exact HG2.out.below ((Below.refl _ _).alloc (Nat.le_refl _) _))
      have HU : Hid (Blk V U [.int .i64 a0, .int .i64 m0, .slice la ln lc, .slice ra rn rc]) := hide (by rw [hV, ← hU]; exact Blk.new w2 _ _)
      clear HO2 HH2 HB2 HG2
      go_upto_region 10 with fail
      (try rw [hU])
      rw [← hV]
      clear hV hU
      have hVs : S ≤ V.heap.size := by have := HBV.out.size; omega
      by_cases he : e0 = 0
      case neg =>
       have hb1 : ((e0 : Int) != 0) = true := by simp; exact he
       have hb2 : ((e0 : Int) == 0) = false := by simp; exact he
       go_wp2
       go_ret2
       exact ⟨tl_nil _ _ _ _ ⟨k0, k1, R, Q, J, 0, HPS.out, .inr ⟨rfl, a0, m0, e0, a1, m1, e1, V0.out, V1.out, .inl ⟨he, rfl, rfl⟩⟩⟩, by rw [hS]; exact HBV.out⟩
      have hkd := HK0.out.1 he
      have hmb := HK0.out.2
      obtain ⟨v_0, v_1, v_2, v_3⟩ := d4b HU.out
      rcases hkd with hkd | hkd
      case inr =>
       have hb1 : ((a0 : Int) == 2) = true := by simp; exact hkd
       have hb2 : ((a0 : Int) != 2) = false := by simp; exact hkd
       obtain ⟨x, hx⟩ : ∃ x, Lib.itoa 0 ++ stL = x := ⟨_, rfl⟩
       have A1 := fun w => add_lists (Lib.itoa 0) stL (by have := itoa_len12 (n := 0) (by omega) (by omega); omega) (by decide) w
       rw [hx] at A1
       have A2 : ∀ w, (Op.stringOp .add ⟨(Lib.itoa 0).toArray⟩ ⟨#[32, 115, 116, 97, 114, 118, 101, 115]⟩).run Tryz.prog w = .ok (.string ⟨x.toArray⟩) w := A1
       have HX := hide (show lineL 0 a0 m0 = x from by rw [lineL, if_pos hkd, hx])
       have HI := hide (fun w => itoa_any 0 (by omega) (by omega) w)
       clear A1 hx
       go_wp2_with (first | (go_at_call 35; refine (HI.out _).mono ?_; rintro e w3 ⟨rfl, hw1⟩; have hw2 := hw1.symm; clear hw1; subst hw2) | (at_builtin; refine wpList_append_own _ rfl _ _ 42 rfl w.heap.size 9 i0 (.string ByteArray.empty) 1 16 Tryz.underlying42 hi0 hz0 hz1 hz2 rfl (by decide) _ _ _ rfl (hown.alloc _) ⟨V.heap.size, 0, none⟩ 1 1 [.string ⟨x.toArray⟩] rfl rfl (cell_one_new _ _ _) (by simp [Value.oneCell']) (by unfold maxLen; omega) (by omega) (by simp; omega) ?_; intro v' w5 hown1 hgrow _))
       refine ⟨⟨1, by omega, by first | rfl | go_num, fun _ => he, fun h => absurd h (by omega), hide (by have h9 := hown1; rw [← HX.out] at h9; exact h9), hide ?_, hide ((HBV.out.alloc hVs _).grown hgrow (by simp; omega) (fun g hg => by have := own_row hown g hg; omega))⟩, by simp [intOf]⟩
       have h8 := hgrow.block T (by have := (Array.getElem?_eq_some_iff.1 HHV.out).1; simp; omega) (fun e => row_typeB hown HHV.out (by decide) e.symm)
       rw [h8]
       exact (((Below.refl V.heap.size V).alloc (Nat.le_refl _) _).block T (Array.getElem?_eq_some_iff.1 HHV.out).1).trans HHV.out
      case inl =>
       have hb1 : ((a0 : Int) == 2) = false := by rw [hkd]; rfl
       have hb2 : ((a0 : Int) != 2) = true := by rw [hkd]; rfl
       obtain ⟨x1, hx1⟩ : ∃ x, Lib.itoa 0 ++ boL = x := ⟨_, rfl⟩
       obtain ⟨x, hx⟩ : ∃ x, x1 ++ Lib.itoa m0 = x := ⟨_, rfl⟩
       have l0 := itoa_len12 (n := 0) (by omega) (by omega)
       have l1 := itoa_len12 hmb.1 hmb.2
       have lx : x1.length ≤ 100 := by rw [← hx1, List.length_append]; have : boL.length = 9 := rfl; omega
       have A1 := fun w => add_lists (Lib.itoa 0) boL (by omega) (by decide) w
       have A3 := fun w => add_lists x1 (Lib.itoa m0) (by omega) (by omega) w
       rw [hx1] at A1
       rw [hx] at A3
       have A2 : ∀ w, (Op.stringOp .add ⟨(Lib.itoa 0).toArray⟩ ⟨#[32, 98, 111, 117, 110, 100, 101, 100, 32]⟩).run Tryz.prog w = .ok (.string ⟨x1.toArray⟩) w := A1
       have HX := hide (show lineL 0 a0 m0 = x from by rw [lineL, if_neg (by omega), hx1, hx])
       have HI := hide (fun w => itoa_any 0 (by omega) (by omega) w)
       have HI2 := hide (fun w hg => itoaG m0 (by omega) (by omega) w hg)
       clear A1 hx hx1 l0 l1 lx
       go_upto_region 9 with fail
       have HC : Hid (∀ w', Below V.heap.size V w' → w'.cell? ⟨U, 1, none⟩ = some (.int .i64 m0)) := hide (fun w' hb => (HU.out.below hb HU.out.lt 1 _ rfl).1)
       refine wp_region_G 6 (fun w' => w'.cell? ⟨U, 1, none⟩ = some (.int .i64 m0)) (by kernel_rfl) ?_
       obtain ⟨Y, hY⟩ : ∃ Y, Y = V.drew := ⟨_, rfl⟩
       rw [← hY]
       have HBY : Hid (Below V.heap.size V Y) := hide (by rw [hY]; exact (Below.refl _ _).drew)
       clear hY
       have hF := hide (HC.out Y HBY.out)
       refine kP 0 hF.out ?_
       refine kB 1 hF.out ?_
       refine kB 4 hF.out ?_
       refine kB 5 hF.out ?_
       clear hF
       refine wpAnyG_oneF (i := 2) rfl (by kernel_rfl) (fun K hK => ?_)
       go_simp
       refine (HI.out _).mono ?_
       rintro e w3 ⟨rfl, hw1⟩
       have HB3 : Hid (Below V.heap.size V w3) := hide (by rw [hw1]; exact HBY.out)
       refine hK.out _ _ (HC.out _ HB3.out) ?_
       clear hK K hw1
       refine kL ?_
       have hF := hide (HC.out w3 HB3.out)
       refine kP 3 hF.out ?_
       clear hF
       refine wpAnyG_one (i := 6) rfl (by kernel_rfl) (by kernel_rfl) (fun K hK => ?_)
       go_simp
       refine (HI2.out w3 (HGV.out.below HB3.out)).mono ?_
       rintro e w4 ⟨rfl, hb⟩
       have HB4 := hide (HB3.out.trans (hb.mono HB3.out.size))
       refine hK.out _ _ ?_
       clear hK K hb
       refine kL ?_
       refine kC 7 ?_
       have hown4 : w4.ownsRow w.heap.size 9 1 u8 0 (([lineL 0 a0 m0, lineL 1 a1 m1].take 0).map strV) := own_below hown HB4.out
       have hH4 : w4.heap[T]? = some (.cells #[.int .i64 k0, .int .i64 k1, .int .i64 R, .int .i64 Q, .int .i64 J] 49 (0, 0)) := (HB4.out.block T (Array.getElem?_eq_some_iff.1 HHV.out).1).trans HHV.out
       have HBw := hide (HBV.out.trans (HB4.out.mono hVs))
       have hV4 : S ≤ w4.heap.size := by have := HBw.out.size; omega
       clear hown HHV HBV HC
       refine wpAnyG_one (i := 8) rfl (by kernel_rfl) (by kernel_rfl) (fun K hK => ?_)
       go_simp
       refine hK.out _ _ ?_
       clear hK K
       refine kL ?_
       refine wpAnyG_one (i := 9) rfl (by kernel_rfl) (by kernel_rfl) (fun K hK => ?_)
       refine step_appendP rfl (.tmp 30) (.tmp 38) 42 9 rfl 39 rfl w.heap.size i0 _ 1 16 Tryz.underlying42 hi0 hz0 hz1 hz2 rfl (by decide) u8 0 _ rfl (hown4.alloc _) ⟨w4.heap.size, 0, none⟩ 1 rfl [.string ⟨x.toArray⟩] rfl (cell_one_new _ _ _) (by simp [Value.oneCell']) (by unfold maxLen; omega) (by omega) (by first | omega | (simp; omega)) (fun v' w5 hown1 hgrow _ => ?_)
       refine hK.out _ _ ?_
       clear hK K
       refine kL ?_
       refine kC 10 ?_
       refine wpAnyG_done (by kernel_rfl) ?_ _
       have hh5 : w5.heap[T]? = some (.cells #[.int .i64 k0, .int .i64 k1, .int .i64 R, .int .i64 Q, .int .i64 J] 49 (0, 0)) := by
        have h8 := hgrow.block T (by have := (Array.getElem?_eq_some_iff.1 hH4).1; simp; omega) (fun e => row_typeB hown4 hH4 (by decide) e.symm)
        rw [h8]
        exact (((Below.refl w4.heap.size w4).alloc (Nat.le_refl _) _).block T (Array.getElem?_eq_some_iff.1 hH4).1).trans hH4
       have HO5 := hide hown1; have HH5 := hide hh5
       have HB5 := hide ((HBw.out.alloc hV4 _).grown hgrow (by simp; omega) (fun g hg => by have := own_row hown4 g hg; omega))
       clear hown1 hh5 hgrow hown4 hH4 HBw
       go_wp2
       exact ⟨⟨1, by omega, by first | rfl | go_num, fun _ => he, fun h => absurd h (by omega), hide (by have h9 := HO5.out; rw [← HX.out] at h9; exact h9), HH5, HB5⟩, by simp [intOf]⟩
    · have HGr := hide (HG.out.below (by rw [hS]; exact HB.out))
      have hz0e := hz0e (by omega)
      have hsz : S ≤ wr.heap.size := by have := HB.out.size; omega
      have hTz : T < wr.heap.size := (Array.getElem?_eq_some_iff.1 HH.out).1
      have HR0 := hide (blk_heapB (vs := [.int .i64 k0, .int .i64 k1, .int .i64 R, .int .i64 Q, .int .i64 J]) HH.out)
      obtain ⟨r_0, r_1, r_2, r_3, r_4⟩ := HR0.out.c5
      go_wp2_with fail
      refine (judge_w V1.out wr).mono ?_
      rintro e w2 ⟨⟨la, ln, lc, ra, rn, rc, rfl⟩, hb⟩
      clear r_0 r_1 r_2 r_3 r_4 HR0
      have hnb := row_typeB HO.out HH.out (by decide)
      have HO2 := hide (show w2.ownsRow w.heap.size 9 1 u8 1 (([lineL 0 a0 m0, lineL 1 a1 m1].take 1).map strV) from own_below HO.out hb)
      have HH2 := hide (show w2.heap[T]? = some (.cells #[.int .i64 k0, .int .i64 k1, .int .i64 R, .int .i64 Q, .int .i64 J] 49 (0, 0)) from (hb.block T hTz).trans HH.out)
      have HB2 := hide (HB.out.trans (hb.mono hsz))
      have HG2 := hide (HGr.out.below hb)
      clear HO HH HB HGr hb hnb
      obtain ⟨V, hV⟩ : ∃ V, V = w2.alloc (.cells #[.int .i64 a1, .int .i64 m1, .slice la ln lc, .slice ra rn rc] 52) := ⟨_, rfl⟩
      obtain ⟨U, hU⟩ : ∃ U, w2.heap.size = U := ⟨_, rfl⟩
      have hown : V.ownsRow w.heap.size 9 1 u8 1 (([lineL 0 a0 m0, lineL 1 a1 m1].take 1).map strV) := by rw [hV]; exact HO2.out.alloc _
      have HHV : Hid (V.heap[T]? = some (.cells #[.int .i64 k0, .int .i64 k1, .int .i64 R, .int .i64 Q, .int .i64 J] 49 (0, 0))) := hide (by rw [hV]; exact (((Below.refl w2.heap.size w2).alloc (Nat.le_refl _) _).block T (Array.getElem?_eq_some_iff.1 HH2.out).1).trans HH2.out)
      have HBV := hide (show Below S w V from by rw [hV]; exact HB2.out.alloc (by have := HB2.out.size; omega) _)
      have HGV := hide (show GL V from by rw [hV]; exact HG2.out.below ((Below.refl _ _).alloc (Nat.le_refl _) _))
      have HU : Hid (Blk V U [.int .i64 a1, .int .i64 m1, .slice la ln lc, .slice ra rn rc]) := hide (by rw [hV, ← hU]; exact Blk.new w2 _ _)
      clear HO2 HH2 HB2 HG2
      go_upto_region 10 with fail
      (try rw [hU])
      rw [← hV]
      clear hV hU
      have hVs : S ≤ V.heap.size := by have := HBV.out.size; omega
      by_cases he : e1 = 0
      case neg =>
       have hb1 : ((e1 : Int) != 0) = true := by simp; exact he
       have hb2 : ((e1 : Int) == 0) = false := by simp; exact he
       go_wp2
       go_ret2
       exact ⟨tl_nil _ _ _ _ ⟨k0, k1, R, Q, J, 0, HPS.out, .inr ⟨rfl, a0, m0, e0, a1, m1, e1, V0.out, V1.out, .inr (.inl ⟨hz0e, he, rfl, rfl⟩)⟩⟩, by rw [hS]; exact HBV.out⟩
      have hkd := HK1.out.1 he
      have hmb := HK1.out.2
      obtain ⟨v_0, v_1, v_2, v_3⟩ := d4b HU.out
      rcases hkd with hkd | hkd
      case inr =>
       have hb1 : ((a1 : Int) == 2) = true := by simp; exact hkd
       have hb2 : ((a1 : Int) != 2) = false := by simp; exact hkd
       obtain ⟨x, hx⟩ : ∃ x, Lib.itoa 1 ++ stL = x := ⟨_, rfl⟩
       have A1 := fun w => add_lists (Lib.itoa 1) stL (by have := itoa_len12 (n := 1) (by omega) (by omega); omega) (by decide) w
       rw [hx] at A1
       have A2 : ∀ w, (Op.stringOp .add ⟨(Lib.itoa 1).toArray⟩ ⟨#[32, 115, 116, 97, 114, 118, 101, 115]⟩).run Tryz.prog w = .ok (.string ⟨x.toArray⟩) w := A1
       have HX := hide (show lineL 1 a1 m1 = x from by rw [lineL, if_pos hkd, hx])
       have HI := hide (fun w => itoa_any 1 (by omega) (by omega) w)
       clear A1 hx
       go_wp2_with (first | (go_at_call 35; refine (HI.out _).mono ?_; rintro e w3 ⟨rfl, hw1⟩; have hw2 := hw1.symm; clear hw1; subst hw2) | (at_builtin; refine wpList_append_own _ rfl _ _ 42 rfl w.heap.size 9 i0 (.string ByteArray.empty) 1 16 Tryz.underlying42 hi0 hz0 hz1 hz2 rfl (by decide) _ _ _ rfl (hown.alloc _) ⟨V.heap.size, 0, none⟩ 1 1 [.string ⟨x.toArray⟩] rfl rfl (cell_one_new _ _ _) (by simp [Value.oneCell']) (by unfold maxLen; omega) (by omega) (by simp; omega) ?_; intro v' w5 hown1 hgrow _))
       refine ⟨⟨2, by omega, by first | rfl | go_num, fun _ => hz0e, fun h => he, hide (by have h9 := hown1; rw [← HX.out] at h9; exact h9), hide ?_, hide ((HBV.out.alloc hVs _).grown hgrow (by simp; omega) (fun g hg => by have := own_row hown g hg; omega))⟩, by simp [intOf]⟩
       have h8 := hgrow.block T (by have := (Array.getElem?_eq_some_iff.1 HHV.out).1; simp; omega) (fun e => row_typeB hown HHV.out (by decide) e.symm)
       rw [h8]
       exact (((Below.refl V.heap.size V).alloc (Nat.le_refl _) _).block T (Array.getElem?_eq_some_iff.1 HHV.out).1).trans HHV.out
      case inl =>
       have hb1 : ((a1 : Int) == 2) = false := by rw [hkd]; rfl
       have hb2 : ((a1 : Int) != 2) = true := by rw [hkd]; rfl
       obtain ⟨x1, hx1⟩ : ∃ x, Lib.itoa 1 ++ boL = x := ⟨_, rfl⟩
       obtain ⟨x, hx⟩ : ∃ x, x1 ++ Lib.itoa m1 = x := ⟨_, rfl⟩
       have l0 := itoa_len12 (n := 1) (by omega) (by omega)
       have l1 := itoa_len12 hmb.1 hmb.2
       have lx : x1.length ≤ 100 := by rw [← hx1, List.length_append]; have : boL.length = 9 := rfl; omega
       have A1 := fun w => add_lists (Lib.itoa 1) boL (by omega) (by decide) w
       have A3 := fun w => add_lists x1 (Lib.itoa m1) (by omega) (by omega) w
       rw [hx1] at A1
       rw [hx] at A3
       have A2 : ∀ w, (Op.stringOp .add ⟨(Lib.itoa 1).toArray⟩ ⟨#[32, 98, 111, 117, 110, 100, 101, 100, 32]⟩).run Tryz.prog w = .ok (.string ⟨x1.toArray⟩) w := A1
       have HX := hide (show lineL 1 a1 m1 = x from by rw [lineL, if_neg (by omega), hx1, hx])
       have HI := hide (fun w => itoa_any 1 (by omega) (by omega) w)
       have HI2 := hide (fun w hg => itoaG m1 (by omega) (by omega) w hg)
       clear A1 hx hx1 l0 l1 lx
       go_upto_region 9 with fail
       have HC : Hid (∀ w', Below V.heap.size V w' → w'.cell? ⟨U, 1, none⟩ = some (.int .i64 m1)) := hide (fun w' hb => (HU.out.below hb HU.out.lt 1 _ rfl).1)
       refine wp_region_G 6 (fun w' => w'.cell? ⟨U, 1, none⟩ = some (.int .i64 m1)) (by kernel_rfl) ?_
       obtain ⟨Y, hY⟩ : ∃ Y, Y = V.drew := ⟨_, rfl⟩
       rw [← hY]
       have HBY : Hid (Below V.heap.size V Y) := hide (by rw [hY]; exact (Below.refl _ _).drew)
       clear hY
       have hF := hide (HC.out Y HBY.out)
       refine kP 0 hF.out ?_
       refine kB 1 hF.out ?_
       refine kB 4 hF.out ?_
       refine kB 5 hF.out ?_
       clear hF
       refine wpAnyG_oneF (i := 2) rfl (by kernel_rfl) (fun K hK => ?_)
       go_simp
       refine (HI.out _).mono ?_
       rintro e w3 ⟨rfl, hw1⟩
       have HB3 : Hid (Below V.heap.size V w3) := hide (by rw [hw1]; exact HBY.out)
       refine hK.out _ _ (HC.out _ HB3.out) ?_
       clear hK K hw1
       refine kL ?_
       have hF := hide (HC.out w3 HB3.out)
       refine kP 3 hF.out ?_
       clear hF
       refine wpAnyG_one (i := 6) rfl (by kernel_rfl) (by kernel_rfl) (fun K hK => ?_)
       go_simp
       refine (HI2.out w3 (HGV.out.below HB3.out)).mono ?_
       rintro e w4 ⟨rfl, hb⟩
       have HB4 := hide (HB3.out.trans (hb.mono HB3.out.size))
       refine hK.out _ _ ?_
       clear hK K hb
       refine kL ?_
       refine kC 7 ?_
       have hown4 : w4.ownsRow w.heap.size 9 1 u8 1 (([lineL 0 a0 m0, lineL 1 a1 m1].take 1).map strV) := own_below hown HB4.out
       have hH4 : w4.heap[T]? = some (.cells #[.int .i64 k0, .int .i64 k1, .int .i64 R, .int .i64 Q, .int .i64 J] 49 (0, 0)) := (HB4.out.block T (Array.getElem?_eq_some_iff.1 HHV.out).1).trans HHV.out
       have HBw := hide (HBV.out.trans (HB4.out.mono hVs))
       have hV4 : S ≤ w4.heap.size := by have := HBw.out.size; omega
       clear hown HHV HBV HC
       refine wpAnyG_one (i := 8) rfl (by kernel_rfl) (by kernel_rfl) (fun K hK => ?_)
       go_simp
       refine hK.out _ _ ?_
       clear hK K
       refine kL ?_
       refine wpAnyG_one (i := 9) rfl (by kernel_rfl) (by kernel_rfl) (fun K hK => ?_)
       refine step_appendP rfl (.tmp 30) (.tmp 38) 42 9 rfl 39 rfl w.heap.size i0 _ 1 16 Tryz.underlying42 hi0 hz0 hz1 hz2 rfl (by decide) u8 1 _ rfl (hown4.alloc _) ⟨w4.heap.size, 0, none⟩ 1 rfl [.string ⟨x.toArray⟩] rfl (cell_one_new _ _ _) (by simp [Value.oneCell']) (by unfold maxLen; omega) (by omega) (by first | omega | (simp; omega)) (fun v' w5 hown1 hgrow _ => ?_)
       refine hK.out _ _ ?_
       clear hK K
       refine kL ?_
       refine kC 10 ?_
       refine wpAnyG_done (by kernel_rfl) ?_ _
       have hh5 : w5.heap[T]? = some (.cells #[.int .i64 k0, .int .i64 k1, .int .i64 R, .int .i64 Q, .int .i64 J] 49 (0, 0)) := by
        have h8 := hgrow.block T (by have := (Array.getElem?_eq_some_iff.1 hH4).1; simp; omega) (fun e => row_typeB hown4 hH4 (by decide) e.symm)
        rw [h8]
        exact (((Below.refl w4.heap.size w4).alloc (Nat.le_refl _) _).block T (Array.getElem?_eq_some_iff.1 hH4).1).trans hH4
       have HO5 := hide hown1; have HH5 := hide hh5
       have HB5 := hide ((HBw.out.alloc hV4 _).grown hgrow (by simp; omega) (fun g hg => by have := own_row hown4 g hg; omega))
       clear hown1 hh5 hgrow hown4 hH4 HBw
       go_wp2
       exact ⟨⟨2, by omega, by first | rfl | go_num, fun _ => hz0e, fun h => he, hide (by have h9 := HO5.out; rw [← HX.out] at h9; exact h9), HH5, HB5⟩, by simp [intOf]⟩
  · obtain rfl : k = 2 := by omega
    go_wp2
    go_ret2
    exact ⟨⟨[lineL 0 a0 m0, lineL 1 a1 m1], 0, _, w.heap.size, rfl, ⟨k0, k1, R, Q, J, 0, HPS.out, .inr ⟨rfl, a0, m0, e0, a1, m1, e1, V0.out, V1.out, .inr (.inr ⟨hz0e (by omega), hz1e (by omega), rfl, rfl⟩)⟩⟩, HO.out⟩, by rw [hS]; exact HB.out⟩
end Go.Proofs.YtjjikhaaimfneaaGreatDoor
