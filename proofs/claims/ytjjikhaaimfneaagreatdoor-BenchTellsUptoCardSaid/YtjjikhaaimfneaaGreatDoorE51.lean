/-
  Lemmas and walks for the statement: BUTell.
-/
import Derived.Test.YtjjikhaaimfneaaGreatDoorE50
import Derived.Test.YtjjikhaaimfneaaGreatDoorE46
namespace Go.Proofs.YtjjikhaaimfneaaGreatDoor
open Go.RowKit
set_option linter.unusedSimpArgs false
set_option linter.unusedVariables false
set_option maxRecDepth 100000 in
set_option maxHeartbeats 16000000 in
theorem utell_any (s : ByteArray) (ratio : Int) (w : World) (hG : GL w) : Calls Tryz.prog 19 #[.string s, .int .i64 ratio] w fun e w' => TlEnds s.data.toList ratio e w' ∧ Below w.heap.size w w' := by
 obtain ⟨i0, hi0, hz0, hz1, hz2⟩ := info_parts strInfoB
 have HG := hide hG
 clear hG
 obtain ⟨S, hS⟩ : ∃ S, w.heap.size = S := ⟨_, rfl⟩
 go_enter Tryz.func19, Tryz.ntmps19
 go_wp2_with fail
 refine (uparse_any s w).mono ?_
 rintro e w1 ⟨⟨k0, k1, R, Q, J, e00, rfl, hps⟩, hA⟩
 have HPS := hide hps
 clear hps
 obtain ⟨W, hW⟩ : ∃ W, W = w1.alloc (.cells #[.int .i64 k0, .int .i64 k1, .int .i64 R, .int .i64 Q, .int .i64 J] 49) := ⟨_, rfl⟩
 obtain ⟨T, hT⟩ : ∃ T, w1.heap.size = T := ⟨_, rfl⟩
 have HHW : Hid (W.heap[T]? = some (.cells #[.int .i64 k0, .int .i64 k1, .int .i64 R, .int .i64 Q, .int .i64 J] 49 (0, 0))) := hide (by rw [hW, ← hT]; exact World.alloc_heap_new w1 _)
 have HBW := hide (show Below S w W from by rw [hW, ← hS]; exact hA.alloc hA.size _)
 clear hA
 go_upto_region 2 with fail
 (try rw [hT])
 rw [← hW]
 clear hW hT
 by_cases he : e00 = 0
 case neg =>
  have hb1 : ((e00 : Int) != 0) = true := by simp; exact he
  have hb2 : ((e00 : Int) == 0) = false := by simp; exact he
  go_wp2
  go_ret2
  exact ⟨tl_nil _ _ _ _ ⟨k0, k1, R, Q, J, e00, HPS.out, .inl ⟨he, rfl, rfl⟩⟩, by rw [hS]; exact HBW.out⟩
 subst he
 obtain ⟨a0, m0, e0, v0⟩ := vsays_ex k0 k1 R Q J 0 ratio
 obtain ⟨a1, m1, e1, v1⟩ := vsays_ex k0 k1 R Q J 1 ratio
 have V0 := hide v0; have V1 := hide v1
 have HK0 := hide (vsays_b v0); have HK1 := hide (vsays_b v1)
 clear v0 v1
 go_upto_region 6 with fail
 go_loopw [8, 22] (fun v i wr => ∃ k : Nat, k ≤ 2 ∧ i = .int .i64 k ∧ (1 ≤ k → e0 = 0) ∧ (2 ≤ k → e1 = 0) ∧ Hid (wr.ownsRow w.heap.size 9 1 v k (([lineL 0 a0 m0, lineL 1 a1 m1].take k).map strV)) ∧ Hid (wr.heap[T]? = some (.cells #[.int .i64 k0, .int .i64 k1, .int .i64 R, .int .i64 Q, .int .i64 J] 49 (0, 0))) ∧ Hid (Below S w wr)) (fun _ i _ => 2 - (intOf i).toNat)
 case atStart => exact ⟨0, by omega, rfl, fun h => absurd h (by omega), fun h => absurd h (by omega), hide ⟨rfl, .inl ⟨rfl, rfl⟩⟩, HHW, HBW⟩
 case round =>
  obtain ⟨k, hk, rfl, hz0e, hz1e, HO, HH, HB⟩ := hrel
  clear HHW HBW
  have k0' : (0 : Int) ≤ (k : Int) := Int.natCast_nonneg _
  by_cases hlt : k < 2
  · rcases (show k = 0 ∨ k = 1 by omega) with rfl | rfl
    · have HGr := hide (HG.out.below (by rw [hS]; exact HB.out))
      have hsz : S ≤ wr.heap.size := by have := HB.out.size; omega
      have hTz : T < wr.heap.size := (Array.getElem?_eq_some_iff.1 HH.out).1
      have HR0 := hide (blk_heapB (vs := [.int .i64 k0, .int .i64 k1, .int .i64 R, .int .i64 Q, .int .i64 J]) HH.out)
      obtain ⟨r_0, r_1, r_2, r_3, r_4⟩ := HR0.out.c5
      go_wp2_with fail
      refine (tjudge_w V0.out wr).mono ?_
      rintro e w4 ⟨rfl, hb⟩
      clear r_0 r_1 r_2 r_3 r_4 HR0
      have hown : w4.ownsRow w.heap.size 9 1 u8 0 (([lineL 0 a0 m0, lineL 1 a1 m1].take 0).map strV) := own_below HO.out hb
      have hH4 : w4.heap[T]? = some (.cells #[.int .i64 k0, .int .i64 k1, .int .i64 R, .int .i64 Q, .int .i64 J] 49 (0, 0)) := (hb.block T hTz).trans HH.out
      have HB4 := hide (HB.out.trans (hb.mono hsz))
      have HG4 := hide (HGr.out.below hb)
      have hV4 : S ≤ w4.heap.size := by have := HB4.out.size; omega
      clear HO HH HB HGr hb hTz hsz
      by_cases he : e0 = 0
      case neg =>
       have hb1 : ((e0 : Int) != 0) = true := by simp; exact he
       have hb2 : ((e0 : Int) == 0) = false := by simp; exact he
       go_wp2
       go_ret2
       exact ⟨tl_nil _ _ _ _ ⟨k0, k1, R, Q, J, 0, HPS.out, .inr ⟨rfl, a0, m0, e0, a1, m1, e1, V0.out, V1.out, .inl ⟨he, rfl, rfl⟩⟩⟩, by rw [hS]; exact HB4.out⟩
      have hkd := HK0.out.1 he
      have hmb := HK0.out.2
      have he1 : ((e0 : Int) != 0) = false := by simp; exact he
      obtain ⟨y, hy⟩ : ∃ y, Lib.itoa 0 ++ stL = y := ⟨_, rfl⟩
      have A1 := fun w => add_lists (Lib.itoa 0) stL (by have := itoa_len12 (n := 0) (by omega) (by omega); omega) (by decide) w
      rw [hy] at A1
      have A2 : ∀ w, (Op.stringOp .add ⟨(Lib.itoa 0).toArray⟩ ⟨#[32, 115, 116, 97, 114, 118, 101, 115]⟩).run Tryz.prog w = .ok (.string ⟨y.toArray⟩) w := A1
      have HI := hide (fun w => itoa_any 0 (by omega) (by omega) w)
      clear A1
      rcases hkd with hkd | hkd
      case inr =>
       have hb1 : ((a0 : Int) == 1) = false := by rw [hkd]; rfl
       have hb2 : ((a0 : Int) != 1) = true := by rw [hkd]; rfl
       have HX := hide (show lineL 0 a0 m0 = y from by rw [lineL, if_pos hkd, hy])
       clear hy
       go_wp2_with (first | (go_at_call 35; refine (HI.out _).mono ?_; rintro e w3 ⟨rfl, hw1⟩; have hw2 := hw1.symm; clear hw1; subst hw2) | (at_builtin; refine wpList_append_own _ rfl _ _ 42 rfl w.heap.size 9 i0 (.string ByteArray.empty) 1 16 Tryz.underlying42 hi0 hz0 hz1 hz2 rfl (by decide) _ _ _ rfl (hown.alloc _) ⟨w4.heap.size, 0, none⟩ 1 1 [.string ⟨y.toArray⟩] rfl rfl (cell_one_new _ _ _) (by simp [Value.oneCell']) (by unfold maxLen; omega) (by omega) (by simp; omega) ?_; intro v' w5 hown1 hgrow _))
       refine ⟨⟨1, by omega, by first | rfl | go_num, fun _ => he, fun h => absurd h (by omega), hide (by have h9 := hown1; rw [← HX.out] at h9; exact h9), hide ?_, hide ((HB4.out.alloc hV4 _).grown hgrow (by simp; omega) (fun g hg => by have := own_row hown g hg; omega))⟩, by simp [intOf]⟩
       have h8 := hgrow.block T (by have := (Array.getElem?_eq_some_iff.1 hH4).1; simp; omega) (fun e => row_typeB hown hH4 (by decide) e.symm)
       rw [h8]
       exact (((Below.refl w4.heap.size w4).alloc (Nat.le_refl _) _).block T (Array.getElem?_eq_some_iff.1 hH4).1).trans hH4
      case inl =>
       have hb1 : ((a0 : Int) == 1) = true := by rw [hkd]; rfl
       have hb2 : ((a0 : Int) != 1) = false := by rw [hkd]; rfl
       obtain ⟨x1, hx1⟩ : ∃ x, Lib.itoa 0 ++ boL = x := ⟨_, rfl⟩
       obtain ⟨x, hx⟩ : ∃ x, x1 ++ Lib.itoa m0 = x := ⟨_, rfl⟩
       have l0 := itoa_len12 (n := 0) (by omega) (by omega)
       have l1 := itoa_len12 hmb.1 hmb.2
       have lx : x1.length ≤ 100 := by rw [← hx1, List.length_append]; have : boL.length = 9 := rfl; omega
       have B1 := fun w => add_lists (Lib.itoa 0) boL (by omega) (by decide) w
       have B3 := fun w => add_lists x1 (Lib.itoa m0) (by omega) (by omega) w
       rw [hx1] at B1
       rw [hx] at B3
       have B2 : ∀ w, (Op.stringOp .add ⟨(Lib.itoa 0).toArray⟩ ⟨#[32, 98, 111, 117, 110, 100, 101, 100, 32]⟩).run Tryz.prog w = .ok (.string ⟨x1.toArray⟩) w := B1
       have HX := hide (show lineL 0 a0 m0 = x from by rw [lineL, if_neg (by omega), hx1, hx])
       have HI2 := hide (fun w hg => itoaG m0 (by omega) (by omega) w hg)
       clear B1 hx hx1 l0 l1 lx hy
       go_upto_region 13 with (go_at_call 35; refine (HI.out _).mono ?_; rintro e w3 ⟨rfl, hw1⟩; have hw2 := hw1.symm; clear hw1; subst hw2)
       go_wp2_with (go_at_call 35; refine (HI.out _).mono ?_; rintro e w3 ⟨rfl, hw1⟩; have hw2 := hw1.symm; clear hw1; subst hw2)
       refine (HI2.out w4 HG4.out).mono ?_
       rintro e w6 ⟨rfl, hb⟩
       have hown6 : w6.ownsRow w.heap.size 9 1 u8 0 (([lineL 0 a0 m0, lineL 1 a1 m1].take 0).map strV) := own_below hown hb
       have hH6 : w6.heap[T]? = some (.cells #[.int .i64 k0, .int .i64 k1, .int .i64 R, .int .i64 Q, .int .i64 J] 49 (0, 0)) := (hb.block T (Array.getElem?_eq_some_iff.1 hH4).1).trans hH4
       have HB6 := hide (HB4.out.trans (hb.mono hV4))
       have hV6 : S ≤ w6.heap.size := by have := HB6.out.size; omega
       clear hown hH4 HB4 HG4 hb
       go_wp2_with (first | (at_builtin; refine wpList_append_own _ rfl _ _ 42 rfl w.heap.size 9 i0 (.string ByteArray.empty) 1 16 Tryz.underlying42 hi0 hz0 hz1 hz2 rfl (by decide) _ _ _ rfl (hown6.alloc _) ⟨w6.heap.size, 0, none⟩ 1 1 [.string ⟨x.toArray⟩] rfl rfl (cell_one_new _ _ _) (by simp [Value.oneCell']) (by unfold maxLen; omega) (by omega) (by simp; omega) ?_; intro v' w5 hown1 hgrow _))
       refine ⟨⟨1, by omega, by first | rfl | go_num, fun _ => he, fun h => absurd h (by omega), hide (by have h9 := hown1; rw [← HX.out] at h9; exact h9), hide ?_, hide ((HB6.out.alloc hV6 _).grown hgrow (by simp; omega) (fun g hg => by have := own_row hown6 g hg; omega))⟩, by simp [intOf]⟩
       have h8 := hgrow.block T (by have := (Array.getElem?_eq_some_iff.1 hH6).1; simp; omega) (fun e => row_typeB hown6 hH6 (by decide) e.symm)
       rw [h8]
       exact (((Below.refl w6.heap.size w6).alloc (Nat.le_refl _) _).block T (Array.getElem?_eq_some_iff.1 hH6).1).trans hH6
    · have HGr := hide (HG.out.below (by rw [hS]; exact HB.out))
      have hz0e := hz0e (by omega)
      have hsz : S ≤ wr.heap.size := by have := HB.out.size; omega
      have hTz : T < wr.heap.size := (Array.getElem?_eq_some_iff.1 HH.out).1
      have HR0 := hide (blk_heapB (vs := [.int .i64 k0, .int .i64 k1, .int .i64 R, .int .i64 Q, .int .i64 J]) HH.out)
      obtain ⟨r_0, r_1, r_2, r_3, r_4⟩ := HR0.out.c5
      go_wp2_with fail
      refine (tjudge_w V1.out wr).mono ?_
      rintro e w4 ⟨rfl, hb⟩
      clear r_0 r_1 r_2 r_3 r_4 HR0
      have hown : w4.ownsRow w.heap.size 9 1 u8 1 (([lineL 0 a0 m0, lineL 1 a1 m1].take 1).map strV) := own_below HO.out hb
      have hH4 : w4.heap[T]? = some (.cells #[.int .i64 k0, .int .i64 k1, .int .i64 R, .int .i64 Q, .int .i64 J] 49 (0, 0)) := (hb.block T hTz).trans HH.out
      have HB4 := hide (HB.out.trans (hb.mono hsz))
      have HG4 := hide (HGr.out.below hb)
      have hV4 : S ≤ w4.heap.size := by have := HB4.out.size; omega
      clear HO HH HB HGr hb hTz hsz
      by_cases he : e1 = 0
      case neg =>
       have hb1 : ((e1 : Int) != 0) = true := by simp; exact he
       have hb2 : ((e1 : Int) == 0) = false := by simp; exact he
       go_wp2
       go_ret2
       exact ⟨tl_nil _ _ _ _ ⟨k0, k1, R, Q, J, 0, HPS.out, .inr ⟨rfl, a0, m0, e0, a1, m1, e1, V0.out, V1.out, .inr (.inl ⟨hz0e, he, rfl, rfl⟩)⟩⟩, by rw [hS]; exact HB4.out⟩
      have hkd := HK1.out.1 he
      have hmb := HK1.out.2
      have he1 : ((e1 : Int) != 0) = false := by simp; exact he
      obtain ⟨y, hy⟩ : ∃ y, Lib.itoa 1 ++ stL = y := ⟨_, rfl⟩
      have A1 := fun w => add_lists (Lib.itoa 1) stL (by have := itoa_len12 (n := 1) (by omega) (by omega); omega) (by decide) w
      rw [hy] at A1
      have A2 : ∀ w, (Op.stringOp .add ⟨(Lib.itoa 1).toArray⟩ ⟨#[32, 115, 116, 97, 114, 118, 101, 115]⟩).run Tryz.prog w = .ok (.string ⟨y.toArray⟩) w := A1
      have HI := hide (fun w => itoa_any 1 (by omega) (by omega) w)
      clear A1
      rcases hkd with hkd | hkd
      case inr =>
       have hb1 : ((a1 : Int) == 1) = false := by rw [hkd]; rfl
       have hb2 : ((a1 : Int) != 1) = true := by rw [hkd]; rfl
       have HX := hide (show lineL 1 a1 m1 = y from by rw [lineL, if_pos hkd, hy])
       clear hy
       go_wp2_with (first | (go_at_call 35; refine (HI.out _).mono ?_; rintro e w3 ⟨rfl, hw1⟩; have hw2 := hw1.symm; clear hw1; subst hw2) | (at_builtin; refine wpList_append_own _ rfl _ _ 42 rfl w.heap.size 9 i0 (.string ByteArray.empty) 1 16 Tryz.underlying42 hi0 hz0 hz1 hz2 rfl (by decide) _ _ _ rfl (hown.alloc _) ⟨w4.heap.size, 0, none⟩ 1 1 [.string ⟨y.toArray⟩] rfl rfl (cell_one_new _ _ _) (by simp [Value.oneCell']) (by unfold maxLen; omega) (by omega) (by simp; omega) ?_; intro v' w5 hown1 hgrow _))
       refine ⟨⟨2, by omega, by first | rfl | go_num, fun _ => hz0e, fun h => he, hide (by have h9 := hown1; rw [← HX.out] at h9; exact h9), hide ?_, hide ((HB4.out.alloc hV4 _).grown hgrow (by simp; omega) (fun g hg => by have := own_row hown g hg; omega))⟩, by simp [intOf]⟩
       have h8 := hgrow.block T (by have := (Array.getElem?_eq_some_iff.1 hH4).1; simp; omega) (fun e => row_typeB hown hH4 (by decide) e.symm)
       rw [h8]
       exact (((Below.refl w4.heap.size w4).alloc (Nat.le_refl _) _).block T (Array.getElem?_eq_some_iff.1 hH4).1).trans hH4
      case inl =>
       have hb1 : ((a1 : Int) == 1) = true := by rw [hkd]; rfl
       have hb2 : ((a1 : Int) != 1) = false := by rw [hkd]; rfl
       obtain ⟨x1, hx1⟩ : ∃ x, Lib.itoa 1 ++ boL = x := ⟨_, rfl⟩
       obtain ⟨x, hx⟩ : ∃ x, x1 ++ Lib.itoa m1 = x := ⟨_, rfl⟩
       have l0 := itoa_len12 (n := 1) (by omega) (by omega)
       have l1 := itoa_len12 hmb.1 hmb.2
       have lx : x1.length ≤ 100 := by rw [← hx1, List.length_append]; have : boL.length = 9 := rfl; omega
       have B1 := fun w => add_lists (Lib.itoa 1) boL (by omega) (by decide) w
       have B3 := fun w => add_lists x1 (Lib.itoa m1) (by omega) (by omega) w
       rw [hx1] at B1
       rw [hx] at B3
       have B2 : ∀ w, (Op.stringOp .add ⟨(Lib.itoa 1).toArray⟩ ⟨#[32, 98, 111, 117, 110, 100, 101, 100, 32]⟩).run Tryz.prog w = .ok (.string ⟨x1.toArray⟩) w := B1
       have HX := hide (show lineL 1 a1 m1 = x from by rw [lineL, if_neg (by omega), hx1, hx])
       have HI2 := hide (fun w hg => itoaG m1 (by omega) (by omega) w hg)
       clear B1 hx hx1 l0 l1 lx hy
       go_upto_region 13 with (go_at_call 35; refine (HI.out _).mono ?_; rintro e w3 ⟨rfl, hw1⟩; have hw2 := hw1.symm; clear hw1; subst hw2)
       go_wp2_with (go_at_call 35; refine (HI.out _).mono ?_; rintro e w3 ⟨rfl, hw1⟩; have hw2 := hw1.symm; clear hw1; subst hw2)
       refine (HI2.out w4 HG4.out).mono ?_
       rintro e w6 ⟨rfl, hb⟩
       have hown6 : w6.ownsRow w.heap.size 9 1 u8 1 (([lineL 0 a0 m0, lineL 1 a1 m1].take 1).map strV) := own_below hown hb
       have hH6 : w6.heap[T]? = some (.cells #[.int .i64 k0, .int .i64 k1, .int .i64 R, .int .i64 Q, .int .i64 J] 49 (0, 0)) := (hb.block T (Array.getElem?_eq_some_iff.1 hH4).1).trans hH4
       have HB6 := hide (HB4.out.trans (hb.mono hV4))
       have hV6 : S ≤ w6.heap.size := by have := HB6.out.size; omega
       clear hown hH4 HB4 HG4 hb
       go_wp2_with (first | (at_builtin; refine wpList_append_own _ rfl _ _ 42 rfl w.heap.size 9 i0 (.string ByteArray.empty) 1 16 Tryz.underlying42 hi0 hz0 hz1 hz2 rfl (by decide) _ _ _ rfl (hown6.alloc _) ⟨w6.heap.size, 0, none⟩ 1 1 [.string ⟨x.toArray⟩] rfl rfl (cell_one_new _ _ _) (by simp [Value.oneCell']) (by unfold maxLen; omega) (by omega) (by simp; omega) ?_; intro v' w5 hown1 hgrow _))
       refine ⟨⟨2, by omega, by first | rfl | go_num, fun _ => hz0e, fun h => he, hide (by have h9 := hown1; rw [← HX.out] at h9; exact h9), hide ?_, hide ((HB6.out.alloc hV6 _).grown hgrow (by simp; omega) (fun g hg => by have := own_row hown6 g hg; omega))⟩, by simp [intOf]⟩
       have h8 := hgrow.block T (by have := (Array.getElem?_eq_some_iff.1 hH6).1; simp; omega) (fun e => row_typeB hown6 hH6 (by decide) e.symm)
       rw [h8]
       exact (((Below.refl w6.heap.size w6).alloc (Nat.le_refl _) _).block T (Array.getElem?_eq_some_iff.1 hH6).1).trans hH6
  · obtain rfl : k = 2 := by omega
    go_wp2
    go_ret2
    exact ⟨⟨[lineL 0 a0 m0, lineL 1 a1 m1], 0, _, w.heap.size, rfl, ⟨k0, k1, R, Q, J, 0, HPS.out, .inr ⟨rfl, a0, m0, e0, a1, m1, e1, V0.out, V1.out, .inr (.inr ⟨hz0e (by omega), hz1e (by omega), rfl, rfl⟩)⟩⟩, HO.out⟩, by rw [hS]; exact HB.out⟩
end Go.Proofs.YtjjikhaaimfneaaGreatDoor
