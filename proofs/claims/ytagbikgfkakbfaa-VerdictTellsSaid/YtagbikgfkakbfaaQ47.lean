/-
  Lemmas and walks for the statement: Play3.
-/
import Derived.Test.YtagbikgfkakbfaaQ46
import Derived.Test.YtagbikgfkakbfaaQ01
namespace Go.Proofs.Ytagbikgfkakbfaa
open Go.RowKit
set_option linter.unusedSimpArgs false
set_option linter.unusedVariables false
attribute [local go_sem] iteMin iteMax iteMinN iteMaxN
theorem own6_fresh {w : World} {B n g : Nat} {e : TypeId} {v : Value} {xs : List Value} (h : w.ownsRow B e 6 v n xs) (hg : w.heap.size ≤ g) : some g ≠ v.ownBlock := fun hk => by
 rcases h.2 with ⟨rfl, _⟩ | ⟨g', cap, cur, rfl, _, hh, _⟩
 · simp [Value.ownBlock] at hk
 · simp only [Value.ownBlock, Option.some.injEq] at hk
   subst hk
   rw [Array.getElem?_eq_none hg] at hh; cases hh
theorem own6_set {w : World} {B n : Nat} {e : TypeId} {v : Value} {xs : List Value} (h : w.ownsRow B e 6 v n xs) {p : Addr} (hp : some p.block ≠ v.ownBlock) (x : Value) : (w.setCell p x).ownsRow B e 6 v n xs := by
 obtain ⟨hl, h⟩ := h
 rcases h with ⟨rfl, rfl⟩ | ⟨g, cap, cur, rfl, hg, hh, hn, hm, hs, hx⟩
 · exact ⟨hl, .inl ⟨rfl, rfl⟩⟩
 · refine ⟨hl, .inr ⟨g, cap, cur, rfl, hg, ?_, hn, hm, hs, hx⟩⟩
   have hne : p.block ≠ g := fun e => hp (by rw [e]; rfl)
   rw [Below.heap_setCell _ _ _ _ (fun e => hne e.symm)]; exact hh
def PlayedN (k0 k1 R Q J : Int) (es : List P2) (n S : Nat) (e : Ending) (w : World) : Prop := ∃ L ss r a c, PlaySays k0 k1 R Q J es n L ss r ∧ e = .returned (.tuple #[.slice a L.length c, .agg (ss.map (Value.int .i64)).toArray, .int .i64 r]) ∧ RoundsAt w a L.length c L ∧ ∀ ad, a = some ad → S ≤ ad.block
set_option maxRecDepth 100000 in
set_option maxHeartbeats 16000000 in
theorem pplay_new (k0 k1 R Q J : Int) (a : Option Addr) (n c : Nat) (es : List P2) (w : World) (hI : PairsAt w a n c es) (hn : n ≤ 1048576) (hk : kindsOk k0 k1) (hr : rangeOk R Q J) :
 Calls Try.prog 8 #[.agg #[.int .i64 k0, .int .i64 k1, .int .i64 R, .int .i64 Q, .int .i64 J], .slice a n c] w fun e w' => PlayedN k0 k1 R Q J es n w.heap.size e w' ∧ Below w.heap.size w w' := by
 obtain ⟨i0, hi0, hz0, hz1, hz2⟩ := info_parts roundInfo
 have HI := hide hI
 have h1 : ∀ w : World, Calls Try.prog 20 #[.agg #[.int .i64 k0, .int .i64 k1, .int .i64 R, .int .i64 Q, .int .i64 J]] w fun e w' => e = .returned (.tuple #[.agg #[.int .i64 k0, .int .i64 1, .int .i64 (-1), .int .i64 0, .int .i64 0, .int .i64 0, .int .i64 k1, .int .i64 1, .int .i64 (-1), .int .i64 0, .int .i64 0, .int .i64 0, .int .i64 0, .int .i64 0], .int .i64 0]) ∧ Below w.heap.size w w' := fun w => pstart_ok k0 k1 R Q J w hk hr
 have H1 := hide h1
 clear hI h1 hk hr
 obtain ⟨S, hS⟩ : ∃ S, w.heap.size = S := ⟨_, rfl⟩
 go_enter Try.func8, Try.ntmps8
 go_wp2_with fail
 obtain ⟨W, hW⟩ : ∃ W, W = (w.alloc (.cells #[.int .i64 k0, .int .i64 k1, .int .i64 R, .int .i64 Q, .int .i64 J] 24)).alloc (.cells #[.int .i64 0, .int .i64 0, .int .i64 0, .int .i64 0, .int .i64 0, .int .i64 0, .int .i64 0, .int .i64 0, .int .i64 0, .int .i64 0, .int .i64 0, .int .i64 0, .int .i64 0, .int .i64 0] 41) := ⟨_, rfl⟩
 rw [← hW]
 have BR : Blk W S [.int .i64 k0, .int .i64 k1, .int .i64 R, .int .i64 Q, .int .i64 J] := by
  have := (Blk.new w [.int .i64 k0, .int .i64 k1, .int .i64 R, .int .i64 Q, .int .i64 J] 24).alloc (.cells #[.int .i64 0, .int .i64 0, .int .i64 0, .int .i64 0, .int .i64 0, .int .i64 0, .int .i64 0, .int .i64 0, .int .i64 0, .int .i64 0, .int .i64 0, .int .i64 0, .int .i64 0, .int .i64 0] 41)
  rw [hW]; simpa [hS] using this
 have BZ : Blk W (S + 1) [.int .i64 0, .int .i64 0, .int .i64 0, .int .i64 0, .int .i64 0, .int .i64 0, .int .i64 0, .int .i64 0, .int .i64 0, .int .i64 0, .int .i64 0, .int .i64 0, .int .i64 0, .int .i64 0] := by
  have := Blk.new (w.alloc (.cells #[.int .i64 k0, .int .i64 k1, .int .i64 R, .int .i64 Q, .int .i64 J] 24)) [.int .i64 0, .int .i64 0, .int .i64 0, .int .i64 0, .int .i64 0, .int .i64 0, .int .i64 0, .int .i64 0, .int .i64 0, .int .i64 0, .int .i64 0, .int .i64 0, .int .i64 0, .int .i64 0] 41
  rw [hW]; simpa [hS] using this
 have BS : Below S w W := by rw [hW, ← hS]; exact ((Below.refl _ _).alloc (Nat.le_refl _) _).alloc (by simp) _
 have HST : w.heap.size + 2 = W.heap.size := by rw [hW]; simp
 clear hW
 refine (H1.out W).mono ?_
 rintro e w1 ⟨rfl, hA⟩
 have BS := BS.trans (hA.mono (Nat.le_of_lt BR.lt))
 have BZ := BZ.below hA BZ.lt
 have BR := BR.below hA BR.lt
 have hs1 := hA.size
 obtain ⟨T, hT⟩ : ∃ T, w1.heap.size = T := ⟨_, rfl⟩
 have hST : S + 1 < T := by omega
 obtain ⟨X, hX⟩ : ∃ X, X = w1.alloc (.cells #[.int .i64 k0, .int .i64 1, .int .i64 (-1), .int .i64 0, .int .i64 0, .int .i64 0, .int .i64 k1, .int .i64 1, .int .i64 (-1), .int .i64 0, .int .i64 0, .int .i64 0, .int .i64 0, .int .i64 0] 41) := ⟨_, rfl⟩
 have BS := BS.alloc (Nat.le_of_lt BR.lt) (.cells #[.int .i64 k0, .int .i64 1, .int .i64 (-1), .int .i64 0, .int .i64 0, .int .i64 0, .int .i64 k1, .int .i64 1, .int .i64 (-1), .int .i64 0, .int .i64 0, .int .i64 0, .int .i64 0, .int .i64 0] 41)
 have BZ := BZ.alloc (.cells #[.int .i64 k0, .int .i64 1, .int .i64 (-1), .int .i64 0, .int .i64 0, .int .i64 0, .int .i64 k1, .int .i64 1, .int .i64 (-1), .int .i64 0, .int .i64 0, .int .i64 0, .int .i64 0, .int .i64 0] 41)
 have BR := BR.alloc (.cells #[.int .i64 k0, .int .i64 1, .int .i64 (-1), .int .i64 0, .int .i64 0, .int .i64 0, .int .i64 k1, .int .i64 1, .int .i64 (-1), .int .i64 0, .int .i64 0, .int .i64 0, .int .i64 0, .int .i64 0] 41)
 have BT := Blk.new w1 [.int .i64 k0, .int .i64 1, .int .i64 (-1), .int .i64 0, .int .i64 0, .int .i64 0, .int .i64 k1, .int .i64 1, .int .i64 (-1), .int .i64 0, .int .i64 0, .int .i64 0, .int .i64 0, .int .i64 0] 41
 rw [← hX] at BS BZ BR BT
 rw [hT] at BT
 have HXX := hide hX
 clear hX hA HST hs1 H1
 have HBS := hide BS; have HBZ := hide BZ; have HBR := hide BR; have HBT := hide BT
 clear BS BZ BR BT
 go_wp2
 rw [← HXX.out]
 clear HXX
 go_loopw [8, 9, 10] (fun ev v i wr => ∃ k : Nat, k ≤ n ∧ i = .int .i64 k ∧ Hid (Blk wr S [.int .i64 k0, .int .i64 k1, .int .i64 R, .int .i64 Q, .int .i64 J]) ∧ Hid (Blk wr (S + 1) [.int .i64 0, .int .i64 0, .int .i64 0, .int .i64 0, .int .i64 0, .int .i64 0, .int .i64 0, .int .i64 0, .int .i64 0, .int .i64 0, .int .i64 0, .int .i64 0, .int .i64 0, .int .i64 0]) ∧ Hid (Below S w wr) ∧ ((ev = .int .i64 0 ∧ Hid (∀ j, j < k → stE k0 k1 R Q J es j = 0) ∧ Hid (Blk wr T ((stS k0 k1 R Q J es k).map (Value.int .i64))) ∧ Hid (wr.ownsRow (T + 1) 71 6 v k (flat6 (rounds6 k0 k1 R Q J es k)))) ∨ (∃ m : Nat, ∃ r : Int, Hid (m < n) ∧ Hid (∀ j, j < m → stE k0 k1 R Q J es j = 0) ∧ Hid (stE k0 k1 R Q J es m = r) ∧ Hid (r ≠ 0) ∧ ev = .int .i64 r))) (fun _ _ i _ => n - (intOf i).toNat)
 case atStart => exact ⟨0, Nat.zero_le _, rfl, HBR, HBZ, HBS, .inl ⟨rfl, (fun j hj => absurd hj (by omega)), HBT, ⟨by simp [rounds6, flat6], .inl ⟨rfl, rfl⟩⟩⟩⟩
 case round =>
  clear HBS HBZ HBR HBT
  obtain ⟨k, hk, rfl, HBR, HBZ, HBS, hcase⟩ := hrel
  have k0' : (0 : Int) ≤ (k : Int) := Int.natCast_nonneg _
  rcases hcase with ⟨rfl, HO, HBT, HOW⟩ | ⟨m, r, HM, HO, HE, HNZ, rfl⟩
  · obtain ⟨c0, c1, c2, c3, c4, c5, c6, c7, c8, c9, c10, c11, c12, c13, hs⟩ := len14 (stS_len k0 k1 R Q J es k)
    by_cases hlt : k < n
    · have k1' : (k : Int) < (n : Int) := by omega
      obtain ⟨ad, x, y, rfl, hbd, HX, f0, f1⟩ := HI.out.getB (by rw [hS]; exact HBS.out) hlt
      obtain ⟨d0, d1, d2, d3, d4, d5, d6, d7, d8, d9, d10, d11, d12, d13, e0, e1, e2, e3, e4, e5, r, hd, he, hr, _, hc⟩ := step_facts HX.out hs
      have HC := hide hc
      have Hd := hide hd; have He := hide he; have Hr := hide hr
      clear hc hd he hr HI
      have BT : Blk wr T [.int .i64 c0, .int .i64 c1, .int .i64 c2, .int .i64 c3, .int .i64 c4, .int .i64 c5, .int .i64 c6, .int .i64 c7, .int .i64 c8, .int .i64 c9, .int .i64 c10, .int .i64 c11, .int .i64 c12, .int .i64 c13] := by have := HBT.out; rw [hs] at this; exact this
      have BR := HBR.out
      have BZ := HBZ.out
      have BS := HBS.out
      have hown := HOW.out
      clear HBT HBR HBZ HBS HOW hs
      obtain ⟨X1, hX1⟩ : ∃ X, X = wr.alloc (.cells #[.int .i64 0, .int .i64 0, .int .i64 0, .int .i64 0, .int .i64 0, .int .i64 0] 71) := ⟨_, rfl⟩
      have g0 : X1.cell? (ad.add (k * 2)) = some (.int .i64 x) := by rw [hX1]; exact (World.cell?_alloc_lt _ _ _ (World.block_lt_of_cell? wr _ f0)).trans f0
      have g1 : X1.cell? ⟨(ad.add (k * 2)).block, (ad.add (k * 2)).off + 1, none⟩ = some (.int .i64 y) := by rw [hX1]; exact (World.cell?_alloc_lt _ _ _ (World.block_lt_of_cell? wr _ f1)).trans f1
      have BS := BS.alloc (Nat.le_of_lt BR.lt) (.cells #[.int .i64 0, .int .i64 0, .int .i64 0, .int .i64 0, .int .i64 0, .int .i64 0] 71)
      have BR := BR.alloc (.cells #[.int .i64 0, .int .i64 0, .int .i64 0, .int .i64 0, .int .i64 0, .int .i64 0] 71)
      have BZ := BZ.alloc (.cells #[.int .i64 0, .int .i64 0, .int .i64 0, .int .i64 0, .int .i64 0, .int .i64 0] 71)
      have hTw := BT.lt
      have BT := BT.alloc (.cells #[.int .i64 0, .int .i64 0, .int .i64 0, .int .i64 0, .int .i64 0, .int .i64 0] 71)
      have hVo : some wr.heap.size ≠ (u9 : Value).ownBlock := own6_fresh hown (Nat.le_refl _)
      have hown := hown.alloc (.cells #[.int .i64 0, .int .i64 0, .int .i64 0, .int .i64 0, .int .i64 0, .int .i64 0] 71)
      have BP := Blk.new wr [.int .i64 0, .int .i64 0, .int .i64 0, .int .i64 0, .int .i64 0, .int .i64 0] 71
      rw [← hX1] at BS BR BZ BT hown BP
      have HX1 := hide hX1
      clear hX1 f0 f1
      obtain ⟨V, hV⟩ : ∃ V, wr.heap.size = V := ⟨_, rfl⟩
      rw [hV] at BP hVo
      rw [hV] at hTw
      have dq := (show ¬ (V = T) by omega)
      have dr := (show ¬ (T = V) by omega)
      have G0 := hide g0; have G1 := hide g1
      clear g0 g1
      have HBR := hide BR; have HBZ := hide BZ; have HBT := hide BT; have HBS := hide BS; have HOW := hide hown; have HBP := hide BP
      clear BR BZ BT BS hown BP
      go_upto_region 7 with fail
      rw [← HX1.out]
      clear HX1
      have hF := hide (show (fun w' : World => w'.cell? ⟨S, 0, none⟩ = some (.int .i64 k0) ∧ w'.cell? ⟨S, 1, none⟩ = some (.int .i64 k1) ∧ w'.cell? ⟨S, 2, none⟩ = some (.int .i64 R) ∧ w'.cell? ⟨S, 3, none⟩ = some (.int .i64 Q) ∧ w'.cell? ⟨S, 4, none⟩ = some (.int .i64 J) ∧ w'.cell? ⟨T, 0, none⟩ = some (.int .i64 c0) ∧ w'.cell? ⟨T, 1, none⟩ = some (.int .i64 c1) ∧ w'.cell? ⟨T, 2, none⟩ = some (.int .i64 c2) ∧ w'.cell? ⟨T, 3, none⟩ = some (.int .i64 c3) ∧ w'.cell? ⟨T, 4, none⟩ = some (.int .i64 c4) ∧ w'.cell? ⟨T, 5, none⟩ = some (.int .i64 c5) ∧ w'.cell? ⟨T, 6, none⟩ = some (.int .i64 c6) ∧ w'.cell? ⟨T, 7, none⟩ = some (.int .i64 c7) ∧ w'.cell? ⟨T, 8, none⟩ = some (.int .i64 c8) ∧ w'.cell? ⟨T, 9, none⟩ = some (.int .i64 c9) ∧ w'.cell? ⟨T, 10, none⟩ = some (.int .i64 c10) ∧ w'.cell? ⟨T, 11, none⟩ = some (.int .i64 c11) ∧ w'.cell? ⟨T, 12, none⟩ = some (.int .i64 c12) ∧ w'.cell? ⟨T, 13, none⟩ = some (.int .i64 c13) ∧ w'.cell? (ad.add (k * 2)) = some (.int .i64 x) ∧ w'.cell? ⟨(ad.add (k * 2)).block, (ad.add (k * 2)).off + 1, none⟩ = some (.int .i64 y)) X1.drew from ⟨(HBR.out 0 _ rfl).1, (HBR.out 1 _ rfl).1, (HBR.out 2 _ rfl).1, (HBR.out 3 _ rfl).1, (HBR.out 4 _ rfl).1, (HBT.out 0 _ rfl).1, (HBT.out 1 _ rfl).1, (HBT.out 2 _ rfl).1, (HBT.out 3 _ rfl).1, (HBT.out 4 _ rfl).1, (HBT.out 5 _ rfl).1, (HBT.out 6 _ rfl).1, (HBT.out 7 _ rfl).1, (HBT.out 8 _ rfl).1, (HBT.out 9 _ rfl).1, (HBT.out 10 _ rfl).1, (HBT.out 11 _ rfl).1, (HBT.out 12 _ rfl).1, (HBT.out 13 _ rfl).1, G0.out, G1.out⟩)
      clear G0 G1
      refine wp_region_G 6 (fun w' => w'.cell? ⟨S, 0, none⟩ = some (.int .i64 k0) ∧ w'.cell? ⟨S, 1, none⟩ = some (.int .i64 k1) ∧ w'.cell? ⟨S, 2, none⟩ = some (.int .i64 R) ∧ w'.cell? ⟨S, 3, none⟩ = some (.int .i64 Q) ∧ w'.cell? ⟨S, 4, none⟩ = some (.int .i64 J) ∧ w'.cell? ⟨T, 0, none⟩ = some (.int .i64 c0) ∧ w'.cell? ⟨T, 1, none⟩ = some (.int .i64 c1) ∧ w'.cell? ⟨T, 2, none⟩ = some (.int .i64 c2) ∧ w'.cell? ⟨T, 3, none⟩ = some (.int .i64 c3) ∧ w'.cell? ⟨T, 4, none⟩ = some (.int .i64 c4) ∧ w'.cell? ⟨T, 5, none⟩ = some (.int .i64 c5) ∧ w'.cell? ⟨T, 6, none⟩ = some (.int .i64 c6) ∧ w'.cell? ⟨T, 7, none⟩ = some (.int .i64 c7) ∧ w'.cell? ⟨T, 8, none⟩ = some (.int .i64 c8) ∧ w'.cell? ⟨T, 9, none⟩ = some (.int .i64 c9) ∧ w'.cell? ⟨T, 10, none⟩ = some (.int .i64 c10) ∧ w'.cell? ⟨T, 11, none⟩ = some (.int .i64 c11) ∧ w'.cell? ⟨T, 12, none⟩ = some (.int .i64 c12) ∧ w'.cell? ⟨T, 13, none⟩ = some (.int .i64 c13) ∧ w'.cell? (ad.add (k * 2)) = some (.int .i64 x) ∧ w'.cell? ⟨(ad.add (k * 2)).block, (ad.add (k * 2)).off + 1, none⟩ = some (.int .i64 y)) (by kernel_rfl) ?_
      refine kB 0 hF.out ?_
      refine kB 1 hF.out ?_
      refine kB 2 hF.out ?_
      refine kB 3 hF.out ?_
      refine kB 4 hF.out ?_
      refine kB 5 hF.out ?_
      refine wpAnyG_one (i := 6) rfl (by kernel_rfl) (by kernel_rfl) (fun K hK => ?_)
      go_simp
      go_wp2_with (go_at_call 21; refine (HC.out _).mono ?_; rintro e u1 ⟨rfl, hA⟩)
      clear HC hF
      refine hK.out _ _ ?_
      clear hK K
      refine kL ?_
      have BR := HBR.out; have BZ := HBZ.out; have BT := HBT.out; have BS := HBS.out; have hown := HOW.out; have BP := HBP.out
      clear HBR HBZ HBT HBS HOW HBP
      have hA : Below X1.heap.size X1 u1 := ((Below.refl X1.heap.size X1).drew).trans hA
      have hown := own6_below hown hA
      have BS := BS.trans (hA.mono (Nat.le_of_lt BR.lt))
      have BZ := BZ.below hA BZ.lt
      have BT := BT.below hA BT.lt
      have BP := BP.below hA BP.lt
      have BR := BR.below hA BR.lt
      clear hA
      have HBR := hide BR; have HBZ := hide BZ; have HBT := hide BT; have HBS := hide BS; have HOW := hide hown; have HBP := hide BP
      clear BR BZ BT BS hown BP
      have t_0 := (HBT.out 0 _ rfl).1
      have t_f0 := (HBT.out 0 _ rfl).2
      have t_1 := (HBT.out 1 _ rfl).1
      have t_f1 := (HBT.out 1 _ rfl).2
      have t_2 := (HBT.out 2 _ rfl).1
      have t_f2 := (HBT.out 2 _ rfl).2
      have t_3 := (HBT.out 3 _ rfl).1
      have t_f3 := (HBT.out 3 _ rfl).2
      have t_4 := (HBT.out 4 _ rfl).1
      have t_f4 := (HBT.out 4 _ rfl).2
      have t_5 := (HBT.out 5 _ rfl).1
      have t_f5 := (HBT.out 5 _ rfl).2
      have t_6 := (HBT.out 6 _ rfl).1
      have t_f6 := (HBT.out 6 _ rfl).2
      have t_7 := (HBT.out 7 _ rfl).1
      have t_f7 := (HBT.out 7 _ rfl).2
      have t_8 := (HBT.out 8 _ rfl).1
      have t_f8 := (HBT.out 8 _ rfl).2
      have t_9 := (HBT.out 9 _ rfl).1
      have t_f9 := (HBT.out 9 _ rfl).2
      have t_10 := (HBT.out 10 _ rfl).1
      have t_f10 := (HBT.out 10 _ rfl).2
      have t_11 := (HBT.out 11 _ rfl).1
      have t_f11 := (HBT.out 11 _ rfl).2
      have t_12 := (HBT.out 12 _ rfl).1
      have t_f12 := (HBT.out 12 _ rfl).2
      have t_13 := (HBT.out 13 _ rfl).1
      have t_f13 := (HBT.out 13 _ rfl).2
      have q_0 := (HBP.out 0 _ rfl).1
      have q_f0 := (HBP.out 0 _ rfl).2
      have q_1 := (HBP.out 1 _ rfl).1
      have q_f1 := (HBP.out 1 _ rfl).2
      have q_2 := (HBP.out 2 _ rfl).1
      have q_f2 := (HBP.out 2 _ rfl).2
      have q_3 := (HBP.out 3 _ rfl).1
      have q_f3 := (HBP.out 3 _ rfl).2
      have q_4 := (HBP.out 4 _ rfl).1
      have q_f4 := (HBP.out 4 _ rfl).2
      have q_5 := (HBP.out 5 _ rfl).1
      have q_f5 := (HBP.out 5 _ rfl).2
      refine kC 7 ?_
      refine kC 8 ?_
      refine kC 9 ?_
      refine kC 10 ?_
      refine wpAnyG_one (i := 11) rfl (by kernel_rfl) (by kernel_rfl) (fun K hK => ?_)
      go_simp
      refine hK.out _ _ ?_
      clear hK K
      refine kL ?_
      refine wpAnyG_one (i := 12) rfl (by kernel_rfl) (by kernel_rfl) (fun K hK => ?_)
      go_simp
      refine hK.out _ _ ?_
      clear hK K
      refine kL ?_
      refine wpAnyG_one (i := 13) rfl (by kernel_rfl) (by kernel_rfl) (fun K hK => ?_)
      go_simp
      refine hK.out _ _ ?_
      clear hK K
      refine kL ?_
      refine wpAnyG_done (by kernel_rfl) ?_ _
      obtain ⟨Z, hZ⟩ : ∃ Z, Z = ((((((((((((((((((((u1.setCell ⟨T, 0, none⟩ (.int .i64 d0)).setCell ⟨T, 1, none⟩ (.int .i64 d1)).setCell ⟨T, 2, none⟩ (.int .i64 d2)).setCell ⟨T, 3, none⟩ (.int .i64 d3)).setCell ⟨T, 4, none⟩ (.int .i64 d4)).setCell ⟨T, 5, none⟩ (.int .i64 d5)).setCell ⟨T, 6, none⟩ (.int .i64 d6)).setCell ⟨T, 7, none⟩ (.int .i64 d7)).setCell ⟨T, 8, none⟩ (.int .i64 d8)).setCell ⟨T, 9, none⟩ (.int .i64 d9)).setCell ⟨T, 10, none⟩ (.int .i64 d10)).setCell ⟨T, 11, none⟩ (.int .i64 d11)).setCell ⟨T, 12, none⟩ (.int .i64 d12)).setCell ⟨T, 13, none⟩ (.int .i64 d13)).setCell ⟨V, 0, none⟩ (.int .i64 e0)).setCell ⟨V, 1, none⟩ (.int .i64 e1)).setCell ⟨V, 2, none⟩ (.int .i64 e2)).setCell ⟨V, 3, none⟩ (.int .i64 e3)).setCell ⟨V, 4, none⟩ (.int .i64 e4)).setCell ⟨V, 5, none⟩ (.int .i64 e5)) := ⟨_, rfl⟩
      rw [← hZ]
      have BR := HBR.out; have BZ := HBZ.out; have BT := HBT.out; have BS := HBS.out; have hown := HOW.out; have BP := HBP.out
      clear HBR HBZ HBT HBS HOW HBP
      have zT : Blk Z T [.int .i64 d0, .int .i64 d1, .int .i64 d2, .int .i64 d3, .int .i64 d4, .int .i64 d5, .int .i64 d6, .int .i64 d7, .int .i64 d8, .int .i64 d9, .int .i64 d10, .int .i64 d11, .int .i64 d12, .int .i64 d13] := by rw [hZ]; exact ((((((((((((((((((((BT.set (j := 0) (by simp) (.int .i64 d0)).set (j := 1) (by simp) (.int .i64 d1)).set (j := 2) (by simp) (.int .i64 d2)).set (j := 3) (by simp) (.int .i64 d3)).set (j := 4) (by simp) (.int .i64 d4)).set (j := 5) (by simp) (.int .i64 d5)).set (j := 6) (by simp) (.int .i64 d6)).set (j := 7) (by simp) (.int .i64 d7)).set (j := 8) (by simp) (.int .i64 d8)).set (j := 9) (by simp) (.int .i64 d9)).set (j := 10) (by simp) (.int .i64 d10)).set (j := 11) (by simp) (.int .i64 d11)).set (j := 12) (by simp) (.int .i64 d12)).set (j := 13) (by simp) (.int .i64 d13)).other ⟨V, 0, none⟩ (.int .i64 e0) (by simp only; omega)).other ⟨V, 1, none⟩ (.int .i64 e1) (by simp only; omega)).other ⟨V, 2, none⟩ (.int .i64 e2) (by simp only; omega)).other ⟨V, 3, none⟩ (.int .i64 e3) (by simp only; omega)).other ⟨V, 4, none⟩ (.int .i64 e4) (by simp only; omega)).other ⟨V, 5, none⟩ (.int .i64 e5) (by simp only; omega))
      have zBE : Blk Z V [.int .i64 e0, .int .i64 e1, .int .i64 e2, .int .i64 e3, .int .i64 e4, .int .i64 e5] := by rw [hZ]; exact ((((((((((((((((((((BP.other ⟨T, 0, none⟩ (.int .i64 d0) (by simp only; omega)).other ⟨T, 1, none⟩ (.int .i64 d1) (by simp only; omega)).other ⟨T, 2, none⟩ (.int .i64 d2) (by simp only; omega)).other ⟨T, 3, none⟩ (.int .i64 d3) (by simp only; omega)).other ⟨T, 4, none⟩ (.int .i64 d4) (by simp only; omega)).other ⟨T, 5, none⟩ (.int .i64 d5) (by simp only; omega)).other ⟨T, 6, none⟩ (.int .i64 d6) (by simp only; omega)).other ⟨T, 7, none⟩ (.int .i64 d7) (by simp only; omega)).other ⟨T, 8, none⟩ (.int .i64 d8) (by simp only; omega)).other ⟨T, 9, none⟩ (.int .i64 d9) (by simp only; omega)).other ⟨T, 10, none⟩ (.int .i64 d10) (by simp only; omega)).other ⟨T, 11, none⟩ (.int .i64 d11) (by simp only; omega)).other ⟨T, 12, none⟩ (.int .i64 d12) (by simp only; omega)).other ⟨T, 13, none⟩ (.int .i64 d13) (by simp only; omega)).set (j := 0) (by simp) (.int .i64 e0)).set (j := 1) (by simp) (.int .i64 e1)).set (j := 2) (by simp) (.int .i64 e2)).set (j := 3) (by simp) (.int .i64 e3)).set (j := 4) (by simp) (.int .i64 e4)).set (j := 5) (by simp) (.int .i64 e5))
      have zBR : Blk Z (S) [.int .i64 k0, .int .i64 k1, .int .i64 R, .int .i64 Q, .int .i64 J] := by rw [hZ]; exact ((((((((((((((((((((BR.other ⟨T, 0, none⟩ (.int .i64 d0) (by simp only; omega)).other ⟨T, 1, none⟩ (.int .i64 d1) (by simp only; omega)).other ⟨T, 2, none⟩ (.int .i64 d2) (by simp only; omega)).other ⟨T, 3, none⟩ (.int .i64 d3) (by simp only; omega)).other ⟨T, 4, none⟩ (.int .i64 d4) (by simp only; omega)).other ⟨T, 5, none⟩ (.int .i64 d5) (by simp only; omega)).other ⟨T, 6, none⟩ (.int .i64 d6) (by simp only; omega)).other ⟨T, 7, none⟩ (.int .i64 d7) (by simp only; omega)).other ⟨T, 8, none⟩ (.int .i64 d8) (by simp only; omega)).other ⟨T, 9, none⟩ (.int .i64 d9) (by simp only; omega)).other ⟨T, 10, none⟩ (.int .i64 d10) (by simp only; omega)).other ⟨T, 11, none⟩ (.int .i64 d11) (by simp only; omega)).other ⟨T, 12, none⟩ (.int .i64 d12) (by simp only; omega)).other ⟨T, 13, none⟩ (.int .i64 d13) (by simp only; omega)).other ⟨V, 0, none⟩ (.int .i64 e0) (by simp only; omega)).other ⟨V, 1, none⟩ (.int .i64 e1) (by simp only; omega)).other ⟨V, 2, none⟩ (.int .i64 e2) (by simp only; omega)).other ⟨V, 3, none⟩ (.int .i64 e3) (by simp only; omega)).other ⟨V, 4, none⟩ (.int .i64 e4) (by simp only; omega)).other ⟨V, 5, none⟩ (.int .i64 e5) (by simp only; omega))
      have zBZ : Blk Z (S + 1) [.int .i64 0, .int .i64 0, .int .i64 0, .int .i64 0, .int .i64 0, .int .i64 0, .int .i64 0, .int .i64 0, .int .i64 0, .int .i64 0, .int .i64 0, .int .i64 0, .int .i64 0, .int .i64 0] := by rw [hZ]; exact ((((((((((((((((((((BZ.other ⟨T, 0, none⟩ (.int .i64 d0) (by simp only; omega)).other ⟨T, 1, none⟩ (.int .i64 d1) (by simp only; omega)).other ⟨T, 2, none⟩ (.int .i64 d2) (by simp only; omega)).other ⟨T, 3, none⟩ (.int .i64 d3) (by simp only; omega)).other ⟨T, 4, none⟩ (.int .i64 d4) (by simp only; omega)).other ⟨T, 5, none⟩ (.int .i64 d5) (by simp only; omega)).other ⟨T, 6, none⟩ (.int .i64 d6) (by simp only; omega)).other ⟨T, 7, none⟩ (.int .i64 d7) (by simp only; omega)).other ⟨T, 8, none⟩ (.int .i64 d8) (by simp only; omega)).other ⟨T, 9, none⟩ (.int .i64 d9) (by simp only; omega)).other ⟨T, 10, none⟩ (.int .i64 d10) (by simp only; omega)).other ⟨T, 11, none⟩ (.int .i64 d11) (by simp only; omega)).other ⟨T, 12, none⟩ (.int .i64 d12) (by simp only; omega)).other ⟨T, 13, none⟩ (.int .i64 d13) (by simp only; omega)).other ⟨V, 0, none⟩ (.int .i64 e0) (by simp only; omega)).other ⟨V, 1, none⟩ (.int .i64 e1) (by simp only; omega)).other ⟨V, 2, none⟩ (.int .i64 e2) (by simp only; omega)).other ⟨V, 3, none⟩ (.int .i64 e3) (by simp only; omega)).other ⟨V, 4, none⟩ (.int .i64 e4) (by simp only; omega)).other ⟨V, 5, none⟩ (.int .i64 e5) (by simp only; omega))
      have zS : Below S w Z := by rw [hZ]; exact ((((((((((((((((((((BS.setCell (p := ⟨T, 0, none⟩) (by simp only; omega) _).setCell (p := ⟨T, 1, none⟩) (by simp only; omega) _).setCell (p := ⟨T, 2, none⟩) (by simp only; omega) _).setCell (p := ⟨T, 3, none⟩) (by simp only; omega) _).setCell (p := ⟨T, 4, none⟩) (by simp only; omega) _).setCell (p := ⟨T, 5, none⟩) (by simp only; omega) _).setCell (p := ⟨T, 6, none⟩) (by simp only; omega) _).setCell (p := ⟨T, 7, none⟩) (by simp only; omega) _).setCell (p := ⟨T, 8, none⟩) (by simp only; omega) _).setCell (p := ⟨T, 9, none⟩) (by simp only; omega) _).setCell (p := ⟨T, 10, none⟩) (by simp only; omega) _).setCell (p := ⟨T, 11, none⟩) (by simp only; omega) _).setCell (p := ⟨T, 12, none⟩) (by simp only; omega) _).setCell (p := ⟨T, 13, none⟩) (by simp only; omega) _).setCell (p := ⟨V, 0, none⟩) (by simp only; omega) _).setCell (p := ⟨V, 1, none⟩) (by simp only; omega) _).setCell (p := ⟨V, 2, none⟩) (by simp only; omega) _).setCell (p := ⟨V, 3, none⟩) (by simp only; omega) _).setCell (p := ⟨V, 4, none⟩) (by simp only; omega) _).setCell (p := ⟨V, 5, none⟩) (by simp only; omega) _)
      have zO : Z.ownsRow (T + 1) 71 6 u9 k (flat6 (rounds6 k0 k1 R Q J es k)) := by
       rw [hZ]
       exact (own6_set (own6_set (own6_set (own6_set (own6_set (own6_set (ownsRow_setCell_below (ownsRow_setCell_below (ownsRow_setCell_below (ownsRow_setCell_below (ownsRow_setCell_below (ownsRow_setCell_below (ownsRow_setCell_below (ownsRow_setCell_below (ownsRow_setCell_below (ownsRow_setCell_below (ownsRow_setCell_below (ownsRow_setCell_below (ownsRow_setCell_below (ownsRow_setCell_below hown (a := ⟨T, 0, none⟩) (by simp only; omega) (.int .i64 d0)) (a := ⟨T, 1, none⟩) (by simp only; omega) (.int .i64 d1)) (a := ⟨T, 2, none⟩) (by simp only; omega) (.int .i64 d2)) (a := ⟨T, 3, none⟩) (by simp only; omega) (.int .i64 d3)) (a := ⟨T, 4, none⟩) (by simp only; omega) (.int .i64 d4)) (a := ⟨T, 5, none⟩) (by simp only; omega) (.int .i64 d5)) (a := ⟨T, 6, none⟩) (by simp only; omega) (.int .i64 d6)) (a := ⟨T, 7, none⟩) (by simp only; omega) (.int .i64 d7)) (a := ⟨T, 8, none⟩) (by simp only; omega) (.int .i64 d8)) (a := ⟨T, 9, none⟩) (by simp only; omega) (.int .i64 d9)) (a := ⟨T, 10, none⟩) (by simp only; omega) (.int .i64 d10)) (a := ⟨T, 11, none⟩) (by simp only; omega) (.int .i64 d11)) (a := ⟨T, 12, none⟩) (by simp only; omega) (.int .i64 d12)) (a := ⟨T, 13, none⟩) (by simp only; omega) (.int .i64 d13)) (p := ⟨V, 0, none⟩) hVo (.int .i64 e0)) (p := ⟨V, 1, none⟩) hVo (.int .i64 e1)) (p := ⟨V, 2, none⟩) hVo (.int .i64 e2)) (p := ⟨V, 3, none⟩) hVo (.int .i64 e3)) (p := ⟨V, 4, none⟩) hVo (.int .i64 e4)) (p := ⟨V, 5, none⟩) hVo (.int .i64 e5))
      clear hZ BR BZ BT BS hown BP t_0 t_f0 t_1 t_f1 t_2 t_f2 t_3 t_f3 t_4 t_f4 t_5 t_f5 t_6 t_f6 t_7 t_f7 t_8 t_f8 t_9 t_f9 t_10 t_f10 t_11 t_f11 t_12 t_f12 t_13 t_f13 q_0 q_f0 q_1 q_f1 q_2 q_f2 q_3 q_f3 q_4 q_f4 q_5 q_f5
      have m_0 := (zBE 0 _ rfl).1
      have m_1 := (zBE 1 _ rfl).1
      have m_2 := (zBE 2 _ rfl).1
      have m_3 := (zBE 3 _ rfl).1
      have m_4 := (zBE 4 _ rfl).1
      have m_5 := (zBE 5 _ rfl).1
      have zsz := zT.lt
      have HzT := hide zT; have HzR := hide zBR; have HzZ := hide zBZ; have HzS := hide zS; have HzO := hide zO
      clear zT zBR zBZ zS zO zBE
      go_wp2_with (at_builtin; refine wpList_append_own _ rfl (.tmp 38) (.tmp 40) 36 rfl (T + 1) 71 i0 _ 6 48 Try.underlying36 hi0 hz0 hz1 hz2 rfl (by decide) u9 k _ rfl (HzO.out.alloc (.cells #[.int .i64 e0, .int .i64 e1, .int .i64 e2, .int .i64 e3, .int .i64 e4, .int .i64 e5] 71)) _ 1 1 [.int .i64 e0, .int .i64 e1, .int .i64 e2, .int .i64 e3, .int .i64 e4, .int .i64 e5] rfl rfl (news6 _ _ _) (by simp [Value.oneCell']) (by unfold maxLen; omega) (by omega) (by simp; omega) ?_; intro v' w' hown' hgrow _)
      have hf : ∀ b, b < T + 1 → some b ≠ (u9 : Value).ownBlock := fun b hb => own6_far HzO.out hb
      have FSs := hide (show Below S w w' from (HzS.out.alloc (by omega) (.cells #[.int .i64 e0, .int .i64 e1, .int .i64 e2, .int .i64 e3, .int .i64 e4, .int .i64 e5] 71)).grown hgrow (by simp; omega) (fun q hq => by have := own6_row HzO.out q hq; omega))
      have FT := hide ((HzT.out.alloc (.cells #[.int .i64 e0, .int .i64 e1, .int .i64 e2, .int .i64 e3, .int .i64 e4, .int .i64 e5] 71)).grown hgrow (hf _ (by omega)))
      have FZ := hide ((HzZ.out.alloc (.cells #[.int .i64 e0, .int .i64 e1, .int .i64 e2, .int .i64 e3, .int .i64 e4, .int .i64 e5] 71)).grown hgrow (hf _ (by omega)))
      have FR := hide ((HzR.out.alloc (.cells #[.int .i64 e0, .int .i64 e1, .int .i64 e2, .int .i64 e3, .int .i64 e4, .int .i64 e5] 71)).grown hgrow (hf _ (by omega)))
      have FO : Hid (w'.ownsRow (T + 1) 71 6 v' (k + 1) (flat6 (rounds6 k0 k1 R Q J es (k + 1)))) := by
       rw [rounds6_succ, flat6_snoc, He.out]; exact hown'
      have FT' : Hid (Blk w' T ((stS k0 k1 R Q J es (k + 1)).map (Value.int .i64))) := by rw [Hd.out]; exact FT
      have FC := hide (show ((Value.int .i64 r) = .int .i64 0 ∧ Hid (∀ j, j < k + 1 → stE k0 k1 R Q J es j = 0) ∧ Hid (Blk w' T ((stS k0 k1 R Q J es (k + 1)).map (Value.int .i64))) ∧ Hid (w'.ownsRow (T + 1) 71 6 v' (k + 1) (flat6 (rounds6 k0 k1 R Q J es (k + 1))))) ∨ (∃ m : Nat, ∃ r' : Int, Hid (m < n) ∧ Hid (∀ j, j < m → stE k0 k1 R Q J es j = 0) ∧ Hid (stE k0 k1 R Q J es m = r') ∧ Hid (r' ≠ 0) ∧ (Value.int .i64 r) = .int .i64 r') from by
       by_cases hr0 : r = 0
       · subst hr0
         exact .inl ⟨rfl, (fun j hj => by
          rcases (show j < k ∨ j = k by omega) with h | rfl
          · exact HO.out j h
          · exact Hr.out), FT', FO⟩
       · exact .inr ⟨k, r, hlt, HO, Hr, hr0, rfl⟩)
      clear hown' hgrow hf HzO HzT HzZ HzR HzS HO He Hr Hd FT FT' FO m_0 m_1 m_2 m_3 m_4 m_5
      go_wp2
      go_roundw
      case rel => exact ⟨k + 1, by omega, by go_num, FR, FZ, FSs, FC.out⟩
      case measure => (simp [intOf] <;> omega)
    · obtain rfl : k = n := by omega
      have BT : Blk wr T [.int .i64 c0, .int .i64 c1, .int .i64 c2, .int .i64 c3, .int .i64 c4, .int .i64 c5, .int .i64 c6, .int .i64 c7, .int .i64 c8, .int .i64 c9, .int .i64 c10, .int .i64 c11, .int .i64 c12, .int .i64 c13] := by have := HBT.out; rw [hs] at this; exact this
      have HZ := HBZ
      have hown := HOW.out
      have hL := rounds6_len k0 k1 R Q J es k
      have HBT' := hide BT
      have HS := hide hs
      clear HBT BT hs HOW hlt HBR
      have HOW := hide hown
      clear hown
      go_upto_region 11 with fail
      have s_0 := (HBT'.out 0 _ rfl).1
      have s_1 := (HBT'.out 1 _ rfl).1
      have s_2 := (HBT'.out 2 _ rfl).1
      have s_3 := (HBT'.out 3 _ rfl).1
      have s_4 := (HBT'.out 4 _ rfl).1
      have s_5 := (HBT'.out 5 _ rfl).1
      have s_6 := (HBT'.out 6 _ rfl).1
      have s_7 := (HBT'.out 7 _ rfl).1
      have s_8 := (HBT'.out 8 _ rfl).1
      have s_9 := (HBT'.out 9 _ rfl).1
      have s_10 := (HBT'.out 10 _ rfl).1
      have s_11 := (HBT'.out 11 _ rfl).1
      have s_12 := (HBT'.out 12 _ rfl).1
      have s_13 := (HBT'.out 13 _ rfl).1
      have p_0 := (HZ.out 0 _ rfl).1
      have p_f0 := (HZ.out 0 _ rfl).2
      have p_1 := (HZ.out 1 _ rfl).1
      have p_f1 := (HZ.out 1 _ rfl).2
      have p_2 := (HZ.out 2 _ rfl).1
      have p_f2 := (HZ.out 2 _ rfl).2
      have p_3 := (HZ.out 3 _ rfl).1
      have p_f3 := (HZ.out 3 _ rfl).2
      have p_4 := (HZ.out 4 _ rfl).1
      have p_f4 := (HZ.out 4 _ rfl).2
      have p_5 := (HZ.out 5 _ rfl).1
      have p_f5 := (HZ.out 5 _ rfl).2
      have p_6 := (HZ.out 6 _ rfl).1
      have p_f6 := (HZ.out 6 _ rfl).2
      have p_7 := (HZ.out 7 _ rfl).1
      have p_f7 := (HZ.out 7 _ rfl).2
      have p_8 := (HZ.out 8 _ rfl).1
      have p_f8 := (HZ.out 8 _ rfl).2
      have p_9 := (HZ.out 9 _ rfl).1
      have p_f9 := (HZ.out 9 _ rfl).2
      have p_10 := (HZ.out 10 _ rfl).1
      have p_f10 := (HZ.out 10 _ rfl).2
      have p_11 := (HZ.out 11 _ rfl).1
      have p_f11 := (HZ.out 11 _ rfl).2
      have p_12 := (HZ.out 12 _ rfl).1
      have p_f12 := (HZ.out 12 _ rfl).2
      have p_13 := (HZ.out 13 _ rfl).1
      have p_f13 := (HZ.out 13 _ rfl).2
      have dq := (show ¬ (T = S + 1) by omega)
      have dr := (show ¬ (S + 1 = T) by omega)
      go_region
      go_wp2
      obtain ⟨Z, hZ⟩ : ∃ Z, Z = ((((((((((((((wr.setCell ⟨S + 1, 0, none⟩ (.int .i64 c0)).setCell ⟨S + 1, 1, none⟩ (.int .i64 c1)).setCell ⟨S + 1, 2, none⟩ (.int .i64 c2)).setCell ⟨S + 1, 3, none⟩ (.int .i64 c3)).setCell ⟨S + 1, 4, none⟩ (.int .i64 c4)).setCell ⟨S + 1, 5, none⟩ (.int .i64 c5)).setCell ⟨S + 1, 6, none⟩ (.int .i64 c6)).setCell ⟨S + 1, 7, none⟩ (.int .i64 c7)).setCell ⟨S + 1, 8, none⟩ (.int .i64 c8)).setCell ⟨S + 1, 9, none⟩ (.int .i64 c9)).setCell ⟨S + 1, 10, none⟩ (.int .i64 c10)).setCell ⟨S + 1, 11, none⟩ (.int .i64 c11)).setCell ⟨S + 1, 12, none⟩ (.int .i64 c12)).setCell ⟨S + 1, 13, none⟩ (.int .i64 c13)).drew := ⟨_, rfl⟩
      have z3 : Blk Z (S + 1) [.int .i64 c0, .int .i64 c1, .int .i64 c2, .int .i64 c3, .int .i64 c4, .int .i64 c5, .int .i64 c6, .int .i64 c7, .int .i64 c8, .int .i64 c9, .int .i64 c10, .int .i64 c11, .int .i64 c12, .int .i64 c13] := by rw [hZ]; exact Blk.drew ((((((((((((((HZ.out.set (j := 0) (by simp) (.int .i64 c0)).set (j := 1) (by simp) (.int .i64 c1)).set (j := 2) (by simp) (.int .i64 c2)).set (j := 3) (by simp) (.int .i64 c3)).set (j := 4) (by simp) (.int .i64 c4)).set (j := 5) (by simp) (.int .i64 c5)).set (j := 6) (by simp) (.int .i64 c6)).set (j := 7) (by simp) (.int .i64 c7)).set (j := 8) (by simp) (.int .i64 c8)).set (j := 9) (by simp) (.int .i64 c9)).set (j := 10) (by simp) (.int .i64 c10)).set (j := 11) (by simp) (.int .i64 c11)).set (j := 12) (by simp) (.int .i64 c12)).set (j := 13) (by simp) (.int .i64 c13))
      have zB : Below S w Z := by rw [hZ]; exact ((((((((((((((HBS.out.setCell (p := ⟨S + 1, 0, none⟩) (by simp only; omega) _).setCell (p := ⟨S + 1, 1, none⟩) (by simp only; omega) _).setCell (p := ⟨S + 1, 2, none⟩) (by simp only; omega) _).setCell (p := ⟨S + 1, 3, none⟩) (by simp only; omega) _).setCell (p := ⟨S + 1, 4, none⟩) (by simp only; omega) _).setCell (p := ⟨S + 1, 5, none⟩) (by simp only; omega) _).setCell (p := ⟨S + 1, 6, none⟩) (by simp only; omega) _).setCell (p := ⟨S + 1, 7, none⟩) (by simp only; omega) _).setCell (p := ⟨S + 1, 8, none⟩) (by simp only; omega) _).setCell (p := ⟨S + 1, 9, none⟩) (by simp only; omega) _).setCell (p := ⟨S + 1, 10, none⟩) (by simp only; omega) _).setCell (p := ⟨S + 1, 11, none⟩) (by simp only; omega) _).setCell (p := ⟨S + 1, 12, none⟩) (by simp only; omega) _).setCell (p := ⟨S + 1, 13, none⟩) (by simp only; omega) _).drew
      have zO : Z.ownsRow (T + 1) 71 6 u9 k (flat6 (rounds6 k0 k1 R Q J es k)) := by rw [hZ]; exact own6_drew (ownsRow_setCell_below (ownsRow_setCell_below (ownsRow_setCell_below (ownsRow_setCell_below (ownsRow_setCell_below (ownsRow_setCell_below (ownsRow_setCell_below (ownsRow_setCell_below (ownsRow_setCell_below (ownsRow_setCell_below (ownsRow_setCell_below (ownsRow_setCell_below (ownsRow_setCell_below (ownsRow_setCell_below HOW.out (a := ⟨S + 1, 0, none⟩) (by simp only; omega) (.int .i64 c0)) (a := ⟨S + 1, 1, none⟩) (by simp only; omega) (.int .i64 c1)) (a := ⟨S + 1, 2, none⟩) (by simp only; omega) (.int .i64 c2)) (a := ⟨S + 1, 3, none⟩) (by simp only; omega) (.int .i64 c3)) (a := ⟨S + 1, 4, none⟩) (by simp only; omega) (.int .i64 c4)) (a := ⟨S + 1, 5, none⟩) (by simp only; omega) (.int .i64 c5)) (a := ⟨S + 1, 6, none⟩) (by simp only; omega) (.int .i64 c6)) (a := ⟨S + 1, 7, none⟩) (by simp only; omega) (.int .i64 c7)) (a := ⟨S + 1, 8, none⟩) (by simp only; omega) (.int .i64 c8)) (a := ⟨S + 1, 9, none⟩) (by simp only; omega) (.int .i64 c9)) (a := ⟨S + 1, 10, none⟩) (by simp only; omega) (.int .i64 c10)) (a := ⟨S + 1, 11, none⟩) (by simp only; omega) (.int .i64 c11)) (a := ⟨S + 1, 12, none⟩) (by simp only; omega) (.int .i64 c12)) (a := ⟨S + 1, 13, none⟩) (by simp only; omega) (.int .i64 c13))
      obtain ⟨a', c', rfl, hR⟩ := RoundsAt.of_own (L := rounds6 k0 k1 R Q J es k) (by rw [hL]; exact zO) (by rw [hL]; omega)
      have hnew := hide (show ∀ ad, a' = some ad → w.heap.size ≤ ad.block from fun ad h => by
       subst h
       have := own6_row zO ad.block rfl
       omega)
      clear zO HOW
      rw [hL]
      rw [← hZ]
      clear hZ
      have y_0 := (z3 0 _ rfl).1
      have y_1 := (z3 1 _ rfl).1
      have y_2 := (z3 2 _ rfl).1
      have y_3 := (z3 3 _ rfl).1
      have y_4 := (z3 4 _ rfl).1
      have y_5 := (z3 5 _ rfl).1
      have y_6 := (z3 6 _ rfl).1
      have y_7 := (z3 7 _ rfl).1
      have y_8 := (z3 8 _ rfl).1
      have y_9 := (z3 9 _ rfl).1
      have y_10 := (z3 10 _ rfl).1
      have y_11 := (z3 11 _ rfl).1
      have y_12 := (z3 12 _ rfl).1
      have y_13 := (z3 13 _ rfl).1
      refine bodyPost_ret (v := .tuple #[.slice a' k c', .agg #[.int .i64 c0, .int .i64 c1, .int .i64 c2, .int .i64 c3, .int .i64 c4, .int .i64 c5, .int .i64 c6, .int .i64 c7, .int .i64 c8, .int .i64 c9, .int .i64 c10, .int .i64 c11, .int .i64 c12, .int .i64 c13], .int .i64 0]) ?_ rfl ⟨⟨rounds6 k0 k1 R Q J es k, stS k0 k1 R Q J es k, 0, a', c', .inl ⟨HO.out, rfl, rfl, rfl⟩, by rw [hL, HS.out]; rfl, hR, hnew.out⟩, ?_⟩
      · simp [results, Try.f8, go_sem, y_0, y_1, y_2, y_3, y_4, y_5, y_6, y_7, y_8, y_9, y_10, y_11, y_12, y_13]
      · first | exact zB | (rw [hS]; exact zB)
  · have hr1 : (r == 0) = false := by have := HNZ.out; simp; omega
    have hr2 : (r != 0) = true := by have := HNZ.out; simp; omega
    have HZ := HBZ
    clear HBR
    by_cases hlt : k < n
    · have k1' : (k : Int) < (n : Int) := by omega
      go_upto_region 10 with fail
      have p_0 := (HZ.out 0 _ rfl).1
      have p_f0 := (HZ.out 0 _ rfl).2
      have p_1 := (HZ.out 1 _ rfl).1
      have p_f1 := (HZ.out 1 _ rfl).2
      have p_2 := (HZ.out 2 _ rfl).1
      have p_f2 := (HZ.out 2 _ rfl).2
      have p_3 := (HZ.out 3 _ rfl).1
      have p_f3 := (HZ.out 3 _ rfl).2
      have p_4 := (HZ.out 4 _ rfl).1
      have p_f4 := (HZ.out 4 _ rfl).2
      have p_5 := (HZ.out 5 _ rfl).1
      have p_f5 := (HZ.out 5 _ rfl).2
      have p_6 := (HZ.out 6 _ rfl).1
      have p_f6 := (HZ.out 6 _ rfl).2
      have p_7 := (HZ.out 7 _ rfl).1
      have p_f7 := (HZ.out 7 _ rfl).2
      have p_8 := (HZ.out 8 _ rfl).1
      have p_f8 := (HZ.out 8 _ rfl).2
      have p_9 := (HZ.out 9 _ rfl).1
      have p_f9 := (HZ.out 9 _ rfl).2
      have p_10 := (HZ.out 10 _ rfl).1
      have p_f10 := (HZ.out 10 _ rfl).2
      have p_11 := (HZ.out 11 _ rfl).1
      have p_f11 := (HZ.out 11 _ rfl).2
      have p_12 := (HZ.out 12 _ rfl).1
      have p_f12 := (HZ.out 12 _ rfl).2
      have p_13 := (HZ.out 13 _ rfl).1
      have p_f13 := (HZ.out 13 _ rfl).2
      go_wp2
      obtain ⟨Z, hZ⟩ : ∃ Z, Z = ((((((((((((((wr.setCell ⟨S + 1, 0, none⟩ (.int .i64 0)).setCell ⟨S + 1, 1, none⟩ (.int .i64 0)).setCell ⟨S + 1, 2, none⟩ (.int .i64 0)).setCell ⟨S + 1, 3, none⟩ (.int .i64 0)).setCell ⟨S + 1, 4, none⟩ (.int .i64 0)).setCell ⟨S + 1, 5, none⟩ (.int .i64 0)).setCell ⟨S + 1, 6, none⟩ (.int .i64 0)).setCell ⟨S + 1, 7, none⟩ (.int .i64 0)).setCell ⟨S + 1, 8, none⟩ (.int .i64 0)).setCell ⟨S + 1, 9, none⟩ (.int .i64 0)).setCell ⟨S + 1, 10, none⟩ (.int .i64 0)).setCell ⟨S + 1, 11, none⟩ (.int .i64 0)).setCell ⟨S + 1, 12, none⟩ (.int .i64 0)).setCell ⟨S + 1, 13, none⟩ (.int .i64 0)) := ⟨_, rfl⟩
      have z3 : Blk Z (S + 1) [.int .i64 0, .int .i64 0, .int .i64 0, .int .i64 0, .int .i64 0, .int .i64 0, .int .i64 0, .int .i64 0, .int .i64 0, .int .i64 0, .int .i64 0, .int .i64 0, .int .i64 0, .int .i64 0] := by rw [hZ]; exact ((((((((((((((HZ.out.set (j := 0) (by simp) (.int .i64 0)).set (j := 1) (by simp) (.int .i64 0)).set (j := 2) (by simp) (.int .i64 0)).set (j := 3) (by simp) (.int .i64 0)).set (j := 4) (by simp) (.int .i64 0)).set (j := 5) (by simp) (.int .i64 0)).set (j := 6) (by simp) (.int .i64 0)).set (j := 7) (by simp) (.int .i64 0)).set (j := 8) (by simp) (.int .i64 0)).set (j := 9) (by simp) (.int .i64 0)).set (j := 10) (by simp) (.int .i64 0)).set (j := 11) (by simp) (.int .i64 0)).set (j := 12) (by simp) (.int .i64 0)).set (j := 13) (by simp) (.int .i64 0))
      have zB : Below S w Z := by rw [hZ]; exact ((((((((((((((HBS.out.setCell (p := ⟨S + 1, 0, none⟩) (by simp only; omega) _).setCell (p := ⟨S + 1, 1, none⟩) (by simp only; omega) _).setCell (p := ⟨S + 1, 2, none⟩) (by simp only; omega) _).setCell (p := ⟨S + 1, 3, none⟩) (by simp only; omega) _).setCell (p := ⟨S + 1, 4, none⟩) (by simp only; omega) _).setCell (p := ⟨S + 1, 5, none⟩) (by simp only; omega) _).setCell (p := ⟨S + 1, 6, none⟩) (by simp only; omega) _).setCell (p := ⟨S + 1, 7, none⟩) (by simp only; omega) _).setCell (p := ⟨S + 1, 8, none⟩) (by simp only; omega) _).setCell (p := ⟨S + 1, 9, none⟩) (by simp only; omega) _).setCell (p := ⟨S + 1, 10, none⟩) (by simp only; omega) _).setCell (p := ⟨S + 1, 11, none⟩) (by simp only; omega) _).setCell (p := ⟨S + 1, 12, none⟩) (by simp only; omega) _).setCell (p := ⟨S + 1, 13, none⟩) (by simp only; omega) _)
      rw [← hZ]
      clear hZ
      have y_0 := (z3 0 _ rfl).1
      have y_1 := (z3 1 _ rfl).1
      have y_2 := (z3 2 _ rfl).1
      have y_3 := (z3 3 _ rfl).1
      have y_4 := (z3 4 _ rfl).1
      have y_5 := (z3 5 _ rfl).1
      have y_6 := (z3 6 _ rfl).1
      have y_7 := (z3 7 _ rfl).1
      have y_8 := (z3 8 _ rfl).1
      have y_9 := (z3 9 _ rfl).1
      have y_10 := (z3 10 _ rfl).1
      have y_11 := (z3 11 _ rfl).1
      have y_12 := (z3 12 _ rfl).1
      have y_13 := (z3 13 _ rfl).1
      refine bodyPost_ret (v := .tuple #[.slice none 0 0, .agg #[.int .i64 0, .int .i64 0, .int .i64 0, .int .i64 0, .int .i64 0, .int .i64 0, .int .i64 0, .int .i64 0, .int .i64 0, .int .i64 0, .int .i64 0, .int .i64 0, .int .i64 0, .int .i64 0], .int .i64 r]) ?_ rfl ⟨⟨[], List.replicate 14 0, r, none, 0, .inr ⟨m, HM.out, HO.out, by rw [HE.out]; exact HNZ.out, rfl, rfl, HE.out.symm⟩, rfl, RoundsAt.nil_ _, fun ad h => by cases h⟩, ?_⟩
      · simp [results, Try.f8, go_sem, y_0, y_1, y_2, y_3, y_4, y_5, y_6, y_7, y_8, y_9, y_10, y_11, y_12, y_13]
      · first | exact zB | (rw [hS]; exact zB)
    · obtain rfl : k = n := by omega
      go_upto_region 10 with fail
      have p_0 := (HZ.out 0 _ rfl).1
      have p_f0 := (HZ.out 0 _ rfl).2
      have p_1 := (HZ.out 1 _ rfl).1
      have p_f1 := (HZ.out 1 _ rfl).2
      have p_2 := (HZ.out 2 _ rfl).1
      have p_f2 := (HZ.out 2 _ rfl).2
      have p_3 := (HZ.out 3 _ rfl).1
      have p_f3 := (HZ.out 3 _ rfl).2
      have p_4 := (HZ.out 4 _ rfl).1
      have p_f4 := (HZ.out 4 _ rfl).2
      have p_5 := (HZ.out 5 _ rfl).1
      have p_f5 := (HZ.out 5 _ rfl).2
      have p_6 := (HZ.out 6 _ rfl).1
      have p_f6 := (HZ.out 6 _ rfl).2
      have p_7 := (HZ.out 7 _ rfl).1
      have p_f7 := (HZ.out 7 _ rfl).2
      have p_8 := (HZ.out 8 _ rfl).1
      have p_f8 := (HZ.out 8 _ rfl).2
      have p_9 := (HZ.out 9 _ rfl).1
      have p_f9 := (HZ.out 9 _ rfl).2
      have p_10 := (HZ.out 10 _ rfl).1
      have p_f10 := (HZ.out 10 _ rfl).2
      have p_11 := (HZ.out 11 _ rfl).1
      have p_f11 := (HZ.out 11 _ rfl).2
      have p_12 := (HZ.out 12 _ rfl).1
      have p_f12 := (HZ.out 12 _ rfl).2
      have p_13 := (HZ.out 13 _ rfl).1
      have p_f13 := (HZ.out 13 _ rfl).2
      go_wp2
      obtain ⟨Z, hZ⟩ : ∃ Z, Z = ((((((((((((((wr.setCell ⟨S + 1, 0, none⟩ (.int .i64 0)).setCell ⟨S + 1, 1, none⟩ (.int .i64 0)).setCell ⟨S + 1, 2, none⟩ (.int .i64 0)).setCell ⟨S + 1, 3, none⟩ (.int .i64 0)).setCell ⟨S + 1, 4, none⟩ (.int .i64 0)).setCell ⟨S + 1, 5, none⟩ (.int .i64 0)).setCell ⟨S + 1, 6, none⟩ (.int .i64 0)).setCell ⟨S + 1, 7, none⟩ (.int .i64 0)).setCell ⟨S + 1, 8, none⟩ (.int .i64 0)).setCell ⟨S + 1, 9, none⟩ (.int .i64 0)).setCell ⟨S + 1, 10, none⟩ (.int .i64 0)).setCell ⟨S + 1, 11, none⟩ (.int .i64 0)).setCell ⟨S + 1, 12, none⟩ (.int .i64 0)).setCell ⟨S + 1, 13, none⟩ (.int .i64 0)) := ⟨_, rfl⟩
      have z3 : Blk Z (S + 1) [.int .i64 0, .int .i64 0, .int .i64 0, .int .i64 0, .int .i64 0, .int .i64 0, .int .i64 0, .int .i64 0, .int .i64 0, .int .i64 0, .int .i64 0, .int .i64 0, .int .i64 0, .int .i64 0] := by rw [hZ]; exact ((((((((((((((HZ.out.set (j := 0) (by simp) (.int .i64 0)).set (j := 1) (by simp) (.int .i64 0)).set (j := 2) (by simp) (.int .i64 0)).set (j := 3) (by simp) (.int .i64 0)).set (j := 4) (by simp) (.int .i64 0)).set (j := 5) (by simp) (.int .i64 0)).set (j := 6) (by simp) (.int .i64 0)).set (j := 7) (by simp) (.int .i64 0)).set (j := 8) (by simp) (.int .i64 0)).set (j := 9) (by simp) (.int .i64 0)).set (j := 10) (by simp) (.int .i64 0)).set (j := 11) (by simp) (.int .i64 0)).set (j := 12) (by simp) (.int .i64 0)).set (j := 13) (by simp) (.int .i64 0))
      have zB : Below S w Z := by rw [hZ]; exact ((((((((((((((HBS.out.setCell (p := ⟨S + 1, 0, none⟩) (by simp only; omega) _).setCell (p := ⟨S + 1, 1, none⟩) (by simp only; omega) _).setCell (p := ⟨S + 1, 2, none⟩) (by simp only; omega) _).setCell (p := ⟨S + 1, 3, none⟩) (by simp only; omega) _).setCell (p := ⟨S + 1, 4, none⟩) (by simp only; omega) _).setCell (p := ⟨S + 1, 5, none⟩) (by simp only; omega) _).setCell (p := ⟨S + 1, 6, none⟩) (by simp only; omega) _).setCell (p := ⟨S + 1, 7, none⟩) (by simp only; omega) _).setCell (p := ⟨S + 1, 8, none⟩) (by simp only; omega) _).setCell (p := ⟨S + 1, 9, none⟩) (by simp only; omega) _).setCell (p := ⟨S + 1, 10, none⟩) (by simp only; omega) _).setCell (p := ⟨S + 1, 11, none⟩) (by simp only; omega) _).setCell (p := ⟨S + 1, 12, none⟩) (by simp only; omega) _).setCell (p := ⟨S + 1, 13, none⟩) (by simp only; omega) _)
      rw [← hZ]
      clear hZ
      have y_0 := (z3 0 _ rfl).1
      have y_1 := (z3 1 _ rfl).1
      have y_2 := (z3 2 _ rfl).1
      have y_3 := (z3 3 _ rfl).1
      have y_4 := (z3 4 _ rfl).1
      have y_5 := (z3 5 _ rfl).1
      have y_6 := (z3 6 _ rfl).1
      have y_7 := (z3 7 _ rfl).1
      have y_8 := (z3 8 _ rfl).1
      have y_9 := (z3 9 _ rfl).1
      have y_10 := (z3 10 _ rfl).1
      have y_11 := (z3 11 _ rfl).1
      have y_12 := (z3 12 _ rfl).1
      have y_13 := (z3 13 _ rfl).1
      refine bodyPost_ret (v := .tuple #[.slice none 0 0, .agg #[.int .i64 0, .int .i64 0, .int .i64 0, .int .i64 0, .int .i64 0, .int .i64 0, .int .i64 0, .int .i64 0, .int .i64 0, .int .i64 0, .int .i64 0, .int .i64 0, .int .i64 0, .int .i64 0], .int .i64 r]) ?_ rfl ⟨⟨[], List.replicate 14 0, r, none, 0, .inr ⟨m, HM.out, HO.out, by rw [HE.out]; exact HNZ.out, rfl, rfl, HE.out.symm⟩, rfl, RoundsAt.nil_ _, fun ad h => by cases h⟩, ?_⟩
      · simp [results, Try.f8, go_sem, y_0, y_1, y_2, y_3, y_4, y_5, y_6, y_7, y_8, y_9, y_10, y_11, y_12, y_13]
      · first | exact zB | (rw [hS]; exact zB)
theorem pplay_run (k0 k1 R Q J : Int) (a : Option Addr) (n c : Nat) (es : List P2) (w : World) (hI : PairsAt w a n c es) (hn : n ≤ 1048576) (hk : kindsOk k0 k1) (hr : rangeOk R Q J) :
 Calls Try.prog 8 #[.agg #[.int .i64 k0, .int .i64 k1, .int .i64 R, .int .i64 Q, .int .i64 J], .slice a n c] w fun e w' => Played k0 k1 R Q J es n e w' ∧ Below w.heap.size w w' :=
 (pplay_new k0 k1 R Q J a n c es w hI hn hk hr).mono fun _ _ ⟨⟨L, ss, r, a', c', h1, h2, h3, _⟩, hb⟩ => ⟨⟨L, ss, r, a', c', h1, h2, h3⟩, hb⟩
end Go.Proofs.Ytagbikgfkakbfaa
