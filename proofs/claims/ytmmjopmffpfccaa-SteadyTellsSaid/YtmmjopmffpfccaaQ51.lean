/-
  Lemmas and walks for the statement: SteadyW2.
-/
import Derived.Test.YtmmjopmffpfccaaQ50
namespace Go.Proofs.Ytmmjopmffpfccaa
open Go.RowKit
set_option linter.unusedSimpArgs false
set_option linter.unusedVariables false
attribute [local go_sem] iteMin iteMax iteMinN iteMaxN
set_option maxRecDepth 100000 in
set_option maxHeartbeats 8000000 in
theorem steady_good1 (k0 k1 R Q J n who ratio : Int) (X : Sx) (m N : Nat) (w : World) (hok : SxOk Gd UU X) (hm : X.edges.length = m) (hN : X.states.length = N) (hm0 : 0 < m) (hm3 : m ≤ 4800) (hlt : ∀ E ∈ X.edges, 0 ≤ E.l.x ∧ E.l.x ≤ 3 ∧ 0 ≤ E.l.y ∧ E.l.y ≤ 3) (hc : badArgs who ratio)
 (h1 : ∀ w : World, Calls Try.prog 17 #[.agg #[.int .i64 k0, .int .i64 k1, .int .i64 R, .int .i64 Q, .int .i64 J]] w fun e w' => SofOk X w e w')
 (h2 : ∀ w : World, Calls Try.prog 18 #[.agg #[.int .i64 k0, .int .i64 k1, .int .i64 R, .int .i64 Q, .int .i64 J]] w fun e w' => StatesOk X w e w')
 (h3 : ∀ (n : Int) (w : World), Calls Try.prog 19 #[.agg #[.int .i64 k0, .int .i64 k1, .int .i64 R, .int .i64 Q, .int .i64 J], .int .i64 n] w fun e w' => LeadOk X n w e w')
 (h4 : ∀ (w : World), Calls Try.prog 20 #[.agg #[.int .i64 k0, .int .i64 k1, .int .i64 R, .int .i64 Q, .int .i64 J], .int .i64 who, .int .i64 ratio] w fun e w' => e = .returned (.tuple #[.agg #[.int .i64 0, .slice none 0 0], .int .i64 2]) ∧ Below w.heap.size w w') :
  Calls Try.prog 5 #[.agg #[.int .i64 k0, .int .i64 k1, .int .i64 R, .int .i64 Q, .int .i64 J], .int .i64 n, .int .i64 who, .int .i64 ratio] w fun e w' => e = .returned (.bool true) ∧ Below w.heap.size w w' := by
 rcases hc with c1 | ⟨c1, c2⟩ | ⟨c1, c2, c3⟩ | ⟨c1, c2, c3, c4⟩
 all_goals
  have HLT := hide hlt
  clear hlt
  have hmost := hok.most
  have H1 := hide h1; have H2 := hide h2; have H3 := hide h3; have H4 := hide h4; have HOK := hide hok; have HM := hide hm; have HN := hide hN
  rw [hN] at hmost
  clear h1 h2 h3 h4 hok hm hN
  obtain ⟨S, hS⟩ : ∃ S, w.heap.size = S := ⟨_, rfl⟩
  go_enter Try.func5, Try.ntmps5
  go_wp2_with fail
  obtain ⟨W, hW⟩ : ∃ W, W = w.alloc (.cells #[.int .i64 k0, .int .i64 k1, .int .i64 R, .int .i64 Q, .int .i64 J] 24) := ⟨_, rfl⟩
  rw [← hW]
  have BR : Blk W S [.int .i64 k0, .int .i64 k1, .int .i64 R, .int .i64 Q, .int .i64 J] := by
   have := Blk.new w [.int .i64 k0, .int .i64 k1, .int .i64 R, .int .i64 Q, .int .i64 J] 24
   rw [hW]; simpa [hS] using this
  have BS : Below S w W := by rw [hW, ← hS]; exact (Below.refl _ _).alloc (Nat.le_refl _) _
  clear hW
  refine (H1.out W).mono ?_
  rintro e w1 ⟨v0, v1, v2, v3, v4, B, rfl, hA, R0, R1, R2, R3, R4⟩
  rw [HM.out] at R1 R2 R3 R4
  rw [HN.out] at R0
  obtain ⟨a0, c0, rfl⟩ := sliceShape R0
  obtain ⟨g1, c1', rfl, _, _, _, _⟩ := slice_some R1 (by omega)
  obtain ⟨g2, c2', rfl, _, _, _, _⟩ := slice_some R2 (by omega)
  obtain ⟨g3, c3', rfl, _, _, _, _⟩ := slice_some R3 (by omega)
  obtain ⟨a4, c4', rfl⟩ := sliceShape R4
  have BS := BS.trans (hA.mono (Nat.le_of_lt BR.lt))
  have BR := BR.below hA BR.lt
  have hST := BR.lt
  obtain ⟨P1, hP1⟩ : ∃ P1, w1.heap.size = P1 := ⟨_, rfl⟩
  obtain ⟨X1, hX1⟩ : ∃ X1, X1 = w1.alloc (.cells #[(.slice a0 N c0), (.slice (some ⟨g1, 0, none⟩) m c1'), (.slice (some ⟨g2, 0, none⟩) m c2'), (.slice (some ⟨g3, 0, none⟩) m c3'), (.slice a4 m c4')] 49) := ⟨_, rfl⟩
  have BP : Blk X1 P1 [(.slice a0 N c0), (.slice (some ⟨g1, 0, none⟩) m c1'), (.slice (some ⟨g2, 0, none⟩) m c2'), (.slice (some ⟨g3, 0, none⟩) m c3'), (.slice a4 m c4')] := by
   have := Blk.new w1 [(.slice a0 N c0), (.slice (some ⟨g1, 0, none⟩) m c1'), (.slice (some ⟨g2, 0, none⟩) m c2'), (.slice (some ⟨g3, 0, none⟩) m c3'), (.slice a4 m c4')] 49
   rw [hX1]; simpa [hP1] using this
  have BR := BR.alloc (.cells #[(.slice a0 N c0), (.slice (some ⟨g1, 0, none⟩) m c1'), (.slice (some ⟨g2, 0, none⟩) m c2'), (.slice (some ⟨g3, 0, none⟩) m c3'), (.slice a4 m c4')] 49)
  have BS := BS.alloc (Nat.le_of_lt hST) (.cells #[(.slice a0 N c0), (.slice (some ⟨g1, 0, none⟩) m c1'), (.slice (some ⟨g2, 0, none⟩) m c2'), (.slice (some ⟨g3, 0, none⟩) m c3'), (.slice a4 m c4')] 49)
  have RX : Below w1.heap.size w1 X1 := by rw [hX1]; exact (Below.refl _ _).alloc (Nat.le_refl _) _
  have ROWS : Hid (∀ u, Below X1.heap.size X1 u → Rows5 B N m X (.slice a0 N c0) (.slice (some ⟨g1, 0, none⟩) m c1') (.slice (some ⟨g2, 0, none⟩) m c2') (.slice (some ⟨g3, 0, none⟩) m c3') (.slice a4 m c4') u) := hide (fun u hu => by
   have hb := RX.trans (hu.mono RX.size)
   exact ⟨rows_below R0 hb, rows_below R1 hb, rows_below R2 hb, rows_below R3 hb, rows_below R4 hb⟩)
  rw [← hX1] at BR BS
  clear H1 hA R0 R1 R2 R3 R4 RX
  rw [hP1] at hST
  go_upto_region 2 with fail
  rw [← hX1]
  clear hX1
  obtain ⟨r_0, r_f0⟩ := BR 0 _ rfl
  obtain ⟨r_1, r_f1⟩ := BR 1 _ rfl
  obtain ⟨r_2, r_f2⟩ := BR 2 _ rfl
  obtain ⟨r_3, r_f3⟩ := BR 3 _ rfl
  obtain ⟨r_4, r_f4⟩ := BR 4 _ rfl
  clear r_f0 r_f1 r_f2 r_f3 r_f4
  have HBR := hide BR; have HBS := hide BS; have HBP := hide BP
  clear BR BS BP
  go_wp2_with fail
  clear r_0 r_1 r_2 r_3 r_4
  refine (H2.out X1).mono ?_
  rintro e w2 ⟨va, Ba, rfl, RA, hA⟩
  rw [HN.out] at RA
  obtain ⟨aa, ca, rfl⟩ := sliceShape RA
  have BR := HBR.out.below hA HBR.out.lt
  have BP := HBP.out.below hA HBP.out.lt
  have BS := HBS.out.trans (hA.mono (by have := HBR.out.lt; omega))
  have hW2 : Hid (Below X1.heap.size X1 w2) := hide hA
  have HRA := hide RA
  clear HBR HBP HBS hA H2 RA
  obtain ⟨r_0, r_f0⟩ := BR 0 _ rfl
  obtain ⟨r_1, r_f1⟩ := BR 1 _ rfl
  obtain ⟨r_2, r_f2⟩ := BR 2 _ rfl
  obtain ⟨r_3, r_f3⟩ := BR 3 _ rfl
  obtain ⟨r_4, r_f4⟩ := BR 4 _ rfl
  clear r_f0 r_f1 r_f2 r_f3 r_f4
  have HBR := hide BR; have HBS := hide BS; have HBP := hide BP
  clear BR BS BP
  go_wp2_with fail
  clear r_0 r_1 r_2 r_3 r_4
  refine (H3.out n w2).mono ?_
  rintro e w3 ⟨hL, hA⟩
  have BR := HBR.out.below hA HBR.out.lt
  have BP := HBP.out.below hA HBP.out.lt
  have BS := HBS.out.trans (hA.mono (by have := HBR.out.lt; omega))
  have hW3 : Hid (Below X1.heap.size X1 w3) := hide (hW2.out.trans (hA.mono hW2.out.size))
  have RA := rows_below HRA.out hA
  have HRA := hide RA
  clear HBR HBP HBS hA H3 RA hW2
  have HBR := hide BR; have HBS := hide BS; have HBP := hide BP
  clear BR BS BP
  rcases hL with ⟨hn, rfl⟩ | ⟨l, rfl, hl, vl, Bl, rfl, RL⟩
  · have hn2 : n < 0 ∨ (N : Int) ≤ n := by rw [← HN.out]; exact hn
    clear hn
    rcases hn2 with hn | hn
    rotate_left
    · have hn0 : 0 ≤ n := by omega
      have hn1 : ¬ n < 0 := by omega
      have BR := HBR.out
      obtain ⟨r_0, r_f0⟩ := BR 0 _ rfl
      obtain ⟨r_1, r_f1⟩ := BR 1 _ rfl
      obtain ⟨r_2, r_f2⟩ := BR 2 _ rfl
      obtain ⟨r_3, r_f3⟩ := BR 3 _ rfl
      obtain ⟨r_4, r_f4⟩ := BR 4 _ rfl
      clear r_f0 r_f1 r_f2 r_f3 r_f4
      have HBRx := hide BR; have HBSx := hide HBS.out; have HBPx := hide HBP.out
      clear BR HBR HBS HBP
      go_wp2_with fail
      clear r_0 r_1 r_2 r_3 r_4
      refine (H4.out w3).mono ?_
      rintro e w4 ⟨rfl, hA⟩
      have BP := HBPx.out.below hA HBPx.out.lt
      have BS := HBSx.out.trans (hA.mono (by have := HBRx.out.lt; omega))
      have hPl := BP.lt
      have hSl := HBRx.out.lt
      have hSz := hA.size
      have hX4 := hide (hW3.out.trans (hA.mono hW3.out.size))
      have RAb := rows_below HRA.out hA
      clear HBRx HBPx HBSx H4 HRA
      obtain ⟨G1, hG1⟩ : ∃ G1, w4.heap.size = G1 := ⟨_, rfl⟩
      obtain ⟨X4, hX4e⟩ : ∃ X4, X4 = w4.alloc (.cells #[.int .i64 0, (.slice none 0 0)] 58) := ⟨_, rfl⟩
      have hb4 : Below w4.heap.size w4 X4 := by rw [hX4e]; exact (Below.refl _ _).alloc (Nat.le_refl _) _
      have BG : Blk X4 G1 [.int .i64 0, (.slice none 0 0)] := by
       have := Blk.new w4 [.int .i64 0, (.slice none 0 0)] 58
       rw [hX4e]; simpa [hG1] using this
      have BP := BP.alloc (.cells #[.int .i64 0, (.slice none 0 0)] 58)
      have BS := BS.alloc (by omega) (.cells #[.int .i64 0, (.slice none 0 0)] 58)
      rw [← hX4e] at BP BS
      have FC : Hid (∀ u, Below X4.heap.size X4 u → u.cell? ⟨P1, 0, none⟩ = some (.slice a0 N c0) ∧ u.cell? ⟨P1, 1, none⟩ = some (.slice (some ⟨g1, 0, none⟩) m c1') ∧ u.cell? ⟨P1, 2, none⟩ = some (.slice (some ⟨g2, 0, none⟩) m c2') ∧ u.cell? ⟨P1, 3, none⟩ = some (.slice (some ⟨g3, 0, none⟩) m c3') ∧ u.cell? ⟨P1, 4, none⟩ = some (.slice a4 m c4') ∧ u.cell? ⟨G1, 0, none⟩ = some (.int .i64 0) ∧ u.cell? ⟨G1, 1, none⟩ = some (.slice none 0 0)) := hide (fun u hu => by
       have bp := BP.below hu BP.lt
       have bg := BG.below hu BG.lt
       exact ⟨(bp 0 _ rfl).1, (bp 1 _ rfl).1, (bp 2 _ rfl).1, (bp 3 _ rfl).1, (bp 4 _ rfl).1, (bg 0 _ rfl).1, (bg 1 _ rfl).1⟩)
      have RAC : Hid (∀ u, Below X4.heap.size X4 u → u.ownsRow Ba 29 14 (.slice aa N ca) N (flatS X.states) ∧ Rows5 B N m X (.slice a0 N c0) (.slice (some ⟨g1, 0, none⟩) m c1') (.slice (some ⟨g2, 0, none⟩) m c2') (.slice (some ⟨g3, 0, none⟩) m c3') (.slice a4 m c4') u ∧ True ∧ True) := hide (fun u hu => by
       have hu4 := hb4.trans (hu.mono hb4.size)
       exact ⟨rows_below RAb hu4, ROWS.out u (hX4.out.trans (hu4.mono hX4.out.size)), trivial, trivial⟩)
      have HGS : Hid (∀ t ∈ X.states, t.length = 14 ∧ ∀ z ∈ t, (Lit.int .i64 z).wf = true) := hide (fun t ht => ⟨(HOK.out.good t ht).1, fun z hz => sm_wf ((HOK.out.good t ht).2 z hz)⟩)
      have HEU : Hid (∀ E ∈ X.edges, E.t ≤ 300 ∧ E.f ≤ 300 ∧ UU E.us) := hide (fun E hE => by
       obtain ⟨i, hi⟩ := List.mem_iff_getElem?.1 hE
       have h := HOK.out.tos i E hi
       have := HN.out
       exact ⟨by omega, by omega, h.2.2⟩)
      have hP4 : P1 < X4.heap.size := BP.lt
      have hG4 : G1 < X4.heap.size := BG.lt
      have hX5 := Below.refl X4.heap.size X4
      obtain ⟨p_0, p_1, p_2, p_3, p_4, q_0, q_1⟩ := FC.out X4 hX5
      have hsz5 := hX5.size
      have HBS := hide BS
      go_upto_region 5 with fail
      rw [← hX4e]
      clear hX4e BP BG BS hb4 RAb hA hX4
      go_wp2_with (first | (go_at_call 21; refine (sequal_any _ _ _ _ X.states N _ HN.out (by omega) (RAC.out _ hX5).1 (RAC.out _ hX5).2.1.r0 HGS.out).mono ?_; rintro e w5 ⟨rfl, hA⟩; have hX9 := hX5.trans (hA.mono hX5.size); clear hX5; have hX5 := hX9; clear hX9 hA; obtain ⟨p_0, p_1, p_2, p_3, p_4, q_0, q_1⟩ := FC.out w5 hX5; have hsz5 := hX5.size; have hP5 : P1 < w5.heap.size := (by omega); have hG5 : G1 < w5.heap.size := (by omega); have hN5 : ¬ G1 = w5.heap.size := (by omega)))
      all_goals first
       | omega
       | (go_ret
          exact ⟨by first | rfl | (simp; done) | (simp; omega), by
           have hB := HBS.out.trans (hX5.mono (by have := HBS.out.size; omega))
           first | exact hB | (rw [hS]; exact hB)⟩)
    · have BR := HBR.out
      obtain ⟨r_0, r_f0⟩ := BR 0 _ rfl
      obtain ⟨r_1, r_f1⟩ := BR 1 _ rfl
      obtain ⟨r_2, r_f2⟩ := BR 2 _ rfl
      obtain ⟨r_3, r_f3⟩ := BR 3 _ rfl
      obtain ⟨r_4, r_f4⟩ := BR 4 _ rfl
      clear r_f0 r_f1 r_f2 r_f3 r_f4
      have HBRx := hide BR; have HBSx := hide HBS.out; have HBPx := hide HBP.out
      clear BR HBR HBS HBP
      go_wp2_with fail
      clear r_0 r_1 r_2 r_3 r_4
      refine (H4.out w3).mono ?_
      rintro e w4 ⟨rfl, hA⟩
      have BP := HBPx.out.below hA HBPx.out.lt
      have BS := HBSx.out.trans (hA.mono (by have := HBRx.out.lt; omega))
      have hPl := BP.lt
      have hSl := HBRx.out.lt
      have hSz := hA.size
      have hX4 := hide (hW3.out.trans (hA.mono hW3.out.size))
      have RAb := rows_below HRA.out hA
      clear HBRx HBPx HBSx H4 HRA
      obtain ⟨G1, hG1⟩ : ∃ G1, w4.heap.size = G1 := ⟨_, rfl⟩
      obtain ⟨X4, hX4e⟩ : ∃ X4, X4 = w4.alloc (.cells #[.int .i64 0, (.slice none 0 0)] 58) := ⟨_, rfl⟩
      have hb4 : Below w4.heap.size w4 X4 := by rw [hX4e]; exact (Below.refl _ _).alloc (Nat.le_refl _) _
      have BG : Blk X4 G1 [.int .i64 0, (.slice none 0 0)] := by
       have := Blk.new w4 [.int .i64 0, (.slice none 0 0)] 58
       rw [hX4e]; simpa [hG1] using this
      have BP := BP.alloc (.cells #[.int .i64 0, (.slice none 0 0)] 58)
      have BS := BS.alloc (by omega) (.cells #[.int .i64 0, (.slice none 0 0)] 58)
      rw [← hX4e] at BP BS
      have FC : Hid (∀ u, Below X4.heap.size X4 u → u.cell? ⟨P1, 0, none⟩ = some (.slice a0 N c0) ∧ u.cell? ⟨P1, 1, none⟩ = some (.slice (some ⟨g1, 0, none⟩) m c1') ∧ u.cell? ⟨P1, 2, none⟩ = some (.slice (some ⟨g2, 0, none⟩) m c2') ∧ u.cell? ⟨P1, 3, none⟩ = some (.slice (some ⟨g3, 0, none⟩) m c3') ∧ u.cell? ⟨P1, 4, none⟩ = some (.slice a4 m c4') ∧ u.cell? ⟨G1, 0, none⟩ = some (.int .i64 0) ∧ u.cell? ⟨G1, 1, none⟩ = some (.slice none 0 0)) := hide (fun u hu => by
       have bp := BP.below hu BP.lt
       have bg := BG.below hu BG.lt
       exact ⟨(bp 0 _ rfl).1, (bp 1 _ rfl).1, (bp 2 _ rfl).1, (bp 3 _ rfl).1, (bp 4 _ rfl).1, (bg 0 _ rfl).1, (bg 1 _ rfl).1⟩)
      have RAC : Hid (∀ u, Below X4.heap.size X4 u → u.ownsRow Ba 29 14 (.slice aa N ca) N (flatS X.states) ∧ Rows5 B N m X (.slice a0 N c0) (.slice (some ⟨g1, 0, none⟩) m c1') (.slice (some ⟨g2, 0, none⟩) m c2') (.slice (some ⟨g3, 0, none⟩) m c3') (.slice a4 m c4') u ∧ True ∧ True) := hide (fun u hu => by
       have hu4 := hb4.trans (hu.mono hb4.size)
       exact ⟨rows_below RAb hu4, ROWS.out u (hX4.out.trans (hu4.mono hX4.out.size)), trivial, trivial⟩)
      have HGS : Hid (∀ t ∈ X.states, t.length = 14 ∧ ∀ z ∈ t, (Lit.int .i64 z).wf = true) := hide (fun t ht => ⟨(HOK.out.good t ht).1, fun z hz => sm_wf ((HOK.out.good t ht).2 z hz)⟩)
      have HEU : Hid (∀ E ∈ X.edges, E.t ≤ 300 ∧ E.f ≤ 300 ∧ UU E.us) := hide (fun E hE => by
       obtain ⟨i, hi⟩ := List.mem_iff_getElem?.1 hE
       have h := HOK.out.tos i E hi
       have := HN.out
       exact ⟨by omega, by omega, h.2.2⟩)
      have hP4 : P1 < X4.heap.size := BP.lt
      have hG4 : G1 < X4.heap.size := BG.lt
      have hX5 := Below.refl X4.heap.size X4
      obtain ⟨p_0, p_1, p_2, p_3, p_4, q_0, q_1⟩ := FC.out X4 hX5
      have hsz5 := hX5.size
      have HBS := hide BS
      go_upto_region 5 with fail
      rw [← hX4e]
      clear hX4e BP BG BS hb4 RAb hA hX4
      go_wp2_with (first | (go_at_call 21; refine (sequal_any _ _ _ _ X.states N _ HN.out (by omega) (RAC.out _ hX5).1 (RAC.out _ hX5).2.1.r0 HGS.out).mono ?_; rintro e w5 ⟨rfl, hA⟩; have hX9 := hX5.trans (hA.mono hX5.size); clear hX5; have hX5 := hX9; clear hX9 hA; obtain ⟨p_0, p_1, p_2, p_3, p_4, q_0, q_1⟩ := FC.out w5 hX5; have hsz5 := hX5.size; have hP5 : P1 < w5.heap.size := (by omega); have hG5 : G1 < w5.heap.size := (by omega); have hN5 : ¬ G1 = w5.heap.size := (by omega)))
      all_goals first
       | omega
       | (go_ret
          exact ⟨by first | rfl | (simp; done) | (simp; omega), by
           have hB := HBS.out.trans (hX5.mono (by have := HBS.out.size; omega))
           first | exact hB | (rw [hS]; exact hB)⟩)
  · obtain ⟨wl, hwl⟩ : ∃ wl, (wayB X.fr X.bys l l).reverse = wl := ⟨_, rfl⟩
    have hwn : wl.length ≤ 300 := by rw [← hwl, List.length_reverse]; have := wayB_len X.fr X.bys l l; have := HN.out; omega
    have HWY : Hid (∀ p ∈ wl, 0 ≤ p.x ∧ p.x ≤ 3 ∧ 0 ≤ p.y ∧ p.y ≤ 3) := hide (fun p hp => by
     rw [← hwl] at hp
     obtain ⟨E, hE, rfl⟩ := wayB_mem HOK.out l l hl p (List.mem_reverse.1 hp)
     exact HLT.out E hE)
    rw [hwl] at RL
    have hlN : l < N := by rw [← HN.out]; exact hl
    have hlN' : (l : Int) < (N : Int) := by omega
    have hl0 : (0 : Int) ≤ (l : Int) := Int.natCast_nonneg _
    obtain ⟨al, cl, rfl⟩ := sliceShape RL
    have HWL := hide hwl
    have HRL := hide RL
    clear RL hwl hl
    have BR := HBR.out
    obtain ⟨r_0, r_f0⟩ := BR 0 _ rfl
    obtain ⟨r_1, r_f1⟩ := BR 1 _ rfl
    obtain ⟨r_2, r_f2⟩ := BR 2 _ rfl
    obtain ⟨r_3, r_f3⟩ := BR 3 _ rfl
    obtain ⟨r_4, r_f4⟩ := BR 4 _ rfl
    clear r_f0 r_f1 r_f2 r_f3 r_f4
    have HBRx := hide BR; have HBSx := hide HBS.out; have HBPx := hide HBP.out
    clear BR HBR HBS HBP
    go_wp2_with fail
    clear r_0 r_1 r_2 r_3 r_4
    refine (H4.out w3).mono ?_
    rintro e w4 ⟨rfl, hA⟩
    have BP := HBPx.out.below hA HBPx.out.lt
    have BS := HBSx.out.trans (hA.mono (by have := HBRx.out.lt; omega))
    have hPl := BP.lt
    have hSl := HBRx.out.lt
    have hSz := hA.size
    have hX4 := hide (hW3.out.trans (hA.mono hW3.out.size))
    have RAb := rows_below HRA.out hA
    have RL4 := rows_below HRL.out hA
    clear HRL
    clear HBRx HBPx HBSx H4 HRA
    obtain ⟨G1, hG1⟩ : ∃ G1, w4.heap.size = G1 := ⟨_, rfl⟩
    obtain ⟨X4, hX4e⟩ : ∃ X4, X4 = w4.alloc (.cells #[.int .i64 0, (.slice none 0 0)] 58) := ⟨_, rfl⟩
    have hb4 : Below w4.heap.size w4 X4 := by rw [hX4e]; exact (Below.refl _ _).alloc (Nat.le_refl _) _
    have BG : Blk X4 G1 [.int .i64 0, (.slice none 0 0)] := by
     have := Blk.new w4 [.int .i64 0, (.slice none 0 0)] 58
     rw [hX4e]; simpa [hG1] using this
    have BP := BP.alloc (.cells #[.int .i64 0, (.slice none 0 0)] 58)
    have BS := BS.alloc (by omega) (.cells #[.int .i64 0, (.slice none 0 0)] 58)
    rw [← hX4e] at BP BS
    have FC : Hid (∀ u, Below X4.heap.size X4 u → u.cell? ⟨P1, 0, none⟩ = some (.slice a0 N c0) ∧ u.cell? ⟨P1, 1, none⟩ = some (.slice (some ⟨g1, 0, none⟩) m c1') ∧ u.cell? ⟨P1, 2, none⟩ = some (.slice (some ⟨g2, 0, none⟩) m c2') ∧ u.cell? ⟨P1, 3, none⟩ = some (.slice (some ⟨g3, 0, none⟩) m c3') ∧ u.cell? ⟨P1, 4, none⟩ = some (.slice a4 m c4') ∧ u.cell? ⟨G1, 0, none⟩ = some (.int .i64 0) ∧ u.cell? ⟨G1, 1, none⟩ = some (.slice none 0 0)) := hide (fun u hu => by
     have bp := BP.below hu BP.lt
     have bg := BG.below hu BG.lt
     exact ⟨(bp 0 _ rfl).1, (bp 1 _ rfl).1, (bp 2 _ rfl).1, (bp 3 _ rfl).1, (bp 4 _ rfl).1, (bg 0 _ rfl).1, (bg 1 _ rfl).1⟩)
    have RAC : Hid (∀ u, Below X4.heap.size X4 u → u.ownsRow Ba 29 14 (.slice aa N ca) N (flatS X.states) ∧ Rows5 B N m X (.slice a0 N c0) (.slice (some ⟨g1, 0, none⟩) m c1') (.slice (some ⟨g2, 0, none⟩) m c2') (.slice (some ⟨g3, 0, none⟩) m c3') (.slice a4 m c4') u ∧ u.ownsRow Bl 22 2 (.slice al wl.length cl) wl.length (flat2 wl) ∧ True) := hide (fun u hu => by
     have hu4 := hb4.trans (hu.mono hb4.size)
     exact ⟨rows_below RAb hu4, ROWS.out u (hX4.out.trans (hu4.mono hX4.out.size)), rows_below RL4 hu4, trivial⟩)
    have HGS : Hid (∀ t ∈ X.states, t.length = 14 ∧ ∀ z ∈ t, (Lit.int .i64 z).wf = true) := hide (fun t ht => ⟨(HOK.out.good t ht).1, fun z hz => sm_wf ((HOK.out.good t ht).2 z hz)⟩)
    have HEU : Hid (∀ E ∈ X.edges, E.t ≤ 300 ∧ E.f ≤ 300 ∧ UU E.us) := hide (fun E hE => by
     obtain ⟨i, hi⟩ := List.mem_iff_getElem?.1 hE
     have h := HOK.out.tos i E hi
     have := HN.out
     exact ⟨by omega, by omega, h.2.2⟩)
    have hP4 : P1 < X4.heap.size := BP.lt
    have hG4 : G1 < X4.heap.size := BG.lt
    have hX5 := Below.refl X4.heap.size X4
    obtain ⟨p_0, p_1, p_2, p_3, p_4, q_0, q_1⟩ := FC.out X4 hX5
    have hsz5 := hX5.size
    have HBS := hide BS
    clear RL4
    go_upto_region 5 with fail
    rw [← hX4e]
    clear hX4e BP BG BS hb4 RAb hA hX4
    go_wp2_with (first | (go_at_call 21; refine (sequal_any _ _ _ _ X.states N _ HN.out (by omega) (RAC.out _ hX5).1 (RAC.out _ hX5).2.1.r0 HGS.out).mono ?_; rintro e w5 ⟨rfl, hA⟩; have hX9 := hX5.trans (hA.mono hX5.size); clear hX5; have hX5 := hX9; clear hX9 hA; obtain ⟨p_0, p_1, p_2, p_3, p_4, q_0, q_1⟩ := FC.out w5 hX5; have hsz5 := hX5.size; have hP5 : P1 < w5.heap.size := (by omega); have hG5 : G1 < w5.heap.size := (by omega); have hN5 : ¬ G1 = w5.heap.size := (by omega)) | (go_at_call 23; refine (slead_all HOK.out B (.slice a0 N c0) (.slice a4 m c4') g1 g2 g3 c1' c2' c3' m _ HM.out hm3 hm0 (RAC.out _ hX5).2.1.r1 (RAC.out _ hX5).2.1.r2 (RAC.out _ hX5).2.1.r3 l l (Nat.le_refl _) (by rw [HN.out]; omega) _ (Below.refl _ _)).mono ?_; rintro e w6 ⟨vs, rfl, hrs, hA⟩; have hX9 := hX5.trans (hA.mono hX5.size); clear hX5; have hX5 := hX9; clear hX9 hA; obtain ⟨p_0, p_1, p_2, p_3, p_4, q_0, q_1⟩ := FC.out w6 hX5; have hsz5 := hX5.size; have hP5 : P1 < w6.heap.size := (by omega); have hG5 : G1 < w6.heap.size := (by omega); have hN5 : ¬ G1 = w6.heap.size := (by omega); rw [HWL.out] at hrs; have HRS := hide hrs; clear hrs) | (go_at_call 22; refine (pequal_2 _ _ _ _ wl _ (by omega) (RAC.out _ hX5).2.2.1 HRS.out HWY.out).mono ?_; rintro e w7 ⟨rfl, hA⟩; have hX9 := hX5.trans (hA.mono hX5.size); clear hX5; have hX5 := hX9; clear hX9 hA; obtain ⟨p_0, p_1, p_2, p_3, p_4, q_0, q_1⟩ := FC.out w7 hX5; have hsz5 := hX5.size; have hP5 : P1 < w7.heap.size := (by omega); have hG5 : G1 < w7.heap.size := (by omega); have hN5 : ¬ G1 = w7.heap.size := (by omega)))
    all_goals first
     | omega
     | (go_ret
        exact ⟨by first | rfl | (simp; done) | (simp; omega), by
         have hB := HBS.out.trans (hX5.mono (by have := HBS.out.size; omega))
         first | exact hB | (rw [hS]; exact hB)⟩)
end Go.Proofs.Ytmmjopmffpfccaa
