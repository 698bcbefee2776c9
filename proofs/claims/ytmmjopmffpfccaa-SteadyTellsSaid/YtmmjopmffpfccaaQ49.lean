/-
  Lemmas and walks for the statement: SteadyW1.
-/
import Derived.Test.YtmmjopmffpfccaaQ46
namespace Go.Proofs.Ytmmjopmffpfccaa
open Go.RowKit
set_option linter.unusedSimpArgs false
set_option linter.unusedVariables false
attribute [local go_sem] iteMin iteMax iteMinN iteMaxN
set_option maxRecDepth 100000 in
set_option maxHeartbeats 8000000 in
theorem steady_bad0 (k0 k1 R Q J n who ratio r g : Int) (w : World) (hr : r = 5 ∨ r = 2 ∨ r = 4) (hg : g = r) (c1 : 0 ≤ who) (c2 : who ≤ 1) (c3 : 1 ≤ ratio) (c4 : ratio ≤ 100)
 (h1 : ∀ w : World, Calls Try.prog 17 #[.agg #[.int .i64 k0, .int .i64 k1, .int .i64 R, .int .i64 Q, .int .i64 J]] w fun e w' => e = .returned (.tuple #[.agg #[.slice none 0 0, .slice none 0 0, .slice none 0 0, .slice none 0 0, .slice none 0 0], .int .i64 r]) ∧ Below w.heap.size w w')
 (h2 : ∀ w : World, Calls Try.prog 18 #[.agg #[.int .i64 k0, .int .i64 k1, .int .i64 R, .int .i64 Q, .int .i64 J]] w fun e w' => e = .returned (.tuple #[.slice none 0 0, .int .i64 r]) ∧ Below w.heap.size w w')
 (h3 : ∀ (n : Int) (w : World), Calls Try.prog 19 #[.agg #[.int .i64 k0, .int .i64 k1, .int .i64 R, .int .i64 Q, .int .i64 J], .int .i64 n] w fun e w' => e = .returned (.tuple #[.slice none 0 0, .int .i64 r]) ∧ Below w.heap.size w w')
 (h4 : ∀ (w : World), Calls Try.prog 20 #[.agg #[.int .i64 k0, .int .i64 k1, .int .i64 R, .int .i64 Q, .int .i64 J], .int .i64 who, .int .i64 ratio] w fun e w' => e = .returned (.tuple #[.agg #[.int .i64 0, .slice none 0 0], .int .i64 g]) ∧ Below w.heap.size w w') :
  Calls Try.prog 5 #[.agg #[.int .i64 k0, .int .i64 k1, .int .i64 R, .int .i64 Q, .int .i64 J], .int .i64 n, .int .i64 who, .int .i64 ratio] w fun e w' => e = .returned (.bool true) ∧ Below w.heap.size w w' := by
 have e1 : ((r : Int) != r) = false := by simp
 have e2 : ((r : Int) == r) = true := by simp
 have e3 : ((r : Int) != 0) = true := by simp; omega
 have e4 : ((g : Int) == r) = true := by subst hg; simp
 have H1 := hide h1; have H2 := hide h2; have H3 := hide h3; have H4 := hide h4
 clear h1 h2 h3 h4 hr
 obtain ⟨S, hS⟩ : ∃ S, w.heap.size = S := ⟨_, rfl⟩
 go_enter Try.func5, Try.ntmps5
 go_wp2_with fail
 obtain ⟨W, hW⟩ : ∃ W, W = w.alloc (.cells #[.int .i64 k0, .int .i64 k1, .int .i64 R, .int .i64 Q, .int .i64 J] 24) := ⟨_, rfl⟩
 rw [← hW]
 have BR : Blk W S [.int .i64 k0, .int .i64 k1, .int .i64 R, .int .i64 Q, .int .i64 J] := by
  have := Blk.new w [.int .i64 k0, .int .i64 k1, .int .i64 R, .int .i64 Q, .int .i64 J] 24
  rw [hW]; simpa [hS] using this
 have BS : Below S w W := by rw [hW, ← hS]; exact (Below.refl _ _).alloc (Nat.le_refl _) _
 clear hW
 refine (H1.out W).mono ?_
 rintro e w1 ⟨rfl, hA⟩
 have BS := BS.trans (hA.mono (Nat.le_of_lt BR.lt))
 have BR := BR.below hA BR.lt
 have hST := BR.lt
 obtain ⟨P1, hP1⟩ : ∃ P1, w1.heap.size = P1 := ⟨_, rfl⟩
 obtain ⟨X1, hX1⟩ : ∃ X1, X1 = w1.alloc (.cells #[.slice none 0 0, .slice none 0 0, .slice none 0 0, .slice none 0 0, .slice none 0 0] 49) := ⟨_, rfl⟩
 have BP : Blk X1 P1 [.slice none 0 0, .slice none 0 0, .slice none 0 0, .slice none 0 0, .slice none 0 0] := by
  have := Blk.new w1 [.slice none 0 0, .slice none 0 0, .slice none 0 0, .slice none 0 0, .slice none 0 0] 49
  rw [hX1]; simpa [hP1] using this
 have BR := BR.alloc (.cells #[.slice none 0 0, .slice none 0 0, .slice none 0 0, .slice none 0 0, .slice none 0 0] 49)
 have BS := BS.alloc (Nat.le_of_lt hST) (.cells #[.slice none 0 0, .slice none 0 0, .slice none 0 0, .slice none 0 0, .slice none 0 0] 49)
 rw [← hX1] at BR BS
 clear H1 hA
 rw [hP1] at hST
 go_upto_region 2 with fail
 rw [← hX1]
 clear hX1
 obtain ⟨r_0, r_f0⟩ := BR 0 _ rfl
 obtain ⟨r_1, r_f1⟩ := BR 1 _ rfl
 obtain ⟨r_2, r_f2⟩ := BR 2 _ rfl
 obtain ⟨r_3, r_f3⟩ := BR 3 _ rfl
 obtain ⟨r_4, r_f4⟩ := BR 4 _ rfl
 clear r_f0 r_f1 r_f2 r_f3 r_f4
 have HBR := hide BR; have HBS := hide BS; have HBP := hide BP
 clear BR BS BP
 go_wp2_with fail
 clear r_0 r_1 r_2 r_3 r_4
 refine (H2.out X1).mono ?_
 rintro e w2 ⟨rfl, hA⟩
 have BR := HBR.out.below hA HBR.out.lt
 have BP := HBP.out.below hA HBP.out.lt
 have BS := HBS.out.trans (hA.mono (by have := HBR.out.lt; omega))
 clear HBR HBP HBS hA H2
 obtain ⟨r_0, r_f0⟩ := BR 0 _ rfl
 obtain ⟨r_1, r_f1⟩ := BR 1 _ rfl
 obtain ⟨r_2, r_f2⟩ := BR 2 _ rfl
 obtain ⟨r_3, r_f3⟩ := BR 3 _ rfl
 obtain ⟨r_4, r_f4⟩ := BR 4 _ rfl
 clear r_f0 r_f1 r_f2 r_f3 r_f4
 have HBR := hide BR; have HBS := hide BS; have HBP := hide BP
 clear BR BS BP
 go_wp2_with fail
 clear r_0 r_1 r_2 r_3 r_4
 refine (H3.out n w2).mono ?_
 rintro e w3 ⟨rfl, hA⟩
 have BR := HBR.out.below hA HBR.out.lt
 have BP := HBP.out.below hA HBP.out.lt
 have BS := HBS.out.trans (hA.mono (by have := HBR.out.lt; omega))
 clear HBR HBP HBS hA H3
 obtain ⟨r_0, r_f0⟩ := BR 0 _ rfl
 obtain ⟨r_1, r_f1⟩ := BR 1 _ rfl
 obtain ⟨r_2, r_f2⟩ := BR 2 _ rfl
 obtain ⟨r_3, r_f3⟩ := BR 3 _ rfl
 obtain ⟨r_4, r_f4⟩ := BR 4 _ rfl
 clear r_f0 r_f1 r_f2 r_f3 r_f4
 have HBR := hide BR; have HBS := hide BS; have HBP := hide BP
 clear BR BS BP
 go_wp2_with fail
 clear r_0 r_1 r_2 r_3 r_4
 refine (H4.out w3).mono ?_
 rintro e w4 ⟨rfl, hA⟩
 have BP := HBP.out.below hA HBP.out.lt
 have BS := HBS.out.trans (hA.mono (by have := HBR.out.lt; omega))
 have hPl := BP.lt
 have hSl := HBR.out.lt
 have hSz := hA.size
 clear HBR HBP HBS hA H4
 obtain ⟨G1, hG1⟩ : ∃ G1, w4.heap.size = G1 := ⟨_, rfl⟩
 obtain ⟨X4, hX4⟩ : ∃ X4, X4 = w4.alloc (.cells #[.int .i64 0, .slice none 0 0] 58) := ⟨_, rfl⟩
 have BG : Blk X4 G1 [.int .i64 0, .slice none 0 0] := by
  have := Blk.new w4 [.int .i64 0, .slice none 0 0] 58
  rw [hX4]; simpa [hG1] using this
 have BP := BP.alloc (.cells #[.int .i64 0, .slice none 0 0] 58)
 have BS := BS.alloc (by omega) (.cells #[.int .i64 0, .slice none 0 0] 58)
 rw [← hX4] at BP BS
 go_upto_region 5 with fail
 rw [← hX4]
 clear hX4
 obtain ⟨p_0, p_f0⟩ := BP 0 _ rfl
 have HBS := hide BS; have HBG := hide BG
 clear BS BP BG
 go_wp2_with (go_at_call 21; refine (sequal_any 0 0 _ _ [] 0 _ rfl (by omega) ⟨rfl, .inl ⟨rfl, rfl⟩⟩ ⟨rfl, .inl ⟨rfl, rfl⟩⟩ (fun t ht => by cases ht)).mono ?_; rintro e w5 ⟨rfl, hA⟩; have BG := HBG.out.below hA HBG.out.lt; have BS := HBS.out.trans (hA.mono (by have := HBS.out.size; omega)); obtain ⟨g_0, g_f0⟩ := BG 0 _ rfl; obtain ⟨g_1, g_f1⟩ := BG 1 _ rfl; have HBS := hide BS; clear BS BG HBG hA)
 all_goals first
  | omega
  | (go_ret
     exact ⟨by first | rfl | (simp; done) | (simp; omega), by
      have hB := HBS.out
      first | exact hB | (rw [hS]; exact hB)⟩)
set_option maxRecDepth 100000 in
set_option maxHeartbeats 8000000 in
theorem steady_bad1 (k0 k1 R Q J n who ratio r g : Int) (w : World) (hr : r = 5 ∨ r = 2 ∨ r = 4) (hg : g = 2) (hc : badArgs who ratio)
 (h1 : ∀ w : World, Calls Try.prog 17 #[.agg #[.int .i64 k0, .int .i64 k1, .int .i64 R, .int .i64 Q, .int .i64 J]] w fun e w' => e = .returned (.tuple #[.agg #[.slice none 0 0, .slice none 0 0, .slice none 0 0, .slice none 0 0, .slice none 0 0], .int .i64 r]) ∧ Below w.heap.size w w')
 (h2 : ∀ w : World, Calls Try.prog 18 #[.agg #[.int .i64 k0, .int .i64 k1, .int .i64 R, .int .i64 Q, .int .i64 J]] w fun e w' => e = .returned (.tuple #[.slice none 0 0, .int .i64 r]) ∧ Below w.heap.size w w')
 (h3 : ∀ (n : Int) (w : World), Calls Try.prog 19 #[.agg #[.int .i64 k0, .int .i64 k1, .int .i64 R, .int .i64 Q, .int .i64 J], .int .i64 n] w fun e w' => e = .returned (.tuple #[.slice none 0 0, .int .i64 r]) ∧ Below w.heap.size w w')
 (h4 : ∀ (w : World), Calls Try.prog 20 #[.agg #[.int .i64 k0, .int .i64 k1, .int .i64 R, .int .i64 Q, .int .i64 J], .int .i64 who, .int .i64 ratio] w fun e w' => e = .returned (.tuple #[.agg #[.int .i64 0, .slice none 0 0], .int .i64 g]) ∧ Below w.heap.size w w') :
  Calls Try.prog 5 #[.agg #[.int .i64 k0, .int .i64 k1, .int .i64 R, .int .i64 Q, .int .i64 J], .int .i64 n, .int .i64 who, .int .i64 ratio] w fun e w' => e = .returned (.bool true) ∧ Below w.heap.size w w' := by
 rcases hc with c1 | ⟨c1, c2⟩ | ⟨c1, c2, c3⟩ | ⟨c1, c2, c3, c4⟩
 all_goals
  have e1 : ((r : Int) != r) = false := by simp
  have e2 : ((r : Int) == r) = true := by simp
  have e3 : ((r : Int) != 0) = true := by simp; omega
  have e4 : ((g : Int) == 2) = true := by subst hg; rfl
  have H1 := hide h1; have H2 := hide h2; have H3 := hide h3; have H4 := hide h4
  clear h1 h2 h3 h4 hr
  obtain ⟨S, hS⟩ : ∃ S, w.heap.size = S := ⟨_, rfl⟩
  go_enter Try.func5, Try.ntmps5
  go_wp2_with fail
  obtain ⟨W, hW⟩ : ∃ W, W = w.alloc (.cells #[.int .i64 k0, .int .i64 k1, .int .i64 R, .int .i64 Q, .int .i64 J] 24) := ⟨_, rfl⟩
  rw [← hW]
  have BR : Blk W S [.int .i64 k0, .int .i64 k1, .int .i64 R, .int .i64 Q, .int .i64 J] := by
   have := Blk.new w [.int .i64 k0, .int .i64 k1, .int .i64 R, .int .i64 Q, .int .i64 J] 24
   rw [hW]; simpa [hS] using this
  have BS : Below S w W := by rw [hW, ← hS]; exact (Below.refl _ _).alloc (Nat.le_refl _) _
  clear hW
  refine (H1.out W).mono ?_
  rintro e w1 ⟨rfl, hA⟩
  have BS := BS.trans (hA.mono (Nat.le_of_lt BR.lt))
  have BR := BR.below hA BR.lt
  have hST := BR.lt
  obtain ⟨P1, hP1⟩ : ∃ P1, w1.heap.size = P1 := ⟨_, rfl⟩
  obtain ⟨X1, hX1⟩ : ∃ X1, X1 = w1.alloc (.cells #[.slice none 0 0, .slice none 0 0, .slice none 0 0, .slice none 0 0, .slice none 0 0] 49) := ⟨_, rfl⟩
  have BP : Blk X1 P1 [.slice none 0 0, .slice none 0 0, .slice none 0 0, .slice none 0 0, .slice none 0 0] := by
   have := Blk.new w1 [.slice none 0 0, .slice none 0 0, .slice none 0 0, .slice none 0 0, .slice none 0 0] 49
   rw [hX1]; simpa [hP1] using this
  have BR := BR.alloc (.cells #[.slice none 0 0, .slice none 0 0, .slice none 0 0, .slice none 0 0, .slice none 0 0] 49)
  have BS := BS.alloc (Nat.le_of_lt hST) (.cells #[.slice none 0 0, .slice none 0 0, .slice none 0 0, .slice none 0 0, .slice none 0 0] 49)
  rw [← hX1] at BR BS
  clear H1 hA
  rw [hP1] at hST
  go_upto_region 2 with fail
  rw [← hX1]
  clear hX1
  obtain ⟨r_0, r_f0⟩ := BR 0 _ rfl
  obtain ⟨r_1, r_f1⟩ := BR 1 _ rfl
  obtain ⟨r_2, r_f2⟩ := BR 2 _ rfl
  obtain ⟨r_3, r_f3⟩ := BR 3 _ rfl
  obtain ⟨r_4, r_f4⟩ := BR 4 _ rfl
  clear r_f0 r_f1 r_f2 r_f3 r_f4
  have HBR := hide BR; have HBS := hide BS; have HBP := hide BP
  clear BR BS BP
  go_wp2_with fail
  clear r_0 r_1 r_2 r_3 r_4
  refine (H2.out X1).mono ?_
  rintro e w2 ⟨rfl, hA⟩
  have BR := HBR.out.below hA HBR.out.lt
  have BP := HBP.out.below hA HBP.out.lt
  have BS := HBS.out.trans (hA.mono (by have := HBR.out.lt; omega))
  clear HBR HBP HBS hA H2
  obtain ⟨r_0, r_f0⟩ := BR 0 _ rfl
  obtain ⟨r_1, r_f1⟩ := BR 1 _ rfl
  obtain ⟨r_2, r_f2⟩ := BR 2 _ rfl
  obtain ⟨r_3, r_f3⟩ := BR 3 _ rfl
  obtain ⟨r_4, r_f4⟩ := BR 4 _ rfl
  clear r_f0 r_f1 r_f2 r_f3 r_f4
  have HBR := hide BR; have HBS := hide BS; have HBP := hide BP
  clear BR BS BP
  go_wp2_with fail
  clear r_0 r_1 r_2 r_3 r_4
  refine (H3.out n w2).mono ?_
  rintro e w3 ⟨rfl, hA⟩
  have BR := HBR.out.below hA HBR.out.lt
  have BP := HBP.out.below hA HBP.out.lt
  have BS := HBS.out.trans (hA.mono (by have := HBR.out.lt; omega))
  clear HBR HBP HBS hA H3
  obtain ⟨r_0, r_f0⟩ := BR 0 _ rfl
  obtain ⟨r_1, r_f1⟩ := BR 1 _ rfl
  obtain ⟨r_2, r_f2⟩ := BR 2 _ rfl
  obtain ⟨r_3, r_f3⟩ := BR 3 _ rfl
  obtain ⟨r_4, r_f4⟩ := BR 4 _ rfl
  clear r_f0 r_f1 r_f2 r_f3 r_f4
  have HBR := hide BR; have HBS := hide BS; have HBP := hide BP
  clear BR BS BP
  go_wp2_with fail
  clear r_0 r_1 r_2 r_3 r_4
  refine (H4.out w3).mono ?_
  rintro e w4 ⟨rfl, hA⟩
  have BP := HBP.out.below hA HBP.out.lt
  have BS := HBS.out.trans (hA.mono (by have := HBR.out.lt; omega))
  have hPl := BP.lt
  have hSl := HBR.out.lt
  have hSz := hA.size
  clear HBR HBP HBS hA H4
  obtain ⟨G1, hG1⟩ : ∃ G1, w4.heap.size = G1 := ⟨_, rfl⟩
  obtain ⟨X4, hX4⟩ : ∃ X4, X4 = w4.alloc (.cells #[.int .i64 0, .slice none 0 0] 58) := ⟨_, rfl⟩
  have BG : Blk X4 G1 [.int .i64 0, .slice none 0 0] := by
   have := Blk.new w4 [.int .i64 0, .slice none 0 0] 58
   rw [hX4]; simpa [hG1] using this
  have BP := BP.alloc (.cells #[.int .i64 0, .slice none 0 0] 58)
  have BS := BS.alloc (by omega) (.cells #[.int .i64 0, .slice none 0 0] 58)
  rw [← hX4] at BP BS
  go_upto_region 5 with fail
  rw [← hX4]
  clear hX4
  obtain ⟨p_0, p_f0⟩ := BP 0 _ rfl
  have HBS := hide BS; have HBG := hide BG
  clear BS BP BG
  go_wp2_with (go_at_call 21; refine (sequal_any 0 0 _ _ [] 0 _ rfl (by omega) ⟨rfl, .inl ⟨rfl, rfl⟩⟩ ⟨rfl, .inl ⟨rfl, rfl⟩⟩ (fun t ht => by cases ht)).mono ?_; rintro e w5 ⟨rfl, hA⟩; have BG := HBG.out.below hA HBG.out.lt; have BS := HBS.out.trans (hA.mono (by have := HBS.out.size; omega)); obtain ⟨g_0, g_f0⟩ := BG 0 _ rfl; obtain ⟨g_1, g_f1⟩ := BG 1 _ rfl; have HBS := hide BS; clear BS BG HBG hA)
  all_goals first
   | omega
   | (go_ret
      exact ⟨by first | rfl | (simp; done) | (simp; omega), by
       have hB := HBS.out
       first | exact hB | (rw [hS]; exact hB)⟩)
end Go.Proofs.Ytmmjopmffpfccaa
