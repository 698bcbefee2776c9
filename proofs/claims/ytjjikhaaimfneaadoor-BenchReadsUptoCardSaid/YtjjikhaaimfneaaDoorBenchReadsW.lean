/-
  THE WALK of BenchReads.
-/
import Derived.Test.YtjjikhaaimfneaaDoorBUParse
import Derived.Test.YtjjikhaaimfneaaDoorBEqR
namespace Go.Proofs.YtjjikhaaimfneaaDoor
open Go.RowKit
set_option linter.unusedSimpArgs false
set_option linter.unusedVariables false

/-- both print alike -/
def PrBoth (k0 k1 R Q J : Int) (x : List UInt8) (r : Int) : Prop :=
  (∀ w : World, GL w → Calls Tryd.prog 4 #[.agg #[.int .i64 k0, .int .i64 k1, .int .i64 R, .int .i64 Q, .int .i64 J]] w fun e w' => e = .returned (.tuple #[.string ⟨x.toArray⟩, .int .i64 r]) ∧ Below w.heap.size w w') ∧
  (∀ w : World, Calls Tryd.prog 5 #[.agg #[.int .i64 k0, .int .i64 k1, .int .i64 R, .int .i64 Q, .int .i64 J]] w fun e w' => e = .returned (.tuple #[.string ⟨x.toArray⟩, .int .i64 r]) ∧ Below w.heap.size w w')
theorem print_both (k0 k1 R Q J : Int) : ∃ x r, PrBoth k0 k1 R Q J x r := by
  by_cases h : ROk k0 k1 R Q J
  · exact ⟨_, 0, fun w hg => print_ok k0 k1 R Q J h w hg, fun w => uprint_ok k0 k1 R Q J h w⟩
  · obtain ⟨r, hw, h0⟩ := wrong_ex h
    exact ⟨[], r, fun w _ => print_bad k0 k1 R Q J r hw h0 w, fun w => uprint_bad k0 k1 R Q J r hw h0 w⟩
set_option maxRecDepth 100000 in
set_option maxHeartbeats 8000000 in
theorem benchReadsW (w : World) (k0 k1 R Q J : Int) (s : ByteArray) (hs : s.size ≤ 2000000) (hG : GL w) : Calls Tryd.prog 3 #[.agg #[.int .i64 k0, .int .i64 k1, .int .i64 R, .int .i64 Q, .int .i64 J], .string s] w fun e w' => e = .returned (.bool true) ∧ Below w.heap.size w w' := by
  obtain ⟨x, r, h1, h2⟩ := print_both k0 k1 R Q J
  have HP1 := hide h1; have HP2 := hide h2
  obtain ⟨x0, x1, x2, x3, x4, e0, hps⟩ := psays_ex s.data.toList
  have HPS := hide hps
  have HX := hide (parse_any s hs)
  have HG := hide hG
  obtain ⟨b0, b1, b2, b3, b4, _⟩ := psays_b hps
  have HE := hide (eqRules (wf_of b0) (wf_of b1) (wf_of b2) (wf_of b3) (wf_of b4))
  clear h1 h2 hps hs hG b0 b1 b2 b3 b4
  obtain ⟨S, hS⟩ : ∃ S, w.heap.size = S := ⟨_, rfl⟩
  go_enter Tryd.func3, Tryd.ntmps3
  go_upto_region 1 with fail
  obtain ⟨W, hW⟩ : ∃ W, W = w.alloc (.cells #[.int .i64 k0, .int .i64 k1, .int .i64 R, .int .i64 Q, .int .i64 J] 24) := ⟨_, rfl⟩
  rw [← hW]
  have R0 : Blk W S [.int .i64 k0, .int .i64 k1, .int .i64 R, .int .i64 Q, .int .i64 J] := by
    have := Blk.new w [.int .i64 k0, .int .i64 k1, .int .i64 R, .int .i64 Q, .int .i64 J] 24
    rw [hW]; simpa [hS] using this
  have BS : Below S w W := by rw [hW, ← hS]; exact (Below.refl _ _).alloc (Nat.le_refl _) _
  clear hW
  obtain ⟨r_0, r_1, r_2, r_3, r_4⟩ := R0.c5
  have H0 := hide R0; have HB := hide BS
  have HGW := hide (HG.out.below (by rw [hS]; exact BS))
  clear R0 BS
  go_wp2_with fail
  refine (HP1.out W HGW.out).mono ?_
  rintro e w1 ⟨rfl, hA⟩
  clear r_0 r_1 r_2 r_3 r_4
  have R0 := H0.out.below hA H0.out.lt
  have BS := HB.out.trans (hA.mono (Nat.le_of_lt H0.out.lt))
  obtain ⟨r_0, r_1, r_2, r_3, r_4⟩ := R0.c5
  have HG1 := hide (HGW.out.below hA)
  clear H0 HB hA HGW
  have H0 := hide R0; have HB := hide BS
  clear R0 BS
  go_wp2_with fail
  refine (HP2.out w1).mono ?_
  rintro e w2 ⟨rfl, hA⟩
  clear r_0 r_1 r_2 r_3 r_4
  have BS := HB.out.trans (hA.mono (Nat.le_of_lt H0.out.lt))
  have HG2 := hide (HG1.out.below hA)
  clear H0 HB hA HG1
  have HB := hide BS
  clear BS
  go_wp2_with fail
  refine (HX.out w2 HG2.out).mono ?_
  rintro e w3 ⟨⟨y0, y1, y2, y3, y4, e1, rfl, hps⟩, hA⟩
  obtain ⟨rfl, rfl, rfl, rfl, rfl, rfl⟩ := psays_one HPS.out hps
  have BS := HB.out.trans (hA.mono (by have := HB.out.size; omega))
  clear HB hA HG2 hps
  obtain ⟨V, hV⟩ : ∃ V, V = w3.alloc (.cells #[.int .i64 x0, .int .i64 x1, .int .i64 x2, .int .i64 x3, .int .i64 x4] 24) := ⟨_, rfl⟩
  obtain ⟨T, hT⟩ : ∃ T, w3.heap.size = T := ⟨_, rfl⟩
  have HV : Hid (Blk V T [.int .i64 x0, .int .i64 x1, .int .i64 x2, .int .i64 x3, .int .i64 x4]) := hide (by rw [hV, ← hT]; exact Blk.new w3 _ _)
  have HB := hide (show Below S w V from by rw [hV]; exact BS.alloc (by have := BS.size; omega) _)
  clear BS
  go_upto_region 4 with fail
  (try rw [hT])
  rw [← hV]
  clear hV hT
  go_wp2_with fail
  refine (uparse_any s V).mono ?_
  rintro e w4 ⟨⟨y0, y1, y2, y3, y4, e1, rfl, hps⟩, hA⟩
  obtain ⟨rfl, rfl, rfl, rfl, rfl, rfl⟩ := psays_one HPS.out hps
  have H1 := hide (HV.out.below hA HV.out.lt)
  have BS := HB.out.trans (hA.mono (by have := HB.out.size; omega))
  have hT1 : T < w4.heap.size := H1.out.lt
  clear HB hA HV hps
  obtain ⟨V2, hV⟩ : ∃ V, V = w4.alloc (.cells #[.int .i64 x0, .int .i64 x1, .int .i64 x2, .int .i64 x3, .int .i64 x4] 24) := ⟨_, rfl⟩
  obtain ⟨U, hU⟩ : ∃ T, w4.heap.size = T := ⟨_, rfl⟩
  have HV2 : Blk V2 U [.int .i64 x0, .int .i64 x1, .int .i64 x2, .int .i64 x3, .int .i64 x4] := by rw [hV, ← hU]; exact Blk.new w4 _ _
  have HV1 : Blk V2 T [.int .i64 x0, .int .i64 x1, .int .i64 x2, .int .i64 x3, .int .i64 x4] := by rw [hV]; exact H1.out.alloc _
  have HB := hide (show Below S w V2 from by rw [hV]; exact BS.alloc (by have := BS.size; omega) _)
  clear BS
  go_upto_region 5 with fail
  (try rw [hU])
  rw [← hV]
  clear hV hU H1
  obtain ⟨r_0, r_1, r_2, r_3, r_4⟩ := HV1.c5
  obtain ⟨t_0, t_1, t_2, t_3, t_4⟩ := HV2.c5
  clear HV1 HV2
  have hE := HE.out
  go_wp2
  go_ret
  exact ⟨by simp, by rw [hS]; exact HB.out⟩
end Go.Proofs.YtjjikhaaimfneaaDoor
