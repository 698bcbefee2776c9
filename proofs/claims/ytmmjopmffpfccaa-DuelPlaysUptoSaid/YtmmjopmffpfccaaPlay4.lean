/-
  THE WALK of DuelPlays.
-/
import Derived.Test.YtmmjopmffpfccaaPlay3
import Derived.Test.YtmmjopmffpfccaaPlay1
import Derived.Test.YtmmjopmffpfccaaREqual
import Derived.Test.YtmmjopmffpfccaaEqS
namespace Go.Proofs.Ytmmjopmffpfccaa
open Go.RowKit
set_option linter.unusedSimpArgs false
set_option linter.unusedVariables false

attribute [local go_sem] iteMin iteMax iteMinN iteMaxN

section
variable (k0 k1 R Q J : Int) (es : List P2)
theorem first_bad (n : Nat) : (∀ j, j < n → stE k0 k1 R Q J es j = 0) ∨ ∃ m, m < n ∧ (∀ j, j < m → stE k0 k1 R Q J es j = 0) ∧ stE k0 k1 R Q J es m ≠ 0 := by
  induction n with
  | zero => exact .inl fun j hj => absurd hj (by omega)
  | succ n ih =>
    rcases ih with h | ⟨m, hm, h1, h2⟩
    · by_cases h0 : stE k0 k1 R Q J es n = 0
      · exact .inl fun j hj => by
          rcases (show j < n ∨ j = n by omega) with h' | rfl
          · exact h j h'
          · exact h0
      · exact .inr ⟨n, by omega, h, h0⟩
    · exact .inr ⟨m, by omega, h1, h2⟩
theorem playSays_ex (n : Nat) : ∃ L ss r, PlaySays k0 k1 R Q J es n L ss r := by
  rcases first_bad k0 k1 R Q J es n with h | ⟨m, hm, h1, h2⟩
  · exact ⟨_, _, _, .inl ⟨h, rfl, rfl, rfl⟩⟩
  · exact ⟨_, _, _, .inr ⟨m, hm, h1, h2, rfl, rfl, rfl⟩⟩
end
/-- rounds, a state, an error: these -/
def Plays2 (L : List R6) (ss : List Int) (r : Int) (e : Ending) (w : World) : Prop := ∃ a c, e = .returned (.tuple #[.slice a L.length c, .agg (ss.map (Value.int .i64)).toArray, .int .i64 r]) ∧ RoundsAt w a L.length c L
theorem plays_both (k0 k1 R Q J : Int) (a : Option Addr) (n c : Nat) (es : List P2) (hn : n ≤ 1048576) : ∃ L ss r, (∀ q ∈ L, Small6 q) ∧ ss.length = 14 ∧ (∀ z ∈ ss, Sml z) ∧
    (∀ w : World, PairsAt w a n c es → Calls Try.prog 14 #[.agg #[.int .i64 k0, .int .i64 k1, .int .i64 R, .int .i64 Q, .int .i64 J], .slice a n c] w fun e w' => Plays2 L ss r e w' ∧ Below w.heap.size w w') ∧
    (∀ w : World, PairsAt w a n c es → Calls Try.prog 15 #[.agg #[.int .i64 k0, .int .i64 k1, .int .i64 R, .int .i64 Q, .int .i64 J], .slice a n c] w fun e w' => Plays2 L ss r e w' ∧ Below w.heap.size w w') := by
  by_cases hok : kindsOk k0 k1 ∧ rangeOk R Q J
  case neg =>
    obtain ⟨r, hw, h0⟩ : ∃ r, WrongSays k0 k1 R Q J r ∧ r ≠ 0 := by
      by_cases hk : kindsOk k0 k1
      · exact ⟨2, .inr (.inl ⟨hk, fun h => hok ⟨hk, h⟩, rfl⟩), by omega⟩
      · exact ⟨5, .inl ⟨hk, rfl⟩, by omega⟩
    exact ⟨[], List.replicate 14 0, r, fun q hq => absurd hq List.not_mem_nil, rfl, zero_sml _, fun w hI => (play_wrong k0 k1 R Q J r a n c w hw h0).mono fun e w' h => ⟨⟨none, 0, h.1, RoundsAt.nil_ _⟩, h.2⟩, fun w hI => (pplay_wrong k0 k1 R Q J r a n c w hw h0).mono fun e w' h => ⟨⟨none, 0, h.1, RoundsAt.nil_ _⟩, h.2⟩⟩
  obtain ⟨hk, hr⟩ := hok
  obtain ⟨L, ss, r, hs⟩ := playSays_ex k0 k1 R Q J es n
  obtain ⟨h1, h2, h3⟩ := playSays_sml k0 k1 R Q J es hk hs
  have key : ∀ e w, Played k0 k1 R Q J es n e w → Plays2 L ss r e w := fun e w h => by
    obtain ⟨L', ss', r', a', c', h', he, hR⟩ := h
    obtain ⟨rfl, rfl, rfl⟩ := playSays_one k0 k1 R Q J es hs h'
    exact ⟨a', c', he, hR⟩
  exact ⟨L, ss, r, h1, h2, h3, fun w hI => (play_run k0 k1 R Q J a n c es w hI hn hk hr).mono fun e w' h => ⟨key e w' h.1, h.2⟩, fun w hI => (pplay_run k0 k1 R Q J a n c es w hI hn hk hr).mono fun e w' h => ⟨key e w' h.1, h.2⟩⟩

set_option maxRecDepth 100000 in
set_option maxHeartbeats 4000000 in
theorem duelPlaysW (k0 k1 R Q J : Int) (a : Option Addr) (n c : Nat) (es : List P2) (w : World) (hI : PairsAt w a n c es) (hn : n ≤ 1048576) :
    Calls Try.prog 4 #[.agg #[.int .i64 k0, .int .i64 k1, .int .i64 R, .int .i64 Q, .int .i64 J], .slice a n c] w fun e w' => e = .returned (.bool true) ∧ Below w.heap.size w w' := by
  obtain ⟨L, ss, r, hL, h14, hss, c1, c2⟩ := plays_both k0 k1 R Q J a n c es hn
  obtain ⟨s0, s1, s2, s3, s4, s5, s6, s7, s8, s9, s10, s11, s12, s13, rfl⟩ := len14 h14
  have H1 : ∀ w : World, PairsAt w a n c es → Calls Try.prog 14 #[.agg #[.int .i64 k0, .int .i64 k1, .int .i64 R, .int .i64 Q, .int .i64 J], .slice a n c] w fun e w' => (∃ a' c', e = .returned (.tuple #[.slice a' L.length c', .agg #[.int .i64 s0, .int .i64 s1, .int .i64 s2, .int .i64 s3, .int .i64 s4, .int .i64 s5, .int .i64 s6, .int .i64 s7, .int .i64 s8, .int .i64 s9, .int .i64 s10, .int .i64 s11, .int .i64 s12, .int .i64 s13], .int .i64 r]) ∧ RoundsAt w' a' L.length c' L) ∧ Below w.heap.size w w' := c1
  have H2 : ∀ w : World, PairsAt w a n c es → Calls Try.prog 15 #[.agg #[.int .i64 k0, .int .i64 k1, .int .i64 R, .int .i64 Q, .int .i64 J], .slice a n c] w fun e w' => (∃ a' c', e = .returned (.tuple #[.slice a' L.length c', .agg #[.int .i64 s0, .int .i64 s1, .int .i64 s2, .int .i64 s3, .int .i64 s4, .int .i64 s5, .int .i64 s6, .int .i64 s7, .int .i64 s8, .int .i64 s9, .int .i64 s10, .int .i64 s11, .int .i64 s12, .int .i64 s13], .int .i64 r]) ∧ RoundsAt w' a' L.length c' L) ∧ Below w.heap.size w w' := c2
  have H1 := hide H1
  have H2 := hide H2
  have HI := hide hI
  have HW := hide (show ∀ q ∈ L, (Lit.int .i64 q.x0).wf = true ∧ (Lit.int .i64 q.x1).wf = true ∧ (Lit.int .i64 q.x2).wf = true ∧ (Lit.int .i64 q.x3).wf = true ∧ (Lit.int .i64 q.x4).wf = true ∧ (Lit.int .i64 q.x5).wf = true from fun q hq => by
    obtain ⟨h0, h1, h2, h3, h4, h5⟩ := hL q hq
    exact ⟨sm_wf h0, sm_wf h1, sm_wf h2, sm_wf h3, sm_wf h4, sm_wf h5⟩)
  have E1 := eqState (sm_wf (hss s0 (by simp))) (sm_wf (hss s1 (by simp))) (sm_wf (hss s2 (by simp))) (sm_wf (hss s3 (by simp))) (sm_wf (hss s4 (by simp))) (sm_wf (hss s5 (by simp))) (sm_wf (hss s6 (by simp))) (sm_wf (hss s7 (by simp))) (sm_wf (hss s8 (by simp))) (sm_wf (hss s9 (by simp))) (sm_wf (hss s10 (by simp))) (sm_wf (hss s11 (by simp))) (sm_wf (hss s12 (by simp))) (sm_wf (hss s13 (by simp)))
  have HE := hide E1
  clear c1 c2 hI hL hss E1
  obtain ⟨S, hS⟩ : ∃ S, w.heap.size = S := ⟨_, rfl⟩
  go_enter Try.func4, Try.ntmps4
  go_wp2_with fail
  obtain ⟨W, hW⟩ : ∃ W, W = w.alloc (.cells #[.int .i64 k0, .int .i64 k1, .int .i64 R, .int .i64 Q, .int .i64 J] 24) := ⟨_, rfl⟩
  rw [← hW]
  have BR : Blk W S [.int .i64 k0, .int .i64 k1, .int .i64 R, .int .i64 Q, .int .i64 J] := by
    have := Blk.new w [.int .i64 k0, .int .i64 k1, .int .i64 R, .int .i64 Q, .int .i64 J] 24
    rw [hW]; simpa [hS] using this
  have BS : Below S w W := by rw [hW, ← hS]; exact (Below.refl _ _).alloc (Nat.le_refl _) _
  clear hW
  have BI := HI.out.below (by rw [hS]; exact BS)
  refine (H1.out W BI).mono ?_
  rintro e w1 ⟨⟨a1, c1, rfl, R1⟩, hA⟩
  have BS := BS.trans (hA.mono (Nat.le_of_lt BR.lt))
  have BR := BR.below hA BR.lt
  obtain ⟨T, hT⟩ : ∃ T, w1.heap.size = T := ⟨_, rfl⟩
  obtain ⟨X1, hX1⟩ : ∃ X, X = w1.alloc (.cells #[.int .i64 s0, .int .i64 s1, .int .i64 s2, .int .i64 s3, .int .i64 s4, .int .i64 s5, .int .i64 s6, .int .i64 s7, .int .i64 s8, .int .i64 s9, .int .i64 s10, .int .i64 s11, .int .i64 s12, .int .i64 s13] 29) := ⟨_, rfl⟩
  have R1 := R1.below ((Below.refl w1.heap.size w1).alloc (Nat.le_refl _) (.cells #[.int .i64 s0, .int .i64 s1, .int .i64 s2, .int .i64 s3, .int .i64 s4, .int .i64 s5, .int .i64 s6, .int .i64 s7, .int .i64 s8, .int .i64 s9, .int .i64 s10, .int .i64 s11, .int .i64 s12, .int .i64 s13] 29))
  have BS := BS.alloc (Nat.le_of_lt BR.lt) (.cells #[.int .i64 s0, .int .i64 s1, .int .i64 s2, .int .i64 s3, .int .i64 s4, .int .i64 s5, .int .i64 s6, .int .i64 s7, .int .i64 s8, .int .i64 s9, .int .i64 s10, .int .i64 s11, .int .i64 s12, .int .i64 s13] 29)
  have hST := BR.lt
  have BR := BR.alloc (.cells #[.int .i64 s0, .int .i64 s1, .int .i64 s2, .int .i64 s3, .int .i64 s4, .int .i64 s5, .int .i64 s6, .int .i64 s7, .int .i64 s8, .int .i64 s9, .int .i64 s10, .int .i64 s11, .int .i64 s12, .int .i64 s13] 29)
  have BT := Blk.new w1 [.int .i64 s0, .int .i64 s1, .int .i64 s2, .int .i64 s3, .int .i64 s4, .int .i64 s5, .int .i64 s6, .int .i64 s7, .int .i64 s8, .int .i64 s9, .int .i64 s10, .int .i64 s11, .int .i64 s12, .int .i64 s13] 29
  rw [← hX1] at R1 BS BR BT
  rw [hT] at BT hST
  have HX1 := hide hX1
  clear hX1 hA BI H1
  have HBR := hide BR; have HBS := hide BS; have HBT := hide BT; have HR1 := hide R1
  clear BR BS BT R1
  go_upto_region 2 with fail
  rw [← HX1.out]
  clear HX1
  have r_0 := (HBR.out 0 _ rfl).1
  have r_1 := (HBR.out 1 _ rfl).1
  have r_2 := (HBR.out 2 _ rfl).1
  have r_3 := (HBR.out 3 _ rfl).1
  have r_4 := (HBR.out 4 _ rfl).1
  go_wp2_with fail
  clear r_0 r_1 r_2 r_3 r_4
  have BI := HI.out.below (by rw [hS]; exact HBS.out)
  refine (H2.out X1 BI).mono ?_
  rintro e w2 ⟨⟨a2, c2, rfl, R2⟩, hA⟩
  clear BI H2 HI
  have BT := HBT.out.below hA HBT.out.lt
  have R1 := HR1.out.below hA
  have BS := HBS.out.trans (hA.mono (Nat.le_of_lt (by have := HBR.out.lt; omega)))
  clear HBR HBS HBT HR1
  obtain ⟨U, hU⟩ : ∃ U, w2.heap.size = U := ⟨_, rfl⟩
  have hTU := BT.lt
  rw [hU] at hTU
  obtain ⟨X2, hX2⟩ : ∃ X, X = w2.alloc (.cells #[.int .i64 s0, .int .i64 s1, .int .i64 s2, .int .i64 s3, .int .i64 s4, .int .i64 s5, .int .i64 s6, .int .i64 s7, .int .i64 s8, .int .i64 s9, .int .i64 s10, .int .i64 s11, .int .i64 s12, .int .i64 s13] 29) := ⟨_, rfl⟩
  have hb := (Below.refl w2.heap.size w2).alloc (Nat.le_refl _) (.cells #[.int .i64 s0, .int .i64 s1, .int .i64 s2, .int .i64 s3, .int .i64 s4, .int .i64 s5, .int .i64 s6, .int .i64 s7, .int .i64 s8, .int .i64 s9, .int .i64 s10, .int .i64 s11, .int .i64 s12, .int .i64 s13] 29)
  have R1 := R1.below hb
  have R2 := R2.below hb
  have BS := BS.alloc (by omega) (.cells #[.int .i64 s0, .int .i64 s1, .int .i64 s2, .int .i64 s3, .int .i64 s4, .int .i64 s5, .int .i64 s6, .int .i64 s7, .int .i64 s8, .int .i64 s9, .int .i64 s10, .int .i64 s11, .int .i64 s12, .int .i64 s13] 29)
  have BT := BT.alloc (.cells #[.int .i64 s0, .int .i64 s1, .int .i64 s2, .int .i64 s3, .int .i64 s4, .int .i64 s5, .int .i64 s6, .int .i64 s7, .int .i64 s8, .int .i64 s9, .int .i64 s10, .int .i64 s11, .int .i64 s12, .int .i64 s13] 29)
  have BU := Blk.new w2 [.int .i64 s0, .int .i64 s1, .int .i64 s2, .int .i64 s3, .int .i64 s4, .int .i64 s5, .int .i64 s6, .int .i64 s7, .int .i64 s8, .int .i64 s9, .int .i64 s10, .int .i64 s11, .int .i64 s12, .int .i64 s13] 29
  rw [← hX2] at R1 R2 BS BT BU
  rw [hU] at BU
  have HX2 := hide hX2
  clear hX2 hA hb
  have HBS := hide BS; have HBT := hide BT; have HBU := hide BU; have HR1 := hide R1; have HR2 := hide R2
  clear BS BT BU R1 R2
  go_upto_region 3 with fail
  rw [← HX2.out]
  clear HX2
  have t_0 := (HBT.out 0 _ rfl).1
  have t_1 := (HBT.out 1 _ rfl).1
  have t_2 := (HBT.out 2 _ rfl).1
  have t_3 := (HBT.out 3 _ rfl).1
  have t_4 := (HBT.out 4 _ rfl).1
  have t_5 := (HBT.out 5 _ rfl).1
  have t_6 := (HBT.out 6 _ rfl).1
  have t_7 := (HBT.out 7 _ rfl).1
  have t_8 := (HBT.out 8 _ rfl).1
  have t_9 := (HBT.out 9 _ rfl).1
  have t_10 := (HBT.out 10 _ rfl).1
  have t_11 := (HBT.out 11 _ rfl).1
  have t_12 := (HBT.out 12 _ rfl).1
  have t_13 := (HBT.out 13 _ rfl).1
  have u_0 := (HBU.out 0 _ rfl).1
  have u_1 := (HBU.out 1 _ rfl).1
  have u_2 := (HBU.out 2 _ rfl).1
  have u_3 := (HBU.out 3 _ rfl).1
  have u_4 := (HBU.out 4 _ rfl).1
  have u_5 := (HBU.out 5 _ rfl).1
  have u_6 := (HBU.out 6 _ rfl).1
  have u_7 := (HBU.out 7 _ rfl).1
  have u_8 := (HBU.out 8 _ rfl).1
  have u_9 := (HBU.out 9 _ rfl).1
  have u_10 := (HBU.out 10 _ rfl).1
  have u_11 := (HBU.out 11 _ rfl).1
  have u_12 := (HBU.out 12 _ rfl).1
  have u_13 := (HBU.out 13 _ rfl).1
  have E1 := HE.out
  go_wp2_with (go_at_call 16; refine (requal_any _ _ _ _ _ L _ HR1.out HR2.out HW.out).mono ?_; rintro e w3 ⟨rfl, hB3⟩)
  go_ret
  exact ⟨by first | rfl | simp, by
    have hB := HBS.out.trans (hB3.mono (by have := HBS.out.size; omega))
    first | exact hB | (rw [hS]; exact hB)⟩

end Go.Proofs.Ytmmjopmffpfccaa
