/-
  Lemmas and walks for the statement: TopShapedW.
-/
import Derived.Test.YtjjikhaaimfneaaGreatDoorU49
import Derived.Test.YtjjikhaaimfneaaGreatDoorU42
namespace Go.Proofs.YtjjikhaaimfneaaGreatDoor
open Go.RowKit
set_option linter.unusedSimpArgs false
set_option linter.unusedVariables false
attribute [local go_sem] iteMin iteMax iteMinN iteMaxN
set_option maxRecDepth 100000 in
set_option maxHeartbeats 16000000 in
theorem topShapedW (w : World) (R B r m : Int) (a : Option Addr) (n c : Nat) (xs : List Int) (h : IntsAt w a n c xs) (_ : n ≤ 17592186044416) (hG : GL w) :
 Calls Tryz.prog 3 #[.agg #[.int .i64 R, .int .i64 B], .int .i64 r, .int .i64 m, .slice a n c] w fun e w' => e = .returned (.bool true) ∧ Below w.heap.size w w' := by
 have HX := hide h
 have HG := hide hG
 clear h hG
 obtain ⟨S, hS⟩ : ∃ S, w.heap.size = S := ⟨_, rfl⟩
 go_enter Tryz.func3, Tryz.ntmps3
 go_upto_region 1 with fail
 obtain ⟨W, hW⟩ : ∃ W, W = w.alloc (.cells #[.int .i64 R, .int .i64 B] 23) := ⟨_, rfl⟩
 rw [← hW]
 have R0 : Blk W S [.int .i64 R, .int .i64 B] := by
  have := Blk.new w [.int .i64 R, .int .i64 B] 23
  rw [hW]; simpa [hS] using this
 have BS : Below S w W := by rw [hW, ← hS]; exact (Below.refl _ _).alloc (Nat.le_refl _) _
 clear hW
 have H0 := hide R0; have HBW := hide BS
 have HGW := hide (HG.out.below (by rw [hS]; exact BS))
 have HXW := hide (HX.out.below (by rw [hS]; exact BS))
 clear R0 BS HX
 by_cases hr : RightB R B xs
 case neg =>
  go_wp2_with (first
  | (go_at_call 7; refine (alive_any W HGW.out).mono ?_; rintro e w1 ⟨rfl, hb⟩; have HB1 := hide (HBW.out.trans (hb.mono (Nat.le_of_lt H0.out.lt))); have H1 := hide (H0.out.below hb H0.out.lt); have HX1 := hide (HXW.out.below hb); obtain ⟨r_0, r_1⟩ := H1.out.c2; clear hb)
  | (go_at_call 8; refine (bPass_bad R B a n c xs w1 HX1.out hr).mono ?_; rintro e w2 ⟨rfl, hb⟩; have H2 := hide (H1.out.below hb H1.out.lt); have HB2 := hide (HB1.out.trans (hb.mono (by have := HB1.out.size; omega))); have HX2 := hide (HX1.out.below hb); clear r_0 r_1; obtain ⟨t_0, t_1⟩ := H2.out.c2; clear hb)
  | (go_at_call 9; refine (callF (bRight_any R B a n c xs w2 HX2.out) hr).mono ?_; rintro e w3 ⟨rfl, hb⟩; have H3 := hide (H2.out.below hb H2.out.lt); have HB3 := hide (HB2.out.trans (hb.mono (by have := HB2.out.size; omega))); have HX3 := hide (HX2.out.below hb); obtain ⟨u_0, u_1⟩ := H3.out.c2; clear hb)
  )
  go_ret
  exact ⟨by first | rfl | simp, by first | exact HB3.out | (rw [hS]; exact HB3.out)⟩
 have HR := hide hr
 by_cases hq : RightB r m xs
 case neg =>
  clear hr
  go_wp2_with (first
  | (go_at_call 7; refine (alive_any W HGW.out).mono ?_; rintro e w1 ⟨rfl, hb⟩; have HB1 := hide (HBW.out.trans (hb.mono (Nat.le_of_lt H0.out.lt))); have H1 := hide (H0.out.below hb H0.out.lt); have HX1 := hide (HXW.out.below hb); obtain ⟨r_0, r_1⟩ := H1.out.c2; clear hb)
  | (go_at_call 8; refine (bPass_ok R B a n c xs w1 HX1.out HR.out).mono ?_; rintro e w2 ⟨oa, on, oc, rfl, hi, hb⟩; have H2 := hide (H1.out.below hb H1.out.lt); have HB2 := hide (HB1.out.trans (hb.mono (by have := HB1.out.size; omega))); have HX2 := hide (HX1.out.below hb); have HI2 := hide hi; clear r_0 r_1 hi; obtain ⟨t_0, t_1⟩ := H2.out.c2; clear hb)
  | (go_at_call 9; refine (callT (bRight_any R B a n c xs w2 HX2.out) HR.out).mono ?_; rintro e w3 ⟨rfl, hb⟩; have H3 := hide (H2.out.below hb H2.out.lt); have HB3 := hide (HB2.out.trans (hb.mono (by have := HB2.out.size; omega))); have HX3 := hide (HX2.out.below hb); obtain ⟨u_0, u_1⟩ := H3.out.c2; have HI3 := hide (HI2.out.below hb); clear hb)
  | (go_at_call 10; refine (callF (right_ok r m a n c xs w3 HX3.out) hq).mono ?_; rintro e w4 ⟨rfl, hb⟩; have H4 := hide (H3.out.below hb H3.out.lt); have HB4 := hide (HB3.out.trans (hb.mono (by have := HB3.out.size; omega))); have HX4 := hide (HX3.out.below hb); have HI4 := hide (HI3.out.below hb); clear t_0 t_1 u_0 u_1; obtain ⟨v_0, v_1⟩ := H4.out.c2; clear hb))
  go_ret
  exact ⟨by first | rfl | simp, by first | exact HB4.out | (rw [hS]; exact HB4.out)⟩
 have HQ := hide hq
 clear hr hq
 by_cases h1 : r < R
 · go_wp2_with (first
   | (go_at_call 7; refine (alive_any W HGW.out).mono ?_; rintro e w1 ⟨rfl, hb⟩; have HB1 := hide (HBW.out.trans (hb.mono (Nat.le_of_lt H0.out.lt))); have H1 := hide (H0.out.below hb H0.out.lt); have HX1 := hide (HXW.out.below hb); obtain ⟨r_0, r_1⟩ := H1.out.c2; clear hb)
   | (go_at_call 8; refine (bPass_ok R B a n c xs w1 HX1.out HR.out).mono ?_; rintro e w2 ⟨oa, on, oc, rfl, hi, hb⟩; have H2 := hide (H1.out.below hb H1.out.lt); have HB2 := hide (HB1.out.trans (hb.mono (by have := HB1.out.size; omega))); have HX2 := hide (HX1.out.below hb); have HI2 := hide hi; clear r_0 r_1 hi; obtain ⟨t_0, t_1⟩ := H2.out.c2; clear hb)
   | (go_at_call 9; refine (callT (bRight_any R B a n c xs w2 HX2.out) HR.out).mono ?_; rintro e w3 ⟨rfl, hb⟩; have H3 := hide (H2.out.below hb H2.out.lt); have HB3 := hide (HB2.out.trans (hb.mono (by have := HB2.out.size; omega))); have HX3 := hide (HX2.out.below hb); obtain ⟨u_0, u_1⟩ := H3.out.c2; have HI3 := hide (HI2.out.below hb); clear hb)
   | (go_at_call 10; refine (callT (right_ok r m a n c xs w3 HX3.out) HQ.out).mono ?_; rintro e w4 ⟨rfl, hb⟩; have H4 := hide (H3.out.below hb H3.out.lt); have HB4 := hide (HB3.out.trans (hb.mono (by have := HB3.out.size; omega))); have HX4 := hide (HX3.out.below hb); have HI4 := hide (HI3.out.below hb); clear t_0 t_1 u_0 u_1; obtain ⟨v_0, v_1⟩ := H4.out.c2; clear hb))
   go_ret
   exact ⟨by first | rfl | simp, by first | exact HB4.out | (rw [hS]; exact HB4.out)⟩
 by_cases h2 : m < B
 · go_wp2_with (first
   | (go_at_call 7; refine (alive_any W HGW.out).mono ?_; rintro e w1 ⟨rfl, hb⟩; have HB1 := hide (HBW.out.trans (hb.mono (Nat.le_of_lt H0.out.lt))); have H1 := hide (H0.out.below hb H0.out.lt); have HX1 := hide (HXW.out.below hb); obtain ⟨r_0, r_1⟩ := H1.out.c2; clear hb)
   | (go_at_call 8; refine (bPass_ok R B a n c xs w1 HX1.out HR.out).mono ?_; rintro e w2 ⟨oa, on, oc, rfl, hi, hb⟩; have H2 := hide (H1.out.below hb H1.out.lt); have HB2 := hide (HB1.out.trans (hb.mono (by have := HB1.out.size; omega))); have HX2 := hide (HX1.out.below hb); have HI2 := hide hi; clear r_0 r_1 hi; obtain ⟨t_0, t_1⟩ := H2.out.c2; clear hb)
   | (go_at_call 9; refine (callT (bRight_any R B a n c xs w2 HX2.out) HR.out).mono ?_; rintro e w3 ⟨rfl, hb⟩; have H3 := hide (H2.out.below hb H2.out.lt); have HB3 := hide (HB2.out.trans (hb.mono (by have := HB2.out.size; omega))); have HX3 := hide (HX2.out.below hb); obtain ⟨u_0, u_1⟩ := H3.out.c2; have HI3 := hide (HI2.out.below hb); clear hb)
   | (go_at_call 10; refine (callT (right_ok r m a n c xs w3 HX3.out) HQ.out).mono ?_; rintro e w4 ⟨rfl, hb⟩; have H4 := hide (H3.out.below hb H3.out.lt); have HB4 := hide (HB3.out.trans (hb.mono (by have := HB3.out.size; omega))); have HX4 := hide (HX3.out.below hb); have HI4 := hide (HI3.out.below hb); clear t_0 t_1 u_0 u_1; obtain ⟨v_0, v_1⟩ := H4.out.c2; clear hb))
   go_ret
   exact ⟨by first | rfl | simp, by first | exact HB4.out | (rw [hS]; exact HB4.out)⟩
 have h1' : R ≤ r := by omega
 have h2' : B ≤ m := by omega
 go_upto_region 6 with (first
  | (go_at_call 7; refine (alive_any W HGW.out).mono ?_; rintro e w1 ⟨rfl, hb⟩; have HB1 := hide (HBW.out.trans (hb.mono (Nat.le_of_lt H0.out.lt))); have H1 := hide (H0.out.below hb H0.out.lt); have HX1 := hide (HXW.out.below hb); obtain ⟨r_0, r_1⟩ := H1.out.c2; clear hb)
  | (go_at_call 8; refine (bPass_ok R B a n c xs w1 HX1.out HR.out).mono ?_; rintro e w2 ⟨oa, on, oc, rfl, hi, hb⟩; have H2 := hide (H1.out.below hb H1.out.lt); have HB2 := hide (HB1.out.trans (hb.mono (by have := HB1.out.size; omega))); have HX2 := hide (HX1.out.below hb); have HI2 := hide hi; clear r_0 r_1 hi; obtain ⟨t_0, t_1⟩ := H2.out.c2; clear hb)
  | (go_at_call 9; refine (callT (bRight_any R B a n c xs w2 HX2.out) HR.out).mono ?_; rintro e w3 ⟨rfl, hb⟩; have H3 := hide (H2.out.below hb H2.out.lt); have HB3 := hide (HB2.out.trans (hb.mono (by have := HB2.out.size; omega))); have HX3 := hide (HX2.out.below hb); obtain ⟨u_0, u_1⟩ := H3.out.c2; have HI3 := hide (HI2.out.below hb); clear hb)
  | (go_at_call 10; refine (callT (right_ok r m a n c xs w3 HX3.out) HQ.out).mono ?_; rintro e w4 ⟨rfl, hb⟩; have H4 := hide (H3.out.below hb H3.out.lt); have HB4 := hide (HB3.out.trans (hb.mono (by have := HB3.out.size; omega))); have HX4 := hide (HX3.out.below hb); have HI4 := hide (HI3.out.below hb); clear t_0 t_1 u_0 u_1; obtain ⟨v_0, v_1⟩ := H4.out.c2; clear hb))
 have hq2 := passB_right HR.out HQ.out
 have on_n : on = n := by have := HI4.out.len; rw [passB_len, HX4.out.len] at this; exact this.symm
 subst on_n
 go_wp2_with (first | (go_at_call 11; refine (play_ok r m oa on oc _ w4 HI4.out hq2).mono ?_; rintro e w5 ⟨⟨ga, gn, gc, la, ln, lc, wa, wn, wc, rfl, i1, i2, i3⟩, hb⟩; have H5 := hide (H4.out.below hb H4.out.lt); have HB5 := hide (HB4.out.trans (hb.mono (by have := HB4.out.size; omega))); have HX5 := hide (HX4.out.below hb); have HI5 := hide (HI4.out.below hb); have hg1 := i1.len; rw [goL_len, passB_len, HX5.out.len] at hg1; have hg2 := i2.len; rw [loL_len, passB_len, HX5.out.len] at hg2; have hg3 := i3.len; rw [waL_len, passB_len, HX5.out.len] at hg3; subst hg1 hg2 hg3; have HG5 := hide i1; have HL5 := hide i2; have HW5 := hide i3; clear v_0 v_1 i1 i2 i3 hb) | fail)
 go_loopw [59] (fun i wr => ∃ k : Nat, k ≤ on ∧ i = .int .i64 k ∧ Below w5.heap.size w5 wr) (fun i _ => on - (intOf i).toNat)
 case atStart => exact ⟨0, Nat.zero_le _, rfl, Below.refl _ _⟩
 case round =>
  obtain ⟨k, hk, rfl, hB⟩ := hrel
  have k0 : (0 : Int) ≤ (k : Int) := Int.natCast_nonneg _
  by_cases hlt : k < on
  · have k1 : (k : Int) < (on : Int) := by omega
    have kn : k < xs.length := by rw [HX5.out.len]; exact hlt
    obtain ⟨ad1, rfl, hb1, c1⟩ := (HL5.out.below hB).at_ hlt
    obtain ⟨ad2, rfl, hb2, c2⟩ := (HW5.out.below hB).at_ hlt
    rw [← loL_get (by rw [passB_len]; exact kn), shape_lost HR.out h1' h2' kn] at c1
    rw [← waL_get (by rw [passB_len]; exact kn)] at c2
    have hw := shape_wait HR.out h1' h2' kn
    generalize qW r m (passB R B xs) (k + 1) = wv at c2 hw
    have hw' : decide (max (B - r) 0 < wv) = false := decide_eq_false (by omega)
    have H6 := hide (H5.out.below hB H5.out.lt)
    obtain ⟨u_0, u_1⟩ := H6.out.c2
    have hIR : -9223372036854775808 ≤ B - r ∧ B - r < 9223372036854775808 := by
     obtain ⟨⟨b1, b2⟩, _⟩ := HR.out; obtain ⟨⟨b3, b4⟩, _⟩ := HQ.out; omega
    clear hw kn
    go_wp2
    go_quiet (fail)
    go_wp2
    go_roundw
    case rel => exact ⟨k + 1, by omega, by go_num, Go.below_drewN hB _⟩
    case measure => simp [intOf]; omega
  · have H6 := hide (H5.out.below hB H5.out.lt)
    have HI6 := hide (HI5.out.below hB)
    have HB6 := hide (HB5.out.trans (hB.mono (by have := HB5.out.size; omega)))
    have hbl : xs.length = on := HX5.out.len
    have hM : RightB r 1099511627776 (passB R B xs) := ⟨hq2.1, ⟨by omega, by omega⟩, hq2.2.2⟩
    have hgl : (goL r 1099511627776 (passB R B xs)).length = on := by rw [goL_len, passB_len, hbl]
    have hlim : on + 2 ≤ 17592186044416 := by have := HR.out.2.2.1; omega
    have P : GivesP 11 r 1099511627776 (passB R B xs) (goL r 1099511627776 (passB R B xs)) (loL r 1099511627776 (passB R B xs)) (waL r 1099511627776 (passB R B xs)) := fun a' n' c' w' h _ => play_ok r 1099511627776 a' n' c' _ w' h hM
    have HP := hide P
    have HLM := hide hlim
    have HGL := hide hgl
    clear hlim P hgl hM hq2
    go_wp2_with (first | (go_at_call 12; refine (delays_any r oa on oc _ _ _ _ wr HI6.out HLM.out HP.out (Or.inl HGL.out)).mono ?_; rintro e w7 ⟨da, dn, dc, rfl, i7, hb⟩; have H7 := hide (H6.out.below hb H6.out.lt); have HB7 := hide (HB6.out.trans (hb.mono (by have := HB6.out.size; omega))); have hd1 := i7.len; rw [dlL_len, HGL.out] at hd1; subst hd1; have HD7 := hide i7; clear i7 hb) | fail)
    go_loopw [84] (fun i wr => ∃ k : Nat, k ≤ on ∧ i = .int .i64 k ∧ Below w7.heap.size w7 wr) (fun i _ => on - (intOf i).toNat)
    case atStart => exact ⟨0, Nat.zero_le _, rfl, Below.refl _ _⟩
    case round =>
     obtain ⟨k, hk, rfl, hB⟩ := hrel
     have k0 : (0 : Int) ≤ (k : Int) := Int.natCast_nonneg _
     by_cases hlt : k < on
     · have k1 : (k : Int) < (on : Int) := by omega
       have kn : k < xs.length := by rw [hbl]; exact hlt
       obtain ⟨ad1, rfl, hb1, c1⟩ := (HD7.out.below hB).at_ hlt
       rw [HGL.out, ← dlL_get hlt, ← hbl] at c1
       have hd := fun h0 : 0 < r => shape_delay (m := 1099511627776) HR.out h1' (by have := HR.out.2.1; omega) h0 kn
       generalize dlQ _ _ _ _ = dv at c1 hd
       have H8 := hide (H7.out.below hB H7.out.lt)
       obtain ⟨u_0, u_1⟩ := H8.out.c2
       have hIR : 0 ≤ B ∧ B + r < 9223372036854775808 := by
        obtain ⟨⟨b1, b2⟩, ⟨b5, b6⟩, _⟩ := HR.out; obtain ⟨⟨b3, b4⟩, _⟩ := HQ.out; omega
       by_cases hr0 : 0 < r
       · have hd' := hd hr0
         have hw' : decide ((B + r - 1) / r < dv) = false := decide_eq_false (Int.not_lt.2 hd')
         have hrn : (r == 0) = false := by simp; omega
         clear hd hd' kn
         go_wp2
         refine ⟨⟨k + 1, by omega, by go_num, hB⟩, ?_⟩
         simp only [intOf]; omega
       · have hrf : decide (0 < r) = false := decide_eq_false hr0
         clear hd kn
         go_wp2
         go_roundw
         case rel => exact ⟨k + 1, by omega, by go_num, hB⟩
         case measure => simp [intOf]; omega
     · go_wp2
       go_ret
       exact ⟨by first | rfl | simp, by rw [hS]; exact HB7.out.trans (hB.mono (by have := HB7.out.size; omega))⟩
theorem topShapedJ (w : World) (R B r m : Int) (a : Option Addr) (n c : Nat) (xs : List Int) (h : IntsAt w a n c xs) (hn : n ≤ 17592186044416) (hG : GL w) :
 Calls Tryz.prog 3 #[.agg #[.int .i64 R, .int .i64 B], .int .i64 r, .int .i64 m, .slice a n c] w fun e w' => e = .returned (.bool true) ∧ Below w.heap.size w w' := topShapedW w R B r m a n c xs h hn hG
end Go.Proofs.YtjjikhaaimfneaaGreatDoor
