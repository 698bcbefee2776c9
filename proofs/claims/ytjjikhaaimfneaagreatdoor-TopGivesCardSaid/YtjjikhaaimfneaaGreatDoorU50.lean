/-
  Lemmas and walks for the statement: TopGivesW.
-/
import Derived.Test.YtjjikhaaimfneaaGreatDoorU49
import Derived.Test.YtjjikhaaimfneaaGreatDoorU40
import Derived.Test.YtjjikhaaimfneaaGreatDoorU08
import Derived.Test.YtjjikhaaimfneaaGreatDoorU09
namespace Go.Proofs.YtjjikhaaimfneaaGreatDoor
open Go.RowKit
set_option linter.unusedSimpArgs false
set_option linter.unusedVariables false
def GvI (off n b b2 p : Int) : Prop := ledRight ⟨3, n, b, 0, 0, p⟩ = true ∧ ledRight ⟨3, n, b2, 0, 0, p⟩ = true ∧ ((b = -1 ∧ b2 = -1) ∨ (0 ≤ b ∧ b ≤ 1073741824 ∧ b2 = b + off))
theorem gv_start (off : Int) : GvI off (clipW 1) (-1) (-1) 0 := ⟨by decide, by decide, .inl ⟨rfl, rfl⟩⟩
theorem gv_next {off n b b2 p x : Int} (h : GvI off n b b2 p) (ho : 0 ≤ off ∧ off ≤ 1073741824) (hx : 0 ≤ x ∧ x ≤ 1073741824) :
 GvI off (ledAll ⟨3, n, b, 0, 0, p⟩ (x - lowBase b x) / 4) (lowBase b x) (lowBase b2 (x + off)) (ledAll ⟨3, n, b, 0, 0, p⟩ (x - lowBase b x) % 4) ∧ ledAll ⟨3, n, b2, 0, 0, p⟩ (x + off - lowBase b2 (x + off)) = ledAll ⟨3, n, b, 0, 0, p⟩ (x - lowBase b x) := by
 obtain ⟨h1, h2, h3⟩ := h
 have h1' := h1
 simp only [ledRight, decide_eq_true_eq] at h1'
 have hb := led_b (k := 3) (n := n) (b := b) (y := 0) (s := 0) (p := p) (e := x - lowBase b x) (by omega) (by omega) (by omega) (by omega)
 have hl : (lowBase b x = x ∧ lowBase b2 (x + off) = x + off) ∨ (lowBase b x = b ∧ lowBase b2 (x + off) = b + off ∧ 0 ≤ b ∧ b ≤ 1073741824) := by
  rcases h3 with ⟨rfl, rfl⟩ | ⟨q1, q2, rfl⟩
  · exact .inl ⟨by unfold lowBase; rw [if_pos (by omega)], by unfold lowBase; rw [if_pos (by omega)]⟩
  · by_cases hlt : x < b
    · exact .inl ⟨by unfold lowBase; rw [if_neg (by omega), if_pos hlt], by unfold lowBase; rw [if_neg (by omega), if_pos (by omega)]⟩
    · exact .inr ⟨by unfold lowBase; rw [if_neg (by omega), if_neg hlt], by unfold lowBase; rw [if_neg (by omega), if_neg (by omega)], q1, q2⟩
 have he : x + off - lowBase b2 (x + off) = x - lowBase b x := by omega
 generalize hall : ledAll ⟨3, n, b, 0, 0, p⟩ (x - lowBase b x) = al at *
 have key : ∀ z : Int, -1 ≤ z → z ≤ 1099511627776 → ledRight ⟨3, al / 4, z, 0, 0, al % 4⟩ = true := fun z g1 g2 =>
  decide_eq_true (show (3 : Int) = 3 ∧ 1 ≤ al / 4 ∧ al / 4 ≤ 12 ∧ -1 ≤ z ∧ z ≤ 1099511627776 ∧ (0 : Int) = 0 ∧ (0 : Int) = 0 ∧ 0 ≤ al % 4 ∧ al % 4 < 4 ∧ (al % 4 = 0 ∨ al / 4 < 12) by omega)
 refine ⟨⟨?_, ?_, ?_⟩, ?_⟩
 · exact key _ (by omega) (by omega)
 · exact key _ (by omega) (by omega)
 · rcases hl with ⟨e1, e2⟩ | ⟨e1, e2, q1, q2⟩
   · exact .inr ⟨by omega, by omega, by omega⟩
   · exact .inr ⟨by omega, by omega, by omega⟩
 · rw [he, ← hall]; rfl
theorem set6B {wr : World} {B : Nat} {x0 x1 x2 x3 x4 x5 y0 y1 y2 y3 y4 y5 : Value} (b : Blk wr B [x0, x1, x2, x3, x4, x5]) : ∃ Z, Z = ((((((wr.setCell ⟨B, 0, none⟩ y0).setCell ⟨B, 1, none⟩ y1).setCell ⟨B, 2, none⟩ y2).setCell ⟨B, 3, none⟩ y3).setCell ⟨B, 4, none⟩ y4).setCell ⟨B, 5, none⟩ y5) ∧ Blk Z B [y0, y1, y2, y3, y4, y5] ∧ (∀ S w, Below S w wr → S ≤ B → Below S w Z) ∧ ∀ g vs, B ≠ g → Blk wr g vs → Blk Z g vs :=
 ⟨_, rfl, (((((b.set (j := 0) (by simp) y0).set (j := 1) (by simp) y1).set (j := 2) (by simp) y2).set (j := 3) (by simp) y3).set (j := 4) (by simp) y4).set (j := 5) (by simp) y5,
  fun S w h hS => (((((h.setCell (p := ⟨B, 0, none⟩) hS _).setCell (p := ⟨B, 1, none⟩) hS _).setCell (p := ⟨B, 2, none⟩) hS _).setCell (p := ⟨B, 3, none⟩) hS _).setCell (p := ⟨B, 4, none⟩) hS _).setCell (p := ⟨B, 5, none⟩) hS _,
  fun g vs hg h => (((((h.other ⟨B, 0, none⟩ _ hg).other ⟨B, 1, none⟩ _ hg).other ⟨B, 2, none⟩ _ hg).other ⟨B, 3, none⟩ _ hg).other ⟨B, 4, none⟩ _ hg).other ⟨B, 5, none⟩ _ hg⟩
theorem del_pos {xs ys : List Int} (h : RightJZ xs ys) : ∀ z ∈ delJZ xs (passJZ xs ys), 0 ≤ z ∧ z ≤ 4398046511104 := by
 obtain ⟨hl, hx, hy, _⟩ := h
 intro z hz
 obtain ⟨k, hk⟩ := List.mem_iff_getElem?.1 hz
 have hkl := (List.getElem?_eq_some_iff.1 hk).1
 rw [del_lenZ, pass_lenZ, Nat.min_self] at hkl
 have ex : xs[k]? = some (xs.getD k 0) := by rw [List.getD_eq_getElem?_getD, List.getElem?_eq_getElem hkl]; rfl
 have ey : ys[k]? = some (ys.getD k 0) := by rw [List.getD_eq_getElem?_getD, List.getElem?_eq_getElem (by omega)]; rfl
 have ep : (passJZ xs ys)[k]? = some ((passJZ xs ys).getD k 0) := by rw [List.getD_eq_getElem?_getD, List.getElem?_eq_getElem (by rw [pass_lenZ]; exact hkl)]; rfl
 have hg := del_getZ xs (passJZ xs ys) k _ _ ex ep
 rw [← pass_getZ xs ys k hkl] at hg
 have hb := last_bdZ hx hy (k + 1)
 have b1 := small_atZ hx ex
 have b2 := small_atZ hy ey
 have hge : xs.getD k 0 + ys.getD k 0 ≤ lastJZ xs ys (k + 1) := by
  rw [lastJZ]; split <;> omega
 have e : (delJZ xs (passJZ xs ys)).getD k 0 = z := by rw [List.getD_eq_getElem?_getD, hk]; rfl
 rw [e] at hg
 have hw : IntKind.i64.wrap (lastJZ xs ys (k + 1) - xs.getD k 0) = lastJZ xs ys (k + 1) - xs.getD k 0 := IntWalk.i64_in _ (by omega)
 rw [hw] at hg
 omega
set_option maxRecDepth 100000 in
set_option maxHeartbeats 16000000 in
theorem topGivesW (w : World) (a : Option Addr) (n1 c : Nat) (xs : List Int) (h : IntsAt w a n1 c xs) (a' : Option Addr) (n1' c' : Nat) (ys : List Int) (h' : IntsAt w a' n1' c' ys) (off : Int) (hG : GL w) :
 Calls Tryz.prog 4 #[.slice a n1 c, .slice a' n1' c', .int .i64 off] w fun e w' => e = .returned (.bool true) ∧ Below w.heap.size w w' := by
 have HAL := hide (alive_any w hG)
 have HX := hide h; have HY := hide h'
 clear h h' hG
 obtain ⟨S, hS⟩ : ∃ S, w.heap.size = S := ⟨_, rfl⟩
 by_cases hr : RightJZ xs ys
 case neg =>
  go_enter Tryz.func4, Tryz.ntmps4
  have nil_at : ∀ W : World, IntsAt W none 0 0 [] := fun W => ⟨rfl, Nat.le_refl _, by omega, fun h => absurd h (by simp)⟩
  have HN := hide nil_at
  clear nil_at
  go_wp2_with (first
   | (go_at_call 7; refine HAL.out.mono ?_; rintro e w1 ⟨rfl, hb⟩; have HB1 := hide hb; clear hb)
   | (go_at_call 13; refine (jPass_badZ _ _ _ _ _ _ xs ys _ (HX.out.below HB1.out) (HY.out.below HB1.out) hr).mono ?_; rintro e w2 ⟨rfl, hb⟩; have HB2 := hide (HB1.out.trans (hb.mono HB1.out.size)); clear hb)
   | (go_at_call 14; refine (delays_anyZ _ _ _ _ _ _ xs [] _ (HX.out.below HB2.out) (HN.out _)).mono ?_; rintro e w3 ⟨b3, m3, d3, rfl, _, hb⟩; have HB3 := hide (HB2.out.trans (hb.mono HB2.out.size)); clear hb)
   | (go_at_call 15; refine (callF (jRight_anyZ _ _ _ _ _ _ xs ys _ (HX.out.below HB3.out) (HY.out.below HB3.out)) hr).mono ?_; rintro e w4 ⟨rfl, hb⟩; have HB4 := hide (HB3.out.trans (hb.mono HB3.out.size)); clear hb))
  go_ret
  exact ⟨by first | rfl | simp, HB4.out⟩
 have HR := hide hr
 have HD := hide (del_pos hr)
 obtain ⟨D, hD⟩ : ∃ D, delJZ xs (passJZ xs ys) = D := ⟨_, rfl⟩
 rw [hD] at HD
 have HDD := hide hD
 clear hr hD
 go_enter Tryz.func4, Tryz.ntmps4
 by_cases ho : 0 ≤ off ∧ off ≤ 1073741824
 case neg =>
  have ho' : off < 0 ∨ 1073741824 < off := by omega
  rcases ho' with ho' | ho'
  all_goals
   go_wp2_with (first
   | (go_at_call 7; refine HAL.out.mono ?_; rintro e w1 ⟨rfl, hb⟩; have HB1 := hide hb; clear hb)
   | (go_at_call 13; refine (jPass_okZ _ _ _ _ _ _ xs ys _ (HX.out.below HB1.out) (HY.out.below HB1.out) HR.out).mono ?_; rintro e w2 ⟨b2, m2, d2, rfl, hi, hb⟩; have HI2 := hide hi; have HB2 := hide (HB1.out.trans (hb.mono HB1.out.size)); clear hb hi)
   | (go_at_call 14; refine (delays_anyZ _ _ _ _ _ _ xs _ _ (HX.out.below HB2.out) HI2.out).mono ?_; rintro e w3 ⟨b3, m3, d3, rfl, _, hb⟩; have HB3 := hide (HB2.out.trans (hb.mono HB2.out.size)); clear hb)
   | (go_at_call 15; refine (callT (jRight_anyZ _ _ _ _ _ _ xs ys _ (HX.out.below HB3.out) (HY.out.below HB3.out)) HR.out).mono ?_; rintro e w4 ⟨rfl, hb⟩; have HB4 := hide (HB3.out.trans (hb.mono HB3.out.size)); clear hb))
   go_ret
   exact ⟨by first | rfl | simp, HB4.out⟩
 have HO := hide ho
 obtain ⟨ho1, ho2⟩ := ho
 go_upto_region 7 with (first
  | (go_at_call 7; refine HAL.out.mono ?_; rintro e w1 ⟨rfl, hb⟩; have HB1 := hide hb; clear hb)
  | (go_at_call 13; refine (jPass_okZ _ _ _ _ _ _ xs ys _ (HX.out.below HB1.out) (HY.out.below HB1.out) HR.out).mono ?_; rintro e w2 ⟨b2, m2, d2, rfl, hi, hb⟩; have HI2 := hide hi; have HB2 := hide (HB1.out.trans (hb.mono HB1.out.size)); clear hb hi)
  | (go_at_call 14; refine (delays_anyZ _ _ _ _ _ _ xs _ _ (HX.out.below HB2.out) HI2.out).mono ?_; rintro e w3 ⟨b3, m3, d3, rfl, hi, hb⟩; rw [HDD.out] at hi; have HI3 := hide hi; have HB3 := hide (HB2.out.trans (hb.mono HB2.out.size)); clear hb hi)
  | (go_at_call 15; refine (callT (jRight_anyZ _ _ _ _ _ _ xs ys _ (HX.out.below HB3.out) (HY.out.below HB3.out)) HR.out).mono ?_; rintro e w4 ⟨rfl, hb⟩; have HB4 := hide (HB3.out.trans (hb.mono HB3.out.size)); have HI4 := hide (HI3.out.below hb); clear hb))
 go_upto_region 9 with (go_at_call 16; first | (refine (HN5.out _).mono ?_; rintro e w6 ⟨rfl, hb⟩; have HB6 := hide (HB5.out.trans (hb.mono HB5.out.size)); have HI6 := hide (HI5.out.below hb); clear hb) | (refine (ledNew_any 1 _).mono ?_; rintro e w5 ⟨rfl, hb⟩; have HN5 := hide (ledNew_any 1); have HB5 := hide (HB4.out.trans (hb.mono HB4.out.size)); have HI5 := hide (HI4.out.below hb); clear hb))
 obtain ⟨V, hV⟩ : ∃ V, V = (w6.alloc (.cells #[.int .i64 3, .int .i64 (clipW 1), .int .i64 (-1), .int .i64 0, .int .i64 0, .int .i64 0] 36)).alloc (.cells #[.int .i64 3, .int .i64 (clipW 1), .int .i64 (-1), .int .i64 0, .int .i64 0, .int .i64 0] 36) := ⟨_, rfl⟩
 obtain ⟨T, hT⟩ : ∃ T, w6.heap.size = T := ⟨_, rfl⟩
 have HA : Hid (Blk V T [.int .i64 3, .int .i64 (clipW 1), .int .i64 (-1), .int .i64 0, .int .i64 0, .int .i64 0]) := hide (by rw [hV, ← hT]; exact (Blk.new w6 _ _).alloc _)
 have HB : Hid (Blk V (T + 1) [.int .i64 3, .int .i64 (clipW 1), .int .i64 (-1), .int .i64 0, .int .i64 0, .int .i64 0]) := hide (by
  have := Blk.new (w6.alloc (.cells #[.int .i64 3, .int .i64 (clipW 1), .int .i64 (-1), .int .i64 0, .int .i64 0, .int .i64 0] 36)) [.int .i64 3, .int .i64 (clipW 1), .int .i64 (-1), .int .i64 0, .int .i64 0, .int .i64 0] 36
  rw [hV]; simpa [hT] using this)
 have hST : S ≤ T := by have := HB6.out.size; omega
 have HBW := hide (show Below S w V from by
  rw [hV]
  have h0 := HB6.out
  rw [hS] at h0
  exact (h0.alloc (by omega) _).alloc (by simp; omega) _)
 have HIV := hide (show IntsAt V b3 m3 d3 D from by rw [hV]; exact HI6.out.below (((Below.refl w6.heap.size w6).alloc (Nat.le_refl _) _).alloc (by simp) _))
 have HV6 : Hid (Below T w6 V) := hide (by rw [hV, ← hT]; exact ((Below.refl w6.heap.size w6).alloc (Nat.le_refl _) _).alloc (by simp) _)
 have HT6 := hide hT
 have hVT : V.heap.size = T + 2 := by rw [hV]; simp [hT]
 (try rw [hT])
 rw [← hV]
 clear hV hT HB1 HB2 HB3 HB4 HB5 HB6 HI2 HI3 HI4 HI5 HN5
 have hm3 := HIV.out.len
 have hlim := HIV.out.lim
 have HGV := hide (gv_start off)
 have HBV : Hid (Below (T + 2) V V) := hide (Below.refl _ _)
 go_loopw [37] (fun i wr => ∃ k : Nat, k ≤ m3 ∧ i = .int .i64 k ∧ ∃ n b b2 p : Int, Hid (GvI off n b b2 p) ∧ Hid (Blk wr T [.int .i64 3, .int .i64 n, .int .i64 b, .int .i64 0, .int .i64 0, .int .i64 p]) ∧ Hid (Blk wr (T + 1) [.int .i64 3, .int .i64 n, .int .i64 b2, .int .i64 0, .int .i64 0, .int .i64 p]) ∧ Hid (Below T V wr) ∧ Hid (Below S w wr)) (fun i _ => m3 - (intOf i).toNat)
 case atStart => exact ⟨0, by omega, rfl, clipW 1, -1, -1, 0, HGV, HA, HB, hide (Below.refl _ _), HBW⟩
 case round =>
  clear HA HB HGV HBV
  obtain ⟨k, hk, rfl, n, b, b2, p, HGV, HA, HB, HVr, HBr⟩ := hrel
  have k0' : (0 : Int) ≤ (k : Int) := Int.natCast_nonneg _
  by_cases hlt : k < m3
  · have k1' : (k : Int) < (m3 : Int) := by omega
    obtain ⟨ad, x, had, hbd, hc, HXK⟩ := HI6.out.getB (by rw [HT6.out]; exact HV6.out.trans HVr.out) hlt
    obtain ⟨hx0, hx1⟩ := HD.out x (List.mem_of_getElem? HXK.out)
    subst had
    have hTr : T < wr.heap.size := HA.out.lt
    have hTr1 : T + 1 < wr.heap.size := HB.out.lt
    by_cases hbig : 1073741824 < x
    · clear HXK
      go_wp2
      go_ret
      exact ⟨rfl, by rw [hS]; exact HBr.out⟩
    · have hx2 : x ≤ 1073741824 := by omega
      obtain ⟨G1, G2⟩ := gv_next HGV.out HO.out ⟨hx0, hx2⟩
      obtain ⟨al, hal⟩ : ∃ al, ledAll ⟨3, n, b, 0, 0, p⟩ (x - lowBase b x) = al := ⟨_, rfl⟩
      rw [hal] at G1 G2
      have NX1 : Hid (∀ w : World, Calls Tryz.prog 17 #[.agg #[.int .i64 3, .int .i64 n, .int .i64 b, .int .i64 0, .int .i64 0, .int .i64 p], .int .i64 x] w fun e w' => e = .returned (.tuple #[.agg #[.int .i64 3, .int .i64 (al / 4), .int .i64 (lowBase b x), .int .i64 0, .int .i64 0, .int .i64 (al % 4)], .int .i64 0]) ∧ Below w.heap.size w w') := hide (fun w => by
       have h9 := ledNext_ok 3 n b 0 0 p x HGV.out.1 hx0 (by omega) w
       rw [hal] at h9; exact h9)
      have NX2 : Hid (∀ w : World, Calls Tryz.prog 17 #[.agg #[.int .i64 3, .int .i64 n, .int .i64 b2, .int .i64 0, .int .i64 0, .int .i64 p], .int .i64 (x + off)] w fun e w' => e = .returned (.tuple #[.agg #[.int .i64 3, .int .i64 (al / 4), .int .i64 (lowBase b2 (x + off)), .int .i64 0, .int .i64 0, .int .i64 (al % 4)], .int .i64 0]) ∧ Below w.heap.size w w') := hide (fun w => by
       have h9 := ledNext_ok 3 n b2 0 0 p (x + off) HGV.out.2.1 (by omega) (by omega) w
       rw [G2] at h9; exact h9)
      have HG1 := hide G1
      clear G1 G2 hal HXK
      have a_0 := (HA.out 0 _ rfl).1; have fa_0 := (HA.out 0 _ rfl).2; have a_1 := (HA.out 1 _ rfl).1; have fa_1 := (HA.out 1 _ rfl).2; have a_2 := (HA.out 2 _ rfl).1; have fa_2 := (HA.out 2 _ rfl).2; have a_3 := (HA.out 3 _ rfl).1; have fa_3 := (HA.out 3 _ rfl).2; have a_4 := (HA.out 4 _ rfl).1; have fa_4 := (HA.out 4 _ rfl).2; have a_5 := (HA.out 5 _ rfl).1; have fa_5 := (HA.out 5 _ rfl).2
      go_upto_region 14 with (go_at_call 17; refine (NX1.out _).mono ?_; rintro e w7 ⟨rfl, hb⟩; have ha7 := HA.out.below hb hTr; have d_0 := (ha7 0 _ rfl).1; have fd_0 := (ha7 0 _ rfl).2; have d_1 := (ha7 1 _ rfl).1; have fd_1 := (ha7 1 _ rfl).2; have d_2 := (ha7 2 _ rfl).1; have fd_2 := (ha7 2 _ rfl).2; have d_3 := (ha7 3 _ rfl).1; have fd_3 := (ha7 3 _ rfl).2; have d_4 := (ha7 4 _ rfl).1; have fd_4 := (ha7 4 _ rfl).2; have d_5 := (ha7 5 _ rfl).1; have fd_5 := (ha7 5 _ rfl).2; have HA7 := hide ha7; have HB7 := hide (HB.out.below hb hTr1); have HVr7 := hide (HVr.out.trans (hb.mono (by omega))); have HBr7 := hide (HBr.out.trans (hb.mono (by have := HBr.out.size; omega))); clear ha7 hb)
      clear a_0 fa_0 a_1 fa_1 a_2 fa_2 a_3 fa_3 a_4 fa_4 a_5 fa_5 d_0 fd_0 d_1 fd_1 d_2 fd_2 d_3 fd_3 d_4 fd_4 d_5 fd_5
      obtain ⟨Z, hZ, hZ1, hZ2, hZ3⟩ := set6B (y0 := .int .i64 3) (y1 := .int .i64 (al / 4)) (y2 := .int .i64 (lowBase b x)) (y3 := .int .i64 0) (y4 := .int .i64 0) (y5 := .int .i64 (al % 4)) HA7.out
      rw [← hZ]
      clear hZ
      have HA8 := hide hZ1
      have HB8 := hide (hZ3 _ _ (by omega) HB7.out)
      have HVr8 := hide (hZ2 T V HVr7.out (Nat.le_refl _))
      have HBr8 := hide (hZ2 S w HBr7.out hST)
      have hTz : T < Z.heap.size := hZ1.lt
      clear hZ1 hZ2 hZ3 HA7 HB7 HVr7 HBr7
      have hTz1 : T + 1 < Z.heap.size := HB8.out.lt
      have a_0 := (HB8.out 0 _ rfl).1; have fa_0 := (HB8.out 0 _ rfl).2; have a_1 := (HB8.out 1 _ rfl).1; have fa_1 := (HB8.out 1 _ rfl).2; have a_2 := (HB8.out 2 _ rfl).1; have fa_2 := (HB8.out 2 _ rfl).2; have a_3 := (HB8.out 3 _ rfl).1; have fa_3 := (HB8.out 3 _ rfl).2; have a_4 := (HB8.out 4 _ rfl).1; have fa_4 := (HB8.out 4 _ rfl).2; have a_5 := (HB8.out 5 _ rfl).1; have fa_5 := (HB8.out 5 _ rfl).2
      go_upto_region 15 with (go_at_call 17; refine (NX2.out _).mono ?_; rintro e w9 ⟨rfl, hb⟩; have hb9 := HB8.out.below hb hTz1; have d_0 := (hb9 0 _ rfl).1; have fd_0 := (hb9 0 _ rfl).2; have d_1 := (hb9 1 _ rfl).1; have fd_1 := (hb9 1 _ rfl).2; have d_2 := (hb9 2 _ rfl).1; have fd_2 := (hb9 2 _ rfl).2; have d_3 := (hb9 3 _ rfl).1; have fd_3 := (hb9 3 _ rfl).2; have d_4 := (hb9 4 _ rfl).1; have fd_4 := (hb9 4 _ rfl).2; have d_5 := (hb9 5 _ rfl).1; have fd_5 := (hb9 5 _ rfl).2; have HB9 := hide hb9; have HA9 := hide (HA8.out.below hb hTz); have HVr9 := hide (HVr8.out.trans (hb.mono (by omega))); have HBr9 := hide (HBr8.out.trans (hb.mono (by have := HBr8.out.size; omega))); clear hb9 hb)
      clear a_0 fa_0 a_1 fa_1 a_2 fa_2 a_3 fa_3 a_4 fa_4 a_5 fa_5 d_0 fd_0 d_1 fd_1 d_2 fd_2 d_3 fd_3 d_4 fd_4 d_5 fd_5
      obtain ⟨Z2, hZ, hZ1, hZ2, hZ3⟩ := set6B (y0 := .int .i64 3) (y1 := .int .i64 (al / 4)) (y2 := .int .i64 (lowBase b2 (x + off))) (y3 := .int .i64 0) (y4 := .int .i64 0) (y5 := .int .i64 (al % 4)) HB9.out
      rw [← hZ]
      clear hZ
      have HB10 := hide hZ1
      have HA10 := hide (hZ3 _ _ (by omega) HA9.out)
      have HVr10 := hide (hZ2 T V HVr9.out (by omega))
      have HBr10 := hide (hZ2 S w HBr9.out (by omega))
      clear hZ1 hZ2 hZ3 HA9 HB9 HVr9 HBr9 HA8 HB8 HVr8 HBr8
      have q1 := (HA10.out 1 _ rfl).1
      have q2 := (HB10.out 1 _ rfl).1
      go_wp2
      exact ⟨⟨k + 1, hlt, by first | rfl | go_num | simp, al / 4, lowBase b x, lowBase b2 (x + off), al % 4, HG1, HA10, HB10, HVr10, HBr10⟩, meas9 hlt⟩
  · obtain rfl : k = m3 := by omega
    go_wp2
    go_ret
    exact ⟨rfl, by rw [hS]; exact HBr.out⟩
theorem topGivesJ (w : World) (a : Option Addr) (n1 c : Nat) (xs : List Int) (h : IntsAt w a n1 c xs) (_ : n1 ≤ 17592186044416) (a' : Option Addr) (n1' c' : Nat) (ys : List Int) (h' : IntsAt w a' n1' c' ys) (_ : n1' ≤ 17592186044416) (off : Int) (hG : GL w) :
 Calls Tryz.prog 4 #[.slice a n1 c, .slice a' n1' c', .int .i64 off] w fun e w' => e = .returned (.bool true) ∧ Below w.heap.size w w' := topGivesW w a n1 c xs h a' n1' c' ys h' off hG
end Go.Proofs.YtjjikhaaimfneaaGreatDoor
