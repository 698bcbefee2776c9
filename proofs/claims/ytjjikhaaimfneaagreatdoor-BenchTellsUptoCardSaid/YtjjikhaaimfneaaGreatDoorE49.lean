/-
  Lemmas and walks for the statement: VTj, VJudA, BTl.
-/
import Derived.Test.YtjjikhaaimfneaaGreatDoorE47
import Derived.Test.YtjjikhaaimfneaaGreatDoorE40
import Derived.Test.YtjjikhaaimfneaaGreatDoorE41
import Derived.Test.YtjjikhaaimfneaaGreatDoorE42
import Derived.Test.YtjjikhaaimfneaaGreatDoorE36
import Derived.Deep.DeepCutAuto
import Derived.Test.YtjjikhaaimfneaaGreatDoorE48
import Derived.Test.YtjjikhaaimfneaaGreatDoorE32
import Derived.Test.YtjjikhaaimfneaaGreatDoorE46
import Derived.Lib.AppendIntMem
namespace Go.Proofs.YtjjikhaaimfneaaGreatDoor
open Go.RowKit
set_option linter.unusedSimpArgs false
set_option linter.unusedVariables false
attribute [local go_sem] iteMin iteMax iteMinN iteMaxN
set_option maxRecDepth 100000 in
set_option maxHeartbeats 4000000 in
theorem tj_range (k0 k1 R Q J who ratio : Int) (w : World) (hb : ¬ goodArgs who ratio) :
 Calls Tryz.prog 37 #[.agg #[.int .i64 k0, .int .i64 k1, .int .i64 R, .int .i64 Q, .int .i64 J], .int .i64 who, .int .i64 ratio] w fun e w' => e = .returned (.tuple #[.int .i64 0, .int .i64 0, .int .i64 2]) ∧ Below w.heap.size w w' := by
 have HB := hide ((Below.refl w.heap.size w).alloc (Nat.le_refl _) (.cells #[.int .i64 k0, .int .i64 k1, .int .i64 R, .int .i64 Q, .int .i64 J] 49))
 rcases (show who < 0 ∨ (0 ≤ who ∧ 1 < who) ∨ (0 ≤ who ∧ who ≤ 1 ∧ ratio < 1) ∨ (0 ≤ who ∧ who ≤ 1 ∧ 1 ≤ ratio ∧ 100 < ratio) by unfold goodArgs at hb; omega) with h | ⟨g, h⟩ | ⟨g, g', h⟩ | ⟨g, g', g'', h⟩
 all_goals
  clear hb
  go_enter Tryz.func37, Tryz.ntmps37
  go_wp2
  refine bodyPost_ret (v := .tuple #[.int .i64 0, .int .i64 0, .int .i64 2]) (by simp [results, Tryz.f37, go_sem]) rfl ⟨rfl, HB.out⟩
set_option maxRecDepth 100000 in
set_option maxHeartbeats 4000000 in
theorem tj_err (k0 k1 R Q J who ratio r : Int) (X : Sx) (w : World) (hs : Srch k0 k1 R Q J r X) (hga : goodArgs who ratio) (hr : r ≠ 0) :
 Calls Tryz.prog 37 #[.agg #[.int .i64 k0, .int .i64 k1, .int .i64 R, .int .i64 Q, .int .i64 J], .int .i64 who, .int .i64 ratio] w fun e w' => e = .returned (.tuple #[.int .i64 0, .int .i64 0, .int .i64 r]) ∧ Below w.heap.size w w' := by
 obtain ⟨g0, g1, g2, g3⟩ := hga
 have hrb : ((r : Int) == 0) = false := by simpa using hr
 have HS := hide hs
 have HR := hide hr
 obtain ⟨S, hS⟩ : ∃ S, w.heap.size = S := ⟨_, rfl⟩
 clear hs hr
 go_enter Tryz.func37, Tryz.ntmps37
 go_wp2_with fail
 refine (sof_srch HS.out _).mono ?_
 rintro e w1 hres
 rcases hres with ⟨_, rfl, hA⟩ | ⟨h0, _⟩
 case inr => exact absurd h0 HR.out
 have HB := hide (((Below.refl w.heap.size w).alloc (Nat.le_refl _) (.cells #[.int .i64 k0, .int .i64 k1, .int .i64 R, .int .i64 Q, .int .i64 J] 49)).trans (hA.mono (by simp)))
 clear hA
 go_wp2
 refine bodyPost_ret (v := .tuple #[.int .i64 0, .int .i64 0, .int .i64 r]) (by simp [results, Tryz.f37, go_sem]) rfl ⟨rfl, by first | exact HB.out.alloc HB.out.size _ | (rw [hS]; exact HB.out.alloc HB.out.size _)⟩
set_option maxRecDepth 100000 in
set_option maxHeartbeats 8000000 in
theorem tj_good (k0 k1 R Q J who ratio : Int) (X : Sx) (w : World) (hs : Srch k0 k1 R Q J 0 X) (hga : goodArgs who ratio) :
 Calls Tryz.prog 37 #[.agg #[.int .i64 k0, .int .i64 k1, .int .i64 R, .int .i64 Q, .int .i64 J], .int .i64 who, .int .i64 ratio] w fun e w' => (∃ kind most, e = .returned (.tuple #[.int .i64 kind, .int .i64 most, .int .i64 0]) ∧ ((HasPot (geOf X who ratio) ∧ kind = 1 ∧ most = mostOf X.states.length (geOf X who ratio)) ∨ (¬ HasPot (geOf X who ratio) ∧ kind = 2 ∧ most = 0))) ∧ Below w.heap.size w w' := by
 have SG := hide (srch_good hs)
 have HGA := hide hga
 obtain ⟨g0, g1, g2, g3⟩ := hga
 have HS := hide hs
 clear hs
 obtain ⟨S, hS⟩ : ∃ S, w.heap.size = S := ⟨_, rfl⟩
 go_enter Tryz.func37, Tryz.ntmps37
 go_wp2_with fail
 refine (sof_srch HS.out _).mono ?_
 rintro e w1 hres
 rcases hres with ⟨h0, _⟩ | ⟨_, v0, v1, v2, v3, v4, B, rfl, hA, r0, r1, r2, r3, r4⟩
 · exact absurd rfl h0
 have HB := hide (((Below.refl w.heap.size w).alloc (Nat.le_refl _) (.cells #[.int .i64 k0, .int .i64 k1, .int .i64 R, .int .i64 Q, .int .i64 J] 49)).trans (hA.mono (by simp)))
 obtain ⟨ra0, rb0, hv0⟩ := sliceShape r0
 obtain ⟨ra1, rb1, hv1⟩ := sliceShape r1
 obtain ⟨ra2, rb2, hv2⟩ := sliceShape r2
 obtain ⟨ra3, rb3, hv3⟩ := sliceShape r3
 obtain ⟨ra4, rb4, hv4⟩ := sliceShape r4
 obtain ⟨V, hV⟩ : ∃ V, V = w1.alloc (.cells #[v0, v1, v2, v3, v4] 118) := ⟨_, rfl⟩
 obtain ⟨FB, hFB⟩ : ∃ FB, w1.heap.size = FB := ⟨_, rfl⟩
 have hBV : Below w1.heap.size w1 V := by rw [hV]; exact (Below.refl _ _).alloc (Nat.le_refl _) _
 have R := Blk.new w1 [v0, v1, v2, v3, v4] 118
 rw [← hV, hFB] at R
 have q0 := rows_below r0 hBV; have q1 := rows_below r1 hBV; have q2 := rows_below r2 hBV; have q4 := rows_below r4 hBV
 have HBV := hide (HB.out.trans (hBV.mono HB.out.size))
 have HU : Hid (∀ E ∈ X.edges, E.t ≤ 300 ∧ E.f ≤ 300 ∧ UU E.us) := hide (fun E hE => by
  obtain ⟨i, hi⟩ := List.mem_iff_getElem?.1 hE
  obtain ⟨h1, h2, h3⟩ := SG.out.ok.tos i E hi
  have := SG.out.ok.most
  exact ⟨by omega, by omega, h3⟩)
 have HCALL := hide (sgraph_w who (by omega) ratio ⟨g2, g3⟩ B v0 v1 v2 v3 v4 X.states.length X.edges.length X.states X.edges V SG.out.ok.most rfl SG.out.most q0 q1 q2 q4 HU.out)
 obtain ⟨c0, c1, c2, c3, c4⟩ := R.c5
 subst hv0; subst hv1; subst hv2; subst hv3; subst hv4
 clear r0 r1 r2 r3 r4 q0 q1 q2 q4 hA R
 go_upto_region 4 with fail
 (try rw [hFB])
 rw [← hV]
 clear hV hFB hBV
 go_wp2_with fail
 refine HCALL.out.mono ?_
 rintro e w2 ⟨v, B', rfl, hrow, hA2⟩
 obtain ⟨a, c, hv⟩ := sliceShape hrow
 subst hv
 have hE := edgesAt_row hrow rfl SG.out.most
 have HG : Hid (GraphOk (X.states.length : Int) (geOf X who ratio)) := hide (geOf_ok SG.out.ok SG.out.most HGA.out)
 have HB2 := hide (HBV.out.trans (hA2.mono HBV.out.size))
 obtain ⟨N, hN⟩ : ∃ N, X.states.length = N := ⟨_, rfl⟩
 obtain ⟨es, hes⟩ : ∃ es, geOf X who ratio = es := ⟨_, rfl⟩
 obtain ⟨n, hn⟩ : ∃ n, X.edges.length = n := ⟨_, rfl⟩
 rw [hN, hes] at HG
 rw [hn, hes] at hE
 rw [hN, hn]
 have HES := hide hes; have HNN := hide hN
 clear hrow hA2 HU HCALL HBV hN hes hn c0 c1 c2 c3 c4
 go_wp2_with fail
 refine (qmost_any N a n c es w2 hE HG.out).mono ?_
 rintro e w3 ⟨hq, hA3⟩
 have HB3 := hide (HB2.out.trans (hA3.mono HB2.out.size))
 rcases hq with ⟨hp, b, d, rfl, hI⟩ | ⟨hp, rfl⟩
 case inr =>
  have HP := hide hp
  clear hp hE hA3
  go_wp2
  refine bodyPost_ret (v := .tuple #[.int .i64 2, .int .i64 0, .int .i64 0]) (by simp [results, Tryz.f37, go_sem]) rfl ⟨⟨2, 0, rfl, .inr ⟨by rw [HES.out]; exact HP.out, rfl, rfl⟩⟩, HB3.out⟩
 have HP := hide hp
 have HI := hide hI
 have hlim := hI.lim
 have hN3 : N ≤ 300 := by have := HG.out.1.2.1; omega
 clear hp hE hA3 hI
 go_wp2
 go_loop [13, 50] (fun m i => ∃ k : Nat, k ≤ N ∧ i = .int .i64 k ∧ m = .int .i64 (((tabI N (siter (pes es) N)).take k).foldl max 0)) (fun _ i => N - (intOf i).toNat)
 case atStart => exact ⟨0, Nat.zero_le _, rfl, rfl⟩
 case round =>
  obtain ⟨k, hk, rfl, rfl⟩ := hrel
  have k0 : (0 : Int) ≤ (k : Int) := Int.natCast_nonneg _
  by_cases hlt : k < N
  · obtain ⟨ad, x, rfl, hbd, hc, HX⟩ := HI.out.getB (Below.refl _ _) hlt
    have k1 : (k : Int) < (N : Int) := by omega
    have HE := hide (fold_take HX.out)
    obtain ⟨M, hM⟩ : ∃ M, ((tabI N (siter (pes es) N)).take k).foldl max 0 = M := ⟨_, rfl⟩
    rw [hM] at HE ⊢
    clear hM HX
    go_wp2
    go_round
    case rel => exact ⟨k + 1, by omega, by go_num, by rw [HE.out]⟩
    case measure => simp [intOf]; omega
  · obtain rfl : N = k := by omega
    have HF := hide (show mostOf N es = ((tabI N (siter (pes es) N)).take N).foldl max 0 by unfold mostOf; rw [List.take_of_length_le (by rw [tab_len]; exact Nat.le_refl _)])
    obtain ⟨M, hM⟩ : ∃ M, ((tabI N (siter (pes es) N)).take N).foldl max 0 = M := ⟨_, rfl⟩
    rw [hM] at HF ⊢
    clear hM
    go_wp2
    refine bodyPost_ret (v := .tuple #[.int .i64 1, .int .i64 M, .int .i64 0]) (by simp [results, Tryz.f37, go_sem]) rfl ⟨⟨1, M, rfl, .inl ⟨by rw [HES.out]; exact HP.out, rfl, by rw [HNN.out, HES.out]; exact HF.out.symm⟩⟩, by first | exact HB3.out | (rw [← hS]; exact HB3.out)⟩
end Go.Proofs.YtjjikhaaimfneaaGreatDoor
namespace Go.Proofs.YtjjikhaaimfneaaGreatDoor
open Go.RowKit
set_option linter.unusedSimpArgs false
set_option linter.unusedVariables false
theorem judge_any (k0 k1 R Q J who ratio : Int) (w : World) : Calls Tryz.prog 21 #[.agg #[.int .i64 k0, .int .i64 k1, .int .i64 R, .int .i64 Q, .int .i64 J], .int .i64 who, .int .i64 ratio] w fun e w' => JEnds k0 k1 R Q J who ratio e w' ∧ Below w.heap.size w w' := by
 by_cases hg : goodArgs who ratio
 case neg =>
  refine (jud_err k0 k1 R Q J who ratio 2 w (by omega) (fun W => graph_range k0 k1 R Q J who ratio W (by unfold goodArgs at hg; omega))).mono ?_
  rintro e w' ⟨rfl, hb⟩
  exact ⟨⟨0, 0, 2, _, _, rfl, .inl ⟨hg, rfl, rfl, rfl⟩, .inl ⟨by omega, rfl, rfl⟩⟩, hb⟩
 obtain ⟨r, X, hs⟩ := srch_ex k0 k1 R Q J
 by_cases hr : r = 0
 · subst hr
   by_cases hp : HasPot (geOf X who ratio)
   · refine (jud_pot k0 k1 R Q J who ratio X w hs hg hp).mono ?_
     rintro e w' ⟨rfl, hb⟩
     exact ⟨⟨1, _, 0, _, _, rfl, .inr ⟨hg, 0, X, hs, .inr ⟨rfl, rfl, .inl ⟨hp, rfl, rfl⟩⟩⟩, .inl ⟨by omega, rfl, rfl⟩⟩, hb⟩
   · refine (jud_star k0 k1 R Q J who ratio X w hs hg hp).mono ?_
     rintro e w' ⟨⟨lv, rv, ld, rd, rfl, hv⟩, hb⟩
     exact ⟨⟨2, 0, 0, _, _, rfl, .inr ⟨hg, 0, X, hs, .inr ⟨rfl, rfl, .inr ⟨hp, rfl, rfl⟩⟩⟩, .inr ⟨rfl, ld, rd, hv⟩⟩, hb⟩
 · refine (jud_err k0 k1 R Q J who ratio r w hr (fun W => (graph_srch hs who ratio W hg).mono (by
    rintro e w' (⟨_, h1, h2⟩ | ⟨h0, _⟩)
    · exact ⟨h1, h2⟩
    · exact absurd h0 hr))).mono ?_
   rintro e w' ⟨rfl, hb⟩
   exact ⟨⟨0, 0, r, _, _, rfl, .inr ⟨hg, r, X, hs, .inl ⟨hr, rfl, rfl, rfl⟩⟩, .inl ⟨by omega, rfl, rfl⟩⟩, hb⟩
theorem tjudge_any (k0 k1 R Q J who ratio : Int) (w : World) : Calls Tryz.prog 37 #[.agg #[.int .i64 k0, .int .i64 k1, .int .i64 R, .int .i64 Q, .int .i64 J], .int .i64 who, .int .i64 ratio] w fun e w' => (∃ kind most err, e = .returned (.tuple #[.int .i64 kind, .int .i64 most, .int .i64 err]) ∧ VSays k0 k1 R Q J who ratio kind most err) ∧ Below w.heap.size w w' := by
 by_cases hg : goodArgs who ratio
 case neg =>
  refine (tj_range k0 k1 R Q J who ratio w hg).mono ?_
  rintro e w' ⟨rfl, hb⟩
  exact ⟨⟨0, 0, 2, rfl, .inl ⟨hg, rfl, rfl, rfl⟩⟩, hb⟩
 obtain ⟨r, X, hs⟩ := srch_ex k0 k1 R Q J
 by_cases hr : r = 0
 · subst hr
   refine (tj_good k0 k1 R Q J who ratio X w hs hg).mono ?_
   rintro e w' ⟨⟨kind, most, rfl, h⟩, hb⟩
   exact ⟨⟨kind, most, 0, rfl, .inr ⟨hg, 0, X, hs, .inr ⟨rfl, rfl, h⟩⟩⟩, hb⟩
 · refine (tj_err k0 k1 R Q J who ratio r X w hs hg hr).mono ?_
   rintro e w' ⟨rfl, hb⟩
   exact ⟨⟨0, 0, r, rfl, .inr ⟨hg, r, X, hs, .inl ⟨hr, rfl, rfl, rfl⟩⟩⟩, hb⟩
theorem vsays_ex (k0 k1 R Q J who ratio : Int) : ∃ kind most err, VSays k0 k1 R Q J who ratio kind most err := by
 by_cases hg : goodArgs who ratio
 case neg => exact ⟨0, 0, 2, .inl ⟨hg, rfl, rfl, rfl⟩⟩
 obtain ⟨r, X, hs⟩ := srch_ex k0 k1 R Q J
 by_cases hr : r = 0
 · subst hr
   by_cases hp : HasPot (geOf X who ratio)
   · exact ⟨_, _, _, .inr ⟨hg, 0, X, hs, .inr ⟨rfl, rfl, .inl ⟨hp, rfl, rfl⟩⟩⟩⟩
   · exact ⟨_, _, _, .inr ⟨hg, 0, X, hs, .inr ⟨rfl, rfl, .inr ⟨hp, rfl, rfl⟩⟩⟩⟩
 · exact ⟨_, _, _, .inr ⟨hg, r, X, hs, .inl ⟨hr, rfl, rfl, rfl⟩⟩⟩
def TSays (k0 k1 R Q J who ratio n err : Int) : Prop :=
 ∃ kind most er, VSays k0 k1 R Q J who ratio kind most er ∧
  ((er ≠ 0 ∧ er ≠ 4 ∧ n = 0 ∧ err = er) ∨ ((er = 0 ∨ er = 4) ∧ ∃ j : Nat, (∀ i : Nat, i < j → ∃ kd mo, VSays k0 k1 R Q i who ratio kd mo 0 ∧ kd ≠ 2) ∧
    ((j = J.toNat + 1 ∧ n = 0 ∧ err = 3) ∨ (j < J.toNat + 1 ∧ ∃ kd mo e2, VSays k0 k1 R Q j who ratio kd mo e2 ∧ ((e2 ≠ 0 ∧ n = 0 ∧ err = e2) ∨ (e2 = 0 ∧ kd = 2 ∧ n = j ∧ err = 0))))))
end Go.Proofs.YtjjikhaaimfneaaGreatDoor
namespace Go.Proofs.YtjjikhaaimfneaaGreatDoor
open Go.RowKit
set_option linter.unusedSimpArgs false
set_option linter.unusedVariables false
theorem judge_w {k0 k1 R Q J who ratio kind most err : Int} (hv : VSays k0 k1 R Q J who ratio kind most err) (w : World) : Calls Tryz.prog 21 #[.agg #[.int .i64 k0, .int .i64 k1, .int .i64 R, .int .i64 Q, .int .i64 J], .int .i64 who, .int .i64 ratio] w fun e w' => (∃ la ln lc ra rn rc, e = .returned (.tuple #[.agg #[.int .i64 kind, .int .i64 most, .slice la ln lc, .slice ra rn rc], .int .i64 err])) ∧ Below w.heap.size w w' := by
 refine (judge_any k0 k1 R Q J who ratio w).mono ?_
 rintro e w' ⟨⟨kd, mo, er, lv, rv, rfl, hs, h⟩, hb⟩
 obtain ⟨rfl, rfl, rfl⟩ := vsays_one hv hs
 refine ⟨?_, hb⟩
 rcases h with ⟨_, rfl, rfl⟩ | ⟨_, ld, rd, hw⟩
 · exact ⟨_, _, _, _, _, _, rfl⟩
 · obtain ⟨X, q, ns, m, B, B', f, c, _, _, _, _, _, _, _, _, _, _, h1, h2⟩ := hw.way
   obtain ⟨a1, c1, rfl⟩ := sliceShape h1
   obtain ⟨a2, c2, rfl⟩ := sliceShape h2
   exact ⟨_, _, _, _, _, _, rfl⟩
theorem tjudge_w {k0 k1 R Q J who ratio kind most err : Int} (hv : VSays k0 k1 R Q J who ratio kind most err) (w : World) : Calls Tryz.prog 37 #[.agg #[.int .i64 k0, .int .i64 k1, .int .i64 R, .int .i64 Q, .int .i64 J], .int .i64 who, .int .i64 ratio] w fun e w' => e = .returned (.tuple #[.int .i64 kind, .int .i64 most, .int .i64 err]) ∧ Below w.heap.size w w' := by
 refine (tjudge_any k0 k1 R Q J who ratio w).mono ?_
 rintro e w' ⟨⟨kd, mo, er, rfl, hs⟩, hb⟩
 obtain ⟨rfl, rfl, rfl⟩ := vsays_one hv hs
 exact ⟨rfl, hb⟩
theorem vsays_b {k0 k1 R Q J who ratio kind most err : Int} (h : VSays k0 k1 R Q J who ratio kind most err) : (err = 0 → kind = 1 ∨ kind = 2) ∧ 0 ≤ most ∧ most ≤ 314572800 := by
 rcases h with ⟨_, rfl, rfl, rfl⟩ | ⟨hg, r, X, hs, ⟨h0, rfl, rfl, rfl⟩ | ⟨rfl, rfl, ⟨_, rfl, rfl⟩ | ⟨_, rfl, rfl⟩⟩⟩
 · omega
 · omega
 · have SG := srch_good hs
   have := mostOf_b (geOf_ok SG.ok SG.most hg)
   omega
 · omega
theorem itoaG (n : Int) (h0 : -9223372036854775808 ≤ n) (h1 : n ≤ 9223372036854775807) (w : World) (h : GL w) : Calls Tryz.prog 35 #[.int .i64 n] w fun e w' => e = .returned (.string ⟨(Lib.itoa n).toArray⟩) ∧ Below w.heap.size w w' := by
 refine (Tryz.strconv_Itoa n h0 h1 w h.pw).mono ?_
 rintro e w' ⟨rfl, k, os, rfl⟩
 exact ⟨rfl, Lib.below_grow _ w (Nat.le_refl _) k os⟩
def stL : List UInt8 := [32, 115, 116, 97, 114, 118, 101, 115]
def boL : List UInt8 := [32, 98, 111, 117, 110, 100, 101, 100, 32]
theorem nDigits_le : ∀ (m u : Nat), u < 10 ^ (m + 1) → Lib.nDigits u ≤ m + 1
 | 0, u, h => by rw [Lib.nDigits_small (by simpa using h)]; exact Nat.le_refl _
 | m + 1, u, h => by
   by_cases h1 : u < 10
   · rw [Lib.nDigits_small h1]; omega
   · rw [Lib.nDigits_big h1]
     have := nDigits_le m (u / 10) (by rw [Nat.pow_succ] at h; omega)
     omega
theorem itoa_len12 {n : Int} (h0 : 0 ≤ n) (h1 : n ≤ 314572800) : (Lib.itoa n).length ≤ 9 := by
 unfold Lib.itoa
 rw [if_neg (by omega), Lib.decDigits_length]
 exact nDigits_le 8 n.toNat (by omega)
def lineL (who kind most : Int) : List UInt8 := if kind = 2 then Lib.itoa who ++ stL else (Lib.itoa who ++ boL) ++ Lib.itoa most
def TSay (s : List UInt8) (ratio : Int) (ls : List (List UInt8)) (r : Int) : Prop :=
 ∃ k0 k1 R Q J e, PSays s k0 k1 R Q J e ∧ ((e ≠ 0 ∧ ls = [] ∧ r = e) ∨ (e = 0 ∧ ∃ a0 m0 e0 a1 m1 e1, VSays k0 k1 R Q J 0 ratio a0 m0 e0 ∧ VSays k0 k1 R Q J 1 ratio a1 m1 e1 ∧
  ((e0 ≠ 0 ∧ ls = [] ∧ r = e0) ∨ (e0 = 0 ∧ e1 ≠ 0 ∧ ls = [] ∧ r = e1) ∨ (e0 = 0 ∧ e1 = 0 ∧ ls = [lineL 0 a0 m0, lineL 1 a1 m1] ∧ r = 0))))
theorem tsay_one {s : List UInt8} {ratio : Int} {ls ls' : List (List UInt8)} {r r' : Int} (h : TSay s ratio ls r) (h' : TSay s ratio ls' r') : ls = ls' ∧ r = r' := by
 obtain ⟨k0, k1, R, Q, J, e, hp, ho⟩ := h
 obtain ⟨k0', k1', R', Q', J', e', hp', ho'⟩ := h'
 obtain ⟨rfl, rfl, rfl, rfl, rfl, rfl⟩ := psays_one hp hp'
 rcases ho with ⟨h0, rfl, rfl⟩ | ⟨rfl, a0, m0, e0, a1, m1, e1, v0, v1, ho⟩ <;> rcases ho' with ⟨h0', rfl, rfl⟩ | ⟨h0', a0', m0', e0', a1', m1', e1', v0', v1', ho'⟩
 · exact ⟨rfl, rfl⟩
 · exact absurd h0' h0
 · exact absurd rfl h0'
 · obtain ⟨rfl, rfl, rfl⟩ := vsays_one v0 v0'
   obtain ⟨rfl, rfl, rfl⟩ := vsays_one v1 v1'
   rcases ho with ⟨q1, rfl, rfl⟩ | ⟨q1, q2, rfl, rfl⟩ | ⟨q1, q2, rfl, rfl⟩ <;> rcases ho' with ⟨p1, rfl, rfl⟩ | ⟨p1, p2, rfl, rfl⟩ | ⟨p1, p2, rfl, rfl⟩
   · exact ⟨rfl, rfl⟩
   · exact absurd p1 q1
   · exact absurd p1 q1
   · exact absurd q1 p1
   · exact ⟨rfl, rfl⟩
   · exact absurd p2 q2
   · exact absurd q1 p1
   · exact absurd q2 p2
   · exact ⟨rfl, rfl⟩
def TlEnds (s : List UInt8) (ratio : Int) (e : Ending) (w : World) : Prop := ∃ ls r v B, e = .returned (.tuple #[v, .int .i64 r]) ∧ TSay s ratio ls r ∧ w.ownsRow B 9 1 v ls.length (ls.map strV)
theorem tl_nil (s : List UInt8) (ratio r : Int) (w : World) (h : TSay s ratio [] r) : TlEnds s ratio (.returned (.tuple #[.slice none 0 0, .int .i64 r])) w := ⟨[], r, _, 0, rfl, h, rfl, .inl ⟨rfl, rfl⟩⟩
end Go.Proofs.YtjjikhaaimfneaaGreatDoor
