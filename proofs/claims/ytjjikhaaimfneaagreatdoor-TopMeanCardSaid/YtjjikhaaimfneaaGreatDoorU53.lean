/-
  Lemmas and walks for the statement: MGr, TopMeanP.
-/
import Derived.Test.YtjjikhaaimfneaaGreatDoorU52
import Derived.Test.YtjjikhaaimfneaaGreatDoorU41
import Derived.Test.YtjjikhaaimfneaaGreatDoorU31
import Derived.Test.YtjjikhaaimfneaaGreatDoorU49
import Derived.Test.YtjjikhaaimfneaaGreatDoorU28
namespace Go.Proofs.YtjjikhaaimfneaaGreatDoor
open Go.RowKit
set_option linter.unusedSimpArgs false
set_option linter.unusedVariables false
attribute [local go_sem] iteMin iteMax iteMinN iteMaxN
theorem leastF_b {es : List PE} {N v : Nat} (hM : WtOk es) (hN : N ≤ 300) (hx : kiter es N v ≠ NONE) : ∀ k, k ≤ N → (-1000000000 ≤ (leastF es N v k).1 ∧ (leastF es N v k).1 ≤ 1000000000) ∧ 0 ≤ (leastF es N v k).2 ∧ (leastF es N v k).2 ≤ 300 := by
 intro k
 induction k with
 | zero => intro _; simp [leastF]
 | succ k ih =>
   intro hk
   have ih := ih (by omega)
   rw [show leastF es N v (k + 1) = (if kiter es k v = NONE then leastF es N v k else if (leastF es N v k).2 = 0 ∨ moreF (leastF es N v k) (frK es N v k) then frK es N v k else leastF es N v k) from rfl]
   split
   · exact ih
   · split
     · rename_i h1 h2
       have b1 := kiter_b hM (show N ≤ 1000000 by omega) hx
       have b2 := kiter_b hM (show k ≤ 1000000 by omega) h1
       unfold frK
       dsimp only
       omega
     · exact ih
theorem bestF_b {es : List PE} {N : Nat} (hM : WtOk es) (hN : N ≤ 300) : ∀ v, (-1000000000 ≤ (bestF es N v).1 ∧ (bestF es N v).1 ≤ 1000000000) ∧ 0 ≤ (bestF es N v).2 ∧ (bestF es N v).2 ≤ 300 := by
 intro v
 induction v with
 | zero => simp [bestF]
 | succ v ih =>
   rw [show bestF es N (v + 1) = (if kiter es N v = NONE then bestF es N v else if (bestF es N v).2 = 0 ∨ moreF (leastF es N v N) (bestF es N v) then leastF es N v N else bestF es N v) from rfl]
   split
   · exact ih
   · split
     · rename_i h1 h2
       exact leastF_b hM hN h1 N (Nat.le_refl _)
     · exact ih
structure LsI (wo : World) (L : Nat) (f : Int × Int) (wr : World) : Prop where
 b0 : wr.cell? ⟨L, 0, none⟩ = some (.int .i64 f.1)
 b1 : wr.cell? ⟨L, 1, none⟩ = some (.int .i64 f.2)
 bf : ∀ j, wr.frozen? ⟨L, j, none⟩ = false
 bl : Below wo.heap.size wo wr
 hL : L = wo.heap.size
theorem LsI.below {wo : World} {L : Nat} {f : Int × Int} {wr w' : World} (h : LsI wo L f wr) (hb : Below wr.heap.size wr w') : LsI wo L f w' := by
 have hB := World.block_lt_of_cell? wr _ h.b0
 simp only at hB
 have hL := h.hL
 exact ⟨(hb.cell (World.block_lt_of_cell? wr _ h.b0)).trans h.b0, (hb.cell (World.block_lt_of_cell? wr _ h.b1)).trans h.b1, fun j => (hb.frozen (p := ⟨L, j, none⟩) hB).trans (h.bf j), h.bl.trans (hb.mono (by omega)), hL⟩
theorem LsI.put {wo : World} {L : Nat} {f : Int × Int} {wr : World} (h : LsI wo L f wr) (x y : Int) : LsI wo L (x, y) ((wr.setCell ⟨L, 0, none⟩ (.int .i64 x)).setCell ⟨L, 1, none⟩ (.int .i64 y)) := by
 have hL := h.hL
 refine ⟨?_, ?_, fun j => by rw [World.frozen?_setCell, World.frozen?_setCell]; exact h.bf j, (h.bl.setCell (by simp only; omega) _).setCell (by simp only; omega) _, hL⟩
 · rw [World.cell?_setCell_other _ _ _ _ (fun e => by injection e with _ e; omega)]
   exact World.cell?_setCell_same' _ _ _ (by rw [h.b0]; rfl)
 · exact World.cell?_setCell_same' _ _ _ (by rw [World.cell?_setCell_other _ _ _ _ (fun e => by injection e with _ e; omega), h.b1]; rfl)
theorem LsI.new {wo : World} : LsI wo wo.heap.size (0, 0) (wo.alloc (.cells #[.int .i64 0, .int .i64 0] 61)) :=
 ⟨by simp [go_sem], by simp [go_sem], fun j => by simp [go_sem], (Below.refl _ _).alloc (Nat.le_refl _) _, rfl⟩
theorem RgI.mix {w : World} {S N n c BB : Nat} {a : Option Addr} {f : Int × Int} {wo wr : World} (h : RgI w S N n c BB a f wo) (hb : Below wo.heap.size wo wr) : RgI w S N n c BB a f wr := h.below hb
set_option maxRecDepth 100000 in
set_option maxHeartbeats 8000000 in
theorem great_ok (N : Nat) (a : Option Addr) (n c : Nat) (es : List GE) (w : World) (h : EdgesAt w a n c es) (hg : GraphOk (N : Int) es) :
 Calls Tryz.prog 23 #[.agg #[.int .i64 N, .slice a n c]] w fun e w' => (∃ x y r, e = .returned (.tuple #[.agg #[.int .i64 x, .int .i64 y], .int .i64 r]) ∧ GreatSays N es x y r) ∧ Below w.heap.size w w' := by
 obtain ⟨S, hS⟩ : ∃ S, w.heap.size = S := ⟨_, rfl⟩
 have HG := hide hg; have HS := hide hS; have HE0 := hide h
 have hN : N ≤ 300 := by have := hg.1.2.1; omega
 go_enter Tryz.func23, Tryz.ntmps23
 go_wp2_with fail
 obtain ⟨W, hW⟩ : ∃ W, W = (w.alloc (.cells #[.int .i64 N, .slice a n c] 57)).alloc (.cells #[.int .i64 0, .int .i64 0] 61) := ⟨_, rfl⟩
 rw [← hW]
 have hWB : Below S w W := by rw [hW, ← hS]; exact ((Below.refl _ _).alloc (Nat.le_refl _) _).alloc (by simp) _
 have hE := h.below (by rw [hS]; exact hWB)
 have b0 : W.cell? ⟨S + 1, 0, none⟩ = some (.int .i64 0) := by rw [hW, ← hS]; simp [go_sem, World.cell?_alloc_past]
 have b1 : W.cell? ⟨S + 1, 1, none⟩ = some (.int .i64 0) := by rw [hW, ← hS]; simp [go_sem, World.cell?_alloc_past]
 have a0 : W.cell? ⟨S, 0, none⟩ = some (.int .i64 N) := by rw [hW, ← hS]; simp [go_sem, World.cell?_alloc_past]
 have a1 : W.cell? ⟨S, 1, none⟩ = some (.slice a n c) := by rw [hW, ← hS]; simp [go_sem, World.cell?_alloc_past]
 have fz : ∀ j, W.frozen? ⟨S + 1, j, none⟩ = false := by intro j; rw [hW, ← hS]; simp [go_sem]
 have hWs : S + 1 < W.heap.size := World.block_lt_of_cell? W _ b0
 have hWs0 : S < W.heap.size := by omega
 clear hW h hg
 refine (wrong_any _ _ _ _ _ W hE).mono ?_
 rintro e w1 ⟨⟨r, hr, rfl⟩, B1⟩
 obtain rfl : r = 0 := by rcases hr with ⟨h1, _⟩ | ⟨_, h2⟩; exact h1; exact absurd HG.out h2
 have z0 := (B1.cell (p := ⟨S + 1, 0, none⟩) hWs).trans b0
 have z1 := (B1.cell (p := ⟨S + 1, 1, none⟩) hWs).trans b1
 have y0 := (B1.cell (p := ⟨S, 0, none⟩) hWs0).trans a0
 have y1 := (B1.cell (p := ⟨S, 1, none⟩) hWs0).trans a1
 have zf : ∀ j, w1.frozen? ⟨S + 1, j, none⟩ = false := fun j => (B1.frozen (p := ⟨S + 1, j, none⟩) hWs).trans (fz j)
 have hB1 := hWB.trans (B1.mono (by omega))
 have hE1 := hE.below B1
 have hs1 : S + 1 < w1.heap.size := World.block_lt_of_cell? w1 _ z0
 clear hr hE b0 b1 a0 a1 fz B1 hWB hWs hWs0
 have HZF := hide zf
 clear zf
 go_wp2_with fail
 refine (table_any N _ _ _ es w1 hE1 HG.out).mono ?_
 rintro e w2 ⟨⟨v, gs, cs, rfl, hR⟩, B2⟩
 have z0 := (B2.cell (p := ⟨S + 1, 0, none⟩) hs1).trans z0
 have z1 := (B2.cell (p := ⟨S + 1, 1, none⟩) hs1).trans z1
 have y0 := (B2.cell (p := ⟨S, 0, none⟩) (by show S < _; omega)).trans y0
 have y1 := (B2.cell (p := ⟨S, 1, none⟩) (by show S < _; omega)).trans y1
 have zf : ∀ j, w2.frozen? ⟨S + 1, j, none⟩ = false := fun j => (B2.frozen (p := ⟨S + 1, j, none⟩) hs1).trans (HZF.out j)
 have hB2 := hB1.trans (B2.mono (by omega))
 have hs2 : S + 1 < w2.heap.size := World.block_lt_of_cell? w2 _ z0
 obtain ⟨rb, cap, rfl, hrb, hrl, hrc⟩ := hR.at_ (by omega)
 have hcap : N + 1 ≤ cap := by
  rcases hR.own.2 with ⟨h1, _⟩ | ⟨g, cap', cur, h1, _, _, h2, _⟩
  · cases h1
  · injection h1 with _ _ h3; omega
 have HT : Hid (∀ w', Below w2.heap.size w2 w' → ∀ k, k < N + 1 → w'.cell? ⟨rb, k, none⟩ = some (.slice (some ⟨gs k, 0, none⟩) N (cs k)) ∧ ∀ q, q < N → w'.cell? ⟨gs k, q, none⟩ = some (.int .i64 (kiter (pes es) k q))) := hide (fun w' hb k hk => by
  refine ⟨(hb.cell (World.block_lt_of_cell? w2 _ (hrc k hk))).trans (hrc k hk), fun q hq => ?_⟩
  have := (hR.row k hk).cell hq
  exact (hb.cell (World.block_lt_of_cell? w2 _ this)).trans this)
 obtain ⟨BB, hBB⟩ : ∃ BB, w2.heap.size = BB := ⟨_, rfl⟩
 obtain ⟨X, hX⟩ : ∃ X, X = w2.alloc (.cells #[.int .i64 0, .int .i64 0] 61) := ⟨_, rfl⟩
 have HX0 : Hid (Below w2.heap.size w2 X) := hide (by rw [hX]; exact (Below.refl _ _).alloc (Nat.le_refl _) _)
 have H0 : Hid (RgI w S N n c BB a (bestF (pes es) N 0) X) := by
  have kc : ∀ {b j : Nat} {v : Value}, w2.cell? ⟨b, j, none⟩ = some v → X.cell? ⟨b, j, none⟩ = some v := fun {b j v} e => by
   rw [hX]; exact (((Below.refl w2.heap.size w2).alloc (Nat.le_refl _) _).cell (World.block_lt_of_cell? w2 _ e)).trans e
  refine hide ⟨kc y0, kc y1, kc z0, kc z1, fun j => ?_, ?_, ?_, fun j => ?_, ?_, by omega⟩
  · rw [hX]; exact (((Below.refl w2.heap.size w2).alloc (Nat.le_refl _) _).frozen (p := ⟨S + 1, j, none⟩) hs2).trans (zf j)
  · rw [hX, ← hBB]; simp [go_sem, bestF]
  · rw [hX, ← hBB]; simp [go_sem, bestF]
  · rw [hX, ← hBB]; simp [go_sem]
  · rw [hX]; exact hB2.alloc (by omega) _
 have p0 := H0.out.g0
 obtain ⟨p1, p2⟩ := HT.out X HX0.out N (by omega)
 have f0 : (0 : Int) ≤ (N : Int) := Int.natCast_nonneg _
 have f5 : ¬ (N : Int) < 0 := by omega
 have f4 : (N : Int) < (N : Int) + 1 := by omega
 have f7 : N < N + 1 := by omega
 have HM : Hid (WtOk (pes es)) := hide (wtOk_of HG.out)
 have HBX := hide hBB
 have HHH := hide p2
 clear z0 z1 y0 y1 zf hR hrc hE1 hB1 hB2 B2 HZF p2
 go_upto_region 6 with fail
 rw [← hX]
 clear hX
 go_wp2_with fail
 clear p0 p1
 go_loopw [27] (fun i wr => ∃ q : Nat, q ≤ N ∧ i = .int .i64 q ∧ Hid (RgI w S N n c BB a (bestF (pes es) N q) wr) ∧ Hid (Below w2.heap.size w2 wr)) (fun i _ => N - (intOf i).toNat)
 case atStart => exact ⟨0, Nat.zero_le _, rfl, H0, HX0⟩
 case round =>
  clear H0 HX0 HHH X
  obtain ⟨q, hq, rfl, HR, HB⟩ := hrel
  obtain ⟨wo, rfl⟩ : ∃ wo, wo = wr := ⟨_, rfl⟩
  have q0 : (0 : Int) ≤ (q : Int) := Int.natCast_nonneg _
  by_cases hql : q < N
  · have q1 : (q : Int) < (N : Int) := by omega
    have c1 := (HT.out wo HB.out N (by omega)).2 q hql
    have f9 : IntKind.i64.wrap ((q : Int) + 1) = (q : Int) + 1 := IntWalk.i64_in _ (by omega)
    have HDEF := hide (show bestF (pes es) N (q + 1) = (if kiter (pes es) N q = NONE then bestF (pes es) N q else if (bestF (pes es) N q).2 = 0 ∨ moreF (leastF (pes es) N q N) (bestF (pes es) N q) then leastF (pes es) N q N else bestF (pes es) N q) from rfl)
    obtain ⟨x, hx⟩ : ∃ x, kiter (pes es) N q = x := ⟨_, rfl⟩
    rw [hx] at c1
    have HXX := hide hx
    clear hx
    by_cases hxn : x = -4611686018427387904
    · subst hxn
      have hm9 : q + 1 ≤ N := hql
      go_wp2
      exact ⟨⟨q + 1, hm9, rfl, by rw [HDEF.out, if_pos (show kiter (pes es) N q = NONE from HXX.out)]; exact HR, HB⟩, meas9M hql⟩
    · have hxb : ((x : Int) == -4611686018427387904) = false := by simpa using hxn
      have HXN : Hid (kiter (pes es) N q ≠ NONE) := hide (by rw [HXX.out]; exact hxn)
      have HLB : Hid (∀ k, k ≤ N → (-1000000000 ≤ (leastF (pes es) N q k).1 ∧ (leastF (pes es) N q k).1 ≤ 1000000000) ∧ 0 ≤ (leastF (pes es) N q k).2 ∧ (leastF (pes es) N q k).2 ≤ 300) := hide (leastF_b HM.out hN HXN.out)
      have HBB := hide (bestF_b (N := N) HM.out hN q)
      have hxB := kiter_b HM.out (show N ≤ 1000000 by omega) HXN.out
      rw [HXX.out] at hxB
      obtain ⟨Y, hY⟩ : ∃ Y, Y = wo.alloc (.cells #[.int .i64 0, .int .i64 0] 61) := ⟨_, rfl⟩
      obtain ⟨LL, hLL⟩ : ∃ LL, wo.heap.size = LL := ⟨_, rfl⟩
      have HL0 : Hid (LsI wo LL (leastF (pes es) N q 0) Y) := hide (by rw [hY, ← hLL]; exact LsI.new)
      have p0 : Y.cell? ⟨S, 0, none⟩ = some (.int .i64 N) := (HR.out.mix HL0.out.bl).g0
      have hNc : (N : Int) ≤ (cap : Int) := by omega
      have hNc1 : (N : Int) ≤ (N : Int) + 1 := by omega
      have HLL := hide hLL
      go_upto_region 11 with fail
      rw [← hY]
      clear hY
      go_wp2_with fail
      clear p0 c1
      go_loopw [39] (fun i wr => ∃ k : Nat, k ≤ N ∧ i = .int .i64 k ∧ Hid (LsI wo LL (leastF (pes es) N q k) wr)) (fun i _ => N - (intOf i).toNat)
      case atStart => exact ⟨0, Nat.zero_le _, rfl, HL0⟩
      case round =>
       clear HL0 Y
       obtain ⟨k, hk, rfl, hLs⟩ := hrel
       have k0 : (0 : Int) ≤ (k : Int) := Int.natCast_nonneg _
       by_cases hkl : k < N
       · have k1 : (k : Int) < (N : Int) := by omega
         have hBx : Below w2.heap.size w2 wr := HB.out.trans (hLs.out.bl.mono HB.out.size)
         obtain ⟨c1, cc⟩ := HT.out wr hBx k (by omega)
         have c2 := cc q hql
         clear cc
         have f10 : IntKind.i64.wrap ((k : Int) + 1) = (k : Int) + 1 := IntWalk.i64_in _ (by omega)
         have k2 : (k : Int) < (N : Int) + 1 := by omega
         have HLD := hide (show leastF (pes es) N q (k + 1) = (if kiter (pes es) k q = NONE then leastF (pes es) N q k else if (leastF (pes es) N q k).2 = 0 ∨ moreF (leastF (pes es) N q k) (frK (pes es) N q k) then frK (pes es) N q k else leastF (pes es) N q k) from rfl)
         have hm9 : k + 1 ≤ N := hkl
         obtain ⟨y, hy⟩ : ∃ y, kiter (pes es) k q = y := ⟨_, rfl⟩
         rw [hy] at c2
         have HYY := hide hy
         clear hy
         by_cases hyn : y = -4611686018427387904
         · subst hyn
           go_wp2
           exact ⟨⟨k + 1, hm9, rfl, by rw [HLD.out, if_pos (show kiter (pes es) k q = NONE from HYY.out)]; exact hLs⟩, meas9M hkl⟩
         · have hyb : ((y : Int) == -4611686018427387904) = false := by simpa using hyn
           have HYN : Hid (kiter (pes es) k q ≠ NONE) := hide (by rw [HYY.out]; exact hyn)
           have hyB := kiter_b HM.out (show k ≤ 1000000 by omega) HYN.out
           rw [HYY.out] at hyB
           have w1' : IntKind.i64.wrap (x - y) = x - y := IntWalk.i64_in _ (by omega)
           have w2' : IntKind.i64.wrap ((N : Int) - (k : Int)) = (N : Int) - (k : Int) := IntWalk.i64_in _ (by omega)
           have hdB : -1000000000 ≤ x - y ∧ x - y ≤ 1000000000 := by omega
           have hFR : Hid (frK (pes es) N q k = (x - y, (N : Int) - (k : Int))) := hide (by unfold frK; rw [HXX.out, HYY.out]; congr 1; omega)
           have hlB := HLB.out k hk
           obtain ⟨⟨ln, ld⟩, hlf⟩ : ∃ f, leastF (pes es) N q k = f := ⟨_, rfl⟩
           have HLF := hide hlf
           rw [hlf] at hLs hlB
           have e0 := hLs.out.b0
           have e1 := hLs.out.b1
           dsimp only at e0 e1 hlB
           have g0 : wr.cell? ⟨S, 0, none⟩ = some (.int .i64 N) := (HR.out.mix hLs.out.bl).g0
           have HLL2 := hide (World.block_lt_of_cell? wr _ e0)
           have HNX : Hid (leastF (pes es) N q (k + 1) = (if ld = 0 ∨ (x - y) * ld < ln * ((N : Int) - (k : Int)) then (x - y, (N : Int) - (k : Int)) else (ln, ld))) := hide (by rw [HLD.out, if_neg HYN.out, HLF.out, hFR.out]; rfl)
           clear hlf hyB hBx
           go_upto_region 15 with fail
           have g0a : (wr.alloc (.cells #[.int .i64 0, .int .i64 0] 61)).cell? ⟨S, 0, none⟩ = some (.int .i64 N) := alloc_cell g0
           have c2a : (wr.alloc (.cells #[.int .i64 0, .int .i64 0] 61)).cell? ⟨gs k, q, none⟩ = some (.int .i64 y) := alloc_cell c2
           go_region
           obtain ⟨V, hV⟩ : ∃ V, V = (wr.alloc (.cells #[.int .i64 (x - y), .int .i64 ((N : Int) - (k : Int))] 61)).drew := ⟨_, rfl⟩
           have hVB : Below wr.heap.size wr V := by rw [hV]; exact ((Below.refl _ _).alloc (Nat.le_refl _) _).drew
           have v0 : V.cell? ⟨wr.heap.size, 0, none⟩ = some (.int .i64 (x - y)) := by rw [hV]; simp [go_sem]
           have v1 : V.cell? ⟨wr.heap.size, 1, none⟩ = some (.int .i64 ((N : Int) - (k : Int))) := by rw [hV]; simp [go_sem]
           have HV := hide (hLs.out.below hVB)
           rw [← hV]
           have hkd : (0 : Int) ≤ (N : Int) - (k : Int) ∧ (N : Int) - (k : Int) ≤ 300 := by omega
           clear hV hVB g0a c2a c2 c1 g0 e0 e1
           by_cases hld : ld = 0
           · subst hld
             have HN1 : Hid (leastF (pes es) N q (k + 1) = (x - y, (N : Int) - (k : Int))) := hide (by rw [HNX.out, if_pos (.inl rfl)])
             have e0 := HV.out.b0
             have e1 := HV.out.b1
             have ef0 := HV.out.bf 0
             have ef1 := HV.out.bf 1
             dsimp only at e0 e1
             go_wp2
             exact ⟨⟨k + 1, hm9, rfl, by rw [HN1.out]; exact hide (HV.out.put _ _)⟩, meas9M hkl⟩
           · have hldb : ((ld : Int) == 0) = false := by simpa using hld
             have e0 := HV.out.b0
             have e1 := HV.out.b1
             dsimp only at e0 e1
             have HCALL := hide (more_any ln ld (x - y) ((N : Int) - (k : Int)) V hlB.1 hdB hlB.2 hkd)
             have hvl := World.block_lt_of_cell? V _ v0
             have HLd := hide hld
             by_cases hc : (x - y) * ld < ln * ((N : Int) - (k : Int))
             · have hcb : decide ((x - y) * ld < ln * ((N : Int) - (k : Int))) = true := decide_eq_true hc
               have HN1 : Hid (leastF (pes es) N q (k + 1) = (x - y, (N : Int) - (k : Int))) := hide (by rw [HNX.out, if_pos (.inr hc)])
               clear hc hld
               rw [hcb] at HCALL
               go_wp2_with (go_at_call 47; refine HCALL.out.mono ?_; rintro e w5 ⟨rfl, B5⟩; have e0 := (HV.out.below B5).b0; have e1 := (HV.out.below B5).b1; have ef0 := (HV.out.below B5).bf 0; have ef1 := (HV.out.below B5).bf 1; have v0 := (B5.cell (p := ⟨wr.heap.size, 0, none⟩) hvl).trans v0; have v1 := (B5.cell (p := ⟨wr.heap.size, 1, none⟩) hvl).trans v1; have HV5 := hide (HV.out.below B5); clear B5; dsimp only at e0 e1)
               exact ⟨⟨k + 1, hm9, rfl, by rw [HN1.out]; exact hide (HV5.out.put _ _)⟩, meas9M hkl⟩
             · have hcb : decide ((x - y) * ld < ln * ((N : Int) - (k : Int))) = false := decide_eq_false hc
               have HN1 : Hid (leastF (pes es) N q (k + 1) = (ln, ld)) := hide (by rw [HNX.out, if_neg (fun h => h.elim hld hc)])
               clear hc hld
               rw [hcb] at HCALL
               go_wp2_with (go_at_call 47; refine HCALL.out.mono ?_; rintro e w5 ⟨rfl, B5⟩; have HV5 := hide (HV.out.below B5); clear B5)
               exact ⟨⟨k + 1, hm9, rfl, by rw [HN1.out]; exact HV5⟩, meas9M hkl⟩
       · obtain rfl : k = N := by omega
         have hlB := HLB.out k (Nat.le_refl _)
         have hbB := HBB.out
         obtain ⟨⟨ln, ld⟩, hlf⟩ : ∃ f, leastF (pes es) k q k = f := ⟨_, rfl⟩
         obtain ⟨⟨bn, bd⟩, hbf⟩ : ∃ f, bestF (pes es) k q = f := ⟨_, rfl⟩
         have HLF := hide hlf
         have HBF := hide hbf
         rw [hlf] at hLs hlB
         have HRr := hide (HR.out.mix hLs.out.bl)
         rw [hbf] at HRr hbB
         dsimp only at hlB hbB
         have HNX : Hid (bestF (pes es) k (q + 1) = (if bd = 0 ∨ bn * ld < ln * bd then (ln, ld) else (bn, bd))) := hide (by rw [HDEF.out, if_neg HXN.out, HLF.out, HBF.out]; rfl)
         have HBr := hide (HB.out.trans (hLs.out.bl.mono HB.out.size))
         have hm9 : q + 1 ≤ k := hql
         clear hlf hbf
         have e0 := hLs.out.b0
         have e1 := hLs.out.b1
         have b0 := HRr.out.b0
         have b1 := HRr.out.b1
         dsimp only at e0 e1 b0 b1
         by_cases hld : bd = 0
         · subst hld
           have HN1 : Hid (bestF (pes es) k (q + 1) = (ln, ld)) := hide (by rw [HNX.out, if_pos (.inl rfl)])
           have bf0 := HRr.out.bf 0
           have bf1 := HRr.out.bf 1
           go_wp2
           exact ⟨⟨q + 1, hm9, rfl, by rw [HN1.out]; exact hide (HRr.out.put _ _), hide ((HBr.out.setCell (by simp only; exact Nat.le_of_eq HBX.out) _).setCell (by simp only; exact Nat.le_of_eq HBX.out) _)⟩, meas9M hql⟩
         · have hldb : ((bd : Int) == 0) = false := by simpa using hld
           have HCALL := hide (more_any ln ld bn bd wr hlB.1 hbB.1 hlB.2 hbB.2)
           have HLd := hide hld
           by_cases hc : bn * ld < ln * bd
           · have hcb : decide (bn * ld < ln * bd) = true := decide_eq_true hc
             have HN1 : Hid (bestF (pes es) k (q + 1) = (ln, ld)) := hide (by rw [HNX.out, if_pos (.inr hc)])
             clear hc hld
             rw [hcb] at HCALL
             go_wp2_with (go_at_call 47; refine HCALL.out.mono ?_; rintro e w5 ⟨rfl, B5⟩; have e0 := (hLs.out.below B5).b0; have e1 := (hLs.out.below B5).b1; have HR5 := hide (HRr.out.below B5); have HB5 := hide (HBr.out.trans (B5.mono HBr.out.size)); have b0 := HR5.out.b0; have b1 := HR5.out.b1; have bf0 := HR5.out.bf 0; have bf1 := HR5.out.bf 1; clear B5; dsimp only at e0 e1 b0 b1)
             exact ⟨⟨q + 1, hm9, rfl, by rw [HN1.out]; exact hide (HR5.out.put _ _), hide ((HB5.out.setCell (by simp only; exact Nat.le_of_eq HBX.out) _).setCell (by simp only; exact Nat.le_of_eq HBX.out) _)⟩, meas9M hql⟩
           · have hcb : decide (bn * ld < ln * bd) = false := decide_eq_false hc
             have HN1 : Hid (bestF (pes es) k (q + 1) = (bn, bd)) := hide (by rw [HNX.out, if_neg (fun h => h.elim hld hc)])
             clear hc hld
             rw [hcb] at HCALL
             go_wp2_with (go_at_call 47; refine HCALL.out.mono ?_; rintro e w5 ⟨rfl, B5⟩; have HR5 := hide (HRr.out.below B5); have HB5 := hide (HBr.out.trans (B5.mono HBr.out.size)); clear B5)
             exact ⟨⟨q + 1, hm9, rfl, by rw [HN1.out]; exact HR5, HB5⟩, meas9M hql⟩
  · obtain rfl : q = N := by omega
    have hbB := bestF_b (N := q) HM.out hN q
    obtain ⟨⟨bn, bd⟩, hbf⟩ : ∃ f, bestF (pes es) q q = f := ⟨_, rfl⟩
    rw [hbf] at HR hbB
    have b0 := HR.out.b0
    have b1 := HR.out.b1
    dsimp only at b0 b1 hbB
    by_cases hd : bd = 0
    · subst hd
      have HNC : Hid (¬ HasCyc es) := hide (fun hc => by have := (great_prog HG.out hc).1; rw [hbf] at this; simp at this)
      have z0 := HR.out.r0
      have z1 := HR.out.r1
      have zf0 := HR.out.rf 0
      have zf1 := HR.out.rf 1
      go_wp2
      obtain ⟨Z, hZ, c0, c1, zB⟩ : ∃ Z, Z = (wo.setCell ⟨S + 1, 0, none⟩ (.int .i64 0)).setCell ⟨S + 1, 1, none⟩ (.int .i64 0) ∧ FracEnd2 w S 0 0 Z := ⟨_, rfl, frac_endS z0 z1 HR.out.bl⟩
      rw [← hZ]
      refine bodyPost_ret (v := .tuple #[.agg #[.int .i64 0, .int .i64 0], .int .i64 3]) ?_ rfl ⟨⟨0, 0, 3, rfl, .inr (.inl ⟨HG.out, HNC.out, rfl, rfl, rfl⟩)⟩, ?_⟩
      · simp [results, Tryz.f23, go_sem, c0, c1]
      · rw [HS.out]; exact zB
    · have hdb : ((bd : Int) == 0) = false := by simpa using hd
      have HC : Hid (HasCyc es) := by
       refine hide ?_
       by_cases hc : HasCyc es
       · exact hc
       · have := great_none HG.out hc; rw [hbf] at this; exact absurd this hd
      obtain ⟨hp0, hgr⟩ := great_prog HG.out HC.out
      rw [hbf] at hp0 hgr
      dsimp only at hp0 hgr
      have HGR := hide hgr
      clear hgr hbf
      go_wp2_with fail
      refine (mlowest_any bn bd wo hp0 ⟨by omega, by omega⟩ (by omega)).mono ?_
      rintro e w5 ⟨rfl, B5⟩
      have HR5 := hide (HR.out.below B5)
      have z0 := HR5.out.r0
      have z1 := HR5.out.r1
      have zf0 := HR5.out.rf 0
      have zf1 := HR5.out.rf 1
      obtain ⟨u, hu⟩ : ∃ u, bn / (Int.gcd bn bd : Int) = u := ⟨_, rfl⟩
      obtain ⟨v, hv⟩ : ∃ v, bd / (Int.gcd bn bd : Int) = v := ⟨_, rfl⟩
      rw [hu, hv]
      have HGR := hide (show GreatSays q es u v 0 by have := HGR.out; rw [hu, hv] at this; exact this)
      clear hu hv B5
      go_wp2
      obtain ⟨Z, hZ, c0, c1, zB⟩ : ∃ Z, Z = (w5.setCell ⟨S + 1, 0, none⟩ (.int .i64 u)).setCell ⟨S + 1, 1, none⟩ (.int .i64 v) ∧ FracEnd2 w S u v Z := ⟨_, rfl, frac_endS z0 z1 HR5.out.bl⟩
      rw [← hZ]
      refine bodyPost_ret (v := .tuple #[.agg #[.int .i64 u, .int .i64 v], .int .i64 0]) ?_ rfl ⟨⟨u, v, 0, rfl, HGR.out⟩, ?_⟩
      · simp [results, Tryz.f23, go_sem, c0, c1]
      · rw [HS.out]; exact zB
end Go.Proofs.YtjjikhaaimfneaaGreatDoor
namespace Go.Proofs.YtjjikhaaimfneaaGreatDoor
open Go.RowKit
set_option linter.unusedSimpArgs false
set_option linter.unusedVariables false
theorem out_edge {k0 k1 R Q J who ratio : Int} {X : Sx} (SG : SrGood k0 k1 R Q J X) {v : Nat} (hv : v < X.states.length) : ∃ e ∈ pes (geOf X who ratio), e.src = v := by
 obtain ⟨q, _, _, hfl, _⟩ := SG.fl
 have hM : 0 < (q + 1) * (q + 1) := Nat.mul_pos (by omega) (by omega)
 have h1 := flOf_get (q := q) (n := X.states.length) (i := v * ((q + 1) * (q + 1))) (Nat.mul_lt_mul_of_pos_right hv hM)
 rw [← hfl, List.getElem?_map, Nat.mul_div_cancel _ hM] at h1
 obtain ⟨E, hE, hf⟩ := Option.map_eq_some_iff.1 h1
 have hEf : E.f = v := congrArg Prod.fst hf
 have hm := List.mem_of_getElem? (geOf_at (who := who) (ratio := ratio) hE)
 exact ⟨peOf ⟨(E.f : Int), (E.t : Int), wtE who ratio E.us⟩, List.mem_map_of_mem hm, by simp [peOf, hEf]⟩
theorem edges_none (w : World) : EdgesAt w none 0 0 [] := by
 refine ⟨rfl, Nat.le_refl _, by omega, fun h => absurd h (by simp)⟩
theorem graph_v {k0 k1 R Q J who ratio kind most err : Int} (hv : VSays k0 k1 R Q J who ratio kind most err) (w : World) :
 Calls Tryz.prog 22 #[.agg #[.int .i64 k0, .int .i64 k1, .int .i64 R, .int .i64 Q, .int .i64 J], .int .i64 who, .int .i64 ratio] w fun e w' => (∃ (N : Nat) (a : Option Addr) (n c : Nat) (es : List GE), e = .returned (.tuple #[.agg #[.int .i64 N, .slice a n c], .int .i64 err]) ∧ EdgesAt w' a n c es ∧ GraphOk (N : Int) es ∧ (err = 0 → HasCyc es ∧ (kind = 2 ↔ ¬ HasPot es))) ∧ Below w.heap.size w w' := by
 have g0 : GraphOk ((0 : Nat) : Int) [] := ⟨⟨by omega, by omega, by simp⟩, fun e h => absurd h (by simp)⟩
 rcases hv with ⟨hg, rfl, rfl, rfl⟩ | ⟨hg, r, X, hs, ho⟩
 · refine (graph_range k0 k1 R Q J who ratio w (by unfold goodArgs at hg; omega)).mono ?_
   rintro e w' ⟨rfl, hb⟩
   exact ⟨⟨0, none, 0, 0, [], rfl, edges_none w', g0, fun h => by omega⟩, hb⟩
 · refine (graph_srch hs who ratio w hg).mono ?_
   rintro e w' (⟨h0, rfl, hb⟩ | ⟨rfl, v, B, rfl, hrow, hb⟩)
   · rcases ho with ⟨_, rfl, rfl, rfl⟩ | ⟨h1, _⟩
     · exact ⟨⟨0, none, 0, 0, [], rfl, edges_none w', g0, fun h => absurd h h0⟩, hb⟩
     · exact absurd h1 h0
   · rcases ho with ⟨h1, _⟩ | ⟨_, rfl, hk⟩
     · exact absurd rfl h1
     have SG := srch_good hs
     obtain ⟨a, c, rfl⟩ := sliceShape hrow
     have hG := geOf_ok SG.ok SG.most hg
     refine ⟨⟨X.states.length, a, X.edges.length, c, geOf X who ratio, rfl, edgesAt_row hrow rfl SG.most, hG, fun _ => ⟨?_, ?_⟩⟩, hb⟩
     · exact cyc_of_out (pes_in hG) SG.ok.one (fun v hv => out_edge SG hv)
     · rcases hk with ⟨h1, rfl, _⟩ | ⟨h1, rfl, _⟩
       · exact ⟨fun h => by omega, fun h => absurd h1 h⟩
       · exact ⟨fun _ => h1, fun _ => rfl⟩
theorem great_sign {N : Nat} {es : List GE} {x y r : Int} (hG : GraphOk (N : Int) es) (hc : HasCyc es) (h : GreatSays N es x y r) : r = 0 ∧ (0 < x ↔ ¬ HasPot es) := by
 rcases h with ⟨h1, _⟩ | ⟨_, h1, _⟩ | ⟨_, rfl, p, q, hm, rfl, _⟩
 · exact absurd hG h1
 · exact absurd hc h1
 · refine ⟨rfl, ?_⟩
   rw [gcd_sign hm.pos]
   exact mean_sign (pes_in hG) hm
end Go.Proofs.YtjjikhaaimfneaaGreatDoor
