/-
  Lemmas and walks for the statement: Cycle, VJudP, Most, VJud.
-/
import Derived.Test.YtjjikhaaimfneaaGreatDoorU45
import Derived.Test.YtjjikhaaimfneaaGreatDoorU31
import Derived.Test.YtjjikhaaimfneaaGreatDoorU30
import Derived.Test.YtjjikhaaimfneaaGreatDoorU28
import Derived.Deep.DeepCutAuto
import Derived.Maps.AppendAt
namespace Go.Proofs.YtjjikhaaimfneaaGreatDoor
open Go.RowKit
set_option linter.unusedSimpArgs false
set_option linter.unusedVariables false
attribute [local go_sem] iteMin iteMax iteMinN iteMaxN
theorem intInfoCy : (Tryz.prog.info? 3).map (fun i => (i.zero, i.size, i.bytes)) = some (some (.int .i64 0), 1, 8) := by kernel_rfl
theorem cyc_edge {N n : Nat} {es : List GE} {s : PS} {v p : Nat} (hg : GraphOk (N : Int) es) (hf : Found (pes es) N s v p) (hn : es.length = n) (k : Nat) : ∃ (j : Nat) (z : Int), Hid (s.b (prevN (pes es) s k v) = (j : Int)) ∧ (j : Int) < (n : Int) ∧ (0 : Int) ≤ (j : Int) ∧ prevN (pes es) s (k + 1) v < N ∧ prevN (pes es) s k v < N ∧ Hid (es[j]? = some ⟨(prevN (pes es) s (k + 1) v : Nat), (prevN (pes es) s k v : Nat), z⟩) := by
 obtain ⟨h1, h2, h3, h4, h5⟩ := hf.on k
 have h6 := (hf.on (k + 1)).1
 rw [show ∀ i, (pes es)[i]? = es[i]?.map peOf from fun i => List.getElem?_map] at h3
 obtain ⟨g, hg1, hg2⟩ := Option.map_eq_some_iff.1 h3
 have hok := hg.2 _ (List.mem_of_getElem? hg1)
 unfold EdgeOk at hok
 have e1 : prevN (pes es) s (k + 1) v = (eby (pes es) s (prevN (pes es) s k v)).src := rfl
 have h7 := (List.getElem?_eq_some_iff.1 hg1).1
 refine ⟨(s.b (prevN (pes es) s k v)).toNat, g.wt, by show _ = _; omega, by omega, by omega, h6, h1, ?_⟩
 show es[_]? = _
 rw [hg1, e1]
 have h8 : (eby (pes es) s (prevN (pes es) s k v)).dst = prevN (pes es) s k v := h5
 rw [← hg2] at h8 ⊢
 simp only [peOf] at h8 ⊢
 congr 1
 cases g
 simp only at *
 simp only [GE.mk.injEq, and_true]
 omega
def lenV : Value → Nat
 | .slice _ n _ => n
 | _ => 0
theorem own_lenV {w : World} {B e k : Nat} {v : Value} {xs : List Value} (h : w.ownsRow B e 1 v k xs) : lenV v = k := by
 rcases h.2 with ⟨rfl, h1⟩ | ⟨g, cap, cur, rfl, _⟩
 · simp only [lenV]; have := h.1; simp_all
 · rfl
theorem lenV_slice (a : Option Addr) (k c : Nat) : lenV (.slice a k c) = k := rfl
theorem own_slice {w : World} {B e k : Nat} {v : Value} {xs : List Value} (h : w.ownsRow B e 1 v k xs) : ∃ a c, v = .slice a k c := by
 have h0 := own_lenV h
 rcases h.2 with ⟨rfl, _⟩ | ⟨g, cap, cur, rfl, _⟩
 · simp only [lenV] at h0; subst h0; exact ⟨_, _, rfl⟩
 · exact ⟨_, _, rfl⟩
def CycEnds (N : Int) (es : List GE) (e : Ending) (w' : World) : Prop :=
 (¬ GraphOk N es ∧ e = .returned (.tuple #[.slice none 0 0, .int .i64 2])) ∨
 (GraphOk N es ∧ HasPot es ∧ e = .returned (.tuple #[.slice none 0 0, .int .i64 3])) ∨
 (GraphOk N es ∧ ¬ HasPot es ∧ ∃ b m d ns, e = .returned (.tuple #[.slice b m d, .int .i64 0]) ∧ IntsAt w' b m d ns ∧ CycSays N.toNat es ns)
set_option maxRecDepth 100000 in
set_option maxHeartbeats 4000000 in
theorem cycle_ok (N : Nat) (a : Option Addr) (n c : Nat) (es : List GE) (w : World) (h : EdgesAt w a n c es) (hg : GraphOk (N : Int) es) :
 Calls Tryz.prog 40 #[.agg #[.int .i64 N, .slice a n c]] w fun e w' => CycEnds N es e w' ∧ Below w.heap.size w w' := by
 obtain ⟨i0, hi0, hz0, hz1, hz2⟩ := info_parts intInfoCy
 have HG := hide hg
 have hN : N ≤ 300 := by have := hg.1.2.1; omega
 obtain ⟨G, hG⟩ : ∃ G, w.heap.size = G := ⟨_, rfl⟩
 obtain ⟨W, hW⟩ : ∃ W, W = w.alloc (.cells #[.int .i64 N, .slice a n c] 57) := ⟨_, rfl⟩
 have hWB : Below w.heap.size w W := by rw [hW]; exact (Below.refl _ _).alloc (Nat.le_refl _) _
 have hWs : W.heap.size = G + 1 := by rw [hW, ← hG]; simp
 have e0 : W.cell? ⟨G, 0, none⟩ = some (.int .i64 N) := by rw [hW, ← hG]; simp [go_sem]
 have e1 : W.cell? ⟨G, 1, none⟩ = some (.slice a n c) := by rw [hW, ← hG]; simp [go_sem]
 have hE := h.below hWB
 have HGs := hide hG
 have C0 := hide hWB
 clear hg h hWB
 go_enter Tryz.func40, Tryz.ntmps40
 rw [hG]
 go_wp2_with fail
 (try rw [hG])
 rw [← hW]
 clear hW
 refine (wrong_any _ _ _ _ _ _ hE).mono ?_
 rintro e w1 ⟨⟨r, hr, rfl⟩, B1⟩
 obtain rfl : r = 0 := by rcases hr with ⟨h1, _⟩ | ⟨_, h2⟩; exact h1; exact absurd HG.out h2
 have hG1 : G < W.heap.size := by omega
 have b0 := (B1.cell hG1).trans e0
 have b1 := (B1.cell hG1).trans e1
 have hE1 := hE.below B1
 have C1 := hide (C0.out.trans (B1.mono C0.out.size))
 have hG2 : G < w1.heap.size := by have := B1.size; omega
 clear hr hE e0 e1 B1 hWs hG1
 go_wp2_with fail
 refine (solve_any _ _ _ _ _ _ hE1 HG.out).mono ?_
 rintro e w2 ⟨⟨q, sb, gm, gb, hS⟩, B2⟩
 obtain ⟨rfl, hq, c0, c1, c2, c3, tm, tb⟩ := hS
 have d0 := (B2.cell hG2).trans b0
 have d1 := (B2.cell hG2).trans b1
 have C2 := hide (C1.out.trans (B2.mono C1.out.size))
 have hE2 := hE1.below B2
 have HQ := hide hq
 have HTB := hide tb
 have hG3 : G < w2.heap.size := by have := B2.size; omega
 have hsb : sb < w2.heap.size := World.block_lt_of_cell? w2 _ c3
 clear hq tm tb hE1 b0 b1 B2 hG2 c0 c1 c2
 obtain ⟨L, hL⟩ : ∃ L, q.last = L := ⟨_, rfl⟩
 rw [hL]
 have HL := hide hL
 clear hL
 rcases Int.lt_or_le L 0 with hl | hl
 · have HF := hide (solved_pot HG.out HQ.out (by rw [HL.out]; exact hl))
   go_wp2
   go_ret2
   exact ⟨.inr (.inl ⟨HG.out, HF.out.1, rfl⟩), by rw [← HGs.out]; exact C2.out⟩
 · have HNP := hide (solved_no HG.out HQ.out (by rw [HL.out]; exact hl))
   obtain ⟨v, p, hf⟩ : ∃ v p, Found (pes es) N q v p := by
    obtain ⟨r, hr, hq, h1 | ⟨rfl, h1⟩⟩ := HQ.out
    · have := HL.out; omega
    · rw [hq]; exact found (pes_in HG.out) (by rw [← hq]; exact h1)
   obtain rfl : L = (v : Int) := HL.out.symm.trans hf.last
   have HF := hide hf
   have hN0 : (0 : Int) ≤ (N : Int) := Int.natCast_nonneg _
   clear hf HL hl
   go_wp2
   go_loopw [6, 23] (fun x i wr => ∃ k cc : Nat, k ≤ N ∧ i = .int .i64 k ∧ x = .int .i64 cc ∧ Hid (cc = prevN (pes es) q k v) ∧ Below w2.heap.size w2 wr) (fun _ i _ => N - (intOf i).toNat)
   case atStart => exact ⟨0, v, Nat.zero_le _, rfl, rfl, hide rfl, Below.refl _ _⟩
   case round =>
    obtain ⟨k, cc, hk, rfl, rfl, HC, hB⟩ := hrel
    have k0 : (0 : Int) ≤ (k : Int) := Int.natCast_nonneg _
    have x0 := (hB.cell hG3).trans d0
    have x1 := (hB.cell hG3).trans d1
    by_cases hlt : k < N
    · have k1 : (k : Int) < (N : Int) := by omega
      have x3 := (hB.cell hsb).trans c3
      obtain ⟨j, z, HJ, hjn, hj0, hc2, hcc, HZ⟩ := cyc_edge HG.out HF.out hE2.len k
      have HNX := hide (show prevN (pes es) q (k + 1) v = prevN (pes es) q (k + 1) v from rfl)
      obtain ⟨nx, hnx⟩ : ∃ nx, nx = prevN (pes es) q (k + 1) v := ⟨_, rfl⟩
      have HN2 := hide hnx
      rw [← HC.out] at hcc
      rw [← HN2.out, ← HC.out] at HZ
      rw [← HC.out] at HJ
      have cc0 : (0 : Int) ≤ (cc : Int) := Int.natCast_nonneg _
      have cc1 : (cc : Int) < (N : Int) := by omega
      have xb : wr.cell? ⟨gb, cc, none⟩ = some (.int .i64 j) := by rw [← HJ.out]; exact (HTB.out.below hB).cell hcc
      obtain ⟨ad, x, y, z', rfl, hbd, HX, g0, g1, g2⟩ := hE2.getB hB (show j < n by omega)
      obtain ⟨rfl, rfl⟩ : x = (nx : Int) ∧ y = (cc : Int) := by
       have h1 := HX.out; rw [HZ.out] at h1; injection h1 with h1; injection h1 with h1 h2; exact ⟨h1.symm, h2.symm⟩
      clear hnx hcc hc2
      go_wp2
      go_quiet (fail)
      go_wp2
      go_roundw
      case rel => exact ⟨k + 1, nx, by omega, by go_num, rfl, hide HN2.out, Go.below_drewN hB _⟩
      case measure => (simp [intOf] <;> omega)
    · obtain rfl : k = N := by omega
      have HCY := hide (cyc_says HG.out HF.out)
      have HZL := hide (bRow_len (pes es) q cc p)
      rw [← HC.out] at HCY
      have HBo := hide hB
      have hp1 : p ≤ k := HF.out.le
      clear x0 x1
      go_wp2
      go_loopw [7, 8] (fun o x wr => ∃ t cc2 : Nat, t ≤ p ∧ x = .int .i64 cc2 ∧ Hid (cc2 = prevN (pes es) q t cc) ∧ wr.ownsRow w2.heap.size 3 1 o t (((bRow (pes es) q cc p).take t).map (Value.int .i64)) ∧ Below w2.heap.size w2 wr) (fun o _ _ => p - lenV o)
      case atStart => exact ⟨0, cc, Nat.zero_le _, rfl, hide rfl, own_start _ _ _ _, HBo.out⟩
      case round =>
       obtain ⟨t, cc2, ht, rfl, HC2, hown, hB⟩ := hrel
       obtain ⟨va, vc, rfl⟩ := own_slice hown
       have t0 : (0 : Int) ≤ (t : Int) := Int.natCast_nonneg _
       have hBs := hB.size
       by_cases hlt2 : t < p
       · have hcond : t = 0 ∨ cc2 ≠ cc := by
          rcases Nat.eq_zero_or_pos t with h0 | h0
          · exact .inl h0
          · right
            have h1 := HF.out.first t h0 hlt2
            rw [← HC.out, ← HC2.out] at h1
            exact h1
         have HC3 := hide (show cc2 = prevN (pes es) q (k + t) v by rw [HC2.out, HC.out, ← prevN_add])
         obtain ⟨j, z, HJ, hjn, hj0, hc2, hcc, HZ⟩ := cyc_edge HG.out HF.out hE2.len (k + t)
         obtain ⟨nx, hnx⟩ : ∃ nx, nx = prevN (pes es) q (k + t + 1) v := ⟨_, rfl⟩
         have HN2 := hide (show nx = prevN (pes es) q (t + 1) cc by rw [hnx, HC.out, ← prevN_add, Nat.add_assoc])
         rw [← HC3.out] at hcc
         rw [← hnx, ← HC3.out] at HZ
         rw [← HC3.out] at HJ
         have cc0 : (0 : Int) ≤ (cc2 : Int) := Int.natCast_nonneg _
         have cc1 : (cc2 : Int) < (k : Int) := by omega
         have HXB := hide (show ∀ w', Below w2.heap.size w2 w' → w'.cell? ⟨gb, cc2, none⟩ = some (.int .i64 j) from fun w' hb => by rw [← HJ.out]; exact (HTB.out.below hb).cell hcc)
         have HAP := hide (show (j : Int) = (bRow (pes es) q cc p).getD t 0 by
          rw [List.getD_eq_getElem?_getD, bRow_at hlt2, ← HC2.out, HJ.out]; rfl)
         have xb := HXB.out _ hB
         have x3 := (hB.cell hsb).trans c3
         have hBB := hide hB
         clear hnx hcc hc2
         have hcase : ((t : Int) = 0 ∧ t = 0) ∨ (((t : Int) == 0) = false ∧ ((cc2 : Int) == (cc : Int)) = false) := by
          rcases Nat.eq_zero_or_pos t with h0 | h0
          · exact .inl ⟨by omega, h0⟩
          · refine .inr ⟨by simp; omega, ?_⟩
            rcases hcond with h1 | h1
            · omega
            · simp; omega
         clear hcond
         rcases hcase with ⟨q0, rfl⟩ | ⟨q0, q1⟩
         · have hXX := hide (lenV_slice va 0 vc)
           go_wp2_with ((at_builtin; refine wpList_append_own _ rfl _ _ 24 rfl w2.heap.size 3 i0 (.int .i64 0) 1 8 Tryz.underlying24 hi0 hz0 hz1 hz2 rfl (by decide) _ _ _ rfl (hown.alloc _) ⟨wr.heap.size, 0, none⟩ 1 1 [.int .i64 (j)] rfl rfl (cell_one_new _ _ _) (by simp [Value.oneCell']) (by unfold maxLen; omega) (by omega) (by simp; omega) ?_; intro v' w1 hown1 hgrow _))
           go_wp2
           have hB1 := (hBB.out.alloc hBs _).grown hgrow (by simp; omega) (own_row hown)
           have y1 := (hB1.cell hG3).trans d1
           have y3 := (hB1.cell hsb).trans c3
           have yb := HXB.out _ hB1
           obtain ⟨ad, x, y, z', rfl, hbd, HX, g0, g1, g2⟩ := hE2.getB hB1 (show j < n by omega)
           obtain ⟨rfl, rfl⟩ : x = (nx : Int) ∧ y = (cc2 : Int) := by
            have h1 := HX.out; rw [HZ.out] at h1; injection h1 with h1; injection h1 with h1 h2; exact ⟨h1.symm, h2.symm⟩
           have HO := hide (own_next (by rw [HZL.out]; exact hlt2) HAP.out hown1)
           have HB1 := hide hB1
           clear hown hown1 hgrow xb x3 hB
           go_quiet (fail)
           go_wp2
           go_roundw
           case rel => exact ⟨0 + 1, nx, by omega, rfl, hide HN2.out, HO.out, Go.below_drewN HB1.out _⟩
           case measure => (have := own_lenV HO.out; have := hXX.out; omega)
         · have hXX := hide (lenV_slice va t vc)
           go_wp2_with ((at_builtin; refine wpList_append_own _ rfl _ _ 24 rfl w2.heap.size 3 i0 (.int .i64 0) 1 8 Tryz.underlying24 hi0 hz0 hz1 hz2 rfl (by decide) _ _ _ rfl (hown.alloc _) ⟨wr.heap.size, 0, none⟩ 1 1 [.int .i64 (j)] rfl rfl (cell_one_new _ _ _) (by simp [Value.oneCell']) (by unfold maxLen; omega) (by omega) (by simp; omega) ?_; intro v' w1 hown1 hgrow _))
           go_wp2
           have hB1 := (hBB.out.alloc hBs _).grown hgrow (by simp; omega) (own_row hown)
           have y1 := (hB1.cell hG3).trans d1
           have y3 := (hB1.cell hsb).trans c3
           have yb := HXB.out _ hB1
           obtain ⟨ad, x, y, z', rfl, hbd, HX, g0, g1, g2⟩ := hE2.getB hB1 (show j < n by omega)
           obtain ⟨rfl, rfl⟩ : x = (nx : Int) ∧ y = (cc2 : Int) := by
            have h1 := HX.out; rw [HZ.out] at h1; injection h1 with h1; injection h1 with h1 h2; exact ⟨h1.symm, h2.symm⟩
           have HO := hide (own_next (by rw [HZL.out]; exact hlt2) HAP.out hown1)
           have HB1 := hide hB1
           clear hown hown1 hgrow xb x3 hB
           go_quiet (fail)
           go_wp2
           go_roundw
           case rel => exact ⟨t + 1, nx, by omega, rfl, hide HN2.out, HO.out, Go.below_drewN HB1.out _⟩
           case measure => (have := own_lenV HO.out; have := hXX.out; omega)
       · obtain rfl : t = p := by omega
         have ht0 : 0 < t := HF.out.pos
         obtain rfl : cc2 = cc := by
          have h1 := HF.out.back
          rw [← HC.out] at h1
          rw [HC2.out]; exact h1
         have q0 : ((t : Int) == 0) = false := by simp; omega
         have hown2 : wr.ownsRow w2.heap.size 3 1 (.slice va t vc) (bRow (pes es) q cc2 t).length ((bRow (pes es) q cc2 t).map (Value.int .i64)) := by
          rw [HZL.out]
          have h1 := hown
          rw [List.take_of_length_le (by rw [HZL.out]; exact Nat.le_refl _)] at h1
          exact h1
         obtain ⟨gr, cap, hv, hcall⟩ := rev_own (by rw [HZL.out]; exact ht0) (by rw [HZL.out]; omega) hown2 hBs
         rw [HZL.out] at hv hcall
         injection hv with hv1 _ hv2
         subst hv1; subst hv2
         have HCA := hide hcall
         have HBB := hide hB
         clear hcall hown hown2 hB
         go_wp2_with (go_at_call 62; refine HCA.out.mono ?_; rintro e w5 ⟨rfl, hI5, hB5⟩; have HI5 := hide hI5; have HB5 := hide hB5; clear hI5 hB5)
         go_ret2
         refine ⟨.inr (.inr ⟨HG.out, HNP.out, _, _, _, _, rfl, HI5.out, HCY.out⟩), ?_⟩
         rw [← HGs.out]
         exact C2.out.trans ((HBB.out.trans (HB5.out)).mono C2.out.size)
end Go.Proofs.YtjjikhaaimfneaaGreatDoor
namespace Go.Proofs.YtjjikhaaimfneaaGreatDoor
open Go.RowKit
set_option linter.unusedSimpArgs false
set_option linter.unusedVariables false
theorem srch_one {k0 k1 R Q J r r' : Int} {X X' : Sx} (h : Srch k0 k1 R Q J r X) (h' : Srch k0 k1 R Q J r' X') : r = r' ∧ (r = 0 → X = X') := by
 rcases h with ⟨h0, _, hw, hn⟩ | ⟨q, kk, rfl, hk, hr, hE, ho⟩ <;> rcases h' with ⟨h0', _, hw', hn'⟩ | ⟨q', kk', e', hk', hr', hE', ho'⟩
 · exact ⟨wrongSays_one hw hw', fun e => absurd e h0⟩
 · subst e'; exact absurd ⟨hk', hr'⟩ hn
 · exact absurd ⟨hk, hr⟩ hn'
 · obtain rfl : q = q' := by omega
   obtain rfl := hE.one hE'
   rcases ho with ⟨hf, rfl⟩ | ⟨hf, rfl, rfl⟩ <;> rcases ho' with ⟨hf', rfl⟩ | ⟨hf', rfl, rfl⟩
   · exact ⟨rfl, fun e => by cases e⟩
   · rw [hf] at hf'; cases hf'
   · rw [hf] at hf'; cases hf'
   · exact ⟨rfl, fun _ => rfl⟩
def VSays (k0 k1 R Q J who ratio kind most err : Int) : Prop :=
 (¬ goodArgs who ratio ∧ kind = 0 ∧ most = 0 ∧ err = 2) ∨
 (goodArgs who ratio ∧ ∃ r X, Srch k0 k1 R Q J r X ∧ ((r ≠ 0 ∧ kind = 0 ∧ most = 0 ∧ err = r) ∨
  (r = 0 ∧ err = 0 ∧ ((HasPot (geOf X who ratio) ∧ kind = 1 ∧ most = mostOf X.states.length (geOf X who ratio)) ∨ (¬ HasPot (geOf X who ratio) ∧ kind = 2 ∧ most = 0)))))
theorem vsays_one {k0 k1 R Q J who ratio kind most err kind' most' err' : Int} (h : VSays k0 k1 R Q J who ratio kind most err) (h' : VSays k0 k1 R Q J who ratio kind' most' err') : kind = kind' ∧ most = most' ∧ err = err' := by
 rcases h with ⟨hg, rfl, rfl, rfl⟩ | ⟨hg, r, X, hs, ho⟩ <;> rcases h' with ⟨hg', rfl, rfl, rfl⟩ | ⟨hg', r', X', hs', ho'⟩
 · exact ⟨rfl, rfl, rfl⟩
 · exact absurd hg' hg
 · exact absurd hg hg'
 · obtain ⟨rfl, hX⟩ := srch_one hs hs'
   rcases ho with ⟨h0, rfl, rfl, rfl⟩ | ⟨rfl, rfl, hp⟩ <;> rcases ho' with ⟨h0', rfl, rfl, rfl⟩ | ⟨h0', rfl, hp'⟩
   · exact ⟨rfl, rfl, rfl⟩
   · exact absurd h0' h0
   · exact absurd rfl h0'
   · obtain rfl := hX rfl
     rcases hp with ⟨hp, rfl, rfl⟩ | ⟨hp, rfl, rfl⟩ <;> rcases hp' with ⟨hp', rfl, rfl⟩ | ⟨hp', rfl, rfl⟩
     · exact ⟨rfl, rfl, rfl⟩
     · exact absurd hp hp'
     · exact absurd hp' hp
     · exact ⟨rfl, rfl, rfl⟩
structure VWay (k0 k1 R Q J who ratio : Int) (w' : World) (lv rv : Value) (ld rd : List P2) : Prop where
 way : ∃ (X : Sx) (q : Nat) (ns : List Int) (m B B' : Nat) (f : GE) (c : Nat), J = q ∧ goodArgs who ratio ∧ Srch k0 k1 R Q J 0 X ∧ CycSays X.states.length (geOf X who ratio) ns ∧ ns[0]? = some (c : Int) ∧ (geOf X who ratio)[c]? = some f ∧ f.src = (m : Int) ∧ m < X.states.length ∧
  ld = (wayB X.fr X.bys m m).reverse ∧ rd = ns.map (fun n => lateF (q + 1) n.toNat) ∧ w'.ownsRow B 47 2 lv ld.length (flat2 ld) ∧ w'.ownsRow B' 47 2 rv rd.length (flat2 rd)
def JEnds (k0 k1 R Q J who ratio : Int) (e : Ending) (w' : World) : Prop :=
 ∃ kind most err lv rv, e = .returned (.tuple #[.agg #[.int .i64 kind, .int .i64 most, lv, rv], .int .i64 err]) ∧ VSays k0 k1 R Q J who ratio kind most err ∧
  ((kind ≠ 2 ∧ lv = .slice none 0 0 ∧ rv = .slice none 0 0) ∨ (kind = 2 ∧ ∃ ld rd, VWay k0 k1 R Q J who ratio w' lv rv ld rd))
end Go.Proofs.YtjjikhaaimfneaaGreatDoor
namespace Go.Proofs.YtjjikhaaimfneaaGreatDoor
open Go.RowKit
set_option linter.unusedSimpArgs false
set_option linter.unusedVariables false
attribute [local go_sem] iteMin iteMax iteMinN iteMaxN
theorem IntsAt.eqv {w : World} {a : Option Addr} {n c : Nat} {xs ys : List Int} (h : IntsAt w a n c xs) (e : xs = ys) : IntsAt w a n c ys := e ▸ h
def MostEnds (N : Int) (es : List GE) (e : Ending) (w' : World) : Prop :=
 (¬ GraphOk N es ∧ e = .returned (.tuple #[.slice none 0 0, .int .i64 2])) ∨
 (GraphOk N es ∧ HasPot es ∧ ∃ b d, e = .returned (.tuple #[.slice b N.toNat d, .int .i64 0]) ∧ IntsAt w' b N.toNat d (tabI N.toNat (siter (pes es) N.toNat))) ∨
 (GraphOk N es ∧ ¬ HasPot es ∧ e = .returned (.tuple #[.slice none 0 0, .int .i64 3]))
set_option maxRecDepth 100000 in
set_option maxHeartbeats 4000000 in
theorem most_ok (N : Nat) (a : Option Addr) (n c : Nat) (es : List GE) (w : World) (h : EdgesAt w a n c es) (hg : GraphOk (N : Int) es) :
 Calls Tryz.prog 38 #[.agg #[.int .i64 N, .slice a n c]] w fun e w' => MostEnds N es e w' ∧ Below w.heap.size w w' := by
 have HG := hide hg
 have hN : N ≤ 300 := by have := hg.1.2.1; omega
 obtain ⟨W, hW⟩ : ∃ W, W = w.alloc (.cells #[.int .i64 N, .slice a n c] 57) := ⟨_, rfl⟩
 have hWB : Below w.heap.size w W := by rw [hW]; exact (Below.refl _ _).alloc (Nat.le_refl _) _
 have hWs : W.heap.size = w.heap.size + 1 := by rw [hW]; simp
 have e0 : W.cell? ⟨w.heap.size, 0, none⟩ = some (.int .i64 N) := by rw [hW]; simp [go_sem]
 have e1 : W.cell? ⟨w.heap.size, 1, none⟩ = some (.slice a n c) := by rw [hW]; simp [go_sem]
 have hE := h.below hWB
 clear hg h
 go_enter Tryz.func38, Tryz.ntmps38
 go_wp2_with fail
 rw [← hW]
 clear hW
 refine (wrong_any _ _ _ _ _ _ hE).mono ?_
 rintro e w1 ⟨⟨r, hr, rfl⟩, B1⟩
 obtain rfl : r = 0 := by rcases hr with ⟨h1, _⟩ | ⟨_, h2⟩; exact h1; exact absurd HG.out h2
 have b0 : w1.cell? ⟨w.heap.size, 0, none⟩ = some (.int .i64 N) := (B1.cell (by show w.heap.size < _; omega)).trans e0
 have b1 : w1.cell? ⟨w.heap.size, 1, none⟩ = some (.slice a n c) := (B1.cell (by show w.heap.size < _; omega)).trans e1
 have hE1 := hE.below B1
 have HBw := hide (hWB.trans (B1.mono (by omega)))
 clear hr hE e0 e1 B1 hWB hWs
 go_wp2_with fail
 refine (solve_any _ _ _ _ _ _ hE1 HG.out).mono ?_
 rintro e w2 ⟨⟨q, sb, gm, gb, hS⟩, B2⟩
 obtain ⟨rfl, hq, c0, c1, c2, c3, tm, tb⟩ := hS
 have HBw2 := hide (HBw.out.trans (B2.mono HBw.out.size))
 have HQ := hide hq
 have HTM := hide tm
 clear hq tm tb hE1 b0 b1 B2
 obtain ⟨L, hL⟩ : ∃ L, q.last = L := ⟨_, rfl⟩
 rw [hL]
 have HL := hide hL
 clear hL
 rcases Int.lt_or_le L 0 with hl | hl
 · have HF := hide (solved_pot HG.out HQ.out (by rw [HL.out]; exact hl))
   go_wp2
   go_ret2
   exact ⟨.inr (.inl ⟨HG.out, HF.out.1, _, _, rfl, IntsAt.eqv (HTM.out.ints (by omega)) (tab_eq fun t _ => HF.out.2 t)⟩), HBw2.out⟩
 · have HF := hide (solved_no HG.out HQ.out (by rw [HL.out]; exact hl))
   go_wp2
   go_ret2
   exact ⟨.inr (.inr ⟨HG.out, HF.out, rfl⟩), HBw2.out⟩
end Go.Proofs.YtjjikhaaimfneaaGreatDoor
namespace Go.Proofs.YtjjikhaaimfneaaGreatDoor
open Go.RowKit
set_option linter.unusedSimpArgs false
set_option linter.unusedVariables false
attribute [local go_sem] iteMin iteMax iteMinN iteMaxN
theorem step_appendP {ops : Array Oper} {o : Oper} {a : Act} {w : World} {K : Act → World → Prop} {Q : Exit → Act → World → Prop} {E : Prop} (hgd : o.guard = none) (s x : Operand) (t e : TypeId)
 (ho : o.op = .call { callee := .builtin .append, args := #[s, x], argTypes := #[t, t] }) (d : Nat) (hd : o.dst = some d) (base : Nat) (i : TypeInfo) (z : Value) (size bytes : Nat) (ht : Tryz.prog.underlying t = some (.slice e)) (hi : Tryz.prog.info? e = some i) (hz : i.zero = some z)
 (hsize : i.size = size) (hby : i.bytes = bytes) (hzs : z.cells.size = size) (hsz : 0 < size) (v : Value) (n : Nat) (xs : List Value) (hs : a.eval s = v) (hown : w.ownsRow base e size v n xs)
 (ad : Addr) (c : Nat) (hx : a.eval x = .slice (some ad) 1 c) (news : List Value) (hl : news.length = 1 * size) (hnews : ∀ j u, news[j]? = some u → w.cell? (ad.add j) = some u) (h1 : ∀ u ∈ news, u.oneCell' = true)
 (h63 : n + 1 ≤ maxLen) (hbytes : (n + 1) * bytes ≤ 140737488355328) (hbase : base ≤ w.heap.size)
 (hK : ∀ v' w', w'.ownsRow base e size v' (n + 1) (xs ++ news) → w.grownBy w' v.ownBlock → (v'.ownBlock = v.ownBlock ∨ v'.ownBlock = some w.heap.size) → K (a.put (some d) v') w') :
 if Region.wanted o (yielded ops a.tmps) = true then Oper.wp Tryz.prog o a w K Q else E := by
 have hw : Region.wanted o (yielded ops a.tmps) = true := by simp [Region.wanted, hgd]
 rw [if_pos hw]
 obtain ⟨v', w', hr, h2, h3, _, h4⟩ := run_append_own_at w base t o.type e i z size bytes ht hi hz hsize hby hzs hsz v n xs hown ad 1 c news hl hnews h1 h63 hbytes hbase
 unfold Oper.wp execOp
 simp only [ho, resolve, invoke, builtin, Sem.run_bind, Sem.run_pure, Result.andThen_ok, List.map_toArray, List.map_cons, List.map_nil, hs, hx, hr]
 rw [Oper.upon_value, hd]
 exact hK v' w' h2 h3 h4
theorem meas9 {n m : Nat} (h : m < n) : n - ((m : Int) + 1).toNat < n - (m : Int).toNat := by omega
theorem row_type {w : World} {B n size g : Nat} {e t : TypeId} {v : Value} {xs : List Value} {arr : Array Value} (h : w.ownsRow B e size v n xs) (hT : w.heap[g]? = some (.cells arr t)) (hne : e ≠ t) : v.ownBlock ≠ some g := by
 intro hg
 rcases h.2 with ⟨rfl, _⟩ | ⟨g', cap, cur, rfl, _, hh, _⟩
 · simp [Value.ownBlock] at hg
 · simp only [Value.ownBlock, Option.some.injEq] at hg
   subst hg
   rw [hT] at hh
   injection hh with hh
   injection hh with _ h2
   exact hne h2.symm
theorem Blk.d4 {Z : World} {b : Nat} {v0 v1 v2 v3 : Value} (h : Blk Z b [v0, v1, v2, v3]) : Z.cell? ⟨b, 0, none⟩ = some v0 ∧ Z.cell? ⟨b, 1, none⟩ = some v1 ∧ Z.cell? ⟨b, 2, none⟩ = some v2 ∧ Z.cell? ⟨b, 3, none⟩ = some v3 :=
 ⟨(h 0 _ rfl).1, (h 1 _ rfl).1, (h 2 _ rfl).1, (h 3 _ rfl).1⟩
theorem ver_fin {w wr : World} {S B : Nat} {x0 x1 x2 x3 y0 y1 y2 y3 : Value} (b : Blk wr B [x0, x1, x2, x3]) (hB : Below S w wr) (hS : S ≤ B) : ∃ Z, Z = ((((wr.setCell ⟨B, 0, none⟩ y0).setCell ⟨B, 1, none⟩ y1).setCell ⟨B, 2, none⟩ y2).setCell ⟨B, 3, none⟩ y3) ∧ Blk Z B [y0, y1, y2, y3] ∧ Below S w Z ∧ ∀ g, g ≠ B → Z.heap[g]? = wr.heap[g]? :=
 ⟨_, rfl, ((((b.set (j := 0) (by simp) y0).set (j := 1) (by simp) y1).set (j := 2) (by simp) y2).set (j := 3) (by simp) y3), (((hB.setCell (p := ⟨B, 0, none⟩) hS y0).setCell (p := ⟨B, 1, none⟩) hS y1).setCell (p := ⟨B, 2, none⟩) hS y2).setCell (p := ⟨B, 3, none⟩) hS y3,
  fun g hg => (Below.heap_setCell _ ⟨B, 3, none⟩ y3 g hg).trans ((Below.heap_setCell _ ⟨B, 2, none⟩ y2 g hg).trans ((Below.heap_setCell _ ⟨B, 1, none⟩ y1 g hg).trans (Below.heap_setCell _ ⟨B, 0, none⟩ y0 g hg)))⟩
set_option maxRecDepth 100000 in
set_option maxHeartbeats 4000000 in
theorem jud_err (k0 k1 R Q J who ratio r : Int) (w : World) (hr : r ≠ 0) (h : ∀ w : World, Calls Tryz.prog 22 #[.agg #[.int .i64 k0, .int .i64 k1, .int .i64 R, .int .i64 Q, .int .i64 J], .int .i64 who, .int .i64 ratio] w fun e w' => e = .returned (.tuple #[.agg #[.int .i64 0, .slice none 0 0], .int .i64 r]) ∧ Below w.heap.size w w') :
 Calls Tryz.prog 21 #[.agg #[.int .i64 k0, .int .i64 k1, .int .i64 R, .int .i64 Q, .int .i64 J], .int .i64 who, .int .i64 ratio] w fun e w' => e = .returned (.tuple #[.agg #[.int .i64 0, .int .i64 0, .slice none 0 0, .slice none 0 0], .int .i64 r]) ∧ Below w.heap.size w w' := by
 have hrb : ((r : Int) == 0) = false := by simpa using hr
 have HH := hide h
 clear h hr
 obtain ⟨S, hS⟩ : ∃ S, w.heap.size = S := ⟨_, rfl⟩
 go_enter Tryz.func21, Tryz.ntmps21
 go_upto_region 1 with fail
 obtain ⟨W, hW⟩ : ∃ W, W = (w.alloc (.cells #[.int .i64 k0, .int .i64 k1, .int .i64 R, .int .i64 Q, .int .i64 J] 49)).alloc (.cells #[.int .i64 0, .int .i64 0, .slice none 0 0, .slice none 0 0] 52) := ⟨_, rfl⟩
 rw [← hW]
 have R0 : Blk W S [.int .i64 k0, .int .i64 k1, .int .i64 R, .int .i64 Q, .int .i64 J] := by
  have := (Blk.new w [.int .i64 k0, .int .i64 k1, .int .i64 R, .int .i64 Q, .int .i64 J] 49).alloc (.cells #[.int .i64 0, .int .i64 0, .slice none 0 0, .slice none 0 0] 52)
  rw [hW]; simpa [hS] using this
 have R1 : Blk W (S + 1) [.int .i64 0, .int .i64 0, .slice none 0 0, .slice none 0 0] := by
  have := Blk.new (w.alloc (.cells #[.int .i64 k0, .int .i64 k1, .int .i64 R, .int .i64 Q, .int .i64 J] 49)) [.int .i64 0, .int .i64 0, .slice none 0 0, .slice none 0 0] 52
  rw [hW]; simpa [hS] using this
 have BS : Below S w W := by rw [hW, ← hS]; exact ((Below.refl _ _).alloc (Nat.le_refl _) _).alloc (by simp) _
 have T1 : W.heap[S + 1]? = some (.cells #[.int .i64 0, .int .i64 0, .slice none 0 0, .slice none 0 0] 52) := by
  have := heap_alloc_new (w.alloc (.cells #[.int .i64 k0, .int .i64 k1, .int .i64 R, .int .i64 Q, .int .i64 J] 49)) (.cells #[.int .i64 0, .int .i64 0, .slice none 0 0, .slice none 0 0] 52)
  rw [hW]; simpa [hS] using this
 clear hW
 obtain ⟨r_0, r_1, r_2, r_3, r_4⟩ := R0.c5
 have H0 := hide R0; have H1 := hide R1; have HB := hide BS
 clear R0 R1 BS
 go_wp2_with fail
 refine (HH.out W).mono ?_
 rintro e w1 ⟨rfl, hA⟩
 clear r_0 r_1 r_2 r_3 r_4
 have R1 := H1.out.below hA H1.out.lt
 have BS := HB.out.trans (hA.mono (Nat.le_of_lt H0.out.lt))
 obtain ⟨V, hV⟩ : ∃ V, V = w1.alloc (.cells #[.int .i64 0, .slice none 0 0] 57) := ⟨_, rfl⟩
 have R1 := R1.alloc (.cells #[.int .i64 0, .slice none 0 0] 57)
 have BS := BS.alloc (by have := hA.size; have := H0.out.lt; omega) (.cells #[.int .i64 0, .slice none 0 0] 57)
 rw [← hV] at R1 BS
 have HR := hide R1; have HBS := hide BS
 go_upto_region 2 with fail
 rw [← hV]
 clear hV hA BS
 have f0 := (R1 0 _ rfl).2; have f1 := (R1 1 _ rfl).2; have f2 := (R1 2 _ rfl).2; have f3 := (R1 3 _ rfl).2
 obtain ⟨z0, z1, z2, z3⟩ := R1.d4
 clear R1
 go_wp2
 obtain ⟨Z, hZ, z, zB, -⟩ := ver_fin (y0 := .int .i64 0) (y1 := .int .i64 0) (y2 := .slice none 0 0) (y3 := .slice none 0 0) HR.out HBS.out (by omega)
 rw [← hZ]
 obtain ⟨c0, c1, c2, c3⟩ := z.d4
 refine bodyPost_ret (v := .tuple #[.agg #[.int .i64 0, .int .i64 0, .slice none 0 0, .slice none 0 0], .int .i64 r]) ?_ rfl ⟨rfl, ?_⟩
 · simp [results, Tryz.f21, go_sem, c0, c1, c2, c3]
 · rw [hS]; exact zB
set_option maxRecDepth 100000 in
set_option maxHeartbeats 8000000 in
theorem jud_pot (k0 k1 R Q J who ratio : Int) (X : Sx) (w : World) (hs : Srch k0 k1 R Q J 0 X) (hga : goodArgs who ratio) (hp : HasPot (geOf X who ratio)) :
 Calls Tryz.prog 21 #[.agg #[.int .i64 k0, .int .i64 k1, .int .i64 R, .int .i64 Q, .int .i64 J], .int .i64 who, .int .i64 ratio] w fun e w' => e = .returned (.tuple #[.agg #[.int .i64 1, .int .i64 (mostOf X.states.length (geOf X who ratio)), .slice none 0 0, .slice none 0 0], .int .i64 0]) ∧ Below w.heap.size w w' := by
 have SG := hide (srch_good hs)
 have HSR := hide hs
 have HGA := hide hga
 have HP := hide hp
 clear hs hga hp
 obtain ⟨S, hS⟩ : ∃ S, w.heap.size = S := ⟨_, rfl⟩
 go_enter Tryz.func21, Tryz.ntmps21
 go_upto_region 1 with fail
 obtain ⟨W, hW⟩ : ∃ W, W = (w.alloc (.cells #[.int .i64 k0, .int .i64 k1, .int .i64 R, .int .i64 Q, .int .i64 J] 49)).alloc (.cells #[.int .i64 0, .int .i64 0, .slice none 0 0, .slice none 0 0] 52) := ⟨_, rfl⟩
 rw [← hW]
 have R0 : Blk W S [.int .i64 k0, .int .i64 k1, .int .i64 R, .int .i64 Q, .int .i64 J] := by
  have := (Blk.new w [.int .i64 k0, .int .i64 k1, .int .i64 R, .int .i64 Q, .int .i64 J] 49).alloc (.cells #[.int .i64 0, .int .i64 0, .slice none 0 0, .slice none 0 0] 52)
  rw [hW]; simpa [hS] using this
 have R1 : Blk W (S + 1) [.int .i64 0, .int .i64 0, .slice none 0 0, .slice none 0 0] := by
  have := Blk.new (w.alloc (.cells #[.int .i64 k0, .int .i64 k1, .int .i64 R, .int .i64 Q, .int .i64 J] 49)) [.int .i64 0, .int .i64 0, .slice none 0 0, .slice none 0 0] 52
  rw [hW]; simpa [hS] using this
 have BS : Below S w W := by rw [hW, ← hS]; exact ((Below.refl _ _).alloc (Nat.le_refl _) _).alloc (by simp) _
 have T1 : W.heap[S + 1]? = some (.cells #[.int .i64 0, .int .i64 0, .slice none 0 0, .slice none 0 0] 52) := by
  have := heap_alloc_new (w.alloc (.cells #[.int .i64 k0, .int .i64 k1, .int .i64 R, .int .i64 Q, .int .i64 J] 49)) (.cells #[.int .i64 0, .int .i64 0, .slice none 0 0, .slice none 0 0] 52)
  rw [hW]; simpa [hS] using this
 clear hW
 obtain ⟨r_0, r_1, r_2, r_3, r_4⟩ := R0.c5
 have H0 := hide R0; have H1 := hide R1; have HB := hide BS
 clear R0 R1 BS
 go_wp2_with fail
 refine (graph_srch HSR.out who ratio W HGA.out).mono ?_
 rintro e w1 hres
 clear r_0 r_1 r_2 r_3 r_4
 rcases hres with ⟨h0, _⟩ | ⟨_, v, B, rfl, hrow, hA⟩
 · exact absurd rfl h0
 obtain ⟨a, c, hv⟩ := sliceShape hrow
 subst hv
 have hE := edgesAt_row hrow rfl SG.out.most
 have R0 := H0.out.below hA H0.out.lt
 have R1 := H1.out.below hA H1.out.lt
 have BS := HB.out.trans (hA.mono (Nat.le_of_lt H0.out.lt))
 have T1 := (hA.block (S + 1) H1.out.lt).trans T1
 obtain ⟨N, hN⟩ : ∃ N, X.states.length = N := ⟨_, rfl⟩
 obtain ⟨n, hn⟩ : ∃ n, X.edges.length = n := ⟨_, rfl⟩
 obtain ⟨es, hes⟩ : ∃ es, geOf X who ratio = es := ⟨_, rfl⟩
 have hG : GraphOk (N : Int) es := by rw [← hN, ← hes]; exact geOf_ok SG.out.ok SG.out.most HGA.out
 rw [hn, hes] at hE
 have HN := hide hN; have Hn := hide hn; have HES := hide hes; have HG := hide hG
 rw [hN, hn]
 clear hrow hN hn hes hG
 obtain ⟨V, hV⟩ : ∃ V, V = w1.alloc (.cells #[.int .i64 N, .slice a n c] 57) := ⟨_, rfl⟩
 obtain ⟨FB, hFB⟩ : ∃ FB, w1.heap.size = FB := ⟨_, rfl⟩
 have hAs : S + 1 < FB := by have := R1.lt; omega
 have R0 := R0.alloc (.cells #[.int .i64 N, .slice a n c] 57)
 have R1 := R1.alloc (.cells #[.int .i64 N, .slice a n c] 57)
 have R2 := Blk.new w1 [.int .i64 N, .slice a n c] 57
 have BS := BS.alloc (by omega) (.cells #[.int .i64 N, .slice a n c] 57)
 have hE := hE.below ((Below.refl w1.heap.size w1).alloc (Nat.le_refl _) (.cells #[.int .i64 N, .slice a n c] 57))
 have T1 := (heap_alloc_old w1 (.cells #[.int .i64 N, .slice a n c] 57) (show S + 1 < w1.heap.size by omega)).trans T1
 rw [← hV] at R0 R1 R2 BS hE T1
 rw [hFB] at R2
 go_upto_region 4 with fail
 (try rw [hFB])
 rw [← hV]
 clear hV hA hFB H0 H1 HB
 obtain ⟨g_0, g_1⟩ := R2.c2
 have H0 := hide R0; have H1 := hide R1; have H2 := hide R2; have HB := hide BS
 clear R0 R1 R2 BS
 go_wp2_with fail
 refine (most_ok N a n c es V hE HG.out).mono ?_
 rintro e w2 ⟨hm, hA⟩
 clear g_0 g_1
 have R0 := H0.out.below hA H0.out.lt
 have R1 := H1.out.below hA H1.out.lt
 have R2 := H2.out.below hA H2.out.lt
 have BS := HB.out.trans (hA.mono (Nat.le_of_lt H0.out.lt))
 have hE := hE.below hA
 have T1 := (hA.block (S + 1) H1.out.lt).trans T1
 clear hA H0 H1 H2 HB
 rcases hm with ⟨h1, _⟩ | ⟨_, _, b, d, rfl, hI⟩ | ⟨_, h1, _⟩
 · exact absurd HG.out h1
 case inr.inr => exact absurd (by rw [← HES.out]; exact HP.out) h1
 rw [Int.toNat_natCast] at hI
 rw [Int.toNat_natCast]
 have hN1 : 0 < N := by have := SG.out.ok.one; have := HN.out; omega
 have HH0 := hide R0; have HR := hide R1; have HBS := hide BS
 clear R0 R1 R2 BS hE
 go_wp2_with fail
 refine (smax_any b N d _ w2 hI hN1 (fun x hx => ?_)).mono ?_
 · simp only [tabI, List.mem_map, List.mem_range] at hx
   obtain ⟨v, hv, rfl⟩ := hx
   exact (siter_b HG.out N v).1
 rintro e w3 ⟨rfl, rfl⟩
 obtain ⟨mo, hmo⟩ : ∃ mo, (tabI N (siter (pes es) N)).foldl max 0 = mo := ⟨_, rfl⟩
 have HMO : Hid (mostOf X.states.length (geOf X who ratio) = mo) := hide (by rw [HN.out, HES.out]; exact hmo)
 rw [hmo]
 have R1 := HR.out
 have f0 := (R1 0 _ rfl).2; have f1 := (R1 1 _ rfl).2; have f2 := (R1 2 _ rfl).2; have f3 := (R1 3 _ rfl).2
 obtain ⟨z0, z1, z2, z3⟩ := R1.d4
 clear R1 hI hmo
 go_wp2
 obtain ⟨Z, hZ, z, zB, -⟩ := ver_fin (y0 := .int .i64 1) (y1 := .int .i64 mo) (y2 := .slice none 0 0) (y3 := .slice none 0 0) HR.out HBS.out (by omega)
 rw [← hZ]
 obtain ⟨c0, c1, c2, c3⟩ := z.d4
 refine bodyPost_ret (v := .tuple #[.agg #[.int .i64 1, .int .i64 mo, .slice none 0 0, .slice none 0 0], .int .i64 0]) ?_ rfl ⟨by rw [HMO.out], ?_⟩
 · simp [results, Tryz.f21, go_sem, c0, c1, c2, c3]
 · rw [hS]; exact zB
end Go.Proofs.YtjjikhaaimfneaaGreatDoor
