/-
  Lemmas and walks for the statement: Cycle, VJudP, Most.
-/
import Derived.Test.YtjjikhaaimfneaaGreatDoorE46
import Derived.Test.YtjjikhaaimfneaaGreatDoorE35
import Derived.Test.YtjjikhaaimfneaaGreatDoorE34
namespace Go.Proofs.YtjjikhaaimfneaaGreatDoor
open Go.RowKit
set_option linter.unusedSimpArgs false
set_option linter.unusedVariables false
attribute [local go_sem] iteMin iteMax iteMinN iteMaxN
theorem intInfoCy : (Tryz.prog.info? 3).map (fun i => (i.zero, i.size, i.bytes)) = some (some (.int .i64 0), 1, 8) := by kernel_rfl
theorem cyc_edge {N n : Nat} {es : List GE} {s : PS} {v p : Nat} (hg : GraphOk (N : Int) es) (hf : Found (pes es) N s v p) (hn : es.length = n) (k : Nat) : ∃ (j : Nat) (z : Int), Hid (s.b (prevN (pes es) s k v) = (j : Int)) ∧ (j : Int) < (n : Int) ∧ (0 : Int) ≤ (j : Int) ∧ prevN (pes es) s (k + 1) v < N ∧ prevN (pes es) s k v < N ∧ Hid (es[j]? = some ⟨(prevN (pes es) s (k + 1) v : Nat), (prevN (pes es) s k v : Nat), z⟩) := by
 obtain ⟨h1, h2, h3, h4, h5⟩ := hf.on k
 have h6 := (hf.on (k + 1)).1
 rw [show ∀ i, (pes es)[i]? = es[i]?.map peOf from fun i => List.getElem?_map] at h3
 obtain ⟨g, hg1, hg2⟩ := Option.map_eq_some_iff.1 h3
 have hok := hg.2 _ (List.mem_of_getElem? hg1)
 unfold EdgeOk at hok
 have e1 : prevN (pes es) s (k + 1) v = (eby (pes es) s (prevN (pes es) s k v)).src := rfl
 have h7 := (List.getElem?_eq_some_iff.1 hg1).1
 refine ⟨(s.b (prevN (pes es) s k v)).toNat, g.wt, by show _ = _; omega, by omega, by omega, h6, h1, ?_⟩
 show es[_]? = _
 rw [hg1, e1]
 have h8 : (eby (pes es) s (prevN (pes es) s k v)).dst = prevN (pes es) s k v := h5
 rw [← hg2] at h8 ⊢
 simp only [peOf] at h8 ⊢
 congr 1
 cases g
 simp only at *
 simp only [GE.mk.injEq, and_true]
 omega
def lenV : Value → Nat
 | .slice _ n _ => n
 | _ => 0
theorem own_lenV {w : World} {B e k : Nat} {v : Value} {xs : List Value} (h : w.ownsRow B e 1 v k xs) : lenV v = k := by
 rcases h.2 with ⟨rfl, h1⟩ | ⟨g, cap, cur, rfl, _⟩
 · simp only [lenV]; have := h.1; simp_all
 · rfl
theorem lenV_slice (a : Option Addr) (k c : Nat) : lenV (.slice a k c) = k := rfl
theorem own_slice {w : World} {B e k : Nat} {v : Value} {xs : List Value} (h : w.ownsRow B e 1 v k xs) : ∃ a c, v = .slice a k c := by
 have h0 := own_lenV h
 rcases h.2 with ⟨rfl, _⟩ | ⟨g, cap, cur, rfl, _⟩
 · simp only [lenV] at h0; subst h0; exact ⟨_, _, rfl⟩
 · exact ⟨_, _, rfl⟩
def CycEnds (N : Int) (es : List GE) (e : Ending) (w' : World) : Prop :=
 (¬ GraphOk N es ∧ e = .returned (.tuple #[.slice none 0 0, .int .i64 2])) ∨
 (GraphOk N es ∧ HasPot es ∧ e = .returned (.tuple #[.slice none 0 0, .int .i64 3])) ∨
 (GraphOk N es ∧ ¬ HasPot es ∧ ∃ b m d ns, e = .returned (.tuple #[.slice b m d, .int .i64 0]) ∧ IntsAt w' b m d ns ∧ CycSays N.toNat es ns)
set_option maxRecDepth 100000 in
set_option maxHeartbeats 4000000 in
theorem cycle_ok (N : Nat) (a : Option Addr) (n c : Nat) (es : List GE) (w : World) (h : EdgesAt w a n c es) (hg : GraphOk (N : Int) es) :
 Calls Tryz.prog 40 #[.agg #[.int .i64 N, .slice a n c]] w fun e w' => CycEnds N es e w' ∧ Below w.heap.size w w' := by
 obtain ⟨i0, hi0, hz0, hz1, hz2⟩ := info_parts intInfoCy
 have HG := hide hg
 have hN : N ≤ 300 := by have := hg.1.2.1; omega
 obtain ⟨G, hG⟩ : ∃ G, w.heap.size = G := ⟨_, rfl⟩
 obtain ⟨W, hW⟩ : ∃ W, W = w.alloc (.cells #[.int .i64 N, .slice a n c] 57) := ⟨_, rfl⟩
 have hWB : Below w.heap.size w W := by rw [hW]; exact (Below.refl _ _).alloc (Nat.le_refl _) _
 have hWs : W.heap.size = G + 1 := by rw [hW, ← hG]; simp
 have e0 : W.cell? ⟨G, 0, none⟩ = some (.int .i64 N) := by rw [hW, ← hG]; simp [go_sem]
 have e1 : W.cell? ⟨G, 1, none⟩ = some (.slice a n c) := by rw [hW, ← hG]; simp [go_sem]
 have hE := h.below hWB
 have HGs := hide hG
 have C0 := hide hWB
 clear hg h hWB
 go_enter Tryz.func40, Tryz.ntmps40
 rw [hG]
 go_wp2_with fail
 (try rw [hG])
 rw [← hW]
 clear hW
 refine (wrong_any _ _ _ _ _ _ hE).mono ?_
 rintro e w1 ⟨⟨r, hr, rfl⟩, B1⟩
 obtain rfl : r = 0 := by rcases hr with ⟨h1, _⟩ | ⟨_, h2⟩; exact h1; exact absurd HG.out h2
 have hG1 : G < W.heap.size := by omega
 have b0 := (B1.cell hG1).trans e0
 have b1 := (B1.cell hG1).trans e1
 have hE1 := hE.below B1
 have C1 := hide (C0.out.trans (B1.mono C0.out.size))
 have hG2 : G < w1.heap.size := by have := B1.size; omega
 clear hr hE e0 e1 B1 hWs hG1
 go_wp2_with fail
 refine (solve_any _ _ _ _ _ _ hE1 HG.out).mono ?_
 rintro e w2 ⟨⟨q, sb, gm, gb, hS⟩, B2⟩
 obtain ⟨rfl, hq, c0, c1, c2, c3, tm, tb⟩ := hS
 have d0 := (B2.cell hG2).trans b0
 have d1 := (B2.cell hG2).trans b1
 have C2 := hide (C1.out.trans (B2.mono C1.out.size))
 have hE2 := hE1.below B2
 have HQ := hide hq
 have HTB := hide tb
 have hG3 : G < w2.heap.size := by have := B2.size; omega
 have hsb : sb < w2.heap.size := World.block_lt_of_cell? w2 _ c3
 clear hq tm tb hE1 b0 b1 B2 hG2 c0 c1 c2
 obtain ⟨L, hL⟩ : ∃ L, q.last = L := ⟨_, rfl⟩
 rw [hL]
 have HL := hide hL
 clear hL
 rcases Int.lt_or_le L 0 with hl | hl
 · have HF := hide (solved_pot HG.out HQ.out (by rw [HL.out]; exact hl))
   go_wp2
   go_ret2
   exact ⟨.inr (.inl ⟨HG.out, HF.out.1, rfl⟩), by rw [← HGs.out]; exact C2.out⟩
 · have HNP := hide (solved_no HG.out HQ.out (by rw [HL.out]; exact hl))
   obtain ⟨v, p, hf⟩ : ∃ v p, Found (pes es) N q v p := by
    obtain ⟨r, hr, hq, h1 | ⟨rfl, h1⟩⟩ := HQ.out
    · have := HL.out; omega
    · rw [hq]; exact found (pes_in HG.out) (by rw [← hq]; exact h1)
   obtain rfl : L = (v : Int) := HL.out.symm.trans hf.last
   have HF := hide hf
   have hN0 : (0 : Int) ≤ (N : Int) := Int.natCast_nonneg _
   clear hf HL hl
   go_wp2
   go_loopw [6, 23] (fun x i wr => ∃ k cc : Nat, k ≤ N ∧ i = .int .i64 k ∧ x = .int .i64 cc ∧ Hid (cc = prevN (pes es) q k v) ∧ Below w2.heap.size w2 wr) (fun _ i _ => N - (intOf i).toNat)
   case atStart => exact ⟨0, v, Nat.zero_le _, rfl, rfl, hide rfl, Below.refl _ _⟩
   case round =>
    obtain ⟨k, cc, hk, rfl, rfl, HC, hB⟩ := hrel
    have k0 : (0 : Int) ≤ (k : Int) := Int.natCast_nonneg _
    have x0 := (hB.cell hG3).trans d0
    have x1 := (hB.cell hG3).trans d1
    by_cases hlt : k < N
    · have k1 : (k : Int) < (N : Int) := by omega
      have x3 := (hB.cell hsb).trans c3
      obtain ⟨j, z, HJ, hjn, hj0, hc2, hcc, HZ⟩ := cyc_edge HG.out HF.out hE2.len k
      have HNX := hide (show prevN (pes es) q (k + 1) v = prevN (pes es) q (k + 1) v from rfl)
      obtain ⟨nx, hnx⟩ : ∃ nx, nx = prevN (pes es) q (k + 1) v := ⟨_, rfl⟩
      have HN2 := hide hnx
      rw [← HC.out] at hcc
      rw [← HN2.out, ← HC.out] at HZ
      rw [← HC.out] at HJ
      have cc0 : (0 : Int) ≤ (cc : Int) := Int.natCast_nonneg _
      have cc1 : (cc : Int) < (N : Int) := by omega
      have xb : wr.cell? ⟨gb, cc, none⟩ = some (.int .i64 j) := by rw [← HJ.out]; exact (HTB.out.below hB).cell hcc
      obtain ⟨ad, x, y, z', rfl, hbd, HX, g0, g1, g2⟩ := hE2.getB hB (show j < n by omega)
      obtain ⟨rfl, rfl⟩ : x = (nx : Int) ∧ y = (cc : Int) := by
       have h1 := HX.out; rw [HZ.out] at h1; injection h1 with h1; injection h1 with h1 h2; exact ⟨h1.symm, h2.symm⟩
      clear hnx hcc hc2
      go_wp2
      go_quiet (fail)
      go_wp2
      go_roundw
      case rel => exact ⟨k + 1, nx, by omega, by go_num, rfl, hide HN2.out, Go.below_drewN hB _⟩
      case measure => (simp [intOf] <;> omega)
    · obtain rfl : k = N := by omega
      have HCY := hide (cyc_says HG.out HF.out)
      have HZL := hide (bRow_len (pes es) q cc p)
      rw [← HC.out] at HCY
      have HBo := hide hB
      have hp1 : p ≤ k := HF.out.le
      clear x0 x1
      go_wp2
      go_loopw [7, 8] (fun o x wr => ∃ t cc2 : Nat, t ≤ p ∧ x = .int .i64 cc2 ∧ Hid (cc2 = prevN (pes es) q t cc) ∧ wr.ownsRow w2.heap.size 3 1 o t (((bRow (pes es) q cc p).take t).map (Value.int .i64)) ∧ Below w2.heap.size w2 wr) (fun o _ _ => p - lenV o)
      case atStart => exact ⟨0, cc, Nat.zero_le _, rfl, hide rfl, own_start _ _ _ _, HBo.out⟩
      case round =>
       obtain ⟨t, cc2, ht, rfl, HC2, hown, hB⟩ := hrel
       obtain ⟨va, vc, rfl⟩ := own_slice hown
       have t0 : (0 : Int) ≤ (t : Int) := Int.natCast_nonneg _
       have hBs := hB.size
       by_cases hlt2 : t < p
       · have hcond : t = 0 ∨ cc2 ≠ cc := by
          rcases Nat.eq_zero_or_pos t with h0 | h0
          · exact .inl h0
          · right
            have h1 := HF.out.first t h0 hlt2
            rw [← HC.out, ← HC2.out] at h1
            exact h1
         have HC3 := hide (show cc2 = prevN (pes es) q (k + t) v by rw [HC2.out, HC.out, ← prevN_add])
         obtain ⟨j, z, HJ, hjn, hj0, hc2, hcc, HZ⟩ := cyc_edge HG.out HF.out hE2.len (k + t)
         obtain ⟨nx, hnx⟩ : ∃ nx, nx = prevN (pes es) q (k + t + 1) v := ⟨_, rfl⟩
         have HN2 := hide (show nx = prevN (pes es) q (t + 1) cc by rw [hnx, HC.out, ← prevN_add, Nat.add_assoc])
         rw [← HC3.out] at hcc
         rw [← hnx, ← HC3.out] at HZ
         rw [← HC3.out] at HJ
         have cc0 : (0 : Int) ≤ (cc2 : Int) := Int.natCast_nonneg _
         have cc1 : (cc2 : Int) < (k : Int) := by omega
         have HXB := hide (show ∀ w', Below w2.heap.size w2 w' → w'.cell? ⟨gb, cc2, none⟩ = some (.int .i64 j) from fun w' hb => by rw [← HJ.out]; exact (HTB.out.below hb).cell hcc)
         have HAP := hide (show (j : Int) = (bRow (pes es) q cc p).getD t 0 by
          rw [List.getD_eq_getElem?_getD, bRow_at hlt2, ← HC2.out, HJ.out]; rfl)
         have xb := HXB.out _ hB
         have x3 := (hB.cell hsb).trans c3
         have hBB := hide hB
         clear hnx hcc hc2
         have hcase : ((t : Int) = 0 ∧ t = 0) ∨ (((t : Int) == 0) = false ∧ ((cc2 : Int) == (cc : Int)) = false) := by
          rcases Nat.eq_zero_or_pos t with h0 | h0
          · exact .inl ⟨by omega, h0⟩
          · refine .inr ⟨by simp; omega, ?_⟩
            rcases hcond with h1 | h1
            · omega
            · simp; omega
         clear hcond
         rcases hcase with ⟨q0, rfl⟩ | ⟨q0, q1⟩
         · have hXX := hide (lenV_slice va 0 vc)
           go_wp2_with ((at_builtin; refine wpList_append_own _ rfl _ _ 24 rfl w2.heap.size 3 i0 (.int .i64 0) 1 8 Tryz.underlying24 hi0 hz0 hz1 hz2 rfl (by decide) _ _ _ rfl (hown.alloc _) ⟨wr.heap.size, 0, none⟩ 1 1 [.int .i64 (j)] rfl rfl (cell_one_new _ _ _) (by simp [Value.oneCell']) (by unfold maxLen; omega) (by omega) (by simp; omega) ?_; intro v' w1 hown1 hgrow _))
           go_wp2
           have hB1 := (hBB.out.alloc hBs _).grown hgrow (by simp; omega) (own_row hown)
           have y1 := (hB1.cell hG3).trans d1
           have y3 := (hB1.cell hsb).trans c3
           have yb := HXB.out _ hB1
           obtain ⟨ad, x, y, z', rfl, hbd, HX, g0, g1, g2⟩ := hE2.getB hB1 (show j < n by omega)
           obtain ⟨rfl, rfl⟩ : x = (nx : Int) ∧ y = (cc2 : Int) := by
            have h1 := HX.out; rw [HZ.out] at h1; injection h1 with h1; injection h1 with h1 h2; exact ⟨h1.symm, h2.symm⟩
           have HO := hide (own_next (by rw [HZL.out]; exact hlt2) HAP.out hown1)
           have HB1 := hide hB1
           clear hown hown1 hgrow xb x3 hB
           go_quiet (fail)
           go_wp2
           go_roundw
           case rel => exact ⟨0 + 1, nx, by omega, rfl, hide HN2.out, HO.out, Go.below_drewN HB1.out _⟩
           case measure => (have := own_lenV HO.out; have := hXX.out; omega)
         · have hXX := hide (lenV_slice va t vc)
           go_wp2_with ((at_builtin; refine wpList_append_own _ rfl _ _ 24 rfl w2.heap.size 3 i0 (.int .i64 0) 1 8 Tryz.underlying24 hi0 hz0 hz1 hz2 rfl (by decide) _ _ _ rfl (hown.alloc _) ⟨wr.heap.size, 0, none⟩ 1 1 [.int .i64 (j)] rfl rfl (cell_one_new _ _ _) (by simp [Value.oneCell']) (by unfold maxLen; omega) (by omega) (by simp; omega) ?_; intro v' w1 hown1 hgrow _))
           go_wp2
           have hB1 := (hBB.out.alloc hBs _).grown hgrow (by simp; omega) (own_row hown)
           have y1 := (hB1.cell hG3).trans d1
           have y3 := (hB1.cell hsb).trans c3
           have yb := HXB.out _ hB1
           obtain ⟨ad, x, y, z', rfl, hbd, HX, g0, g1, g2⟩ := hE2.getB hB1 (show j < n by omega)
           obtain ⟨rfl, rfl⟩ : x = (nx : Int) ∧ y = (cc2 : Int) := by
            have h1 := HX.out; rw [HZ.out] at h1; injection h1 with h1; injection h1 with h1 h2; exact ⟨h1.symm, h2.symm⟩
           have HO := hide (own_next (by rw [HZL.out]; exact hlt2) HAP.out hown1)
           have HB1 := hide hB1
           clear hown hown1 hgrow xb x3 hB
           go_quiet (fail)
           go_wp2
           go_roundw
           case rel => exact ⟨t + 1, nx, by omega, rfl, hide HN2.out, HO.out, Go.below_drewN HB1.out _⟩
           case measure => (have := own_lenV HO.out; have := hXX.out; omega)
       · obtain rfl : t = p := by omega
         have ht0 : 0 < t := HF.out.pos
         obtain rfl : cc2 = cc := by
          have h1 := HF.out.back
          rw [← HC.out] at h1
          rw [HC2.out]; exact h1
         have q0 : ((t : Int) == 0) = false := by simp; omega
         have hown2 : wr.ownsRow w2.heap.size 3 1 (.slice va t vc) (bRow (pes es) q cc2 t).length ((bRow (pes es) q cc2 t).map (Value.int .i64)) := by
          rw [HZL.out]
          have h1 := hown
          rw [List.take_of_length_le (by rw [HZL.out]; exact Nat.le_refl _)] at h1
          exact h1
         obtain ⟨gr, cap, hv, hcall⟩ := rev_own (by rw [HZL.out]; exact ht0) (by rw [HZL.out]; omega) hown2 hBs
         rw [HZL.out] at hv hcall
         injection hv with hv1 _ hv2
         subst hv1; subst hv2
         have HCA := hide hcall
         have HBB := hide hB
         clear hcall hown hown2 hB
         go_wp2_with (go_at_call 62; refine HCA.out.mono ?_; rintro e w5 ⟨rfl, hI5, hB5⟩; have HI5 := hide hI5; have HB5 := hide hB5; clear hI5 hB5)
         go_ret2
         refine ⟨.inr (.inr ⟨HG.out, HNP.out, _, _, _, _, rfl, HI5.out, HCY.out⟩), ?_⟩
         rw [← HGs.out]
         exact C2.out.trans ((HBB.out.trans (HB5.out)).mono C2.out.size)
end Go.Proofs.YtjjikhaaimfneaaGreatDoor
namespace Go.Proofs.YtjjikhaaimfneaaGreatDoor
open Go.RowKit
set_option linter.unusedSimpArgs false
set_option linter.unusedVariables false
theorem srch_one {k0 k1 R Q J r r' : Int} {X X' : Sx} (h : Srch k0 k1 R Q J r X) (h' : Srch k0 k1 R Q J r' X') : r = r' ∧ (r = 0 → X = X') := by
 rcases h with ⟨h0, _, hw, hn⟩ | ⟨q, kk, rfl, hk, hr, hE, ho⟩ <;> rcases h' with ⟨h0', _, hw', hn'⟩ | ⟨q', kk', e', hk', hr', hE', ho'⟩
 · exact ⟨wrongSays_one hw hw', fun e => absurd e h0⟩
 · subst e'; exact absurd ⟨hk', hr'⟩ hn
 · exact absurd ⟨hk, hr⟩ hn'
 · obtain rfl : q = q' := by omega
   obtain rfl := hE.one hE'
   rcases ho with ⟨hf, rfl⟩ | ⟨hf, rfl, rfl⟩ <;> rcases ho' with ⟨hf', rfl⟩ | ⟨hf', rfl, rfl⟩
   · exact ⟨rfl, fun e => by cases e⟩
   · rw [hf] at hf'; cases hf'
   · rw [hf] at hf'; cases hf'
   · exact ⟨rfl, fun _ => rfl⟩
def VSays (k0 k1 R Q J who ratio kind most err : Int) : Prop :=
 (¬ goodArgs who ratio ∧ kind = 0 ∧ most = 0 ∧ err = 2) ∨
 (goodArgs who ratio ∧ ∃ r X, Srch k0 k1 R Q J r X ∧ ((r ≠ 0 ∧ kind = 0 ∧ most = 0 ∧ err = r) ∨
  (r = 0 ∧ err = 0 ∧ ((HasPot (geOf X who ratio) ∧ kind = 1 ∧ most = mostOf X.states.length (geOf X who ratio)) ∨ (¬ HasPot (geOf X who ratio) ∧ kind = 2 ∧ most = 0)))))
theorem vsays_one {k0 k1 R Q J who ratio kind most err kind' most' err' : Int} (h : VSays k0 k1 R Q J who ratio kind most err) (h' : VSays k0 k1 R Q J who ratio kind' most' err') : kind = kind' ∧ most = most' ∧ err = err' := by
 rcases h with ⟨hg, rfl, rfl, rfl⟩ | ⟨hg, r, X, hs, ho⟩ <;> rcases h' with ⟨hg', rfl, rfl, rfl⟩ | ⟨hg', r', X', hs', ho'⟩
 · exact ⟨rfl, rfl, rfl⟩
 · exact absurd hg' hg
 · exact absurd hg hg'
 · obtain ⟨rfl, hX⟩ := srch_one hs hs'
   rcases ho with ⟨h0, rfl, rfl, rfl⟩ | ⟨rfl, rfl, hp⟩ <;> rcases ho' with ⟨h0', rfl, rfl, rfl⟩ | ⟨h0', rfl, hp'⟩
   · exact ⟨rfl, rfl, rfl⟩
   · exact absurd h0' h0
   · exact absurd rfl h0'
   · obtain rfl := hX rfl
     rcases hp with ⟨hp, rfl, rfl⟩ | ⟨hp, rfl, rfl⟩ <;> rcases hp' with ⟨hp', rfl, rfl⟩ | ⟨hp', rfl, rfl⟩
     · exact ⟨rfl, rfl, rfl⟩
     · exact absurd hp hp'
     · exact absurd hp' hp
     · exact ⟨rfl, rfl, rfl⟩
structure VWay (k0 k1 R Q J who ratio : Int) (w' : World) (lv rv : Value) (ld rd : List P2) : Prop where
 way : ∃ (X : Sx) (q : Nat) (ns : List Int) (m B B' : Nat) (f : GE) (c : Nat), J = q ∧ goodArgs who ratio ∧ Srch k0 k1 R Q J 0 X ∧ CycSays X.states.length (geOf X who ratio) ns ∧ ns[0]? = some (c : Int) ∧ (geOf X who ratio)[c]? = some f ∧ f.src = (m : Int) ∧ m < X.states.length ∧
  ld = (wayB X.fr X.bys m m).reverse ∧ rd = ns.map (fun n => lateF (q + 1) n.toNat) ∧ w'.ownsRow B 47 2 lv ld.length (flat2 ld) ∧ w'.ownsRow B' 47 2 rv rd.length (flat2 rd)
def JEnds (k0 k1 R Q J who ratio : Int) (e : Ending) (w' : World) : Prop :=
 ∃ kind most err lv rv, e = .returned (.tuple #[.agg #[.int .i64 kind, .int .i64 most, lv, rv], .int .i64 err]) ∧ VSays k0 k1 R Q J who ratio kind most err ∧
  ((kind ≠ 2 ∧ lv = .slice none 0 0 ∧ rv = .slice none 0 0) ∨ (kind = 2 ∧ ∃ ld rd, VWay k0 k1 R Q J who ratio w' lv rv ld rd))
end Go.Proofs.YtjjikhaaimfneaaGreatDoor
namespace Go.Proofs.YtjjikhaaimfneaaGreatDoor
open Go.RowKit
set_option linter.unusedSimpArgs false
set_option linter.unusedVariables false
attribute [local go_sem] iteMin iteMax iteMinN iteMaxN
theorem IntsAt.eqv {w : World} {a : Option Addr} {n c : Nat} {xs ys : List Int} (h : IntsAt w a n c xs) (e : xs = ys) : IntsAt w a n c ys := e ▸ h
def MostEnds (N : Int) (es : List GE) (e : Ending) (w' : World) : Prop :=
 (¬ GraphOk N es ∧ e = .returned (.tuple #[.slice none 0 0, .int .i64 2])) ∨
 (GraphOk N es ∧ HasPot es ∧ ∃ b d, e = .returned (.tuple #[.slice b N.toNat d, .int .i64 0]) ∧ IntsAt w' b N.toNat d (tabI N.toNat (siter (pes es) N.toNat))) ∨
 (GraphOk N es ∧ ¬ HasPot es ∧ e = .returned (.tuple #[.slice none 0 0, .int .i64 3]))
set_option maxRecDepth 100000 in
set_option maxHeartbeats 4000000 in
theorem most_ok (N : Nat) (a : Option Addr) (n c : Nat) (es : List GE) (w : World) (h : EdgesAt w a n c es) (hg : GraphOk (N : Int) es) :
 Calls Tryz.prog 38 #[.agg #[.int .i64 N, .slice a n c]] w fun e w' => MostEnds N es e w' ∧ Below w.heap.size w w' := by
 have HG := hide hg
 have hN : N ≤ 300 := by have := hg.1.2.1; omega
 obtain ⟨W, hW⟩ : ∃ W, W = w.alloc (.cells #[.int .i64 N, .slice a n c] 57) := ⟨_, rfl⟩
 have hWB : Below w.heap.size w W := by rw [hW]; exact (Below.refl _ _).alloc (Nat.le_refl _) _
 have hWs : W.heap.size = w.heap.size + 1 := by rw [hW]; simp
 have e0 : W.cell? ⟨w.heap.size, 0, none⟩ = some (.int .i64 N) := by rw [hW]; simp [go_sem]
 have e1 : W.cell? ⟨w.heap.size, 1, none⟩ = some (.slice a n c) := by rw [hW]; simp [go_sem]
 have hE := h.below hWB
 clear hg h
 go_enter Tryz.func38, Tryz.ntmps38
 go_wp2_with fail
 rw [← hW]
 clear hW
 refine (wrong_any _ _ _ _ _ _ hE).mono ?_
 rintro e w1 ⟨⟨r, hr, rfl⟩, B1⟩
 obtain rfl : r = 0 := by rcases hr with ⟨h1, _⟩ | ⟨_, h2⟩; exact h1; exact absurd HG.out h2
 have b0 : w1.cell? ⟨w.heap.size, 0, none⟩ = some (.int .i64 N) := (B1.cell (by show w.heap.size < _; omega)).trans e0
 have b1 : w1.cell? ⟨w.heap.size, 1, none⟩ = some (.slice a n c) := (B1.cell (by show w.heap.size < _; omega)).trans e1
 have hE1 := hE.below B1
 have HBw := hide (hWB.trans (B1.mono (by omega)))
 clear hr hE e0 e1 B1 hWB hWs
 go_wp2_with fail
 refine (solve_any _ _ _ _ _ _ hE1 HG.out).mono ?_
 rintro e w2 ⟨⟨q, sb, gm, gb, hS⟩, B2⟩
 obtain ⟨rfl, hq, c0, c1, c2, c3, tm, tb⟩ := hS
 have HBw2 := hide (HBw.out.trans (B2.mono HBw.out.size))
 have HQ := hide hq
 have HTM := hide tm
 clear hq tm tb hE1 b0 b1 B2
 obtain ⟨L, hL⟩ : ∃ L, q.last = L := ⟨_, rfl⟩
 rw [hL]
 have HL := hide hL
 clear hL
 rcases Int.lt_or_le L 0 with hl | hl
 · have HF := hide (solved_pot HG.out HQ.out (by rw [HL.out]; exact hl))
   go_wp2
   go_ret2
   exact ⟨.inr (.inl ⟨HG.out, HF.out.1, _, _, rfl, IntsAt.eqv (HTM.out.ints (by omega)) (tab_eq fun t _ => HF.out.2 t)⟩), HBw2.out⟩
 · have HF := hide (solved_no HG.out HQ.out (by rw [HL.out]; exact hl))
   go_wp2
   go_ret2
   exact ⟨.inr (.inr ⟨HG.out, HF.out, rfl⟩), HBw2.out⟩
end Go.Proofs.YtjjikhaaimfneaaGreatDoor
