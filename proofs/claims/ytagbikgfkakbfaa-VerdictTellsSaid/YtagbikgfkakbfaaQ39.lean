/-
  Lemmas and walks for the statement: Cycle, VJudP, VTelP, VTelQ, VMax, Most, VJud.
-/
import Derived.Test.YtagbikgfkakbfaaQ37
import Derived.Test.YtagbikgfkakbfaaQ38
import Derived.Test.YtagbikgfkakbfaaQ35
import Derived.Test.YtagbikgfkakbfaaQ01
import Derived.Test.YtagbikgfkakbfaaQ11
import Derived.Test.YtagbikgfkakbfaaProg
import Derived.Test.YtagbikgfkakbfaaQ34
import Derived.Deep.DeepCutAuto
import Derived.Maps.AppendAt
namespace Go.Proofs.Ytagbikgfkakbfaa
open Go.RowKit
set_option linter.unusedSimpArgs false
set_option linter.unusedVariables false
attribute [local go_sem] iteMin iteMax iteMinN iteMaxN
theorem intInfoCy : (Try.prog.info? 3).map (fun i => (i.zero, i.size, i.bytes)) = some (some (.int .i64 0), 1, 8) := by kernel_rfl
theorem cyc_edge {N n : Nat} {es : List GE} {s : PS} {v p : Nat} (hg : GraphOk (N : Int) es) (hf : Found (pes es) N s v p) (hn : es.length = n) (k : Nat) : ∃ (j : Nat) (z : Int), Hid (s.b (prevN (pes es) s k v) = (j : Int)) ∧ (j : Int) < (n : Int) ∧ (0 : Int) ≤ (j : Int) ∧ prevN (pes es) s (k + 1) v < N ∧ prevN (pes es) s k v < N ∧ Hid (es[j]? = some ⟨(prevN (pes es) s (k + 1) v : Nat), (prevN (pes es) s k v : Nat), z⟩) := by
 obtain ⟨h1, h2, h3, h4, h5⟩ := hf.on k
 have h6 := (hf.on (k + 1)).1
 rw [show ∀ i, (pes es)[i]? = es[i]?.map peOf from fun i => List.getElem?_map] at h3
 obtain ⟨g, hg1, hg2⟩ := Option.map_eq_some_iff.1 h3
 have hok := hg.2 _ (List.mem_of_getElem? hg1)
 unfold EdgeOk at hok
 have e1 : prevN (pes es) s (k + 1) v = (eby (pes es) s (prevN (pes es) s k v)).src := rfl
 have h7 := (List.getElem?_eq_some_iff.1 hg1).1
 refine ⟨(s.b (prevN (pes es) s k v)).toNat, g.wt, by show _ = _; omega, by omega, by omega, h6, h1, ?_⟩
 show es[_]? = _
 rw [hg1, e1]
 have h8 : (eby (pes es) s (prevN (pes es) s k v)).dst = prevN (pes es) s k v := h5
 rw [← hg2] at h8 ⊢
 simp only [peOf] at h8 ⊢
 congr 1
 cases g
 simp only at *
 simp only [GE.mk.injEq, and_true]
 omega
def lenV : Value → Nat
 | .slice _ n _ => n
 | _ => 0
theorem own_lenV {w : World} {B e k : Nat} {v : Value} {xs : List Value} (h : w.ownsRow B e 1 v k xs) : lenV v = k := by
 rcases h.2 with ⟨rfl, h1⟩ | ⟨g, cap, cur, rfl, _⟩
 · simp only [lenV]; have := h.1; simp_all
 · rfl
theorem lenV_slice (a : Option Addr) (k c : Nat) : lenV (.slice a k c) = k := rfl
theorem own_slice {w : World} {B e k : Nat} {v : Value} {xs : List Value} (h : w.ownsRow B e 1 v k xs) : ∃ a c, v = .slice a k c := by
 have h0 := own_lenV h
 rcases h.2 with ⟨rfl, _⟩ | ⟨g, cap, cur, rfl, _⟩
 · simp only [lenV] at h0; subst h0; exact ⟨_, _, rfl⟩
 · exact ⟨_, _, rfl⟩
def CycEnds (N : Int) (es : List GE) (e : Ending) (w' : World) : Prop :=
 (¬ GraphOk N es ∧ e = .returned (.tuple #[.slice none 0 0, .int .i64 2])) ∨
 (GraphOk N es ∧ HasPot es ∧ e = .returned (.tuple #[.slice none 0 0, .int .i64 3])) ∨
 (GraphOk N es ∧ ¬ HasPot es ∧ ∃ b m d ns, e = .returned (.tuple #[.slice b m d, .int .i64 0]) ∧ IntsAt w' b m d ns ∧ CycSays N.toNat es ns)
set_option maxRecDepth 100000 in
theorem cycle_bad (N : Int) (a : Option Addr) (n c : Nat) (es : List GE) (w : World) (h : EdgesAt w a n c es) (hg : ¬ GraphOk N es) :
 Calls Try.prog 17 #[.agg #[.int .i64 N, .slice a n c]] w fun e w' => CycEnds N es e w' ∧ Below w.heap.size w w' := by
 have HG := hide hg
 have hE := h.below ((Below.refl w.heap.size w).alloc (Nat.le_refl _) (.cells #[.int .i64 N, .slice a n c] 56))
 clear hg h
 go_enter Try.func17, Try.ntmps17
 go_wp2_with fail
 refine (wrong_any _ _ _ _ _ _ hE).mono ?_
 rintro e w1 ⟨⟨r, hr, rfl⟩, B1⟩
 obtain rfl : r = 2 := by rcases hr with ⟨_, h2⟩ | ⟨h1, _⟩; exact absurd h2 HG.out; exact h1
 clear hr hE
 go_wp2
 go_ret2
 exact ⟨.inl ⟨HG.out, rfl⟩, ((Below.refl _ _).alloc (Nat.le_refl _) _).trans (B1.mono (by simp))⟩
set_option maxRecDepth 100000 in
set_option maxHeartbeats 4000000 in
theorem cycle_ok (N : Nat) (a : Option Addr) (n c : Nat) (es : List GE) (w : World) (h : EdgesAt w a n c es) (hg : GraphOk (N : Int) es) :
 Calls Try.prog 17 #[.agg #[.int .i64 N, .slice a n c]] w fun e w' => CycEnds N es e w' ∧ Below w.heap.size w w' := by
 obtain ⟨i0, hi0, hz0, hz1, hz2⟩ := info_parts intInfoCy
 have HG := hide hg
 have hN : N ≤ 300 := by have := hg.1.2.1; omega
 obtain ⟨G, hG⟩ : ∃ G, w.heap.size = G := ⟨_, rfl⟩
 obtain ⟨W, hW⟩ : ∃ W, W = w.alloc (.cells #[.int .i64 N, .slice a n c] 56) := ⟨_, rfl⟩
 have hWB : Below w.heap.size w W := by rw [hW]; exact (Below.refl _ _).alloc (Nat.le_refl _) _
 have hWs : W.heap.size = G + 1 := by rw [hW, ← hG]; simp
 have e0 : W.cell? ⟨G, 0, none⟩ = some (.int .i64 N) := by rw [hW, ← hG]; simp [go_sem]
 have e1 : W.cell? ⟨G, 1, none⟩ = some (.slice a n c) := by rw [hW, ← hG]; simp [go_sem]
 have hE := h.below hWB
 have HGs := hide hG
 have C0 := hide hWB
 clear hg h hWB
 go_enter Try.func17, Try.ntmps17
 rw [hG]
 go_wp2_with fail
 (try rw [hG])
 rw [← hW]
 clear hW
 refine (wrong_any _ _ _ _ _ _ hE).mono ?_
 rintro e w1 ⟨⟨r, hr, rfl⟩, B1⟩
 obtain rfl : r = 0 := by rcases hr with ⟨h1, _⟩ | ⟨_, h2⟩; exact h1; exact absurd HG.out h2
 have hG1 : G < W.heap.size := by omega
 have b0 := (B1.cell hG1).trans e0
 have b1 := (B1.cell hG1).trans e1
 have hE1 := hE.below B1
 have C1 := hide (C0.out.trans (B1.mono C0.out.size))
 have hG2 : G < w1.heap.size := by have := B1.size; omega
 clear hr hE e0 e1 B1 hWs hG1
 go_wp2_with fail
 refine (solve_any _ _ _ _ _ _ hE1 HG.out).mono ?_
 rintro e w2 ⟨⟨q, sb, gm, gb, hS⟩, B2⟩
 obtain ⟨rfl, hq, c0, c1, c2, c3, tm, tb⟩ := hS
 have d0 := (B2.cell hG2).trans b0
 have d1 := (B2.cell hG2).trans b1
 have C2 := hide (C1.out.trans (B2.mono C1.out.size))
 have hE2 := hE1.below B2
 have HQ := hide hq
 have HTB := hide tb
 have hG3 : G < w2.heap.size := by have := B2.size; omega
 have hsb : sb < w2.heap.size := World.block_lt_of_cell? w2 _ c3
 clear hq tm tb hE1 b0 b1 B2 hG2 c0 c1 c2
 obtain ⟨L, hL⟩ : ∃ L, q.last = L := ⟨_, rfl⟩
 rw [hL]
 have HL := hide hL
 clear hL
 rcases Int.lt_or_le L 0 with hl | hl
 · have HF := hide (solved_pot HG.out HQ.out (by rw [HL.out]; exact hl))
   go_wp2
   go_ret2
   exact ⟨.inr (.inl ⟨HG.out, HF.out.1, rfl⟩), by rw [← HGs.out]; exact C2.out⟩
 · have HNP := hide (solved_no HG.out HQ.out (by rw [HL.out]; exact hl))
   obtain ⟨v, p, hf⟩ : ∃ v p, Found (pes es) N q v p := by
    obtain ⟨r, hr, hq, h1 | ⟨rfl, h1⟩⟩ := HQ.out
    · have := HL.out; omega
    · rw [hq]; exact found (pes_in HG.out) (by rw [← hq]; exact h1)
   obtain rfl : L = (v : Int) := HL.out.symm.trans hf.last
   have HF := hide hf
   have hN0 : (0 : Int) ≤ (N : Int) := Int.natCast_nonneg _
   clear hf HL hl
   go_wp2
   go_loopw [6, 23] (fun x i wr => ∃ k cc : Nat, k ≤ N ∧ i = .int .i64 k ∧ x = .int .i64 cc ∧ Hid (cc = prevN (pes es) q k v) ∧ Below w2.heap.size w2 wr) (fun _ i _ => N - (intOf i).toNat)
   case atStart => exact ⟨0, v, Nat.zero_le _, rfl, rfl, hide rfl, Below.refl _ _⟩
   case round =>
    obtain ⟨k, cc, hk, rfl, rfl, HC, hB⟩ := hrel
    have k0 : (0 : Int) ≤ (k : Int) := Int.natCast_nonneg _
    have x0 := (hB.cell hG3).trans d0
    have x1 := (hB.cell hG3).trans d1
    by_cases hlt : k < N
    · have k1 : (k : Int) < (N : Int) := by omega
      have x3 := (hB.cell hsb).trans c3
      obtain ⟨j, z, HJ, hjn, hj0, hc2, hcc, HZ⟩ := cyc_edge HG.out HF.out hE2.len k
      have HNX := hide (show prevN (pes es) q (k + 1) v = prevN (pes es) q (k + 1) v from rfl)
      obtain ⟨nx, hnx⟩ : ∃ nx, nx = prevN (pes es) q (k + 1) v := ⟨_, rfl⟩
      have HN2 := hide hnx
      rw [← HC.out] at hcc
      rw [← HN2.out, ← HC.out] at HZ
      rw [← HC.out] at HJ
      have cc0 : (0 : Int) ≤ (cc : Int) := Int.natCast_nonneg _
      have cc1 : (cc : Int) < (N : Int) := by omega
      have xb : wr.cell? ⟨gb, cc, none⟩ = some (.int .i64 j) := by rw [← HJ.out]; exact (HTB.out.below hB).cell hcc
      obtain ⟨ad, x, y, z', rfl, hbd, HX, g0, g1, g2⟩ := hE2.getB hB (show j < n by omega)
      obtain ⟨rfl, rfl⟩ : x = (nx : Int) ∧ y = (cc : Int) := by
       have h1 := HX.out; rw [HZ.out] at h1; injection h1 with h1; injection h1 with h1 h2; exact ⟨h1.symm, h2.symm⟩
      clear hnx hcc hc2
      go_wp2
      go_quiet (fail)
      go_wp2
      go_roundw
      case rel => exact ⟨k + 1, nx, by omega, by go_num, rfl, hide HN2.out, below_drewN hB _⟩
      case measure => (simp [intOf] <;> omega)
    · obtain rfl : k = N := by omega
      have HCY := hide (cyc_says HG.out HF.out)
      have HZL := hide (bRow_len (pes es) q cc p)
      rw [← HC.out] at HCY
      have HBo := hide hB
      have hp1 : p ≤ k := HF.out.le
      clear x0 x1
      go_wp2
      go_loopw [7, 8] (fun o x wr => ∃ t cc2 : Nat, t ≤ p ∧ x = .int .i64 cc2 ∧ Hid (cc2 = prevN (pes es) q t cc) ∧ wr.ownsRow w2.heap.size 3 1 o t (((bRow (pes es) q cc p).take t).map (Value.int .i64)) ∧ Below w2.heap.size w2 wr) (fun o _ _ => p - lenV o)
      case atStart => exact ⟨0, cc, Nat.zero_le _, rfl, hide rfl, own_start _ _ _ _, HBo.out⟩
      case round =>
       obtain ⟨t, cc2, ht, rfl, HC2, hown, hB⟩ := hrel
       obtain ⟨va, vc, rfl⟩ := own_slice hown
       have t0 : (0 : Int) ≤ (t : Int) := Int.natCast_nonneg _
       have hBs := hB.size
       by_cases hlt2 : t < p
       · have hcond : t = 0 ∨ cc2 ≠ cc := by
          rcases Nat.eq_zero_or_pos t with h0 | h0
          · exact .inl h0
          · right
            have h1 := HF.out.first t h0 hlt2
            rw [← HC.out, ← HC2.out] at h1
            exact h1
         have HC3 := hide (show cc2 = prevN (pes es) q (k + t) v by rw [HC2.out, HC.out, ← prevN_add])
         obtain ⟨j, z, HJ, hjn, hj0, hc2, hcc, HZ⟩ := cyc_edge HG.out HF.out hE2.len (k + t)
         obtain ⟨nx, hnx⟩ : ∃ nx, nx = prevN (pes es) q (k + t + 1) v := ⟨_, rfl⟩
         have HN2 := hide (show nx = prevN (pes es) q (t + 1) cc by rw [hnx, HC.out, ← prevN_add, Nat.add_assoc])
         rw [← HC3.out] at hcc
         rw [← hnx, ← HC3.out] at HZ
         rw [← HC3.out] at HJ
         have cc0 : (0 : Int) ≤ (cc2 : Int) := Int.natCast_nonneg _
         have cc1 : (cc2 : Int) < (k : Int) := by omega
         have HXB := hide (show ∀ w', Below w2.heap.size w2 w' → w'.cell? ⟨gb, cc2, none⟩ = some (.int .i64 j) from fun w' hb => by rw [← HJ.out]; exact (HTB.out.below hb).cell hcc)
         have HAP := hide (show (j : Int) = (bRow (pes es) q cc p).getD t 0 by
          rw [List.getD_eq_getElem?_getD, bRow_at hlt2, ← HC2.out, HJ.out]; rfl)
         have xb := HXB.out _ hB
         have x3 := (hB.cell hsb).trans c3
         have hBB := hide hB
         clear hnx hcc hc2
         have hcase : ((t : Int) = 0 ∧ t = 0) ∨ (((t : Int) == 0) = false ∧ ((cc2 : Int) == (cc : Int)) = false) := by
          rcases Nat.eq_zero_or_pos t with h0 | h0
          · exact .inl ⟨by omega, h0⟩
          · refine .inr ⟨by simp; omega, ?_⟩
            rcases hcond with h1 | h1
            · omega
            · simp; omega
         clear hcond
         rcases hcase with ⟨q0, rfl⟩ | ⟨q0, q1⟩
         · have hXX := hide (lenV_slice va 0 vc)
           go_wp2_with ((at_builtin; refine wpList_append_own _ rfl _ _ 47 rfl w2.heap.size 3 i0 (.int .i64 0) 1 8 Try.underlying47 hi0 hz0 hz1 hz2 rfl (by decide) _ _ _ rfl (hown.alloc _) ⟨wr.heap.size, 0, none⟩ 1 1 [.int .i64 (j)] rfl rfl (cell_one_new _ _ _) (by simp [Value.oneCell']) (by unfold maxLen; omega) (by omega) (by simp; omega) ?_; intro v' w1 hown1 hgrow _))
           go_wp2
           have hB1 := (hBB.out.alloc hBs _).grown hgrow (by simp; omega) (own_row hown)
           have y1 := (hB1.cell hG3).trans d1
           have y3 := (hB1.cell hsb).trans c3
           have yb := HXB.out _ hB1
           obtain ⟨ad, x, y, z', rfl, hbd, HX, g0, g1, g2⟩ := hE2.getB hB1 (show j < n by omega)
           obtain ⟨rfl, rfl⟩ : x = (nx : Int) ∧ y = (cc2 : Int) := by
            have h1 := HX.out; rw [HZ.out] at h1; injection h1 with h1; injection h1 with h1 h2; exact ⟨h1.symm, h2.symm⟩
           have HO := hide (own_next (by rw [HZL.out]; exact hlt2) HAP.out hown1)
           have HB1 := hide hB1
           clear hown hown1 hgrow xb x3 hB
           go_quiet (fail)
           go_wp2
           go_roundw
           case rel => exact ⟨0 + 1, nx, by omega, rfl, hide HN2.out, HO.out, below_drewN HB1.out _⟩
           case measure => (have := own_lenV HO.out; have := hXX.out; omega)
         · have hXX := hide (lenV_slice va t vc)
           go_wp2_with ((at_builtin; refine wpList_append_own _ rfl _ _ 47 rfl w2.heap.size 3 i0 (.int .i64 0) 1 8 Try.underlying47 hi0 hz0 hz1 hz2 rfl (by decide) _ _ _ rfl (hown.alloc _) ⟨wr.heap.size, 0, none⟩ 1 1 [.int .i64 (j)] rfl rfl (cell_one_new _ _ _) (by simp [Value.oneCell']) (by unfold maxLen; omega) (by omega) (by simp; omega) ?_; intro v' w1 hown1 hgrow _))
           go_wp2
           have hB1 := (hBB.out.alloc hBs _).grown hgrow (by simp; omega) (own_row hown)
           have y1 := (hB1.cell hG3).trans d1
           have y3 := (hB1.cell hsb).trans c3
           have yb := HXB.out _ hB1
           obtain ⟨ad, x, y, z', rfl, hbd, HX, g0, g1, g2⟩ := hE2.getB hB1 (show j < n by omega)
           obtain ⟨rfl, rfl⟩ : x = (nx : Int) ∧ y = (cc2 : Int) := by
            have h1 := HX.out; rw [HZ.out] at h1; injection h1 with h1; injection h1 with h1 h2; exact ⟨h1.symm, h2.symm⟩
           have HO := hide (own_next (by rw [HZL.out]; exact hlt2) HAP.out hown1)
           have HB1 := hide hB1
           clear hown hown1 hgrow xb x3 hB
           go_quiet (fail)
           go_wp2
           go_roundw
           case rel => exact ⟨t + 1, nx, by omega, rfl, hide HN2.out, HO.out, below_drewN HB1.out _⟩
           case measure => (have := own_lenV HO.out; have := hXX.out; omega)
       · obtain rfl : t = p := by omega
         have ht0 : 0 < t := HF.out.pos
         obtain rfl : cc2 = cc := by
          have h1 := HF.out.back
          rw [← HC.out] at h1
          rw [HC2.out]; exact h1
         have q0 : ((t : Int) == 0) = false := by simp; omega
         have hown2 : wr.ownsRow w2.heap.size 3 1 (.slice va t vc) (bRow (pes es) q cc2 t).length ((bRow (pes es) q cc2 t).map (Value.int .i64)) := by
          rw [HZL.out]
          have h1 := hown
          rw [List.take_of_length_le (by rw [HZL.out]; exact Nat.le_refl _)] at h1
          exact h1
         obtain ⟨gr, cap, hv, hcall⟩ := rev_own (by rw [HZL.out]; exact ht0) (by rw [HZL.out]; omega) hown2 hBs
         rw [HZL.out] at hv hcall
         injection hv with hv1 _ hv2
         subst hv1; subst hv2
         have HCA := hide hcall
         have HBB := hide hB
         clear hcall hown hown2 hB
         go_wp2_with (go_at_call 28; refine HCA.out.mono ?_; rintro e w5 ⟨rfl, hI5, hB5⟩; have HI5 := hide hI5; have HB5 := hide hB5; clear hI5 hB5)
         go_ret2
         refine ⟨.inr (.inr ⟨HG.out, HNP.out, _, _, _, _, rfl, HI5.out, HCY.out⟩), ?_⟩
         rw [← HGs.out]
         exact C2.out.trans ((HBB.out.trans (HB5.out)).mono C2.out.size)
end Go.Proofs.Ytagbikgfkakbfaa
namespace Go.Proofs.Ytagbikgfkakbfaa
open Go.RowKit
set_option linter.unusedSimpArgs false
set_option linter.unusedVariables false
theorem srch_one {k0 k1 R Q J r r' : Int} {X X' : Sx} (h : Srch k0 k1 R Q J r X) (h' : Srch k0 k1 R Q J r' X') : r = r' ∧ (r = 0 → X = X') := by
 rcases h with ⟨h0, _, hw, hn⟩ | ⟨q, kk, rfl, hk, hr, hE, ho⟩ <;> rcases h' with ⟨h0', _, hw', hn'⟩ | ⟨q', kk', e', hk', hr', hE', ho'⟩
 · exact ⟨wrongSays_one hw hw', fun e => absurd e h0⟩
 · subst e'; exact absurd ⟨hk', hr'⟩ hn
 · exact absurd ⟨hk, hr⟩ hn'
 · obtain rfl : q = q' := by omega
   obtain rfl := hE.one hE'
   rcases ho with ⟨hf, rfl⟩ | ⟨hf, rfl, rfl⟩ <;> rcases ho' with ⟨hf', rfl⟩ | ⟨hf', rfl, rfl⟩
   · exact ⟨rfl, fun e => by cases e⟩
   · rw [hf] at hf'; cases hf'
   · rw [hf] at hf'; cases hf'
   · exact ⟨rfl, fun _ => rfl⟩
def VSays (k0 k1 R Q J who ratio kind most err : Int) : Prop :=
 (¬ goodArgs who ratio ∧ kind = 0 ∧ most = 0 ∧ err = 2) ∨
 (goodArgs who ratio ∧ ∃ r X, Srch k0 k1 R Q J r X ∧ ((r ≠ 0 ∧ kind = 0 ∧ most = 0 ∧ err = r) ∨
  (r = 0 ∧ err = 0 ∧ ((HasPot (geOf X who ratio) ∧ kind = 1 ∧ most = mostOf X.states.length (geOf X who ratio)) ∨ (¬ HasPot (geOf X who ratio) ∧ kind = 2 ∧ most = 0)))))
theorem vsays_one {k0 k1 R Q J who ratio kind most err kind' most' err' : Int} (h : VSays k0 k1 R Q J who ratio kind most err) (h' : VSays k0 k1 R Q J who ratio kind' most' err') : kind = kind' ∧ most = most' ∧ err = err' := by
 rcases h with ⟨hg, rfl, rfl, rfl⟩ | ⟨hg, r, X, hs, ho⟩ <;> rcases h' with ⟨hg', rfl, rfl, rfl⟩ | ⟨hg', r', X', hs', ho'⟩
 · exact ⟨rfl, rfl, rfl⟩
 · exact absurd hg' hg
 · exact absurd hg hg'
 · obtain ⟨rfl, hX⟩ := srch_one hs hs'
   rcases ho with ⟨h0, rfl, rfl, rfl⟩ | ⟨rfl, rfl, hp⟩ <;> rcases ho' with ⟨h0', rfl, rfl, rfl⟩ | ⟨h0', rfl, hp'⟩
   · exact ⟨rfl, rfl, rfl⟩
   · exact absurd h0' h0
   · exact absurd rfl h0'
   · obtain rfl := hX rfl
     rcases hp with ⟨hp, rfl, rfl⟩ | ⟨hp, rfl, rfl⟩ <;> rcases hp' with ⟨hp', rfl, rfl⟩ | ⟨hp', rfl, rfl⟩
     · exact ⟨rfl, rfl, rfl⟩
     · exact absurd hp hp'
     · exact absurd hp' hp
     · exact ⟨rfl, rfl, rfl⟩
structure VWay (k0 k1 R Q J who ratio : Int) (w' : World) (lv rv : Value) (ld rd : List P2) : Prop where
 way : ∃ (X : Sx) (q : Nat) (ns : List Int) (m B B' : Nat) (f : GE) (c : Nat), J = q ∧ goodArgs who ratio ∧ Srch k0 k1 R Q J 0 X ∧ CycSays X.states.length (geOf X who ratio) ns ∧ ns[0]? = some (c : Int) ∧ (geOf X who ratio)[c]? = some f ∧ f.src = (m : Int) ∧ m < X.states.length ∧
  ld = (wayB X.fr X.bys m m).reverse ∧ rd = ns.map (fun n => lateF (q + 1) n.toNat) ∧ w'.ownsRow B 22 2 lv ld.length (flat2 ld) ∧ w'.ownsRow B' 22 2 rv rd.length (flat2 rd)
def JEnds (k0 k1 R Q J who ratio : Int) (e : Ending) (w' : World) : Prop :=
 ∃ kind most err lv rv, e = .returned (.tuple #[.agg #[.int .i64 kind, .int .i64 most, lv, rv], .int .i64 err]) ∧ VSays k0 k1 R Q J who ratio kind most err ∧
  ((kind ≠ 2 ∧ lv = .slice none 0 0 ∧ rv = .slice none 0 0) ∨ (kind = 2 ∧ ∃ ld rd, VWay k0 k1 R Q J who ratio w' lv rv ld rd))
end Go.Proofs.Ytagbikgfkakbfaa
namespace Go.Proofs.Ytagbikgfkakbfaa
open Go.RowKit
set_option linter.unusedSimpArgs false
set_option linter.unusedVariables false
theorem srch_gg {k0 k1 R Q J : Int} {X : Sx} {q : Nat} (h : Srch k0 k1 R Q J 0 X) (hJ : J = (q : Int)) : SxOk (GG k0 k1 R Q q) UU X := by
 rcases h with ⟨h0, _⟩ | ⟨q', kk, e, hk, hr, hE, ⟨_, h1⟩ | ⟨hf, _, rfl⟩⟩
 · exact absurd rfl h0
 · cases h1
 · obtain rfl : q = q' := by omega
   exact sx_upto hk hr hE.1
section
variable {k0 k1 R Q : Int} {q : Nat}
def LOk (q : Nat) (l : P2) : Prop := 0 ≤ l.x ∧ l.x ≤ (q : Int) ∧ 0 ≤ l.y ∧ l.y ≤ (q : Int)
theorem stp_err {s : List Int} {l : P2} (hl : LOk q l) (h : GG k0 k1 R Q q s) : (stepR k0 k1 R Q (q : Int) l.x l.y s).2.2 = 0 := by
 obtain ⟨h1, h2, h3⟩ := h
 obtain ⟨a0, a1, a2, a3, a4, a5, a6, a7, a8, a9, a10, a11, a12, a13, rfl⟩ := len14 h2
 exact (stepR_good k0 k1 R Q (q : Int) a0 a1 a2 a3 a4 a5 a6 a7 a8 a9 a10 a11 a12 a13 l.x l.y h1 hl).1
noncomputable def rn (k0 k1 R Q : Int) (q : Nat) (s : List Int) (ls : List P2) : List Int := ls.foldl (fun s l => (stp k0 k1 R Q q s l).1) s
theorem rn_snoc (s : List Int) (ls : List P2) (l : P2) : rn k0 k1 R Q q s (ls ++ [l]) = (stp k0 k1 R Q q (rn k0 k1 R Q q s ls) l).1 := by simp [rn]
theorem rn_app (s : List Int) (a b : List P2) : rn k0 k1 R Q q s (a ++ b) = rn k0 k1 R Q q (rn k0 k1 R Q q s a) b := by simp [rn]
theorem stS_rn (es : List P2) : ∀ k, k ≤ es.length → stS k0 k1 R Q (q : Int) es k = rn k0 k1 R Q q (startI k0 k1) (es.take k) := by
 intro k
 induction k with
 | zero => intro _; simp [rn, stS]
 | succ k ih =>
   intro hk
   have he : es[k]? = some es[k] := List.getElem?_eq_getElem (by omega)
   have h1 : es.take (k + 1) = es.take k ++ [es[k]] := by rw [List.take_add_one, he]; rfl
   rw [h1, rn_snoc, ← ih (by omega)]
   show (stepR k0 k1 R Q (q : Int) (lateAt es k).x (lateAt es k).y (stS k0 k1 R Q (q : Int) es k)).1 = _
   have h2 : lateAt es k = es[k] := by unfold lateAt; rw [List.getD_eq_getElem?_getD, he]; rfl
   rw [h2]; rfl
theorem way_to {G U : List Int → Prop} {X : Sx} (hok : SxOk G U X) (hst : SxStep (stp k0 k1 R Q q) X) (h0 : X.states[0]? = some (startI k0 k1)) : ∀ f n, n ≤ f → n < X.states.length → X.states[n]? = some (rn k0 k1 R Q q (startI k0 k1) (wayB X.fr X.bys f n).reverse) := by
 intro f
 induction f with
 | zero =>
   intro n hn hl
   obtain rfl : n = 0 := by omega
   exact h0
 | succ f ih =>
   intro n hn hl
   unfold wayB
   split
   · rename_i h; subst h; exact h0
   · rename_i h
     obtain ⟨e, E, h1, h2, h3, h4, _, h6⟩ := hok.born n (by omega) hl
     have e1 : (X.fr.getD n 0).toNat = E.f := by rw [List.getD_eq_getElem?_getD, h3]; simp
     have e2 : X.bys.getD n ⟨0, 0⟩ = E.l := by rw [List.getD_eq_getElem?_getD, h4]; rfl
     obtain ⟨s, s', a1, a2, a3⟩ := hst e E h1
     have hi := ih E.f (by omega) (by omega)
     rw [e1, e2, List.reverse_cons, rn_snoc]
     rw [hi] at a1
     injection a1 with a1
     rw [a1, a3, ← h2]; exact a2
theorem way_ok {G U : List Int → Prop} {X : Sx} (hok : SxOk G U X) (hfl : X.edges.map Edg.fl = flOf (q + 1) X.states.length) (n : Nat) (hn : n < X.states.length) : ∀ l ∈ (wayB X.fr X.bys n n).reverse, LOk q l := by
 intro l hl
 obtain ⟨E, hE, rfl⟩ := wayB_mem hok n n hn l (List.mem_reverse.1 hl)
 exact edge_late hfl hE
theorem late_edge {X : Sx} (hfl : X.edges.map Edg.fl = flOf (q + 1) X.states.length) (hlen : X.edges.length = X.states.length * ((q + 1) * (q + 1))) {c : Nat} {E : Edg} (hE : X.edges[c]? = some E) : lateF (q + 1) c = E.l := by
 have h1 : (X.edges.map Edg.fl)[c]? = some E.fl := by rw [List.getElem?_map, hE]; rfl
 rw [hfl, flOf_get (by rw [← hlen]; exact (List.getElem?_eq_some_iff.1 hE).1)] at h1
 injection h1 with h1
 have h2 := congrArg Prod.snd h1
 exact h2
theorem fl_len {N n : Nat} : (flOf N n).length = n * (N * N) := by
 induction n with
 | zero => simp [flOf]
 | succ n ih => rw [flOf_succ, List.length_append, ih, List.length_map, latesP_len, Nat.succ_mul]
structure Ring (k0 k1 R Q : Int) (q : Nat) (who ratio : Int) (X : Sx) (ns : List Int) (m : Nat) (L : Int → P2) : Prop where
 st : ∀ k, k < ns.length → ∃ (c : Nat) (E : Edg), ns[k]? = some (c : Int) ∧ X.edges[c]? = some E ∧ L (c : Int) = E.l ∧ X.states[E.f]? = some (rn k0 k1 R Q q (X.states.getD m []) ((ns.take k).map L)) ∧ stp k0 k1 R Q q (rn k0 k1 R Q q (X.states.getD m []) ((ns.take k).map L)) E.l = (X.states.getD E.t [], E.us) ∧ E.t < X.states.length
 back : rn k0 k1 R Q q (X.states.getD m []) (ns.map L) = X.states.getD m []
theorem ring_of {who ratio : Int} {X : Sx} {ns : List Int} {m c : Nat} {f : GE} (hok : SxOk Gd UU X) (hst : SxStep (stp k0 k1 R Q q) X) (hfl : X.edges.map Edg.fl = flOf (q + 1) X.states.length)
 (hcs : CycSays X.states.length (geOf X who ratio) ns) (hn : ns[0]? = some (c : Int)) (hf : (geOf X who ratio)[c]? = some f) (hm : f.src = (m : Int)) : Ring k0 k1 R Q q who ratio X ns m (fun n => lateF (q + 1) n.toNat) := by
 have hlen : X.edges.length = X.states.length * ((q + 1) * (q + 1)) := by
  have := congrArg List.length hfl
  rw [List.length_map, fl_len] at this; exact this
 obtain ⟨L, hL⟩ : ∃ L : Int → P2, L = fun n => lateF (q + 1) n.toNat := ⟨_, rfl⟩
 rw [← hL]
 have key : ∀ k, k < ns.length → ∃ (c : Nat) (E : Edg), ns[k]? = some (c : Int) ∧ X.edges[c]? = some E ∧ L (c : Int) = E.l ∧ X.states[E.f]? = some (rn k0 k1 R Q q (X.states.getD m []) ((ns.take k).map L)) ∧ stp k0 k1 R Q q (rn k0 k1 R Q q (X.states.getD m []) ((ns.take k).map L)) E.l = (X.states.getD E.t [], E.us) ∧ E.t < X.states.length := by
  intro k
  induction k with
  | zero =>
    intro _
    obtain ⟨E, hE, rfl⟩ := geOf_inv hf
    have hEm : E.f = m := by simp only at hm; omega
    obtain ⟨s, s', a1, a2, a3⟩ := hst c E hE
    have hs : X.states.getD m [] = s := by rw [List.getD_eq_getElem?_getD, ← hEm, a1]; rfl
    have hs' : X.states.getD E.t [] = s' := by rw [List.getD_eq_getElem?_getD, a2]; rfl
    refine ⟨c, E, hn, hE, by rw [hL]; exact late_edge hfl hlen hE, ?_, ?_, (hok.tos c E hE).1⟩
    · simp only [List.take_zero, List.map_nil, rn, List.foldl_nil]; rw [hs]; exact a1
    · simp only [List.take_zero, List.map_nil, rn, List.foldl_nil]; rw [hs, hs']; exact a3
  | succ k ih =>
    intro hk
    obtain ⟨c', E', b1, b2, b3, b4, b5, b6⟩ := ih (by omega)
    obtain ⟨d, g, a1, a2, a3⟩ := hcs.ok (k + 1) hk
    obtain ⟨E, hE, rfl⟩ := geOf_inv a2
    rcases a3 with a3 | ⟨d', g', a4, a5, a6⟩
    · omega
    · rw [show k + 1 - 1 = k by omega, b1] at a4
      injection a4 with a4
      obtain rfl : c' = d' := by omega
      obtain ⟨E'', hE'', rfl⟩ := geOf_inv a5
      rw [b2] at hE''
      injection hE'' with hE''
      subst hE''
      have hft : E'.t = E.f := by simp only at a6; omega
      have htk : (ns.take (k + 1)).map L = (ns.take k).map L ++ [E'.l] := by rw [List.take_add_one, b1]; simp [b3]
      have hrn : rn k0 k1 R Q q (X.states.getD m []) ((ns.take (k + 1)).map L) = X.states.getD E.f [] := by rw [htk, rn_snoc, b5, hft]
      obtain ⟨s, s', c1, c2, c3⟩ := hst d E hE
      have hs : X.states.getD E.f [] = s := by rw [List.getD_eq_getElem?_getD, c1]; rfl
      have hs' : X.states.getD E.t [] = s' := by rw [List.getD_eq_getElem?_getD, c2]; rfl
      refine ⟨d, E, a1, hE, by rw [hL]; exact late_edge hfl hlen hE, ?_, ?_, (hok.tos d E hE).1⟩
      · rw [hrn, hs]; exact c1
      · rw [hrn, hs, hs']; exact c3
 refine ⟨key, ?_⟩
 have hp := hcs.pos
 obtain ⟨c', E', b1, b2, b3, b4, b5, b6⟩ := key (ns.length - 1) (by omega)
 obtain ⟨m1, m2, f1, f2, d1, d2, d3, d4, d5⟩ := hcs.ends
 rw [hn] at d1
 injection d1 with d1
 obtain rfl : c = m1 := by omega
 rw [hf] at d2
 injection d2 with d2
 subst d2
 rw [b1] at d3
 injection d3 with d3
 obtain rfl : c' = m2 := by omega
 obtain ⟨E2, hE2, rfl⟩ := geOf_inv d4
 rw [b2] at hE2
 injection hE2 with hE2
 subst hE2
 have htm : E'.t = m := by simp only at d5; omega
 have htk : ns.map L = (ns.take (ns.length - 1)).map L ++ [E'.l] := by
  have h1 : ns = ns.take (ns.length - 1) ++ [(c' : Int)] := by
   have h2 : ns.take (ns.length - 1 + 1) = ns.take (ns.length - 1) ++ [(c' : Int)] := by rw [List.take_add_one, b1]; rfl
   rw [show ns.length - 1 + 1 = ns.length by omega, List.take_length] at h2
   exact h2
  conv => lhs; rw [h1]
  simp [b3]
 rw [htk, rn_snoc, b5, htm]
end
end Go.Proofs.Ytagbikgfkakbfaa
namespace Go.Proofs.Ytagbikgfkakbfaa
open Go.RowKit
set_option linter.unusedSimpArgs false
set_option linter.unusedVariables false
def brI (who ratio : Int) (L : List R6) : Nat → Int
 | 0 => 0
 | k + 1 => brI who ratio L k + (let r := L.getD k ⟨0, 0, 0, 0, 0, 0⟩; if who = 0 then r.x2 - ratio * r.x3 else r.x3 - ratio * r.x2)
def R6.In (r : R6) : Prop := 0 ≤ r.x2 ∧ r.x2 ≤ 100 ∧ 0 ≤ r.x3 ∧ r.x3 ≤ 100
theorem r6_in {us : List Int} (h : UU us) : (r6of us).In := by
 obtain ⟨h1, h2⟩ := h
 obtain ⟨u0, u1, u2, u3, u4, u5, rfl⟩ := len6 h1
 have a2 := h2 u2 (by simp)
 have a3 := h2 u3 (by simp)
 exact ⟨a2.1, a2.2, a3.1, a3.2⟩
theorem r6_wt {us : List Int} (h : UU us) (who ratio : Int) (hw : who = 0 ∨ who = 1) : (if who = 0 then (r6of us).x2 - ratio * (r6of us).x3 else (r6of us).x3 - ratio * (r6of us).x2) = wtE who ratio us := by
 obtain ⟨h1, h2⟩ := h
 obtain ⟨u0, u1, u2, u3, u4, u5, rfl⟩ := len6 h1
 rcases hw with rfl | rfl <;> rfl
section
variable {k0 k1 R Q : Int} {q : Nat}
theorem play_good {es : List P2} (h0 : GG k0 k1 R Q q (startI k0 k1)) (hl : ∀ l ∈ es, LOk q l) : ∀ k, k ≤ es.length → GG k0 k1 R Q q (stS k0 k1 R Q (q : Int) es k) := by
 intro k
 induction k with
 | zero => intro _; exact h0
 | succ k ih =>
   intro hk
   have he : es[k]? = some es[k] := List.getElem?_eq_getElem (by omega)
   have h2 : lateAt es k = es[k] := by unfold lateAt; rw [List.getD_eq_getElem?_getD, he]; rfl
   have := (stp_good (hl es[k] (List.getElem_mem _)) (ih (by omega))).1
   show GG k0 k1 R Q q (stepR k0 k1 R Q (q : Int) (lateAt es k).x (lateAt es k).y (stS k0 k1 R Q (q : Int) es k)).1
   rw [h2]; exact this
theorem play_ok {es : List P2} (h0 : GG k0 k1 R Q q (startI k0 k1)) (hl : ∀ l ∈ es, LOk q l) {k : Nat} (hk : k < es.length) : stE k0 k1 R Q (q : Int) es k = 0 ∧ UU (stU k0 k1 R Q (q : Int) es k) := by
 have he : es[k]? = some es[k] := List.getElem?_eq_getElem hk
 have h2 : lateAt es k = es[k] := by unfold lateAt; rw [List.getD_eq_getElem?_getD, he]; rfl
 have hg := play_good h0 hl k (by omega)
 refine ⟨?_, ?_⟩
 · unfold stE; rw [h2]; exact stp_err (hl es[k] (List.getElem_mem _)) hg
 · unfold stU; rw [h2]; exact (stp_good (hl es[k] (List.getElem_mem _)) hg).2
theorem says_all {n : Nat} {es : List P2} {L : List R6} {ss : List Int} {r : Int} (hn : es.length = n) (h0 : GG k0 k1 R Q q (startI k0 k1)) (hl : ∀ l ∈ es, LOk q l) (h : PlaySays k0 k1 R Q (q : Int) es n L ss r) : L = rounds6 k0 k1 R Q (q : Int) es n ∧ ss = rn k0 k1 R Q q (startI k0 k1) es ∧ r = 0 := by
 rcases h with ⟨_, h1, h2, h3⟩ | ⟨m, hm, _, h1, _⟩
 · refine ⟨h1, ?_, h3⟩
   rw [h2, stS_rn es n (by omega), ← hn, List.take_length]
 · exact absurd (play_ok h0 hl (show m < es.length by omega)).1 h1
theorem rounds6_get {es : List P2} {n k : Nat} (hk : k < n) : (rounds6 k0 k1 R Q (q : Int) es n)[k]? = some (r6of (stU k0 k1 R Q (q : Int) es k)) := by
 unfold rounds6; rw [List.getElem?_map, List.getElem?_range hk]; rfl
end
structure Tells (k0 k1 R Q J who ratio : Int) (ld rd : List P2) : Prop where
 kinds : kindsOk k0 k1
 range : rangeOk R Q J
 args : goodArgs who ratio
 l1 : ld.length ≤ 300
 l2 : rd.length ≤ 300
 l3 : 0 < rd.length
 says : ∃ ss : List Int, ss.length = 14 ∧ (∀ z ∈ ss, Sml z) ∧ (∀ L s r, PlaySays k0 k1 R Q J ld ld.length L s r → s = ss ∧ r = 0) ∧
  (∀ L s r, PlaySays k0 k1 R Q J (ld ++ rd) (ld.length + rd.length) L s r → s = ss ∧ r = 0 ∧ L.length = ld.length + rd.length ∧ (∀ x ∈ L.drop ld.length, x.In) ∧ 0 < brI who ratio (L.drop ld.length) rd.length)
theorem brI_b {who ratio : Int} {L : List R6} (hL : ∀ x ∈ L, x.In) (hr : 1 ≤ ratio ∧ ratio ≤ 100) : ∀ k, k ≤ L.length → -(k * 10000 : Int) ≤ brI who ratio L k ∧ brI who ratio L k ≤ k * 100 := by
 intro k
 induction k with
 | zero => intro _; simp [brI]
 | succ k ih =>
   intro hk
   have h := ih (by omega)
   have he : L[k]? = some L[k] := List.getElem?_eq_getElem (by omega)
   obtain ⟨a1, a2, a3, a4⟩ := hL L[k] (List.getElem_mem _)
   have hg : L.getD k ⟨0, 0, 0, 0, 0, 0⟩ = L[k] := by rw [List.getD_eq_getElem?_getD, he]; rfl
   have m1 : 0 ≤ ratio * L[k].x3 ∧ ratio * L[k].x3 ≤ 10000 := ⟨Int.mul_nonneg (by omega) a3, by
    have := Int.mul_le_mul hr.2 a4 a3 (by omega : (0:Int) ≤ 100); omega⟩
   have m2 : 0 ≤ ratio * L[k].x2 ∧ ratio * L[k].x2 ≤ 10000 := ⟨Int.mul_nonneg (by omega) a1, by
    have := Int.mul_le_mul hr.2 a2 a1 (by omega : (0:Int) ≤ 100); omega⟩
   simp only [brI, hg]
   split <;> omega
theorem tells_of {k0 k1 R Q J who ratio : Int} {w' : World} {lv rv : Value} {ld rd : List P2} (h : VWay k0 k1 R Q J who ratio w' lv rv ld rd) : Tells k0 k1 R Q J who ratio ld rd := by
 obtain ⟨X, q, ns, m, B, B', f, c, hJ, hga, hs, hcs, hn, hf, hm, hml, hld, hrd, _, _⟩ := h.way
 have sg := srch_good hs
 have hgg := srch_gg hs hJ
 obtain ⟨q', hq', hq3, hfl, hst⟩ := sg.fl
 obtain rfl : q = q' := by omega
 subst hJ
 have h0 : GG k0 k1 R Q q (startI k0 k1) := hgg.good _ (List.mem_of_getElem? sg.first)
 have hring := ring_of (who := who) (ratio := ratio) sg.ok hst hfl hcs hn hf hm
 have hmost := sg.ok.most
 have hl1 : ∀ l ∈ ld, LOk q l := by rw [hld]; exact way_ok sg.ok hfl m hml
 have hto : X.states[m]? = some (rn k0 k1 R Q q (startI k0 k1) ld) := by rw [hld]; exact way_to sg.ok hst sg.first m m (Nat.le_refl _) hml
 have hgd : X.states.getD m [] = rn k0 k1 R Q q (startI k0 k1) ld := by rw [List.getD_eq_getElem?_getD, hto]; rfl
 have hrl : rd.length = ns.length := by rw [hrd, List.length_map]
 have hat : ∀ k, k < ns.length → ∃ (c : Nat) (E : Edg), ns[k]? = some (c : Int) ∧ X.edges[c]? = some E ∧ rd[k]? = some E.l ∧ stp k0 k1 R Q q (rn k0 k1 R Q q (startI k0 k1) (ld ++ rd.take k)) E.l = (X.states.getD E.t [], E.us) := by
  intro k hk
  obtain ⟨c, E, a1, a2, a3, a4, a5, a6⟩ := hring.st k hk
  refine ⟨c, E, a1, a2, ?_, ?_⟩
  · rw [hrd, List.getElem?_map, a1]; exact congrArg some a3
  · rw [rn_app, ← hgd, hrd, ← List.map_take]; exact a5
 have hl2 : ∀ l ∈ rd, LOk q l := by
  intro l hl
  obtain ⟨k, hk⟩ := List.mem_iff_getElem?.1 hl
  obtain ⟨c, E, a1, a2, a3, _⟩ := hat k (by rw [← hrl]; exact (List.getElem?_eq_some_iff.1 hk).1)
  rw [hk] at a3; injection a3 with a3
  rw [a3]; exact edge_late hfl (List.mem_of_getElem? a2)
 have hl3 : ∀ l ∈ ld ++ rd, LOk q l := fun l hl => (List.mem_append.1 hl).elim (hl1 l) (hl2 l)
 have hll : ld.length ≤ 300 := by rw [hld, List.length_reverse]; have := wayB_len X.fr X.bys m m; omega
 refine ⟨sg.kinds, sg.range, hga, hll, by rw [hrl]; have := hcs.le; omega, by rw [hrl]; exact hcs.pos, rn k0 k1 R Q q (startI k0 k1) ld, ?_, ?_, ?_, ?_⟩
 · have := (hgg.good _ (List.mem_of_getElem? hto)).2.1; exact this
 · have := (hgg.good _ (List.mem_of_getElem? hto)).2.2; exact this
 · intro L s r hp
   have := says_all rfl h0 hl1 hp
   exact this.2
 · intro L s r hp
   obtain ⟨e1, e2, e3⟩ := says_all (by rw [List.length_append]) h0 hl3 hp
   have hLl : L.length = ld.length + rd.length := by rw [e1, rounds6_len]
   have hget : ∀ k, k < rd.length → ∃ (c : Nat) (E : Edg), ns[k]? = some (c : Int) ∧ X.edges[c]? = some E ∧ (L.drop ld.length)[k]? = some (r6of E.us) ∧ UU E.us := by
    intro k hk
    obtain ⟨c, E, a1, a2, a3, a4⟩ := hat k (by omega)
    have hu : stU k0 k1 R Q (q : Int) (ld ++ rd) (ld.length + k) = E.us := by
     unfold stU
     have hx : (ld ++ rd)[ld.length + k]? = some E.l := by rw [List.getElem?_append_right (by omega), show ld.length + k - ld.length = k by omega]; exact a3
     rw [show lateAt (ld ++ rd) (ld.length + k) = E.l by unfold lateAt; rw [List.getD_eq_getElem?_getD, hx]; rfl]
     rw [stS_rn (ld ++ rd) (ld.length + k) (by rw [List.length_append]; omega), show (ld ++ rd).take (ld.length + k) = ld ++ rd.take k by rw [List.take_append, List.take_of_length_le (by omega), show ld.length + k - ld.length = k by omega]]
     exact congrArg Prod.snd a4
    refine ⟨c, E, a1, a2, ?_, (sg.ok.tos c E a2).2.2⟩
    rw [List.getElem?_drop, e1, rounds6_get (by omega), hu]
   have hw : who = 0 ∨ who = 1 := by unfold goodArgs at hga; omega
   have hra : 1 ≤ ratio ∧ ratio ≤ 100 := by unfold goodArgs at hga; omega
   have hin : ∀ x ∈ L.drop ld.length, x.In := by
    intro x hx
    obtain ⟨k, hk⟩ := List.mem_iff_getElem?.1 hx
    have hkl := (List.getElem?_eq_some_iff.1 hk).1
    rw [List.length_drop] at hkl
    obtain ⟨c, E, _, _, a3, a4⟩ := hget k (by omega)
    rw [hk] at a3; injection a3 with a3
    rw [a3]; exact r6_in a4
   have hb := brI_b (who := who) hin hra
   have hr3 : rd.length ≤ 300 := by rw [hrl]; have := hcs.le; omega
   have hsum : ∀ k, k ≤ rd.length → wI (geOf X who ratio) ns k = brI who ratio (L.drop ld.length) k := by
    intro k
    induction k with
    | zero => intro _; rfl
    | succ k ih =>
      intro hk
      obtain ⟨c, E, a1, a2, a3, a4⟩ := hget k (by omega)
      rw [wI_succ a1 (geOf_at a2), ih (by omega)]
      have hd : (L.drop ld.length).getD k ⟨0, 0, 0, 0, 0, 0⟩ = r6of E.us := by rw [List.getD_eq_getElem?_getD, a3]; rfl
      have hb1 := hb (k + 1) (by rw [List.length_drop]; omega)
      have hs1 : brI who ratio (L.drop ld.length) (k + 1) = brI who ratio (L.drop ld.length) k + wtE who ratio E.us := by
       simp only [brI, hd]; rw [r6_wt a4 who ratio hw]
      rw [hs1] at hb1 ⊢
      dsimp only
      exact IntWalk.i64_in _ (by omega)
   refine ⟨?_, e3, hLl, hin, ?_⟩
   · rw [e2, rn_app, ← hgd, hrd]; exact hring.back
   · rw [← hsum rd.length (Nat.le_refl _), hrl]; exact hcs.more
end Go.Proofs.Ytagbikgfkakbfaa
namespace Go.Proofs.Ytagbikgfkakbfaa
open Go.RowKit
set_option linter.unusedSimpArgs false
set_option linter.unusedVariables false
attribute [local go_sem] iteMin iteMax iteMinN iteMaxN
theorem fold_take {xs : List Int} {k : Nat} {x : Int} (h : xs[k]? = some x) : (xs.take (k + 1)).foldl max 0 = max ((xs.take k).foldl max 0) x := by
 rw [List.take_add_one, h]; simp [List.foldl_append]
set_option maxHeartbeats 2000000 in
theorem smax_any (a : Option Addr) (n c : Nat) (xs : List Int) (w : World) (h : IntsAt w a n c xs) (h0 : 0 < n) (hx : ∀ x ∈ xs, 0 ≤ x) :
 Calls Try.prog 16 #[.slice a n c] w fun e w' => e = .returned (.int .i64 (xs.foldl max 0)) ∧ w = w' := by
 have HL := hide h.len
 have hlim := h.lim
 obtain ⟨ad0, x0, rfl, hb0, hc0, HX0⟩ := h.get0 (Below.refl _ _) h0
 have n0 : (0 : Int) < (n : Int) := by omega
 have n1 : ¬ ((n : Int) < 1) := by omega
 have HS := hide (show x0 = (xs.take 1).foldl max 0 by
  rw [fold_take (k := 0) HX0.out]
  have := hx x0 (List.mem_of_getElem? HX0.out)
  simp; omega)
 go_enter Try.func16, Try.ntmps16
 go_wp2
 clear hc0 HX0
 go_loop [3, 4] (fun m i => ∃ k : Nat, 1 ≤ k ∧ k ≤ n ∧ i = .int .i64 k ∧ m = .int .i64 ((xs.take k).foldl max 0)) (fun _ i => n - (intOf i).toNat)
 case atStart => exact ⟨1, Nat.le_refl _, h0, rfl, by rw [HS.out]⟩
 case round =>
  obtain ⟨k, hk1, hk, rfl, rfl⟩ := hrel
  have k0 : (0 : Int) ≤ (k : Int) := Int.natCast_nonneg _
  by_cases hlt : k < n
  · obtain ⟨ad, x, e, hbd, hc, HX⟩ := h.getB (Below.refl _ _) hlt
    injection e with e
    subst e
    have k1 : (k : Int) < (n : Int) := by omega
    have HE := hide (fold_take HX.out)
    obtain ⟨M, hM⟩ : ∃ M, (xs.take k).foldl max 0 = M := ⟨_, rfl⟩
    rw [hM] at HE ⊢
    clear h hM HX
    go_wp2
    go_round
    case rel => exact ⟨k + 1, by omega, by omega, by go_num, by rw [HE.out]⟩
    case measure => simp [intOf]; omega
  · have HF := hide (show xs.foldl max 0 = (xs.take k).foldl max 0 by rw [List.take_of_length_le (by rw [HL.out]; omega)])
    obtain ⟨M, hM⟩ : ∃ M, (xs.take k).foldl max 0 = M := ⟨_, rfl⟩
    rw [hM] at HF ⊢
    clear h hM
    go_wp2
    go_ret
    exact ⟨by rw [HF.out]; rfl, rfl⟩
end Go.Proofs.Ytagbikgfkakbfaa
namespace Go.Proofs.Ytagbikgfkakbfaa
open Go.RowKit
set_option linter.unusedSimpArgs false
set_option linter.unusedVariables false
attribute [local go_sem] iteMin iteMax iteMinN iteMaxN
theorem IntsAt.eqv {w : World} {a : Option Addr} {n c : Nat} {xs ys : List Int} (h : IntsAt w a n c xs) (e : xs = ys) : IntsAt w a n c ys := e ▸ h
def MostEnds (N : Int) (es : List GE) (e : Ending) (w' : World) : Prop :=
 (¬ GraphOk N es ∧ e = .returned (.tuple #[.slice none 0 0, .int .i64 2])) ∨
 (GraphOk N es ∧ HasPot es ∧ ∃ b d, e = .returned (.tuple #[.slice b N.toNat d, .int .i64 0]) ∧ IntsAt w' b N.toNat d (tabI N.toNat (siter (pes es) N.toNat))) ∨
 (GraphOk N es ∧ ¬ HasPot es ∧ e = .returned (.tuple #[.slice none 0 0, .int .i64 3]))
set_option maxRecDepth 100000 in
theorem most_bad (N : Int) (a : Option Addr) (n c : Nat) (es : List GE) (w : World) (h : EdgesAt w a n c es) (hg : ¬ GraphOk N es) :
 Calls Try.prog 15 #[.agg #[.int .i64 N, .slice a n c]] w fun e w' => MostEnds N es e w' ∧ Below w.heap.size w w' := by
 have HG := hide hg
 have hE := h.below ((Below.refl w.heap.size w).alloc (Nat.le_refl _) (.cells #[.int .i64 N, .slice a n c] 56))
 clear hg h
 go_enter Try.func15, Try.ntmps15
 go_wp2_with fail
 refine (wrong_any _ _ _ _ _ _ hE).mono ?_
 rintro e w1 ⟨⟨r, hr, rfl⟩, B1⟩
 obtain rfl : r = 2 := by rcases hr with ⟨_, h2⟩ | ⟨h1, _⟩; exact absurd h2 HG.out; exact h1
 clear hr hE
 go_wp2
 go_ret2
 exact ⟨.inl ⟨HG.out, rfl⟩, ((Below.refl _ _).alloc (Nat.le_refl _) _).trans (B1.mono (by simp))⟩
set_option maxRecDepth 100000 in
set_option maxHeartbeats 4000000 in
theorem most_ok (N : Nat) (a : Option Addr) (n c : Nat) (es : List GE) (w : World) (h : EdgesAt w a n c es) (hg : GraphOk (N : Int) es) :
 Calls Try.prog 15 #[.agg #[.int .i64 N, .slice a n c]] w fun e w' => MostEnds N es e w' ∧ Below w.heap.size w w' := by
 have HG := hide hg
 have hN : N ≤ 300 := by have := hg.1.2.1; omega
 obtain ⟨W, hW⟩ : ∃ W, W = w.alloc (.cells #[.int .i64 N, .slice a n c] 56) := ⟨_, rfl⟩
 have hWB : Below w.heap.size w W := by rw [hW]; exact (Below.refl _ _).alloc (Nat.le_refl _) _
 have hWs : W.heap.size = w.heap.size + 1 := by rw [hW]; simp
 have e0 : W.cell? ⟨w.heap.size, 0, none⟩ = some (.int .i64 N) := by rw [hW]; simp [go_sem]
 have e1 : W.cell? ⟨w.heap.size, 1, none⟩ = some (.slice a n c) := by rw [hW]; simp [go_sem]
 have hE := h.below hWB
 clear hg h
 go_enter Try.func15, Try.ntmps15
 go_wp2_with fail
 rw [← hW]
 clear hW
 refine (wrong_any _ _ _ _ _ _ hE).mono ?_
 rintro e w1 ⟨⟨r, hr, rfl⟩, B1⟩
 obtain rfl : r = 0 := by rcases hr with ⟨h1, _⟩ | ⟨_, h2⟩; exact h1; exact absurd HG.out h2
 have b0 : w1.cell? ⟨w.heap.size, 0, none⟩ = some (.int .i64 N) := (B1.cell (by show w.heap.size < _; omega)).trans e0
 have b1 : w1.cell? ⟨w.heap.size, 1, none⟩ = some (.slice a n c) := (B1.cell (by show w.heap.size < _; omega)).trans e1
 have hE1 := hE.below B1
 have HBw := hide (hWB.trans (B1.mono (by omega)))
 clear hr hE e0 e1 B1 hWB hWs
 go_wp2_with fail
 refine (solve_any _ _ _ _ _ _ hE1 HG.out).mono ?_
 rintro e w2 ⟨⟨q, sb, gm, gb, hS⟩, B2⟩
 obtain ⟨rfl, hq, c0, c1, c2, c3, tm, tb⟩ := hS
 have HBw2 := hide (HBw.out.trans (B2.mono HBw.out.size))
 have HQ := hide hq
 have HTM := hide tm
 clear hq tm tb hE1 b0 b1 B2
 obtain ⟨L, hL⟩ : ∃ L, q.last = L := ⟨_, rfl⟩
 rw [hL]
 have HL := hide hL
 clear hL
 rcases Int.lt_or_le L 0 with hl | hl
 · have HF := hide (solved_pot HG.out HQ.out (by rw [HL.out]; exact hl))
   go_wp2
   go_ret2
   exact ⟨.inr (.inl ⟨HG.out, HF.out.1, _, _, rfl, IntsAt.eqv (HTM.out.ints (by omega)) (tab_eq fun t _ => HF.out.2 t)⟩), HBw2.out⟩
 · have HF := hide (solved_no HG.out HQ.out (by rw [HL.out]; exact hl))
   go_wp2
   go_ret2
   exact ⟨.inr (.inr ⟨HG.out, HF.out, rfl⟩), HBw2.out⟩
end Go.Proofs.Ytagbikgfkakbfaa
namespace Go.Proofs.Ytagbikgfkakbfaa
open Go.RowKit
set_option linter.unusedSimpArgs false
set_option linter.unusedVariables false
attribute [local go_sem] iteMin iteMax iteMinN iteMaxN
theorem step_appendP {ops : Array Oper} {o : Oper} {a : Act} {w : World} {K : Act → World → Prop} {Q : Exit → Act → World → Prop} {E : Prop} (hgd : o.guard = none) (s x : Operand) (t e : TypeId)
 (ho : o.op = .call { callee := .builtin .append, args := #[s, x], argTypes := #[t, t] }) (d : Nat) (hd : o.dst = some d) (base : Nat) (i : TypeInfo) (z : Value) (size bytes : Nat) (ht : Try.prog.underlying t = some (.slice e)) (hi : Try.prog.info? e = some i) (hz : i.zero = some z)
 (hsize : i.size = size) (hby : i.bytes = bytes) (hzs : z.cells.size = size) (hsz : 0 < size) (v : Value) (n : Nat) (xs : List Value) (hs : a.eval s = v) (hown : w.ownsRow base e size v n xs)
 (ad : Addr) (c : Nat) (hx : a.eval x = .slice (some ad) 1 c) (news : List Value) (hl : news.length = 1 * size) (hnews : ∀ j u, news[j]? = some u → w.cell? (ad.add j) = some u) (h1 : ∀ u ∈ news, u.oneCell' = true)
 (h63 : n + 1 ≤ maxLen) (hbytes : (n + 1) * bytes ≤ 140737488355328) (hbase : base ≤ w.heap.size)
 (hK : ∀ v' w', w'.ownsRow base e size v' (n + 1) (xs ++ news) → w.grownBy w' v.ownBlock → (v'.ownBlock = v.ownBlock ∨ v'.ownBlock = some w.heap.size) → K (a.put (some d) v') w') :
 if Region.wanted o (yielded ops a.tmps) = true then Oper.wp Try.prog o a w K Q else E := by
 have hw : Region.wanted o (yielded ops a.tmps) = true := by simp [Region.wanted, hgd]
 rw [if_pos hw]
 obtain ⟨v', w', hr, h2, h3, _, h4⟩ := run_append_own_at w base t o.type e i z size bytes ht hi hz hsize hby hzs hsz v n xs hown ad 1 c news hl hnews h1 h63 hbytes hbase
 unfold Oper.wp execOp
 simp only [ho, resolve, invoke, builtin, Sem.run_bind, Sem.run_pure, Result.andThen_ok, List.map_toArray, List.map_cons, List.map_nil, hs, hx, hr]
 rw [Oper.upon_value, hd]
 exact hK v' w' h2 h3 h4
theorem meas9 {n m : Nat} (h : m < n) : n - ((m : Int) + 1).toNat < n - (m : Int).toNat := by omega
theorem row_type {w : World} {B n size g : Nat} {e t : TypeId} {v : Value} {xs : List Value} {arr : Array Value} (h : w.ownsRow B e size v n xs) (hT : w.heap[g]? = some (.cells arr t)) (hne : e ≠ t) : v.ownBlock ≠ some g := by
 intro hg
 rcases h.2 with ⟨rfl, _⟩ | ⟨g', cap, cur, rfl, _, hh, _⟩
 · simp [Value.ownBlock] at hg
 · simp only [Value.ownBlock, Option.some.injEq] at hg
   subst hg
   rw [hT] at hh
   injection hh with hh
   injection hh with _ h2
   exact hne h2.symm
theorem Blk.d4 {Z : World} {b : Nat} {v0 v1 v2 v3 : Value} (h : Blk Z b [v0, v1, v2, v3]) : Z.cell? ⟨b, 0, none⟩ = some v0 ∧ Z.cell? ⟨b, 1, none⟩ = some v1 ∧ Z.cell? ⟨b, 2, none⟩ = some v2 ∧ Z.cell? ⟨b, 3, none⟩ = some v3 :=
 ⟨(h 0 _ rfl).1, (h 1 _ rfl).1, (h 2 _ rfl).1, (h 3 _ rfl).1⟩
theorem ver_fin {w wr : World} {S B : Nat} {x0 x1 x2 x3 y0 y1 y2 y3 : Value} (b : Blk wr B [x0, x1, x2, x3]) (hB : Below S w wr) (hS : S ≤ B) : ∃ Z, Z = ((((wr.setCell ⟨B, 0, none⟩ y0).setCell ⟨B, 1, none⟩ y1).setCell ⟨B, 2, none⟩ y2).setCell ⟨B, 3, none⟩ y3) ∧ Blk Z B [y0, y1, y2, y3] ∧ Below S w Z ∧ ∀ g, g ≠ B → Z.heap[g]? = wr.heap[g]? :=
 ⟨_, rfl, ((((b.set (j := 0) (by simp) y0).set (j := 1) (by simp) y1).set (j := 2) (by simp) y2).set (j := 3) (by simp) y3), (((hB.setCell (p := ⟨B, 0, none⟩) hS y0).setCell (p := ⟨B, 1, none⟩) hS y1).setCell (p := ⟨B, 2, none⟩) hS y2).setCell (p := ⟨B, 3, none⟩) hS y3,
  fun g hg => (Below.heap_setCell _ ⟨B, 3, none⟩ y3 g hg).trans ((Below.heap_setCell _ ⟨B, 2, none⟩ y2 g hg).trans ((Below.heap_setCell _ ⟨B, 1, none⟩ y1 g hg).trans (Below.heap_setCell _ ⟨B, 0, none⟩ y0 g hg)))⟩
set_option maxRecDepth 100000 in
set_option maxHeartbeats 4000000 in
theorem jud_err (k0 k1 R Q J who ratio r : Int) (w : World) (hr : r ≠ 0) (h : ∀ w : World, Calls Try.prog 14 #[.agg #[.int .i64 k0, .int .i64 k1, .int .i64 R, .int .i64 Q, .int .i64 J], .int .i64 who, .int .i64 ratio] w fun e w' => e = .returned (.tuple #[.agg #[.int .i64 0, .slice none 0 0], .int .i64 r]) ∧ Below w.heap.size w w') :
 Calls Try.prog 7 #[.agg #[.int .i64 k0, .int .i64 k1, .int .i64 R, .int .i64 Q, .int .i64 J], .int .i64 who, .int .i64 ratio] w fun e w' => e = .returned (.tuple #[.agg #[.int .i64 0, .int .i64 0, .slice none 0 0, .slice none 0 0], .int .i64 r]) ∧ Below w.heap.size w w' := by
 have hrb : ((r : Int) == 0) = false := by simpa using hr
 have HH := hide h
 clear h hr
 obtain ⟨S, hS⟩ : ∃ S, w.heap.size = S := ⟨_, rfl⟩
 go_enter Try.func7, Try.ntmps7
 go_upto_region 1 with fail
 obtain ⟨W, hW⟩ : ∃ W, W = (w.alloc (.cells #[.int .i64 k0, .int .i64 k1, .int .i64 R, .int .i64 Q, .int .i64 J] 24)).alloc (.cells #[.int .i64 0, .int .i64 0, .slice none 0 0, .slice none 0 0] 33) := ⟨_, rfl⟩
 rw [← hW]
 have R0 : Blk W S [.int .i64 k0, .int .i64 k1, .int .i64 R, .int .i64 Q, .int .i64 J] := by
  have := (Blk.new w [.int .i64 k0, .int .i64 k1, .int .i64 R, .int .i64 Q, .int .i64 J] 24).alloc (.cells #[.int .i64 0, .int .i64 0, .slice none 0 0, .slice none 0 0] 33)
  rw [hW]; simpa [hS] using this
 have R1 : Blk W (S + 1) [.int .i64 0, .int .i64 0, .slice none 0 0, .slice none 0 0] := by
  have := Blk.new (w.alloc (.cells #[.int .i64 k0, .int .i64 k1, .int .i64 R, .int .i64 Q, .int .i64 J] 24)) [.int .i64 0, .int .i64 0, .slice none 0 0, .slice none 0 0] 33
  rw [hW]; simpa [hS] using this
 have BS : Below S w W := by rw [hW, ← hS]; exact ((Below.refl _ _).alloc (Nat.le_refl _) _).alloc (by simp) _
 have T1 : W.heap[S + 1]? = some (.cells #[.int .i64 0, .int .i64 0, .slice none 0 0, .slice none 0 0] 33) := by
  have := heap_alloc_new (w.alloc (.cells #[.int .i64 k0, .int .i64 k1, .int .i64 R, .int .i64 Q, .int .i64 J] 24)) (.cells #[.int .i64 0, .int .i64 0, .slice none 0 0, .slice none 0 0] 33)
  rw [hW]; simpa [hS] using this
 clear hW
 obtain ⟨r_0, r_1, r_2, r_3, r_4⟩ := R0.c5
 have H0 := hide R0; have H1 := hide R1; have HB := hide BS
 clear R0 R1 BS
 go_wp2_with fail
 refine (HH.out W).mono ?_
 rintro e w1 ⟨rfl, hA⟩
 clear r_0 r_1 r_2 r_3 r_4
 have R1 := H1.out.below hA H1.out.lt
 have BS := HB.out.trans (hA.mono (Nat.le_of_lt H0.out.lt))
 obtain ⟨V, hV⟩ : ∃ V, V = w1.alloc (.cells #[.int .i64 0, .slice none 0 0] 56) := ⟨_, rfl⟩
 have R1 := R1.alloc (.cells #[.int .i64 0, .slice none 0 0] 56)
 have BS := BS.alloc (by have := hA.size; have := H0.out.lt; omega) (.cells #[.int .i64 0, .slice none 0 0] 56)
 rw [← hV] at R1 BS
 have HR := hide R1; have HBS := hide BS
 go_upto_region 2 with fail
 rw [← hV]
 clear hV hA BS
 have f0 := (R1 0 _ rfl).2; have f1 := (R1 1 _ rfl).2; have f2 := (R1 2 _ rfl).2; have f3 := (R1 3 _ rfl).2
 obtain ⟨z0, z1, z2, z3⟩ := R1.d4
 clear R1
 go_wp2
 obtain ⟨Z, hZ, z, zB, -⟩ := ver_fin (y0 := .int .i64 0) (y1 := .int .i64 0) (y2 := .slice none 0 0) (y3 := .slice none 0 0) HR.out HBS.out (by omega)
 rw [← hZ]
 obtain ⟨c0, c1, c2, c3⟩ := z.d4
 refine bodyPost_ret (v := .tuple #[.agg #[.int .i64 0, .int .i64 0, .slice none 0 0, .slice none 0 0], .int .i64 r]) ?_ rfl ⟨rfl, ?_⟩
 · simp [results, Try.f7, go_sem, c0, c1, c2, c3]
 · rw [hS]; exact zB
set_option maxRecDepth 100000 in
set_option maxHeartbeats 8000000 in
theorem jud_pot (k0 k1 R Q J who ratio : Int) (X : Sx) (w : World) (hs : Srch k0 k1 R Q J 0 X) (hga : goodArgs who ratio) (hp : HasPot (geOf X who ratio)) :
 Calls Try.prog 7 #[.agg #[.int .i64 k0, .int .i64 k1, .int .i64 R, .int .i64 Q, .int .i64 J], .int .i64 who, .int .i64 ratio] w fun e w' => e = .returned (.tuple #[.agg #[.int .i64 1, .int .i64 (mostOf X.states.length (geOf X who ratio)), .slice none 0 0, .slice none 0 0], .int .i64 0]) ∧ Below w.heap.size w w' := by
 have SG := hide (srch_good hs)
 have HSR := hide hs
 have HGA := hide hga
 have HP := hide hp
 clear hs hga hp
 obtain ⟨S, hS⟩ : ∃ S, w.heap.size = S := ⟨_, rfl⟩
 go_enter Try.func7, Try.ntmps7
 go_upto_region 1 with fail
 obtain ⟨W, hW⟩ : ∃ W, W = (w.alloc (.cells #[.int .i64 k0, .int .i64 k1, .int .i64 R, .int .i64 Q, .int .i64 J] 24)).alloc (.cells #[.int .i64 0, .int .i64 0, .slice none 0 0, .slice none 0 0] 33) := ⟨_, rfl⟩
 rw [← hW]
 have R0 : Blk W S [.int .i64 k0, .int .i64 k1, .int .i64 R, .int .i64 Q, .int .i64 J] := by
  have := (Blk.new w [.int .i64 k0, .int .i64 k1, .int .i64 R, .int .i64 Q, .int .i64 J] 24).alloc (.cells #[.int .i64 0, .int .i64 0, .slice none 0 0, .slice none 0 0] 33)
  rw [hW]; simpa [hS] using this
 have R1 : Blk W (S + 1) [.int .i64 0, .int .i64 0, .slice none 0 0, .slice none 0 0] := by
  have := Blk.new (w.alloc (.cells #[.int .i64 k0, .int .i64 k1, .int .i64 R, .int .i64 Q, .int .i64 J] 24)) [.int .i64 0, .int .i64 0, .slice none 0 0, .slice none 0 0] 33
  rw [hW]; simpa [hS] using this
 have BS : Below S w W := by rw [hW, ← hS]; exact ((Below.refl _ _).alloc (Nat.le_refl _) _).alloc (by simp) _
 have T1 : W.heap[S + 1]? = some (.cells #[.int .i64 0, .int .i64 0, .slice none 0 0, .slice none 0 0] 33) := by
  have := heap_alloc_new (w.alloc (.cells #[.int .i64 k0, .int .i64 k1, .int .i64 R, .int .i64 Q, .int .i64 J] 24)) (.cells #[.int .i64 0, .int .i64 0, .slice none 0 0, .slice none 0 0] 33)
  rw [hW]; simpa [hS] using this
 clear hW
 obtain ⟨r_0, r_1, r_2, r_3, r_4⟩ := R0.c5
 have H0 := hide R0; have H1 := hide R1; have HB := hide BS
 clear R0 R1 BS
 go_wp2_with fail
 refine (graph_srch HSR.out who ratio W HGA.out).mono ?_
 rintro e w1 hres
 clear r_0 r_1 r_2 r_3 r_4
 rcases hres with ⟨h0, _⟩ | ⟨_, v, B, rfl, hrow, hA⟩
 · exact absurd rfl h0
 obtain ⟨a, c, hv⟩ := sliceShape hrow
 subst hv
 have hE := edgesAt_row hrow rfl SG.out.most
 have R0 := H0.out.below hA H0.out.lt
 have R1 := H1.out.below hA H1.out.lt
 have BS := HB.out.trans (hA.mono (Nat.le_of_lt H0.out.lt))
 have T1 := (hA.block (S + 1) H1.out.lt).trans T1
 obtain ⟨N, hN⟩ : ∃ N, X.states.length = N := ⟨_, rfl⟩
 obtain ⟨n, hn⟩ : ∃ n, X.edges.length = n := ⟨_, rfl⟩
 obtain ⟨es, hes⟩ : ∃ es, geOf X who ratio = es := ⟨_, rfl⟩
 have hG : GraphOk (N : Int) es := by rw [← hN, ← hes]; exact geOf_ok SG.out.ok SG.out.most HGA.out
 rw [hn, hes] at hE
 have HN := hide hN; have Hn := hide hn; have HES := hide hes; have HG := hide hG
 rw [hN, hn]
 clear hrow hN hn hes hG
 obtain ⟨V, hV⟩ : ∃ V, V = w1.alloc (.cells #[.int .i64 N, .slice a n c] 56) := ⟨_, rfl⟩
 obtain ⟨FB, hFB⟩ : ∃ FB, w1.heap.size = FB := ⟨_, rfl⟩
 have hAs : S + 1 < FB := by have := R1.lt; omega
 have R0 := R0.alloc (.cells #[.int .i64 N, .slice a n c] 56)
 have R1 := R1.alloc (.cells #[.int .i64 N, .slice a n c] 56)
 have R2 := Blk.new w1 [.int .i64 N, .slice a n c] 56
 have BS := BS.alloc (by omega) (.cells #[.int .i64 N, .slice a n c] 56)
 have hE := hE.below ((Below.refl w1.heap.size w1).alloc (Nat.le_refl _) (.cells #[.int .i64 N, .slice a n c] 56))
 have T1 := (heap_alloc_old w1 (.cells #[.int .i64 N, .slice a n c] 56) (show S + 1 < w1.heap.size by omega)).trans T1
 rw [← hV] at R0 R1 R2 BS hE T1
 rw [hFB] at R2
 go_upto_region 4 with fail
 (try rw [hFB])
 rw [← hV]
 clear hV hA hFB H0 H1 HB
 obtain ⟨g_0, g_1⟩ := R2.c2
 have H0 := hide R0; have H1 := hide R1; have H2 := hide R2; have HB := hide BS
 clear R0 R1 R2 BS
 go_wp2_with fail
 refine (most_ok N a n c es V hE HG.out).mono ?_
 rintro e w2 ⟨hm, hA⟩
 clear g_0 g_1
 have R0 := H0.out.below hA H0.out.lt
 have R1 := H1.out.below hA H1.out.lt
 have R2 := H2.out.below hA H2.out.lt
 have BS := HB.out.trans (hA.mono (Nat.le_of_lt H0.out.lt))
 have hE := hE.below hA
 have T1 := (hA.block (S + 1) H1.out.lt).trans T1
 clear hA H0 H1 H2 HB
 rcases hm with ⟨h1, _⟩ | ⟨_, _, b, d, rfl, hI⟩ | ⟨_, h1, _⟩
 · exact absurd HG.out h1
 case inr.inr => exact absurd (by rw [← HES.out]; exact HP.out) h1
 rw [Int.toNat_natCast] at hI
 rw [Int.toNat_natCast]
 have hN1 : 0 < N := by have := SG.out.ok.one; have := HN.out; omega
 have HH0 := hide R0; have HR := hide R1; have HBS := hide BS
 clear R0 R1 R2 BS hE
 go_wp2_with fail
 refine (smax_any b N d _ w2 hI hN1 (fun x hx => ?_)).mono ?_
 · simp only [tabI, List.mem_map, List.mem_range] at hx
   obtain ⟨v, hv, rfl⟩ := hx
   exact (siter_b HG.out N v).1
 rintro e w3 ⟨rfl, rfl⟩
 obtain ⟨mo, hmo⟩ : ∃ mo, (tabI N (siter (pes es) N)).foldl max 0 = mo := ⟨_, rfl⟩
 have HMO : Hid (mostOf X.states.length (geOf X who ratio) = mo) := hide (by rw [HN.out, HES.out]; exact hmo)
 rw [hmo]
 have R1 := HR.out
 have f0 := (R1 0 _ rfl).2; have f1 := (R1 1 _ rfl).2; have f2 := (R1 2 _ rfl).2; have f3 := (R1 3 _ rfl).2
 obtain ⟨z0, z1, z2, z3⟩ := R1.d4
 clear R1 hI hmo
 go_wp2
 obtain ⟨Z, hZ, z, zB, -⟩ := ver_fin (y0 := .int .i64 1) (y1 := .int .i64 mo) (y2 := .slice none 0 0) (y3 := .slice none 0 0) HR.out HBS.out (by omega)
 rw [← hZ]
 obtain ⟨c0, c1, c2, c3⟩ := z.d4
 refine bodyPost_ret (v := .tuple #[.agg #[.int .i64 1, .int .i64 mo, .slice none 0 0, .slice none 0 0], .int .i64 0]) ?_ rfl ⟨by rw [HMO.out], ?_⟩
 · simp [results, Try.f7, go_sem, c0, c1, c2, c3]
 · rw [hS]; exact zB
end Go.Proofs.Ytagbikgfkakbfaa
