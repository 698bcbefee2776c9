/-
  WALK: (*walker).visit.
-/
import Derived.Test.YthjicnddfjpnjaaMVisP
namespace Go.Proofs.Ythjicnddfjpnjaa
open Go.RowKit
set_option linter.unusedSimpArgs false
set_option linter.unusedVariables false

attribute [local go_sem] iteMin iteMax iteMinN iteMaxN

theorem BackI.short {es : List PE} {N : Nat} {hi : Nat → Int} {S : DS} {A B B1 B2 path : List Nat} {x m v : Nat} (h : BackI A B x B1 B2 m) (hab : path ++ [v] = A ++ x :: B) (hd : DInv es N hi S (path ++ [v])) : B1.length + B2.length = B.length ∧ B.length ≤ N := by
  have h1 := hd.short
  rw [hab] at h1
  have h2 := congrArg List.length h.sp
  simp only [List.length_append, List.length_cons] at h1 h2
  omega
def lenV2 : Value → Nat
  | .slice _ n _ => n
  | _ => 0
theorem own_lenV2 {w : World} {B e k : Nat} {v : Value} {xs : List Value} (h : w.ownsRow B e 1 v k xs) : lenV2 v = k := by
  rcases h.2 with ⟨rfl, h1⟩ | ⟨g, cap, cur, rfl, _⟩
  · simp only [lenV2]; have := h.1; simp_all
  · rfl
set_option maxRecDepth 100000 in
set_option maxHeartbeats 8000000 in
theorem visit_any (WB B hb hc n c gb cb gt ct N : Nat) (ea : Option Addr) (les : List GE) (hi : Nat → Int) (hN : N ≤ 300) (hg : GraphOkW (N : Int) les) (hhi : ∀ v, v < N → 0 ≤ hi v ∧ hi v ≤ 4000000000000000) : ∀ (m : Nat) (S : DS) (path : List Nat) (v : Nat) (w : World),
    whites N S ≤ m → VMem w WB B hb hc n c gb cb gt ct N ea les hi S → DInv (pes les) N hi S path → v < N →
    (S.st v = 2 ∨ (S.st v = 0 ∧ ∀ a, path.getLast? = some a → ∃ (k : Nat) (e : PE), S.by_ v = (k : Int) ∧ (pes les)[k]? = some e ∧ Tight hi e ∧ e.src = a ∧ e.dst = v)) →
    Calls Try.prog 45 #[.pointer (some ⟨WB, 0, none⟩), .int .i64 v] w fun e w' => VEnds w WB B hb hc n c gb cb gt ct N ea les hi S path v e w' := by
  intro m
  induction m with
  | zero =>
    intro S path v w hw hm hd hv hs
    rcases hs with hs | ⟨hs, _⟩
    · exact visit_black WB B hb hc n c gb cb gt ct N ea les hi S path v w hN hm hd hv hs
    · exfalso
      have : 0 < whites N S := List.countP_pos_iff.2 ⟨v, List.mem_range.2 hv, by simp [hs]⟩
      omega
  | succ m ih =>
    intro S path v w hw hm hd hv hs
    rcases hs with hs | ⟨hs, hl⟩
    · exact visit_black WB B hb hc n c gb cb gt ct N ea les hi S path v w hN hm hd hv hs
    obtain ⟨i0, hi0, hz0, hz1, hz2⟩ := info_parts intInfoVi
    have IH := hide ih
    have HG := hide hg
    have HHI := hide hhi
    have HL := hide hm.te.len
    have HN4 := hide (show n ≤ 4800 by have := hg.1.2.2; rw [hm.te.len] at this; exact this)
    have HWH := hide hw
    have HS0 := hide hs
    have c1 := hm.c1
    have c3 := hm.c3
    have s0 := hm.ts.cell hv
    rw [hs] at s0
    have sf := hm.ts.free v
    have v0 : (0 : Int) ≤ (v : Int) := Int.natCast_nonneg _
    have v1 : (v : Int) < (N : Int) := by omega
    obtain ⟨X, hX⟩ : ∃ X, X = w.setCell ⟨gt, v, none⟩ (.int .i64 1) := ⟨_, rfl⟩
    have HM0 := hide (show VMem X WB B hb hc n c gb cb gt ct N ea les hi ⟨upd S.st v 1, S.by_⟩ by rw [hX]; exact hm.setSt hv 1)
    have HV0 := hide (VS.start hd hs hv hl)
    have HT0 : Hid (Two w X gb gt) := hide (by rw [hX]; exact (Two.refl w gb gt).set2 _ _)
    have d1 := HM0.out.c1
    clear ih hg hhi hw hs hl hm hd
    go_enter Try.func45, Try.ntmps45
    go_upto_region 4 with fail
    rw [← hX]
    clear hX c1 c3 s0 sf
    go_wp2_with fail
    clear d1
    go_loopw [29] (fun i wr => ∃ (k : Nat) (S' : DS), k ≤ n ∧ i = .int .i64 k ∧ Hid (VMem wr WB B hb hc n c gb cb gt ct N ea les hi S') ∧ Hid (VS (pes les) N hi S S' path v k) ∧ Hid (Two w wr gb gt)) (fun i _ => n - (intOf i).toNat)
    case atStart => exact ⟨0, _, Nat.zero_le _, rfl, HM0, HV0, HT0⟩
    case round =>
      clear HM0 HV0 HT0 X
      obtain ⟨k, S', hk, rfl, HM, HV, HT⟩ := hrel
      obtain ⟨wo, rfl⟩ : ∃ wo, wo = wr := ⟨_, rfl⟩
      have k0 : (0 : Int) ≤ (k : Int) := Int.natCast_nonneg _
      by_cases hlt : k < n
      · have k1 : (k : Int) < (n : Int) := by omega
        have f9 : IntKind.i64.wrap ((k : Int) + 1) = (k : Int) + 1 := IntWalk.i64_in _ (by have := HN4.out; omega)
        obtain ⟨ad, x, y, z, rfl, hbd, HX, d0, d1, d2⟩ := HM.out.te.getB (Below.refl _ _) hlt
        have hok := HG.out.2 _ (List.mem_of_getElem? HX.out)
        unfold EdgeOkW at hok
        simp only at hok
        obtain ⟨s, rfl⟩ : ∃ s : Nat, x = (s : Int) := ⟨x.toNat, by omega⟩
        obtain ⟨t, rfl⟩ : ∃ t : Nat, y = (t : Int) := ⟨y.toNat, by omega⟩
        obtain ⟨o0, o1, o2, o3, o4, o5⟩ := hok
        have hsN : s < N := by omega
        have htN : t < N := by omega
        have HE := hide (pes_get HX.out)
        obtain ⟨Eb, hEb⟩ : ∃ Eb, wo.heap.size = Eb := ⟨_, rfl⟩
        obtain ⟨wa, hwa⟩ : ∃ wa, wa = wo.alloc (.cells #[.int .i64 s, .int .i64 t, .int .i64 z] 46) := ⟨_, rfl⟩
        have hBa : Below wo.heap.size wo wa := by rw [hwa]; exact (Below.refl _ _).alloc (Nat.le_refl _) _
        have HMa := hide (HM.out.below hBa)
        have HTa := hide (HT.out.trans (Two.of_below hBa))
        have g0 : wa.cell? ⟨Eb, 0, none⟩ = some (.int .i64 s) := by rw [hwa, ← hEb]; simp [go_sem]
        have g1 : wa.cell? ⟨Eb, 1, none⟩ = some (.int .i64 t) := by rw [hwa, ← hEb]; simp [go_sem]
        have g2' : wa.cell? ⟨Eb, 2, none⟩ = some (.int .i64 z) := by rw [hwa, ← hEb]; simp [go_sem]
        have e0 := HMa.out.c0
        have e3 := HMa.out.c3
        have th := HMa.out.th.cell htN
        have vh := HMa.out.th.cell hv
        have tt := HMa.out.ts.cell htN
        obtain ⟨ht1, ht2⟩ := HHI.out t htN
        obtain ⟨hv1, hv2⟩ := HHI.out v hv
        obtain ⟨Ht, hHt⟩ : ∃ Ht, hi t = Ht := ⟨_, rfl⟩
        obtain ⟨Hv, hHv⟩ : ∃ Hv, hi v = Hv := ⟨_, rfl⟩
        rw [hHt] at th ht1 ht2
        rw [hHv] at vh hv1 hv2
        have HHt := hide hHt
        have HHv := hide hHv
        have t0 : (0 : Int) ≤ (t : Int) := Int.natCast_nonneg _
        have t1 : (t : Int) < (N : Int) := by omega
        have w1 : IntKind.i64.wrap (Hv + z) = Hv + z := IntWalk.i64_in _ (by omega)
        have hm9 : k + 1 ≤ n := hlt
        clear hBa hHt hHv
        by_cases hsv : s = v
        · subst hsv
          by_cases hti : Ht = Hv + z
          · subst hti
            have HTI : Hid (Tight hi (peOf ⟨(s : Int), (t : Int), z⟩)) := hide (by show hi t = hi s + z; rw [HHt.out, HHv.out])
            go_upto_region 7 with fail
            (try rw [hEb])
            rw [← hwa]
            clear hwa
            go_quiet (fail)
            obtain ⟨wb, hwb⟩ : ∃ wb, wb = wa.drewN nq := ⟨_, rfl⟩
            have hBb : Below wa.heap.size wa wb := by rw [hwb]; exact below_drewN (Below.refl _ _) _
            have HMb := hide (HMa.out.below hBb)
            have HTb := hide (HTa.out.trans (Two.of_below hBb))
            have g0 := (hBb.cell (World.block_lt_of_cell? wa _ g0)).trans g0
            have g1 := (hBb.cell (World.block_lt_of_cell? wa _ g1)).trans g1
            have g2' := (hBb.cell (World.block_lt_of_cell? wa _ g2')).trans g2'
            rw [← hwb]
            clear hwb hBb e0 e3 th vh tt HMa HTa
            have e2 := HMb.out.c2
            have e3 := HMb.out.c3
            have e1 := HMb.out.c1
            have tt := HMb.out.ts.cell htN
            have HVAL := hide (HV.out.inv.vals t)
            obtain ⟨st, hst⟩ : ∃ st, S'.st t = st := ⟨_, rfl⟩
            rw [hst] at HVAL tt
            have HST := hide hst
            clear hst
            have hvals := HVAL.out
            rcases hvals with rfl | rfl | rfl
            · -- new
              have tf := HMb.out.tb.free t
              have tb := HMb.out.tb.cell htN
              go_wp2
              go_quiet (fail)
              obtain ⟨nqa, rfl⟩ : ∃ m, m = nq := ⟨_, rfl⟩
              go_wp2
              go_quiet (fail)
              go_wp2
              obtain ⟨wd, hwd⟩ : ∃ wd, wd = (wb.drewN nqa).drewN nq := ⟨_, rfl⟩
              have hBd : Below wb.heap.size wb wd := by rw [hwd]; exact below_drewN (below_drewN (Below.refl _ _) _) _
              have HMd := hide (HMb.out.below hBd)
              have HTd := hide (HTb.out.trans (Two.of_below hBd))
              have g1 := (hBd.cell (World.block_lt_of_cell? wb _ g1)).trans g1
              rw [← hwd]
              clear hwd hBd tt e1 e2 e3 tf tb g0 g2'
              have e2 := HMd.out.c2
              have tf := HMd.out.tb.free t
              have tb := HMd.out.tb.cell htN
              go_region
              obtain ⟨we, hwe⟩ : ∃ we, we = (wd.setCell ⟨gb, t, none⟩ (.int .i64 k)).drew := ⟨_, rfl⟩
              have HMe := hide (show VMem we WB B hb hc n c gb cb gt ct N (some ad) les hi ⟨S'.st, upd S'.by_ t k⟩ by rw [hwe]; exact (HMd.out.setBy htN k).below (Below.refl _ _).drew)
              have HTe := hide (show Two w we gb gt by rw [hwe]; exact (HTd.out.set1 _ _).drew)
              have hEg : Eb ≠ gb := fun e => by
                have := HMd.out.tb.cell hv
                have hs := HM.out.tb.lt.2
                rw [hEb, ← e] at hs
                omega
              have g1 : we.cell? ⟨Eb, 1, none⟩ = some (.int .i64 t) := by
                rw [hwe]
                show (wd.setCell ⟨gb, t, none⟩ (.int .i64 k)).cell? _ = _
                rw [World.cell?_setCell_other _ _ _ _ (fun e' => hEg (by injection e' with e1; exact e1.symm))]; exact g1
              rw [← hwe]
              clear hwe e2 tf tb hEg
              have HCALL := hide (IH.out ⟨S'.st, upd S'.by_ t k⟩ (path ++ [s]) t we (by
                  have := whites_lt (S' := ⟨S'.st, upd S'.by_ t k⟩) HV.out.sub HS0.out hv
                  have := HWH.out
                  omega) HMe.out (HV.out.inv.note HST.out k) htN (.inr ⟨HST.out, fun a ha => by
                    have : s = a := by simpa using ha
                    subst this
                    exact ⟨k, _, by simp [upd], HE.out, HTI.out, rfl, rfl⟩⟩))
              go_wp2_with fail
              refine HCALL.out.mono ?_
              rintro e w5 ⟨hres, hT5⟩
              have HT5 := hide (HTe.out.trans hT5)
              clear hT5
              rcases hres with ⟨a, cp, ns, rfl, hI, hF⟩ | ⟨S2, rfl, hM2, hD2, hb2, hs2, hbl2⟩
              · have hpos : (0 : Int) < (ns.length : Int) := by have := hF.pos; omega
                have HI := hide hI
                have HF := hide hF
                clear hI hF
                go_wp2
                go_ret
                exact ⟨.inl ⟨a, cp, ns, rfl, HI.out, HF.out⟩, HT5.out⟩
              · have HM2 := hide hM2
                have HV2 := hide (HV.out.back HE.out hD2 hb2 hs2 hbl2)
                clear hM2 hD2 hb2 hs2 hbl2
                go_wp2
                exact ⟨⟨k + 1, S2, hm9, rfl, HM2, HV2, HT5⟩, meas9 hlt⟩
            · -- on the way: found
              obtain ⟨A, B, hAB, hlast, hxB⟩ := HV.out.split HST.out
              have HAB := hide hAB
              have HLA := hide hlast
              have HXB := hide hxB
              clear hAB hlast hxB
              go_wp2
              go_quiet (fail)
              go_upto_region 10 with fail
              obtain ⟨wd, hwd⟩ : ∃ wd, wd = wb.drewN nq := ⟨_, rfl⟩
              have hBd : Below wb.heap.size wb wd := by rw [hwd]; exact below_drewN (Below.refl _ _) _
              have HMd := hide (HMb.out.below hBd)
              have HTd := hide (HTb.out.trans (Two.of_below hBd))
              have g1 := (hBd.cell (World.block_lt_of_cell? wb _ g1)).trans g1
              have hQd : wd.heap.size = wb.heap.size := by rw [hwd]; simp
              rw [← hwd]
              clear hwd hBd tt e1 e2 e3
              obtain ⟨we, hwe⟩ : ∃ we, we = wd.alloc (.cells #[.int .i64 k] 3) := ⟨_, rfl⟩
              have HB0 : Hid (Below wd.heap.size wd we) := hide (by rw [hwe]; exact (Below.refl _ _).alloc (Nat.le_refl _) _)
              have HO0 : Hid (we.ownsRow wd.heap.size 3 1 (.slice (some ⟨wb.heap.size, 0, none⟩) 1 1) (([] : List Nat).length + 1) ((outL S' k []).map (Value.int .i64))) := hide (by
                rw [← hQd]
                refine ⟨by simp [outL], .inr ⟨wd.heap.size, 1, #[.int .i64 k], rfl, by omega, ?_, by simp, by decide, by simp, by simp [outL]⟩⟩
                rw [hwe]
                have := heap_alloc_new wd (.cells #[.int .i64 k] 3)
                simpa using this)
              rw [← hwe]
              clear hwe hQd
              go_wp2_with fail
              go_loopw [7, 8] (fun o x wr => ∃ (B1 B2 : List Nat) (mm : Nat), x = .int .i64 mm ∧ Hid (BackI A B t B1 B2 mm) ∧ Hid (wr.ownsRow wd.heap.size 3 1 o (B2.length + 1) ((outL S' k B2).map (Value.int .i64))) ∧ Hid (Below wd.heap.size wd wr)) (fun o _ _ => B.length + 1 - lenV2 o)
              case atStart => exact ⟨B, [], s, rfl, hide (BackI.start HLA.out), HO0, HB0⟩
              case round =>
                clear HO0 HB0 we
                obtain ⟨B1, B2, mm, rfl, HBK, HO, HBw⟩ := hrel
                have x1 := (HBw.out.cell (World.block_lt_of_cell? wd _ g1)).trans g1
                have HMw := hide (HMd.out.below HBw.out)
                by_cases hmt : mm = t
                · subst hmt
                  have hend := HBK.out.end_ HXB.out
                  have hsp := HBK.out.sp
                  rw [hend, List.nil_append] at hsp
                  subst hsp
                  have hBN := (HBK.out.short HAB.out HV.out.inv).2
                  have hO : wr.ownsRow wd.heap.size 3 1 u7 (outL S' k B).length ((outL S' k B).map (Value.int .i64)) := by rw [outL_len]; exact HO.out
                  obtain ⟨g, cap, rfl, hcall⟩ := rev_own (by rw [outL_len]; omega) (by rw [outL_len]; omega) hO HBw.out.size
                  have HCALL := hide hcall
                  clear hO hcall hend
                  go_wp2_with fail
                  refine HCALL.out.mono ?_
                  rintro e w5 ⟨rfl, hI, hB5⟩
                  have HI := hide hI
                  have HB5 := hide hB5
                  clear hI hB5
                  go_wp2
                  go_ret
                  refine ⟨.inl ⟨some ⟨g, 0, none⟩, cap, (outL S' k B).reverse, ?_, ?_, ?_⟩, ?_⟩
                  · rw [List.length_reverse]; rfl
                  · rw [List.length_reverse]; exact HI.out
                  · rw [outL_rev]
                    have h1 : DInv (pes les) N hi S' (A ++ mm :: B) := by rw [← HAB.out]; exact HV.out.inv
                    exact h1.found HLA.out HE.out HTI.out rfl rfl
                  · exact HTd.out.trans (Two.of_below (HBw.out.trans HB5.out))
                · have hmb : ((mm : Int) == (t : Int)) = false := by simp; omega
                  have hmb3 : ¬ ((mm : Int) = (t : Int)) := by omega
                  obtain ⟨hmN, C, j, e, hB1, hby, hej, hnx⟩ := HBK.out.next (by rw [← HAB.out]; exact HV.out.inv) hmt
                  have m0 : (0 : Int) ≤ (mm : Int) := Int.natCast_nonneg _
                  have m1 : (mm : Int) < (N : Int) := by omega
                  have y2 := HMw.out.c2
                  have yb := HMw.out.tb.cell hmN
                  rw [hby] at yb
                  have HNX := hide hnx
                  have HEJ := hide hej
                  have HB1 := hide hB1
                  have HBY := hide hby
                  obtain ⟨va, vc, rfl⟩ := row3_shape HO.out
                  have hB2 := (HBK.out.short HAB.out HV.out.inv)
                  have hBs := HBw.out.size
                  clear hnx hej hB1 hby
                  go_wp2_with (at_builtin; refine wpList_append_own _ rfl _ _ 23 rfl wd.heap.size 3 i0 (.int .i64 0) 1 8 Try.underlying23 hi0 hz0 hz1 hz2 rfl (by decide) _ _ _ rfl (HO.out.alloc _) ⟨wr.heap.size, 0, none⟩ 1 1 [.int .i64 (j : Int)] rfl rfl (cell_one_new _ _ _) (by simp [Value.oneCell']) (by unfold maxLen; omega) (by omega) (by simp; omega) ?_; intro v' w1 hown1 hgrow _)
                  have hB1 := (HBw.out.alloc hBs _).grown hgrow (by simp; omega) (own_row HO.out)
                  have HMx := hide (HMd.out.below hB1)
                  have y1 := HMx.out.c1
                  have y2 := HMx.out.c2
                  have yb := HMx.out.tb.cell hmN
                  rw [HBY.out] at yb
                  have hjn : j < n := by
                    have := (List.getElem?_eq_some_iff.1 HEJ.out).1
                    rw [pes_len, HL.out] at this; exact this
                  obtain ⟨ad', x, y, z', hae, hbd', HX', q0, q1, q2⟩ := HMx.out.te.getB (Below.refl _ _) hjn
                  obtain rfl : ad = ad' := by injection hae
                  have hx' : x = (e.src : Int) := by
                    have h1 := pes_get HX'.out
                    rw [HEJ.out] at h1
                    injection h1 with h1
                    have hok' := HG.out.2 _ (List.mem_of_getElem? HX'.out)
                    unfold EdgeOkW at hok'
                    simp only at hok'
                    rw [h1]
                    show x = ((x.toNat : Nat) : Int)
                    omega
                  subst hx'
                  obtain ⟨nx, hnx⟩ : ∃ nx, e.src = nx := ⟨_, rfl⟩
                  rw [hnx] at q0
                  have j0 : (0 : Int) ≤ (j : Int) := Int.natCast_nonneg _
                  have j1 : (j : Int) < (n : Int) := by omega
                  have HBK2 : Hid (BackI A B t C (mm :: B2) nx) := hide (by rw [← hnx]; exact HNX.out)
                  have HO2 : Hid (w1.ownsRow wd.heap.size 3 1 v' ((mm :: B2).length + 1) ((outL S' k (mm :: B2)).map (Value.int .i64))) := hide (by
                    rw [outL_cons, HBY.out, List.map_append]; exact hown1)
                  have HBz := hide hB1
                  have hms : B.length + 1 - (B2.length + 1 + 1) < B.length + 1 - (B2.length + 1) := by
                    have := congrArg List.length HB1.out
                    simp only [List.length_append, List.length_cons, List.length_nil] at this
                    omega
                  have HLV1 := hide (own_lenV2 HO2.out)
                  have HLV2 := hide (own_lenV2 HO.out)
                  clear hown1 hgrow hB1 hnx HX' q1 q2
                  go_quiet (fail)
                  go_wp2
                  exact ⟨⟨C, mm :: B2, nx, rfl, HBK2, HO2, hide (below_drewN HBz.out _)⟩, by rw [HLV1.out, HLV2.out]; exact hms⟩
            · have hsk := HV.out.skip HE.out (fun _ _ => HST.out)
              have HSK := hide hsk
              clear hsk
              go_wp2
              go_quiet (fail)
              obtain ⟨nqa, rfl⟩ : ∃ m, m = nq := ⟨_, rfl⟩
              go_wp2
              go_quiet (fail)
              go_wp2
              have HBz : Hid (Below wb.heap.size wb (wb.drewN (nqa + nq))) := hide (below_drewN (Below.refl _ _) _)
              exact ⟨⟨k + 1, S', hm9, rfl, hide (HMb.out.below HBz.out), HSK, hide (HTb.out.trans (Two.of_below HBz.out))⟩, meas9 hlt⟩
          · have htb : ((Ht : Int) == Hv + z) = false := by simpa using hti
            have HSK := hide (HV.out.skip HE.out (fun h _ => by
              have h1 : hi t = hi s + z := h
              rw [HHt.out, HHv.out] at h1
              exact absurd h1 hti))
            go_upto_region 7 with fail
            (try rw [hEb])
            rw [← hwa]
            clear hwa
            go_quiet (fail)
            go_wp2
            have HBz : Hid (Below wa.heap.size wa (wa.drewN nq)) := hide (below_drewN (Below.refl _ _) _)
            exact ⟨⟨k + 1, S', hm9, rfl, hide (HMa.out.below HBz.out), HSK, hide (HTa.out.trans (Two.of_below HBz.out))⟩, meas9 hlt⟩
        · have hsb : ((s : Int) == (v : Int)) = false := by simp; omega
          have hsb2 : ((s : Int) != (v : Int)) = true := by simp; omega
          have hsb3 : ¬ ((s : Int) = (v : Int)) := by omega
          have hsb4 : (s == v) = false := by simpa using hsv
          have HSK := hide (HV.out.skip HE.out (fun _ h => absurd (show s = v from h) hsv))
          go_upto_region 7 with fail
          (try rw [hEb])
          rw [← hwa]
          clear hwa
          go_quiet (fail)
          go_wp2
          have HBz : Hid (Below wa.heap.size wa (wa.drewN nq)) := hide (below_drewN (Below.refl _ _) _)
          exact ⟨⟨k + 1, S', hm9, rfl, hide (HMa.out.below HBz.out), HSK, hide (HTa.out.trans (Two.of_below HBz.out))⟩, meas9 hlt⟩
      · obtain rfl : k = n := by omega
        have hle : (pes les).length = k := by rw [pes_len, HL.out]
        have HLV := hide (show DInv (pes les) N hi ⟨upd S'.st v 2, S'.by_⟩ path ∧ _ from by have := HV.out; rw [← hle] at this; exact this.leave)
        have e3 := HM.out.c3
        have tf := HM.out.ts.free v
        have tt := HM.out.ts.cell hv
        go_wp2
        go_ret
        exact ⟨.inr ⟨_, rfl, HM.out.setSt hv 2, HLV.out.1, by simp [upd], HLV.out.2.1, HLV.out.2.2⟩, HT.out.set2 _ _⟩

end Go.Proofs.Ythjicnddfjpnjaa
