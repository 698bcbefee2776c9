/-
  Lemmas and walks for the statement: Same, QMost.
-/
import Derived.Test.YtjjikhaaimfneaaGreatDoorE01
import Derived.Test.YtjjikhaaimfneaaGreatDoorProg
import Derived.Test.YtjjikhaaimfneaaGreatDoorE34
import Derived.Test.YtjjikhaaimfneaaGreatDoorE35
import Derived.Test.YtjjikhaaimfneaaGreatDoorE02
import Derived.OwnWalk
import Derived.BigRegion
namespace Go.Proofs.YtjjikhaaimfneaaGreatDoor
open Go.RowKit
set_option linter.unusedSimpArgs false
set_option linter.unusedVariables false
set_option maxHeartbeats 2000000 in
theorem same_any (a a' : Option Addr) (n c c' : Nat) (xs ys : List Int) (w : World) (h : IntsAt w a n c xs) (h' : IntsAt w a' n c' ys) :
 Calls Tryz.prog 85 #[.slice a n c, .slice a' n c'] w fun e w' => e = .returned (.bool (decide (xs = ys))) ∧ Below w.heap.size w w' := by
 have hn := h.lim
 have HL := hide h.len
 have HL' := hide h'.len
 have hne : ((n : Int) != (n : Int)) = false := by simp
 go_enter Tryz.func85, Tryz.ntmps85
 go_wp2
 go_loopw [13] (fun i wr => ∃ k : Nat, k ≤ n ∧ i = .int .i64 k ∧ Hid (∀ j, j < k → xs[j]? = ys[j]?) ∧ Below w.heap.size w wr) (fun i _ => n - (intOf i).toNat)
 case atStart => exact ⟨0, Nat.zero_le _, rfl, hide fun j hj => absurd hj (by omega), Below.refl _ _⟩
 case round =>
  obtain ⟨k, hk, rfl, HS, hB⟩ := hrel
  have k0 : (0 : Int) ≤ (k : Int) := Int.natCast_nonneg _
  by_cases hlt : k < n
  · have k1 : (k : Int) < (n : Int) := by omega
    obtain ⟨ad, x, rfl, _, hc, HX⟩ := h.getB hB hlt
    obtain ⟨ad', y, rfl, _, hc', HY⟩ := h'.getB hB hlt
    clear h h'
    by_cases hxy : x = y
    · subst hxy
      go_wp2
      go_quiet (fail)
      go_wp2
      go_roundw
      case rel => exact ⟨k + 1, by omega, by go_num, hide fun j hj => by
       rcases (show j < k ∨ j = k by omega) with h1 | rfl
       · exact HS.out j h1
       · rw [HX.out, HY.out], Go.below_drewN hB _⟩
      case measure => (simp [intOf] <;> omega)
    · have hb : (x != y) = true := by simp [hxy]
      have HF := hide (show xs ≠ ys from fun e => by
       have := HX.out; rw [e, HY.out] at this; injection this with this; exact hxy this.symm)
      clear hxy
      go_wp2
      go_quiet (fail)
      go_wp2
      go_ret
      exact ⟨retBI (by simp [HF.out]), Go.below_drewN hB _⟩
  · have HF := hide (show xs = ys from List.ext_getElem? fun j => by
     rcases Nat.lt_or_ge j k with h1 | h1
     · exact HS.out j h1
     · rw [List.getElem?_eq_none (by rw [HL.out]; omega), List.getElem?_eq_none (by rw [HL'.out]; omega)])
    clear h h'
    go_wp2
    go_ret
    exact ⟨retBI (by simp [HF.out]), hB⟩
end Go.Proofs.YtjjikhaaimfneaaGreatDoor
namespace Go.Proofs.YtjjikhaaimfneaaGreatDoor
open Go.RowKit
set_option linter.unusedSimpArgs false
set_option linter.unusedVariables false
attribute [local go_sem] iteMin iteMax iteMinN iteMaxN
theorem intInfoQm : (Tryz.prog.info? 3).map (fun i => (i.zero, i.size, i.bytes)) = some (some (.int .i64 0), 1, 8) := by kernel_rfl
set_option maxRecDepth 100000 in
set_option maxHeartbeats 4000000 in
theorem qmost_any (N : Nat) (a : Option Addr) (n c : Nat) (es : List GE) (w : World) (h : EdgesAt w a n c es) (hg : GraphOk (N : Int) es) :
 Calls Tryz.prog 59 #[.agg #[.int .i64 N, .slice a n c]] w fun e w' => QMostEnds N es e w' ∧ Below w.heap.size w w' := by
 obtain ⟨i0, hi0, hz0, hz1, hz2⟩ := info_parts intInfoQm
 have HG := hide hg
 have HL := hide h.len
 have hN : N ≤ 300 := by have := hg.1.2.1; omega
 have hn4 : (n : Int) ≤ 4800 := by have := hg.1.2.2; rw [h.len] at this; omega
 obtain ⟨W, hW⟩ : ∃ W, W = w.alloc (.cells #[.int .i64 N, .slice a n c] 57) := ⟨_, rfl⟩
 have hWB : Below w.heap.size w W := by rw [hW]; exact (Below.refl _ _).alloc (Nat.le_refl _) _
 have hWs : W.heap.size = w.heap.size + 1 := by rw [hW]; simp
 have e0 : W.cell? ⟨w.heap.size, 0, none⟩ = some (.int .i64 N) := by rw [hW]; simp [go_sem]
 have e1 : W.cell? ⟨w.heap.size, 1, none⟩ = some (.slice a n c) := by rw [hW]; simp [go_sem]
 have hE := h.below hWB
 obtain ⟨G, hG⟩ : ∃ G, w.heap.size = G := ⟨_, rfl⟩
 rw [hG] at e0 e1 hWs hWB
 have HGs := hide hG
 clear hg h
 go_enter Tryz.func59, Tryz.ntmps59
 go_wp2_with (at_make; refine wpList_make_full _ rfl _ _ 24 rfl (G + 1) 3 i0 (.int .i64 0) 1 Tryz.underlying24 hi0 hz0 hz1 .i64 .i64 _ _ N rfl rfl rfl rfl (by rw [hz2]; omega) (by unfold maxLen; omega) (by simp; omega) ?_; intro w1 hown hgrow; have hgrow : W.grownBy w1 none := (by rw [hW]; exact hgrow); have hB1 : Below (G + 1) W w1 := (Below.refl (G + 1) W).grown hgrow (by omega) (fun k hk => (by cases hk)); have c0 : w1.cell? ⟨G, 0, none⟩ = some (.int .i64 N) := (hB1.cell (by show G < G + 1; omega)).trans e0)
 have hsz : (w.alloc (.cells #[.int .i64 N, .slice a n c] 57)).heap.size = G + 1 := by rw [← hW]; exact hWs
 rw [hsz] at hown
 clear hW
 have hT : OTab w1 (G + 1) 3 (G + 1) N N (siter (pes es) 0) := OTab.made hown
 have HE := hide hE
 have HW := hide hWs
 have HWB := hide hWB
 have E0 := hide e0
 have E1 := hide e1
 clear hown hgrow hE e0 e1 hWB hG
 clear c0
 go_loopw [4, 14] (fun v i wr => ∃ r g cap : Nat, r ≤ N + 1 ∧ i = .int .i64 r ∧ v = .slice (some ⟨g, 0, none⟩) N cap ∧ OTab wr (G + 1) 3 g N cap (siter (pes es) r) ∧ Hid (∀ q, q < r → tabI N (siter (pes es) (q + 1)) ≠ tabI N (siter (pes es) q)) ∧ Below (G + 1) W wr) (fun _ i _ => N + 1 - (intOf i).toNat)
 case atStart => exact ⟨0, G + 1, N, Nat.zero_le _, rfl, rfl, hT, hide fun q hq => absurd hq (by omega), hB1⟩
 case round =>
  clear hT hB1
  obtain ⟨r, g, cap, hr, rfl, rfl, hT, HA, hB⟩ := hrel
  have r0 : (0 : Int) ≤ (r : Int) := Int.natCast_nonneg _
  by_cases hlt : r < N + 1
  · have r1 : (r : Int) < (N : Int) + 1 := by omega
    have c1 : wr.cell? ⟨G, 1, none⟩ = some (.slice a n c) := (hB.cell (by show G < G + 1; omega)).trans E1.out
    obtain ⟨S0, hS0⟩ : ∃ S0, wr.heap.size = S0 := ⟨_, rfl⟩
    have hgl := (OTab.lt hT).2
    have hGs : G + 1 ≤ wr.heap.size := by have := hB.size; have := HW.out; omega
    have HS0 := hide hS0
    clear hWs
    go_wp2_with (at_builtin; refine wpList_append_own _ rfl _ _ 24 rfl S0 3 i0 (.int .i64 0) 1 8 Tryz.underlying24 hi0 hz0 hz1 hz2 rfl (by decide) _ 0 _ rfl (own_empty wr S0 3 S0 (by omega) hS0) ⟨g, 0, none⟩ N cap ((tabI N (siter (pes es) r)).map (Value.int .i64)) rfl (by simp [tab_len]) (OTab.news (hT.alloc _)) (tab_one N _) (by unfold maxLen; omega) (by omega) (by simp; omega) ?_; intro v' w2 hown2 hgrow2 hnil; obtain ⟨g2, cap2, hv2, hT2⟩ := OTab.copied hown2 hnil (by intro h; cases h); subst hv2; have hT1 : OTab w2 (G + 1) 3 g N cap (siter (pes es) r) := OTab.kept (hT.alloc _) hgrow2 (by intro h; have e : S0 = g := Option.some.inj h; omega); have hg2 := (OTab.lt hT2).1; have hB2 : Below (G + 1) W w2 := (hB.alloc hGs _).grown hgrow2 (by simp; omega) (fun k hk => (by have e : S0 = k := Option.some.inj hk; omega)); have hT2 : OTab w2 S0 3 g2 N cap2 (sfold ((pes es).take 0) (siter (pes es) r) (siter (pes es) r)) := hT2; clear hown2 hgrow2 hnil hT c1 hB; have c1 : w2.cell? ⟨G, 1, none⟩ = some (.slice a n c) := (hB2.cell (by show G < G + 1; omega)).trans E1.out)
    have HS := hide (show g < g2 by omega)
    have HGS := hide (show G + 1 ≤ S0 by omega)
    clear hg2 hgl hGs hS0 HS0 r1
    go_loopw [22] (fun i wr => ∃ k : Nat, k ≤ n ∧ i = .int .i64 k ∧ OTab wr S0 3 g2 N cap2 (sfold ((pes es).take k) (siter (pes es) r) (siter (pes es) r)) ∧ OTab wr (G + 1) 3 g N cap (siter (pes es) r) ∧ Below (G + 1) W wr) (fun i _ => n - (intOf i).toNat)
    case atStart => exact ⟨0, Nat.zero_le _, rfl, hT2, hT1, hB2⟩
    case round =>
     clear hT1 hT2 hB2 c1
     obtain ⟨k, hk, rfl, hT2, hT1, hB⟩ := hrel
     have k0 : (0 : Int) ≤ (k : Int) := Int.natCast_nonneg _
     by_cases hkl : k < n
     · have k1 : (k : Int) < (n : Int) := by omega
       obtain ⟨ad, x, y, z, rfl, hbd, HX, d0, d1, d2⟩ := HE.out.getB (by rw [HW.out]; exact hB) hkl
       have hok := HG.out.2 _ (List.mem_of_getElem? HX.out)
       unfold EdgeOk at hok
       simp only at hok
       obtain ⟨s, rfl⟩ : ∃ s : Nat, x = (s : Int) := ⟨x.toNat, by omega⟩
       obtain ⟨t, rfl⟩ : ∃ t : Nat, y = (t : Int) := ⟨y.toNat, by omega⟩
       obtain ⟨o0, o1, o2, o3, o4, o5⟩ := hok
       have hs : s < N := by omega
       have ht : t < N := by omega
       have HP := hide (sfold_take (pes_get HX.out) (siter (pes es) r) (siter (pes es) r))
       obtain ⟨Ms, hMs⟩ : ∃ Ms, siter (pes es) r s = Ms := ⟨_, rfl⟩
       obtain ⟨Mt, hMt⟩ : ∃ Mt, sfold ((pes es).take k) (siter (pes es) r) (siter (pes es) r) t = Mt := ⟨_, rfl⟩
       have f1 := hT1.cell hs
       have f2 := hT2.cell ht
       have f3 := hT2.free t
       rw [hMs] at f1
       rw [hMt] at f2
       have hb := siter_b HG.out r s
       rw [hMs] at hb
       obtain ⟨hb1, hb2⟩ := hb
       have hMsl : Ms ≤ 315621376 := (by have h9 : (r : Int) ≤ 301 := (by omega); omega)
       have HMs := hide hMs
       have HMt := hide hMt
       have hg2l := (OTab.lt hT2).2
       have hgl := (OTab.lt hT1).2
       have s0 : (0 : Int) ≤ (s : Int) := Int.natCast_nonneg _
       have s1 : (s : Int) < (N : Int) := by omega
       have t0 : (0 : Int) ≤ (t : Int) := Int.natCast_nonneg _
       have t1 : (t : Int) < (N : Int) := by omega
       clear hMs hMt
       have hbk := hB.alloc (show G + 1 ≤ wr.heap.size by have := hB.size; have := HW.out; omega) (.cells #[.int .i64 s, .int .i64 t, .int .i64 z] 86)
       obtain ⟨wa, hwa⟩ : ∃ wa, wa = wr.alloc (.cells #[.int .i64 s, .int .i64 t, .int .i64 z] 86) := ⟨_, rfl⟩
       obtain ⟨Eb, hEb⟩ : ∃ Eb, wr.heap.size = Eb := ⟨_, rfl⟩
       have g0 : wa.cell? ⟨Eb, 0, none⟩ = some (.int .i64 s) := by rw [hwa, ← hEb]; simp [go_sem]
       have g1 : wa.cell? ⟨Eb, 1, none⟩ = some (.int .i64 t) := by rw [hwa, ← hEb]; simp [go_sem]
       have g2' : wa.cell? ⟨Eb, 2, none⟩ = some (.int .i64 z) := by rw [hwa, ← hEb]; simp [go_sem]
       have f1 : wa.cell? ⟨g, s, none⟩ = some (.int .i64 Ms) := by rw [hwa]; exact alloc_cell f1
       have f2 : wa.cell? ⟨g2, t, none⟩ = some (.int .i64 Mt) := by rw [hwa]; exact alloc_cell f2
       have hT2' : OTab wa S0 3 g2 N cap2 (sfold ((pes es).take k) (siter (pes es) r) (siter (pes es) r)) := by rw [hwa]; exact hT2.alloc _
       have hT1' : OTab wa (G + 1) 3 g N cap (siter (pes es) r) := by rw [hwa]; exact hT1.alloc _
       have f3 := hT2'.free t
       rw [← hwa] at hbk
       have HT1 := hide hT1'
       have HT2 := hide hT2'
       have HBK := hide hbk
       go_wp2
       rw [← hwa]
       clear hwa hT1 hT2 hT1' hT2' hbk hgl hg2l hB hEb
       go_region
       all_goals go_wp2
       all_goals trace "ENDED"
       go_roundw
       case rel => exact ⟨k + 1, by omega, by go_num, (by first | exact OTab.set ((HT2.out).drew) ht (by rw [HP.out]; simp [upd, peOf, HMs.out, HMt.out]) (fun v hv hne => by rw [HP.out]; simp [upd, peOf, hne]) | exact OTab.set ((HT2.out).drewN _) ht (by rw [HP.out]; simp [upd, peOf, HMs.out, HMt.out]) (fun v hv hne => by rw [HP.out]; simp [upd, peOf, hne])), (by have := HS.out; first | exact OTab.setFar ((HT1.out).drew) (by omega) | exact OTab.setFar ((HT1.out).drewN _) (by omega)), (by have := HGS.out; have := HS.out; have h6 := (OTab.lt HT2.out).1; first | exact ((HBK.out.drew).setCell (by show G + 1 ≤ g2; omega) _) | exact ((Go.below_drewN HBK.out _).setCell (by show G + 1 ≤ g2; omega) _))⟩
       case measure => (simp [intOf] <;> omega)
     · obtain rfl : k = n := by omega
       have hall : (pes es).take k = pes es := List.take_of_length_le (by rw [pes_len, HL.out]; omega)
       rw [hall] at hT2
       have hT2 : OTab wr S0 3 g2 N cap2 (siter (pes es) (r + 1)) := hT2
       have I1 := hT1.ints (by omega)
       have I2 := hT2.ints (by omega)
       have HT2 := hide hT2
       have HFB := hide (HWB.out.trans (by have := hB; have h7 := HW.out; exact hB.mono (by omega)))
       have HB := hide hB
       clear hall hT1 hT2 hB
       go_wp2_with fail
       refine (same_any _ _ _ _ _ _ _ _ I2 I1).mono ?_
       rintro e w5 ⟨rfl, B5⟩
       by_cases hsm : tabI N (siter (pes es) (r + 1)) = tabI N (siter (pes es) r)
       · have hd : decide (tabI N (siter (pes es) (r + 1)) = tabI N (siter (pes es) r)) = true := decide_eq_true hsm
         have HSM := hide hsm
         have I1 := I1.below B5
         have HF := hide (show Below w.heap.size w w5 by rw [HGs.out]; exact HFB.out.trans (B5.mono (by have := HFB.out.size; have := HGs.out; omega)))
         clear hsm I2 B5
         go_wp2
         go_ret2
         refine ⟨.inl ⟨(hasPot_of HG.out HSM.out).1, _, _, rfl, ?_⟩, HF.out⟩
         have e9 : tabI N (siter (pes es) N) = tabI N (siter (pes es) r) := tab_eq fun t _ => (hasPot_of HG.out HSM.out).2 N (by omega) t
         rw [e9]; exact I1
       · have hd : decide (tabI N (siter (pes es) (r + 1)) = tabI N (siter (pes es) r)) = false := decide_eq_false hsm
         have HSM := hide hsm
         have hT2 := (OTab.below HT2.out B5).base (show G + 1 ≤ S0 from HGS.out)
         have hB6 := HB.out.trans (B5.mono (by have := HB.out.size; have := HW.out; omega))
         clear hsm I1 I2 B5
         go_wp2
         go_roundw
         case rel => exact ⟨r + 1, g2, cap2, by omega, by go_num, rfl, hT2, hide fun q hq => by
          rcases (show q < r ∨ q = r by omega) with h4 | rfl
          · exact HA.out q h4
          · exact HSM.out, hB6⟩
         case measure => (simp [intOf] <;> omega)
  · obtain rfl : r = N + 1 := by omega
    have HF := hide (show ¬ HasPot es from fun hp => HA.out N (by omega) (same_of HG.out hp (by omega)))
    have HFB := hide (HWB.out.trans (by have h7 := HW.out; exact hB.mono (by omega)))
    clear hT hB
    go_wp2
    go_ret2
    refine ⟨.inr ⟨HF.out, rfl⟩, ?_⟩
    rw [HGs.out]; exact HFB.out
end Go.Proofs.YtjjikhaaimfneaaGreatDoor
