/-
  Lemmas and walks for the statement: Solve.
-/
import Derived.Test.YtagbikgfkakbfaaQ35
import Derived.Test.YtagbikgfkakbfaaQ36
import Derived.Deep.RegionHeld3
import Derived.Deep.DeepCutAuto
import Derived.Laws.MakeOwn
namespace Go.Proofs.Ytagbikgfkakbfaa
open Go.RowKit
set_option linter.unusedSimpArgs false
set_option linter.unusedVariables false
attribute [local go_sem] iteMin iteMax iteMinN iteMaxN
theorem intInfoSv : (Try.prog.info? 3).map (fun i => (i.zero, i.size, i.bytes)) = some (some (.int .i64 0), 1, 8) := by kernel_rfl
theorem retV {a b : Int} (h : a = b) : Value.int .i64 a = Value.int .i64 b := by rw [h]
set_option maxRecDepth 100000 in
set_option maxHeartbeats 4000000 in
theorem solve_any (N : Nat) (a : Option Addr) (n c : Nat) (es : List GE) (w : World) (h : EdgesAt w a n c es) (hg : GraphOk (N : Int) es) :
 Calls Try.prog 27 #[.agg #[.int .i64 N, .slice a n c]] w fun e w' => (∃ q sb gm gb, SolveEnds N a n c es w.heap.size e w' q sb gm gb) ∧ Below w.heap.size w w' := by
 obtain ⟨i0, hi0, hz0, hz1, hz2⟩ := info_parts intInfoSv
 have HG := hide hg
 have HL := hide h.len
 have hN : N ≤ 300 := by have := hg.1.2.1; omega
 have HE0 := hide h
 obtain ⟨W, hW⟩ : ∃ W, W = w.alloc (.cells #[.int .i64 N, .slice a n c] 56) := ⟨_, rfl⟩
 have hWB : Below w.heap.size w W := by rw [hW]; exact (Below.refl _ _).alloc (Nat.le_refl _) _
 obtain ⟨G, hG⟩ : ∃ G, w.heap.size = G := ⟨_, rfl⟩
 have hWs : W.heap.size = G + 1 := by rw [hW, ← hG]; simp
 have e0 : W.cell? ⟨G, 0, none⟩ = some (.int .i64 N) := by rw [hW, ← hG]; simp [go_sem]
 have e1 : W.cell? ⟨G, 1, none⟩ = some (.slice a n c) := by rw [hW, ← hG]; simp [go_sem]
 have HGs := hide hG
 have HWB := hide hWB
 have HWs := hide hWs
 have HC : Hid (∀ w', Below (G + 1) W w' → w'.cell? ⟨G, 0, none⟩ = some (.int .i64 N) ∧ w'.cell? ⟨G, 1, none⟩ = some (.slice a n c)) := hide fun w' hb => ⟨(hb.cell (by show G < G + 1; omega)).trans e0, (hb.cell (by show G < G + 1; omega)).trans e1⟩
 have hmk : ∀ wx : World, (Instr.makeSlice 47 (.int .i64 (N : Int)) (.int .i64 (N : Int))).run Try.prog wx = .ok (.slice (some ⟨wx.heap.size, 0, none⟩) N N) (wx.alloc (.cells (madeCells (Value.int .i64 0).cells (N * 1)) 3)) := fun wx => by
  have := run_make (P := Try.prog) wx 47 3 i0 (.int .i64 0) Try.underlying47 hi0 hz0 .i64 .i64 N N (by omega) (Int.le_refl _) (by rw [hz2]; omega) (by omega)
  rw [hz1] at this
  simpa using this
 clear hg h hWB
 go_enter Try.func27, Try.ntmps27
 go_upto_region 1 with fail
 rw [← hW]
 clear hW
 go_cut [4] (fun p wx => Began N a n c (G + 1) W p wx)
 case first =>
  go_region_held3 (fun w' => w'.cell? ⟨G, 0, none⟩ = some (.int .i64 N) ∧ w'.cell? ⟨G, 1, none⟩ = some (.slice a n c)) (((try dsimp only); exact HC.out _ (by (repeat' (first | (with_reducible assumption) | (with_reducible exact Below.refl _ _) | (with_reducible refine Below.alloc ?_ ?_ _) | (with_reducible refine Below.drew ?_) | (with_reducible refine Below.trans ?_ (B2.mono ?_)) | omega | (simp; done) | (simp; omega))))))
   ((go_at_call 40; refine (repeat_any _ (-1) N _ hN (by (repeat' (first | (with_reducible assumption) | (with_reducible refine news_drew ?_) | (with_reducible refine news_new ?_) | (with_reducible refine news_alloc ?_) | omega | (simp; done) | (simp; omega))))).mono ?_; rintro e w2 ⟨⟨gb, rfl, hgb, hblk⟩, B2⟩; have hs2 := B2.size; (try simp at hs2); (try simp at hgb)))
  all_goals trace "WAY"
  all_goals go_wp2_with fail
  all_goals go_meet
  all_goals refine ⟨_, _, _, rfl, cell40 (by (repeat' (first | rfl | (simp; done)))), cell41 (by (repeat' (first | rfl | (simp; done)))), cell42 (by (repeat' (first | rfl | (simp; done)))), cell43 (by (repeat' (first | rfl | (simp; done)))), ?_, ?_, ?_, ?_⟩
  · exact OTab.alloc (OTab.below (OTab.drew (OTab.alloc (made_tab2 hWs (by omega) (by unfold maxLen; omega)) _)) B2) _
  · exact OTab.alloc (rep_tab hblk (by omega) (by unfold maxLen; omega)) _
  · refine ⟨?_, ?_, ?_⟩ <;> first | omega | (have := lt_of_get hblk; omega)
  · (repeat' (first | (with_reducible assumption) | (with_reducible exact Below.refl _ _) | (with_reducible refine Below.alloc ?_ ?_ _) | (with_reducible refine Below.drew ?_) | (with_reducible refine Below.trans ?_ (B2.mono ?_)) | omega | (simp; done) | (simp; omega)))
  · exact OTab.alloc (OTab.below (OTab.drew (made_tab2 (by simp; omega) (by omega) (by unfold maxLen; omega))) B2) _
  · exact OTab.alloc (rep_tab hblk (by omega) (by unfold maxLen; omega)) _
  · refine ⟨?_, ?_, ?_⟩ <;> first | omega | (have := lt_of_get hblk; omega)
  · (repeat' (first | (with_reducible assumption) | (with_reducible exact Below.refl _ _) | (with_reducible refine Below.alloc ?_ ?_ _) | (with_reducible refine Below.drew ?_) | (with_reducible refine Below.trans ?_ (B2.mono ?_)) | omega | (simp; done) | (simp; omega)))
  · exact OTab.alloc (made_tab2 rfl (by omega) (by unfold maxLen; omega)) _
  · exact OTab.alloc (OTab.alloc (rep_tab hblk (by omega) (by unfold maxLen; omega)) _) _
  · refine ⟨?_, ?_, ?_⟩ <;> first | omega | (have := lt_of_get hblk; omega)
  · (repeat' (first | (with_reducible assumption) | (with_reducible exact Below.refl _ _) | (with_reducible refine Below.alloc ?_ ?_ _) | (with_reducible refine Below.drew ?_) | (with_reducible refine Below.trans ?_ (B2.mono ?_)) | omega | (simp; done) | (simp; omega)))
 case rest =>
  obtain ⟨sb, gm, gb, rfl, c0, c1, c2, c3, hm, hb, hne, hB⟩ := hcut
  have g0 := (HC.out _ hB).1
  have hBw : Below w.heap.size w wc := HWB.out.trans (hB.mono (by omega))
  have HCC := hide (And.intro c0 (And.intro c1 (And.intro c2 c3)))
  have HNE := hide hne
  have HBW := hide hBw
  have hmB := hm.base (B' := w.heap.size) (by omega)
  have hbB := hb.base (B' := w.heap.size) (by omega)
  have hN0 : (0 : Int) ≤ (N : Int) := Int.natCast_nonneg _
  clear hm hb hne hB hBw c0 c1 c2 c3 hmk e0 e1
  go_wp2
  go_loopw [5, 19] (fun l i wr => ∃ k : Nat, ∃ q : PS, k ≤ N + 1 ∧ i = .int .i64 k ∧ l = .int .i64 q.last ∧ Hid (q = piter (pes es) k) ∧ Hid (k = 0 ∨ 0 ≤ q.last) ∧ OTab wr w.heap.size 3 gm N N q.m ∧ OTab wr w.heap.size 3 gb N N q.b ∧ Two wc wr gm gb) (fun _ i _ => N + 1 - (intOf i).toNat)
  case atStart => exact ⟨0, pzero, Nat.zero_le _, rfl, rfl, hide rfl, hide (.inl rfl), hmB, hbB, Two.refl _ _ _⟩
  case round =>
   clear hmB hbB
   obtain ⟨k, q, hk, rfl, rfl, HQ, HL0, hm, hb, hT⟩ := hrel
   have k0 : (0 : Int) ≤ (k : Int) := Int.natCast_nonneg _
   have HM := hide hm
   have HBB := hide hb
   have HT := hide hT
   clear hm hb hT
   by_cases hlt : k < N + 1
   · have k1 : (k : Int) < (N : Int) + 1 := by omega
     have HR := hide (show pround (pes es) q = piter (pes es) (k + 1) by rw [HQ.out]; rfl)
     have HCALL := hide (round_any N a n c es w wr sb gm N gb N q (k * 5033164800) HE0.out (HBW.out.trans (HT.out.below HBW.out.size (OTab.lt HM.out).1 (OTab.lt HBB.out).1)) HG.out (HT.out.cell HNE.out.2.1 HNE.out.2.2 HCC.out.2.1) (HT.out.cell HNE.out.2.1 HNE.out.2.2 HCC.out.2.2.1) (HT.out.cell HNE.out.2.1 HNE.out.2.2 HCC.out.2.2.2) HM.out HBB.out HNE.out.1 HNE.out.2.1 HNE.out.2.2 (by rw [HQ.out]; exact piter_b HG.out k) (by omega))
     obtain ⟨L, hL⟩ : ∃ L, (pround (pes es) q).last = L := ⟨_, rfl⟩
     have HLL := hide hL
     clear hL
     go_wp2_with (go_at_call 41; refine HCALL.out.mono ?_; rintro e w2 ⟨he, hm2, hb2, hT2⟩; rw [HLL.out] at he; subst he; have HM2 := hide hm2; have HB2 := hide hb2; have HT2 := hide hT2; clear hm2 hb2 hT2; rcases Int.lt_or_le L 0 with hl | hl)
     · go_wp2
       go_ret2
       rw [HGs.out.symm]
       refine ⟨⟨pround (pes es) q, sb, gm, gb, congrArg (fun z => Ending.returned (.tuple #[.pointer (some ⟨sb, 0, none⟩), .int .i64 z])) HLL.out.symm, ⟨k, by omega, HR.out, .inl (by rw [HLL.out]; exact hl)⟩, (HT.out.trans HT2.out).cell HNE.out.2.1 HNE.out.2.2 HCC.out.1, (HT.out.trans HT2.out).cell HNE.out.2.1 HNE.out.2.2 HCC.out.2.1, (HT.out.trans HT2.out).cell HNE.out.2.1 HNE.out.2.2 HCC.out.2.2.1, (HT.out.trans HT2.out).cell HNE.out.2.1 HNE.out.2.2 HCC.out.2.2.2, HM2.out, HB2.out⟩, HBW.out.trans ((HT.out.trans HT2.out).below HBW.out.size (OTab.lt HM.out).1 (OTab.lt HBB.out).1)⟩
     · go_wp2
       go_roundw
       case rel => exact ⟨k + 1, piter (pes es) (k + 1), by omega, by first | go_num | (simp; done), retV (by rw [← HR.out]; exact HLL.out.symm), hide rfl, hide (.inr (by rw [← HR.out, HLL.out]; exact hl)), by rw [← HR.out]; exact HM2.out, by rw [← HR.out]; exact HB2.out, HT.out.trans HT2.out⟩
       case measure => (simp [intOf] <;> omega)
   · obtain rfl : k = N + 1 := by omega
     go_wp2
     go_ret2
     refine ⟨⟨q, sb, gm, gb, rfl, ⟨N, Nat.le_refl _, HQ.out, .inr ⟨rfl, (by have := HL0.out; omega)⟩⟩, HT.out.cell HNE.out.2.1 HNE.out.2.2 HCC.out.1, HT.out.cell HNE.out.2.1 HNE.out.2.2 HCC.out.2.1, HT.out.cell HNE.out.2.1 HNE.out.2.2 HCC.out.2.2.1, HT.out.cell HNE.out.2.1 HNE.out.2.2 HCC.out.2.2.2, HM.out, HBB.out⟩, HBW.out.trans (HT.out.below HBW.out.size (OTab.lt HM.out).1 (OTab.lt HBB.out).1)⟩
end Go.Proofs.Ytagbikgfkakbfaa
