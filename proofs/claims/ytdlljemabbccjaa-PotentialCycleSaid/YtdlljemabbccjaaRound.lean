/-
  WALKS: the solver's round.
-/
import Derived.Test.YtdlljemabbccjaaPSolve
import Derived.Test.YtdlljemabbccjaaMin
import Derived.Test.YtdlljemabbccjaaProg
import Derived.BigRegion
namespace Go.Proofs.Ytdlljemabbccjaa
open Go.RowKit
set_option linter.unusedSimpArgs false
set_option linter.unusedVariables false

attribute [local go_sem] iteMin iteMax iteMinN iteMaxN

set_option maxRecDepth 100000 in
set_option maxHeartbeats 4000000 in
theorem round_any (N : Nat) (a : Option Addr) (n c : Nat) (es : List GE) (W0 w : World) (sb gm cm gb cb : Nat) (s : PS) (M : Int) (hE : EdgesAt W0 a n c es) (hW : Below W0.heap.size W0 w) (hg : GraphOk (N : Int) es)
    (b1 : w.cell? ⟨sb, 1, none⟩ = some (.slice a n c)) (b2 : w.cell? ⟨sb, 2, none⟩ = some (.slice (some ⟨gm, 0, none⟩) N cm)) (b3 : w.cell? ⟨sb, 3, none⟩ = some (.slice (some ⟨gb, 0, none⟩) N cb))
    (hm : OTab w W0.heap.size 3 gm N cm s.m) (hb : OTab w W0.heap.size 3 gb N cb s.b) (hne : gm ≠ gb) (hn1 : sb ≠ gm) (hn2 : sb ≠ gb) (hs : ∀ v, 0 ≤ s.m v ∧ s.m v ≤ M) (hM : M ≤ 1152921504606846976) :
    Calls Try.prog 102 #[.pointer (some ⟨sb, 0, none⟩)] w fun e w' => e = .returned (.int .i64 (pround (pes es) s).last) ∧ OTab w' W0.heap.size 3 gm N cm (pround (pes es) s).m ∧ OTab w' W0.heap.size 3 gb N cb (pround (pes es) s).b ∧ Two w w' gm gb := by
  have HG := hide hg
  have HL := hide hE.len
  have hn4 : (n : Int) ≤ 4800 := by have := hg.1.2.2; rw [hE.len] at this; omega
  have HE := hide hE
  have HW := hide hW
  have HB := hide (And.intro b1 (And.intro b2 b3))
  have HNE := hide (And.intro hne (And.intro hn1 hn2))
  have HS := hide hs
  have hsb : sb < w.heap.size := World.block_lt_of_cell? w _ b1
  have HSB := hide hsb
  clear hg hE hW hs hne hn1 hn2 b2 b3 hsb
  go_enter Try.func102, Try.ntmps102
  go_wp2
  go_loopw [3, 13] (fun l i wr => ∃ k : Nat, ∃ q : PS, k ≤ n ∧ i = .int .i64 k ∧ l = .int .i64 q.last ∧ Hid (q = prun ((pes es).take k) 0 { s with last := -1 }) ∧ OTab wr W0.heap.size 3 gm N cm q.m ∧ OTab wr W0.heap.size 3 gb N cb q.b ∧ Two w wr gm gb) (fun _ i _ => n - (intOf i).toNat)
  case atStart => exact ⟨0, { s with last := -1 }, Nat.zero_le _, rfl, rfl, hide rfl, hm, hb, Two.refl _ _ _⟩
  case round =>
    clear hm hb b1
    obtain ⟨k, q, hk, rfl, rfl, HQ, hm, hb, hT⟩ := hrel
    have k0 : (0 : Int) ≤ (k : Int) := Int.natCast_nonneg _
    by_cases hlt : k < n
    · have k1 : (k : Int) < (n : Int) := by omega
      have hBW : Below W0.heap.size W0 wr := HW.out.trans (hT.below HW.out.size (OTab.lt hm).1 (OTab.lt hb).1)
      obtain ⟨ad, x, y, z, rfl, hbd, HX, d0, d1, d2⟩ := HE.out.getB hBW hlt
      have hok := HG.out.2 _ (List.mem_of_getElem? HX.out)
      unfold EdgeOk at hok
      simp only at hok
      obtain ⟨sv, rfl⟩ : ∃ sv : Nat, x = (sv : Int) := ⟨x.toNat, by omega⟩
      obtain ⟨tv, rfl⟩ : ∃ tv : Nat, y = (tv : Int) := ⟨y.toNat, by omega⟩
      obtain ⟨o0, o1, o2, o3, o4, o5⟩ := hok
      have hsN : sv < N := by omega
      have htN : tv < N := by omega
      have HP := hide (prun_take (pes_get HX.out) { s with last := -1 })
      have hqb := prun_b HG.out (s := { s with last := -1 }) HS.out k (by rw [HL.out]; omega) sv
      rw [← HQ.out] at hqb
      obtain ⟨Ms, hMs⟩ : ∃ Ms, q.m sv = Ms := ⟨_, rfl⟩
      obtain ⟨Mt, hMt⟩ : ∃ Mt, q.m tv = Mt := ⟨_, rfl⟩
      rw [hMs] at hqb
      obtain ⟨hq1, hq2⟩ := hqb
      have hq3 : Ms ≤ 1152921509639946240 := by omega
      have HMs := hide hMs
      have HMt := hide hMt
      have hml := (OTab.lt hm).2
      have hbl := (OTab.lt hb).2
      obtain ⟨wa, hwa⟩ : ∃ wa, wa = wr.alloc (.cells #[.int .i64 sv, .int .i64 tv, .int .i64 z] 71) := ⟨_, rfl⟩
      obtain ⟨Eb, hEb⟩ : ∃ Eb, wr.heap.size = Eb := ⟨_, rfl⟩
      have g0 : wa.cell? ⟨Eb, 0, none⟩ = some (.int .i64 sv) := by rw [hwa, ← hEb]; simp [go_sem]
      have g1 : wa.cell? ⟨Eb, 1, none⟩ = some (.int .i64 tv) := by rw [hwa, ← hEb]; simp [go_sem]
      have g2 : wa.cell? ⟨Eb, 2, none⟩ = some (.int .i64 z) := by rw [hwa, ← hEb]; simp [go_sem]
      have hm' : OTab wa W0.heap.size 3 gm N cm q.m := by rw [hwa]; exact hm.alloc _
      have hb' : OTab wa W0.heap.size 3 gb N cb q.b := by rw [hwa]; exact hb.alloc _
      have hT' : Two w wa gm gb := by rw [hwa]; exact hT.alloc _
      have f1 : wa.cell? ⟨gm, sv, none⟩ = some (.int .i64 Ms) := by rw [← hMs]; exact hm'.cell hsN
      have f2 : wa.cell? ⟨gm, tv, none⟩ = some (.int .i64 Mt) := by rw [← hMt]; exact hm'.cell htN
      have f3 := hm'.free tv
      have f4 := hb'.free tv
      have f5 := hb'.cell htN
      have s1 : wr.cell? ⟨sb, 1, none⟩ = some (.slice (some ad) n c) := hT.cell HNE.out.2.1 HNE.out.2.2 HB.out.1
      have s2 : wa.cell? ⟨sb, 2, none⟩ = some (.slice (some ⟨gm, 0, none⟩) N cm) := hT'.cell HNE.out.2.1 HNE.out.2.2 HB.out.2.1
      have s3 : wa.cell? ⟨sb, 3, none⟩ = some (.slice (some ⟨gb, 0, none⟩) N cb) := hT'.cell HNE.out.2.1 HNE.out.2.2 HB.out.2.2
      have sv0 : (0 : Int) ≤ (sv : Int) := Int.natCast_nonneg _
      have sv1 : (sv : Int) < (N : Int) := by omega
      have tv0 : (0 : Int) ≤ (tv : Int) := Int.natCast_nonneg _
      have tv1 : (tv : Int) < (N : Int) := by omega
      have hne : gm ≠ gb := HNE.out.1
      have hne2 : gb ≠ gm := fun e => hne e.symm
      have hn3 : Eb ≠ gm := by omega
      have hn4' : Eb ≠ gb := by omega
      have hn5 : gm ≠ Eb := by omega
      have hn6 : gb ≠ Eb := by omega
      have hn7 : sb ≠ gm := HNE.out.2.1
      have hn8 : sb ≠ gb := HNE.out.2.2
      clear hml hbl
      have HM := hide hm'
      have HBB := hide hb'
      have HT := hide hT'
      clear hMs hMt hm hb hT hm' hb' hT' hBW
      by_cases hv : Mt < Ms + z
      · have HSt := hide (show pstep q k (peOf ⟨sv, tv, z⟩) = ⟨upd q.m tv (Ms + z), upd q.b tv k, tv⟩ by
          rw [← HMs.out]; exact if_pos (show q.m tv < q.m sv + z by rw [HMt.out, HMs.out]; exact hv))
        go_wp2
        rw [← hwa]
        clear hwa hEb
        go_quiet (fail)
        go_wp2
        go_quiet (fail)
        go_wp2
        go_region
        all_goals go_wp2
        all_goals go_roundw
        case rel => exact ⟨k + 1, ⟨upd q.m tv (Ms + z), upd q.b tv k, tv⟩, by omega, by go_num, rfl, hide (by rw [HP.out, ← HQ.out, HSt.out]), (by first | exact OTab.setFar (OTab.set (HM.out.drewN _) htN (by simp [upd]) (fun v hv hne => by simp [upd, hne])) (fun e => HNE.out.1 e.symm) | exact OTab.set (OTab.setFar (HM.out.drewN _) (fun e => HNE.out.1 e.symm)) htN (by simp [upd]) (fun v hv hne => by simp [upd, hne])), (by first | exact OTab.set (OTab.setFar (HBB.out.drewN _) HNE.out.1) htN (by simp [upd]) (fun v hv hne => by simp [upd, hne]) | exact OTab.setFar (OTab.set (HBB.out.drewN _) htN (by simp [upd]) (fun v hv hne => by simp [upd, hne])) HNE.out.1), (by first | exact ((HT.out.drewN _).set1 _ _).set2 _ _ | exact ((HT.out.drewN _).set2 _ _).set1 _ _)⟩
        case measure => (simp [intOf] <;> omega)
      · have HSt := hide (show pstep q k (peOf ⟨sv, tv, z⟩) = q by
          exact if_neg (show ¬ q.m tv < q.m sv + z by rw [HMt.out, HMs.out]; exact hv))
        have hv' : Ms + z ≤ Mt := by omega
        clear hv
        go_wp2
        rw [← hwa]
        clear hwa hEb
        go_quiet (fail)
        go_wp2
        go_quiet (fail)
        go_wp2
        go_roundw
        case rel => exact ⟨k + 1, q, by omega, by go_num, rfl, hide (by rw [HP.out, ← HQ.out, HSt.out]), HM.out.drewN _, HBB.out.drewN _, HT.out.drewN _⟩
        case measure => (simp [intOf] <;> omega)
    · obtain rfl : k = n := by omega
      have hall : (pes es).take k = pes es := List.take_of_length_le (by rw [pes_len, HL.out]; omega)
      have HF := hide (show q = pround (pes es) s by have := HQ.out; rw [hall] at this; exact this)
      clear hall
      go_wp2
      go_ret
      exact ⟨retI (congrArg PS.last HF.out), by rw [← HF.out]; exact hm, by rw [← HF.out]; exact hb, hT⟩

end Go.Proofs.Ytdlljemabbccjaa
