/-
  WALK: mean.Best.
-/
import Derived.Test.YthjicnddfjpnjaaMBestP
import Derived.Test.YthjicnddfjpnjaaMVis
namespace Go.Proofs.Ythjicnddfjpnjaa
open Go.RowKit
set_option linter.unusedSimpArgs false
set_option linter.unusedVariables false

attribute [local go_sem] iteMin iteMax iteMinN iteMaxN

/-- what Best answers -/
def BestEnds (N : Int) (es : List GE) (e : Ending) (w' : World) : Prop :=
  (∃ r, r ≠ 0 ∧ GreatSays N es 0 0 r ∧ e = .returned (.tuple #[.slice none 0 0, .int .i64 r])) ∨
  (∃ a cp ns x y, e = .returned (.tuple #[.slice a ns.length cp, .int .i64 0]) ∧ IntsAt w' a ns.length cp ns ∧ GreatSays N es x y 0 ∧ BestL N.toNat es ns x y)
theorem great_two {N : Int} {es : List GE} {x y r : Int} (h : GreatSays N es x y r) (hr : r ≠ 0) : x = 0 ∧ y = 0 := by
  rcases h with ⟨_, h1, h2, _⟩ | ⟨_, _, h1, h2, _⟩ | ⟨_, h3, _⟩
  · exact ⟨h1, h2⟩
  · exact ⟨h1, h2⟩
  · exact absurd h3 hr
set_option maxRecDepth 100000 in
set_option maxHeartbeats 2000000 in
theorem best_bad (N : Int) (a : Option Addr) (n c : Nat) (es : List GE) (w : World) (h : EdgesAt w a n c es) (hg : ¬ GraphOk N es) :
    Calls Try.prog 21 #[.agg #[.int .i64 N, .slice a n c]] w fun e w' => BestEnds N es e w' ∧ Below w.heap.size w w' := by
  have HG := hide hg
  have hE := h.below ((Below.refl w.heap.size w).alloc (Nat.le_refl _) (.cells #[.int .i64 N, .slice a n c] 39))
  clear hg h
  go_enter Try.func21, Try.ntmps21
  go_wp2_with fail
  refine (great_bad _ _ _ _ _ _ hE HG.out).mono ?_
  rintro e w1 ⟨rfl, B1⟩
  have HB := hide (((Below.refl w.heap.size w).alloc (Nat.le_refl _) (.cells #[.int .i64 N, .slice a n c] 39)).trans (B1.mono (by simp)))
  clear hE B1
  go_wp2
  go_ret2
  exact ⟨.inl ⟨2, by decide, .inl ⟨HG.out, rfl, rfl, rfl⟩, rfl⟩, HB.out.alloc HB.out.size _⟩
/-- the cells that all parts of Best read -/
def BC (S FB G N n c : Nat) (a : Option Addr) (x y : Int) (es : List GE) (w W0 : World) : Prop :=
  ∀ w', Below G W0 w' → w'.cell? ⟨S, 0, none⟩ = some (.int .i64 N) ∧ w'.cell? ⟨S, 1, none⟩ = some (.slice a n c) ∧ w'.cell? ⟨FB, 0, none⟩ = some (.int .i64 x) ∧ w'.cell? ⟨FB, 1, none⟩ = some (.int .i64 y) ∧ EdgesAt w' a n c es ∧ Below S w w'

set_option maxRecDepth 100000 in
set_option maxHeartbeats 8000000 in
theorem best_ok (N : Nat) (a : Option Addr) (n c : Nat) (es : List GE) (w : World) (h : EdgesAt w a n c es) (hg : GraphOk (N : Int) es) :
    Calls Try.prog 21 #[.agg #[.int .i64 N, .slice a n c]] w fun e w' => BestEnds N es e w' ∧ Below w.heap.size w w' := by
  obtain ⟨i0, hi0, hz0, hz1, hz2⟩ := info_parts intInfoTb
  obtain ⟨i1, hi1, hy1, hy2, hy3⟩ := info_parts infoEdge
  have HG := hide hg
  have HL := hide h.len
  have HE0 := hide h
  have hN : N ≤ 300 := by have := hg.1.2.1; omega
  have hn4 : n ≤ 4800 := by have := hg.1.2.2; rw [h.len] at this; exact this
  obtain ⟨S, hS⟩ : ∃ S, w.heap.size = S := ⟨_, rfl⟩
  have HS := hide hS
  have hmk : ∀ wx : World, (Instr.makeSlice 23 (.int .i64 (N : Int)) (.int .i64 (N : Int))).run Try.prog wx = .ok (.slice (some ⟨wx.heap.size, 0, none⟩) N N) (wx.alloc (.cells (madeCells (Value.int .i64 0).cells (N * 1)) 3)) := fun wx => by
    have := run_make (P := Try.prog) wx 23 3 i0 (.int .i64 0) Try.underlying23 hi0 hz0 .i64 .i64 N N (by omega) (Int.le_refl _) (by rw [hz2]; omega) (by omega)
    rw [hz1] at this
    simpa using this
  have HMK := hide hmk
  clear hmk
  obtain ⟨W, hW⟩ : ∃ W, W = w.alloc (.cells #[.int .i64 N, .slice a n c] 39) := ⟨_, rfl⟩
  have hWB : Below S w W := by rw [hW, ← hS]; exact (Below.refl _ _).alloc (Nat.le_refl _) _
  have e0 : W.cell? ⟨S, 0, none⟩ = some (.int .i64 N) := by rw [hW, ← hS]; simp [go_sem]
  have e1 : W.cell? ⟨S, 1, none⟩ = some (.slice a n c) := by rw [hW, ← hS]; simp [go_sem]
  have hE := h.below (by rw [hS]; exact hWB)
  clear hg h
  go_enter Try.func21, Try.ntmps21
  go_upto_region 1 with fail
  (try rw [hS])
  rw [← hW]
  clear hW
  go_wp2_with fail
  refine (great_ok _ _ _ _ _ _ hE HG.out).mono ?_
  rintro e w1 ⟨⟨x, y, r, rfl, hgs⟩, B1⟩
  have HGS := hide hgs
  have hB1 := hWB.trans (B1.mono (by have := hWB.size; omega))
  have e0 := (B1.cell (World.block_lt_of_cell? W _ e0)).trans e0
  have e1 := (B1.cell (World.block_lt_of_cell? W _ e1)).trans e1
  have hE1 := hE.below B1
  have HB1 := hide hB1
  have hSw1 : S ≤ w1.heap.size := by have := hB1.size; omega
  clear hgs hE B1 hWB hB1
  by_cases hr : r = 0
  · subst hr
    obtain ⟨W0, hW0⟩ : ∃ W0, W0 = w1.alloc (.cells #[.int .i64 x, .int .i64 y] 30) := ⟨_, rfl⟩
    obtain ⟨FB, hFB⟩ : ∃ FB, w1.heap.size = FB := ⟨_, rfl⟩
    have HFB := hide hFB
    have hbW : Below w1.heap.size w1 W0 := by rw [hW0]; exact (Below.refl _ _).alloc (Nat.le_refl _) _
    have hGs : W0.heap.size = FB + 1 := by rw [hW0, ← hFB]; simp
    have HC : Hid (BC S FB W0.heap.size N n c a x y es w W0) := hide (fun w' hb => by
      have kc : ∀ {p : Addr} {v : Value}, W0.cell? p = some v → w'.cell? p = some v := fun {p v} e => (hb.cell (World.block_lt_of_cell? W0 _ e)).trans e
      refine ⟨kc ((hbW.cell (World.block_lt_of_cell? w1 _ e0)).trans e0), kc ((hbW.cell (World.block_lt_of_cell? w1 _ e1)).trans e1), kc ?_, kc ?_, (hE1.below hbW).below hb, (HB1.out.trans (hbW.mono hSw1)).trans (hb.mono ?_)⟩
      · rw [hW0, ← hFB]; simp [go_sem]
      · rw [hW0, ← hFB]; simp [go_sem]
      · have := HB1.out.size; have := hbW.size; omega)
    obtain ⟨hy0, hy300, hx, -, -⟩ := (great_facts HGS.out).2
    have HGW := hide (sclG_ok HG.out ⟨by omega, hy300⟩ hx)
    have H0 : Hid (W0.ownsRow W0.heap.size 46 3 (.slice none 0 0) 0 (flatG (sclG (es.take 0) x y))) := hide ⟨by simp [flatG, sclG], .inl ⟨rfl, rfl⟩⟩
    have HSC := hide (rfl : (0 : Nat) = 0)
    go_upto_region 2 with fail
    (try rw [hFB])
    rw [← hW0]
    clear hW0 hbW hE1 e0 e1
    have e1 := (HC.out W0 (Below.refl _ _)).2.1
    go_wp2_with fail
    clear e1
    go_loopw [6, 26] (fun v i wr => ∃ k : Nat, k ≤ n ∧ i = .int .i64 k ∧ Hid (wr.ownsRow W0.heap.size 46 3 v k (flatG (sclG (es.take k) x y))) ∧ Hid (Below W0.heap.size W0 wr)) (fun _ i _ => n - (intOf i).toNat)
    case atStart => exact ⟨0, Nat.zero_le _, rfl, H0, hide (Below.refl _ _)⟩
    case round =>
      clear H0
      obtain ⟨k, hk, rfl, HR, HB⟩ := hrel
      obtain ⟨va, vc, hv⟩ := row3_shape HR.out
      subst hv
      obtain ⟨wo, rfl⟩ : ∃ wo, wo = wr := ⟨_, rfl⟩
      have k0 : (0 : Int) ≤ (k : Int) := Int.natCast_nonneg _
      by_cases hlt : k < n
      · have hlt' : (k : Int) < (n : Int) := by omega
        obtain ⟨c0, c1, c2, c3, cE, -⟩ := HC.out wo HB.out
        obtain ⟨ad, xs, ys, zs, rfl, hbd, HX, d0, d1, d2⟩ := cE.getB (Below.refl _ _) hlt
        have hok := HG.out.2 _ (List.mem_of_getElem? HX.out)
        unfold EdgeOk at hok
        simp only at hok
        have m1 : -(1048576 * y) ≤ zs * y := by
          have := Int.mul_le_mul_of_nonneg_right (show -1048576 ≤ zs by omega) (show 0 ≤ y by omega)
          omega
        have m2 : zs * y ≤ 1048576 * y := Int.mul_le_mul_of_nonneg_right (by omega) (by omega)
        have w1' : IntKind.i64.wrap (zs * y) = zs * y := IntWalk.i64_in _ (by omega)
        have w2' : IntKind.i64.wrap (zs * y - x) = zs * y - x := IntWalk.i64_in _ (by omega)
        have f9 : IntKind.i64.wrap ((k : Int) + 1) = (k : Int) + 1 := IntWalk.i64_in _ (by omega)
        have HQ := hide (⟨_, rfl⟩ : ∃ p, p = sclG_take (a := x) (b := y) HX.out)
        obtain ⟨wa, hwa⟩ : ∃ wa, wa = wo.alloc (.cells #[.int .i64 xs, .int .i64 ys, .int .i64 zs] 46) := ⟨_, rfl⟩
        have hBa : Below wo.heap.size wo wa := by rw [hwa]; exact (Below.refl _ _).alloc (Nat.le_refl _) _
        have HBa := hide (HB.out.trans (hBa.mono HB.out.size))
        have HRa := hide (row3_kept HR.out (fun g hg => hBa.block g (row3_lt HR.out g hg).2))
        have g0 : wa.cell? ⟨wo.heap.size, 0, none⟩ = some (.int .i64 xs) := by rw [hwa]; simp [go_sem]
        have g1 : wa.cell? ⟨wo.heap.size, 1, none⟩ = some (.int .i64 ys) := by rw [hwa]; simp [go_sem]
        have g2' : wa.cell? ⟨wo.heap.size, 2, none⟩ = some (.int .i64 zs) := by rw [hwa]; simp [go_sem]
        have c2 := (hBa.cell (World.block_lt_of_cell? wo _ c2)).trans c2
        have c3 := (hBa.cell (World.block_lt_of_cell? wo _ c3)).trans c3
        clear m1 m2 hBa cE c0
        go_upto_region 8 with fail
        rw [← hwa]
        clear hwa
        have HTK := hide (sclG_take (a := x) (b := y) HX.out)
        have hGa := HBa.out.size
        have hrG : ∀ g, (Value.slice va k vc).ownBlock = some g → W0.heap.size ≤ g := fun g hg => (row3_lt HRa.out g hg).1
        have HRG := hide hrG
        clear hrG
        go_wp2_with (at_builtin; refine wpList_append_own _ rfl (.tmp 30) (.tmp 44) 37 rfl W0.heap.size 46 i1 _ 3 24 Try.underlying37 hi1 hy1 hy2 hy3 rfl (by decide) (.slice va k vc) k _ rfl (HRa.out.alloc _) _ 1 1 [.int .i64 xs, .int .i64 ys, .int .i64 (zs * y - x)] rfl rfl (fun j u hj => (by have := news3' wa [.int .i64 xs, .int .i64 ys, .int .i64 (zs * y - x)] 46 j u hj; simpa using this)) (by simp [Value.oneCell']) (by unfold maxLen; omega) (by omega) (by first | omega | (simp; omega)) ?_; intro v' w2 hown' hgrow hnil; have HO := hide hown'; have HG2 := hide hgrow; clear hown' hgrow hnil)
        exact ⟨⟨k + 1, hlt, rfl, hide (by rw [HTK.out, flatG_snoc]; exact HO.out), hide ((HBa.out.alloc hGa _).grown HG2.out (by simp; omega) (fun g hg => HRG.out g hg))⟩, meas9 hlt⟩
      · obtain rfl : n = k := by omega
        have hall : es.take n = es := List.take_of_length_le (by rw [HL.out]; omega)
        have hrow := HR.out
        rw [hall] at hrow
        obtain ⟨a2, c2, e2, hE2⟩ := edgesAt_own hrow (by simp [sclG, HL.out]) hn4
        injection e2 with e2 _ e3
        subst e2 e3
        have HE2 := hide hE2
        have HEB : Hid (∀ ad, va = some ad → ad.block < wo.heap.size) := hide (fun ad e => (row3_lt hrow ad.block (by rw [e]; rfl)).2)
        obtain ⟨les, hles⟩ : ∃ les, sclG es x y = les := ⟨_, rfl⟩
        rw [hles] at HGW HE2
        have HLES := hide hles
        clear hrow hE2 hall hles HR
        obtain ⟨c0, -, -, -, -, -⟩ := HC.out wo HB.out
        obtain ⟨Hb, hHb⟩ : ∃ Hb, wo.heap.size = Hb := ⟨_, rfl⟩
        obtain ⟨X, hX⟩ : ∃ X, X = wo.alloc (.cells (madeCells #[.int .i64 0] N) 3) := ⟨_, rfl⟩
        have HHb := hide hHb
        have HX0 : Hid (Below Hb wo X) := hide (by rw [hX, ← hHb]; exact (Below.refl _ _).alloc (Nat.le_refl _) _)
        have HT0 : Hid (OTab X Hb 3 Hb N N (piter (pes les) 0).m) := hide (by rw [hX]; exact made_tab2 hHb (Nat.le_refl _) (by unfold maxLen; omega))
        have hmk := HMK.out
        have x0 : X.cell? ⟨S, 0, none⟩ = some (.int .i64 N) := (HX0.out.cell (by rw [← hHb]; exact World.block_lt_of_cell? wo _ c0)).trans c0
        go_upto_region 11 with fail
        (try rw [hHb])
        rw [← hX]
        clear hX hmk c0
        go_wp2_with fail
        clear x0
        go_loopw [52] (fun i wr => ∃ r : Nat, r ≤ N ∧ i = .int .i64 r ∧ Hid (OTab wr Hb 3 Hb N N (piter (pes les) r).m) ∧ Hid (Below Hb wo wr)) (fun i _ => N - (intOf i).toNat)
        case atStart => exact ⟨0, Nat.zero_le _, rfl, HT0, HX0⟩
        case round =>
          clear HT0 HX0 X
          obtain ⟨r, hr, rfl, HT, HBr⟩ := hrel
          obtain ⟨wp, rfl⟩ : ∃ wp, wp = wr := ⟨_, rfl⟩
          have r0 : (0 : Int) ≤ (r : Int) := Int.natCast_nonneg _
          by_cases hrl : r < N
          · have r1 : (r : Int) < (N : Int) := by omega
            have f9 : IntKind.i64.wrap ((r : Int) + 1) = (r : Int) + 1 := IntWalk.i64_in _ (by omega)
            have HT1 : Hid (OTab wp Hb 3 Hb N N (prun ((pes les).take 0) 0 { piter (pes les) r with last := -1 }).m) := HT
            go_wp2_with fail
            go_loopw [56] (fun i wr => ∃ k : Nat, k ≤ n ∧ i = .int .i64 k ∧ Hid (OTab wr Hb 3 Hb N N (prun ((pes les).take k) 0 { piter (pes les) r with last := -1 }).m) ∧ Hid (Below Hb wo wr)) (fun i _ => n - (intOf i).toNat)
            case atStart => exact ⟨0, Nat.zero_le _, rfl, HT1, HBr⟩
            case round =>
              clear HT HT1 HBr
              obtain ⟨k, hk, rfl, HT, HBw⟩ := hrel
              have k0 : (0 : Int) ≤ (k : Int) := Int.natCast_nonneg _
              by_cases hlt : k < n
              · have k1 : (k : Int) < (n : Int) := by omega
                have f9 : IntKind.i64.wrap ((k : Int) + 1) = (k : Int) + 1 := IntWalk.i64_in _ (by omega)
                obtain ⟨ad, xs, ys, z, rfl, hbd, HX, d0, d1, d2⟩ := HE2.out.getB (by rw [HHb.out]; exact HBw.out) hlt
                have hok := HGW.out.2 _ (List.mem_of_getElem? HX.out)
                unfold EdgeOkW at hok
                simp only at hok
                obtain ⟨s, rfl⟩ : ∃ s : Nat, xs = (s : Int) := ⟨xs.toNat, by omega⟩
                obtain ⟨t, rfl⟩ : ∃ t : Nat, ys = (t : Int) := ⟨ys.toNat, by omega⟩
                obtain ⟨o0, o1, o2, o3, o4, o5⟩ := hok
                have hs : s < N := by omega
                have ht : t < N := by omega
                obtain ⟨q, hq⟩ : ∃ q, prun ((pes les).take k) 0 { piter (pes les) r with last := -1 } = q := ⟨_, rfl⟩
                have HPS : Hid (prun ((pes les).take (k + 1)) 0 { piter (pes les) r with last := -1 } = pstep q k ⟨s, t, z⟩) := hide (by rw [prun_take (pes_get HX.out), hq]; rfl)
                have hqb := fun v => prun_bW HGW.out (s := { piter (pes les) r with last := -1 }) (fun v => piter_bW HGW.out r v) k (by have := HE2.out.len; omega) v
                rw [hq] at HT hqb
                have hb1 := hqb s
                have hb2 := hqb t
                have f1' := HT.out.cell hs
                have f2' := HT.out.cell ht
                obtain ⟨Ms, hMs⟩ : ∃ Ms, q.m s = Ms := ⟨_, rfl⟩
                obtain ⟨Mt, hMt⟩ : ∃ Mt, q.m t = Mt := ⟨_, rfl⟩
                have HMs := hide hMs
                have HMt := hide hMt
                rw [hMs] at f1' hb1
                rw [hMt] at f2' hb2
                have w1' : IntKind.i64.wrap (Ms + z) = Ms + z := IntWalk.i64_in _ (by omega)
                have s0 : (0 : Int) ≤ (s : Int) := Int.natCast_nonneg _
                have s1 : (s : Int) < (N : Int) := by omega
                have t0 : (0 : Int) ≤ (t : Int) := Int.natCast_nonneg _
                have t1 : (t : Int) < (N : Int) := by omega
                obtain ⟨wa, hwa⟩ : ∃ wa, wa = wr.alloc (.cells #[.int .i64 s, .int .i64 t, .int .i64 z] 46) := ⟨_, rfl⟩
                obtain ⟨Eb, hEb⟩ : ∃ Eb, wr.heap.size = Eb := ⟨_, rfl⟩
                have g0 : wa.cell? ⟨Eb, 0, none⟩ = some (.int .i64 s) := by rw [hwa, ← hEb]; simp [go_sem]
                have g1 : wa.cell? ⟨Eb, 1, none⟩ = some (.int .i64 t) := by rw [hwa, ← hEb]; simp [go_sem]
                have g2' : wa.cell? ⟨Eb, 2, none⟩ = some (.int .i64 z) := by rw [hwa, ← hEb]; simp [go_sem]
                have f1 : wa.cell? ⟨Hb, s, none⟩ = some (.int .i64 Ms) := by rw [hwa]; exact alloc_cell f1'
                have f2 : wa.cell? ⟨Hb, t, none⟩ = some (.int .i64 Mt) := by rw [hwa]; exact alloc_cell f2'
                have HTa := hide (show OTab wa Hb 3 Hb N N q.m by rw [hwa]; exact HT.out.alloc _)
                have HBa := hide (show Below Hb wo wa by rw [hwa]; exact HBw.out.alloc (by have := HT.out.lt.2; omega) _)
                have f3 := HTa.out.free t
                have hm9 : k + 1 ≤ n := hlt
                clear hqb hb1 hb2 f1' f2' hMs hMt hq
                go_upto_region 16 with fail
                (try rw [hEb])
                rw [← hwa]
                clear hwa
                go_region
                go_wp2
                have HTN : Hid (OTab (wa.setCell ⟨Hb, t, none⟩ (.int .i64 (max Mt (Ms + z)))) Hb 3 Hb N N (prun ((pes les).take (k + 1)) 0 { piter (pes les) r with last := -1 }).m) := hide (by
                  rw [HPS.out]
                  refine HTa.out.set ht ?_ (fun v _ hne => ?_)
                  · rw [pstep_m]; simp only [upd, if_pos]; rw [HMs.out, HMt.out]
                  · rw [pstep_m]; simp only [upd, if_neg hne])
                exact ⟨⟨k + 1, hm9, rfl, hide HTN.out.drew, hide ((HBa.out.setCell (Nat.le_refl _) _).drew)⟩, meas9 hlt⟩
              · obtain rfl : n = k := by omega
                have hle : (pes les).length = n := by rw [pes_len]; exact HE2.out.len
                have hall : (pes les).take n = pes les := List.take_of_length_le (by omega)
                rw [hall] at HT
                have HTN : Hid (OTab wr Hb 3 Hb N N (piter (pes les) (r + 1)).m) := HT
                have hm9 : r + 1 ≤ N := hrl
                go_wp2
                exact ⟨⟨r + 1, hm9, rfl, HTN, HBw⟩, meas9 hrl⟩
          · obtain rfl : N = r := by omega
            obtain ⟨Q, hQ⟩ : ∃ Q, wp.heap.size = Q := ⟨_, rfl⟩
            have HQ := hide hQ
            have hHQ : Hb < Q := by have := HT.out.lt.2; omega
            have hGH : W0.heap.size ≤ Hb := by have := HB.out.size; have := HHb.out; omega
            have HW2 : Hid (∀ w', Below Q wp w' → Below W0.heap.size W0 w') := hide (fun w' hb => HB.out.trans ((HBr.out.trans (hb.mono (by omega))).mono hGH))
            have HCC : Hid (∀ w', Below Q wp w' → w'.cell? ⟨S, 0, none⟩ = some (.int .i64 N)) := hide (fun w' hb => (HC.out w' (HW2.out w' hb)).1)
            have hmk := HMK.out
            go_upto_region 19 with fail
            go_cut [12] (fun p wx => ∃ wb gb gt, p = .pointer (some ⟨wb, 0, none⟩) ∧ wx.cell? ⟨wb, 0, none⟩ = some (.slice (some ⟨Hb, 0, none⟩) N N) ∧ wx.cell? ⟨wb, 1, none⟩ = some (.slice va n vc) ∧ wx.cell? ⟨wb, 2, none⟩ = some (.slice (some ⟨gb, 0, none⟩) N N) ∧ wx.cell? ⟨wb, 3, none⟩ = some (.slice (some ⟨gt, 0, none⟩) N N) ∧ Hid (OTab wx Q 3 gb N N (fun _ => -1)) ∧ Hid (OTab wx Q 3 gt N N pzero.m) ∧ (wb ≠ gb ∧ wb ≠ gt ∧ gb ≠ gt) ∧ Hid (Below Q wp wx))
            case first =>
              go_region_held3 (fun w' => w'.cell? ⟨S, 0, none⟩ = some (.int .i64 N)) (((try dsimp only); exact HCC.out _ (by (repeat' (first | (with_reducible assumption) | (with_reducible exact Below.refl _ _) | (with_reducible refine Below.alloc ?_ ?_ _) | (with_reducible refine Below.drew ?_) | (with_reducible refine Below.trans ?_ (B2.mono ?_)) | omega | (simp; done) | (simp; omega))))))
                ((go_at_call 44; refine (repeat_any _ (-1) N _ hN (by (repeat' (first | (with_reducible assumption) | (with_reducible refine news_drew ?_) | (with_reducible refine news_new ?_) | (with_reducible refine news_alloc ?_) | omega | (simp; done) | (simp; omega))))).mono ?_; rintro e w2 ⟨⟨gb, rfl, hgb, hblk⟩, B2⟩; have hs2 := B2.size; (try simp at hs2); (try simp at hgb)))
              all_goals trace "WAY"
              all_goals go_wp2_with fail
              all_goals go_meet
              all_goals refine ⟨_, _, _, rfl, cell40 (by (repeat' (first | rfl | (simp; done)))), cell41 (by (repeat' (first | rfl | (simp; done)))), cell42 (by (repeat' (first | rfl | (simp; done)))), cell43 (by (repeat' (first | rfl | (simp; done)))), hide ?_, hide ?_, ?_, hide ?_⟩
              all_goals first
                | (refine ⟨?_, ?_, ?_⟩ <;> first | omega | (have := lt_of_get hblk; omega))
                | exact OTab.alloc (rep_tab hblk (by omega) (by unfold maxLen; omega)) _
                | exact OTab.alloc (OTab.alloc (rep_tab hblk (by omega) (by unfold maxLen; omega)) _) _
                | exact OTab.alloc (OTab.below (OTab.drew (OTab.alloc (made_tab2 hQ (by omega) (by unfold maxLen; omega)) _)) B2) _
                | exact OTab.alloc (OTab.below (OTab.drew (made_tab2 (by simp; omega) (by omega) (by unfold maxLen; omega))) B2) _
                | exact OTab.alloc (made_tab2 rfl (by omega) (by unfold maxLen; omega)) _
                | ((repeat' (first | (with_reducible assumption) | (with_reducible exact Below.refl _ _) | (with_reducible refine Below.alloc ?_ ?_ _) | (with_reducible refine Below.drew ?_) | (with_reducible refine Below.trans ?_ (B2.mono ?_)) | omega | (simp; done) | (simp; omega))); done)
            case rest =>
              obtain ⟨wb, gb, gt, rfl, c0, c1, c2, c3, HTb, HTt, hne, HBc⟩ := hcut
              have hQb := HTb.out.lt.1
              have hQt := HTt.out.lt.1
              have HM0 : Hid (VMem wc wb Hb Hb N n vc gb N gt N N va les (piter (pes les) N).m ⟨fun _ => 0, fun _ => -1⟩) := hide ⟨c0, c1, c2, c3, HT.out.below (by rw [HQ.out]; exact HBc.out), (HE2.out.below (by rw [HHb.out]; exact HBr.out)).below (by rw [HQ.out]; exact HBc.out), HTb.out.base (by omega), HTt.out.base (by omega), ⟨⟨hne.1, hne.2.1, by omega, by omega, hne.2.2⟩, fun ad e => by have := HEB.out ad e; have := HHb.out; exact ⟨by omega, by omega⟩⟩⟩
              have HF : Hid (∀ w', Two wc w' gb gt → Below S w w') := hide (fun w' ht => (HC.out w' ((HW2.out wc HBc.out).trans (ht.below ((HW2.out wc HBc.out).size) (by omega) (by omega)))).2.2.2.2.2)
              have x0 := HCC.out wc HBc.out
              have HHI : Hid (∀ v, v < N → 0 ≤ (piter (pes les) N).m v ∧ (piter (pes les) N).m v ≤ 4000000000000000) := hide (fun v _ => by rw [← HLES.out]; exact best_hi HGS.out v)
              clear hmk c0 c1 c2 c3 HTb HTt hne HBc HT HBr HCC HW2
              go_wp2_with fail
              clear x0
              go_loopw [93] (fun i wr => ∃ (v : Nat) (S' : DS), v ≤ N ∧ i = .int .i64 v ∧ Hid (VMem wr wb Hb Hb N n vc gb N gt N N va les (piter (pes les) N).m S') ∧ Hid (DInv (pes les) N (piter (pes les) N).m S' []) ∧ Hid (∀ u, u < v → S'.st u = 2) ∧ Hid (Two wc wr gb gt)) (fun i _ => N - (intOf i).toNat)
              case atStart => exact ⟨0, _, Nat.zero_le _, rfl, HM0, hide (DInv.start _ _ _), hide (fun u h => by omega), hide (Two.refl _ _ _)⟩
              case round =>
                clear HM0
                obtain ⟨v, S', hv, rfl, HM, HD, HBL, HTW⟩ := hrel
                have v0 : (0 : Int) ≤ (v : Int) := Int.natCast_nonneg _
                by_cases hvl : v < N
                · have v1 : (v : Int) < (N : Int) := by omega
                  have f9 : IntKind.i64.wrap ((v : Int) + 1) = (v : Int) + 1 := IntWalk.i64_in _ (by omega)
                  have HCALL := hide (visit_any wb Hb Hb N n vc gb N gt N N va les (piter (pes les) N).m hN HGW.out HHI.out (whites N S') S' [] v wr (Nat.le_refl _) HM.out HD.out hvl (by
                    rcases HD.out.vals v with h | h | h
                    · exact .inr ⟨h, fun a ha => by simp at ha⟩
                    · have := (HD.out.gray v).1 h; simp at this
                    · exact .inl h))
                  have hm9 : v + 1 ≤ N := hvl
                  go_wp2_with fail
                  refine HCALL.out.mono ?_
                  rintro e w5 ⟨hres, hT5⟩
                  have HT5 := hide (HTW.out.trans hT5)
                  clear hT5
                  rcases hres with ⟨a5, cp, ns, rfl, hI, hF⟩ | ⟨S2, rfl, hM2, hD2, hb2, hs2, hbl2⟩
                  · have hpos : (0 : Int) < (ns.length : Int) := by have := hF.pos; omega
                    have HI := hide hI
                    have HFF := hide hF
                    clear hI hF
                    go_wp2
                    go_ret2
                    exact ⟨.inr ⟨a5, cp, ns, x, y, rfl, HI.out, HGS.out, best_of hy0 (by rw [HLES.out]; exact HFF.out)⟩, by rw [HS.out]; exact HF.out w5 HT5.out⟩
                  · have HM2 := hide hM2
                    have HD2 := hide hD2
                    have HB2 : Hid (∀ u, u < v + 1 → S2.st u = 2) := hide (fun u hu => by
                      by_cases huv : u = v
                      · rw [huv]; exact hb2
                      · exact hbl2 u (HBL.out u (by omega)))
                    clear hM2 hD2 hb2 hs2 hbl2
                    go_wp2
                    exact ⟨⟨v + 1, S2, hm9, rfl, HM2, HD2, HB2, HT5⟩, meas9 hvl⟩
                · exfalso
                  obtain rfl : N = v := by omega
                  exact best_search HGS.out (by rw [HLES.out]; exact HD.out) HBL.out
  · have hrb : ((r : Int) == 0) = false := by simpa using hr
    obtain ⟨rfl, rfl⟩ := great_two HGS.out hr
    go_wp2
    go_ret2
    exact ⟨.inl ⟨r, hr, HGS.out, rfl⟩, by rw [HS.out]; exact HB1.out.alloc hSw1 _⟩

end Go.Proofs.Ythjicnddfjpnjaa
