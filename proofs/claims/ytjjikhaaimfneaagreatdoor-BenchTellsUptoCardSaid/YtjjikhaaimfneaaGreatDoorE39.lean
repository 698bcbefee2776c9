/-
  Lemmas and walks for the statement: SOf.
-/
import Derived.Test.YtjjikhaaimfneaaGreatDoorE37
import Derived.Test.YtjjikhaaimfneaaGreatDoorE27
import Derived.Test.YtjjikhaaimfneaaGreatDoorE38
import Derived.Maps.AppendAt
import Derived.Deep.LoopGhost
import Derived.Deep.DeepCutAuto
namespace Go.Proofs.YtjjikhaaimfneaaGreatDoor
open Go.RowKit Go.Shelf
set_option linter.unusedSimpArgs false
set_option linter.unusedVariables false
attribute [local go_sem] iteMaxN iteMax
set_option maxRecDepth 100000 in
set_option maxHeartbeats 64000000 in
theorem sof_run (k0 k1 R Q : Int) (q : Nat) (w : World) (hk : kindsOk k0 k1) (hr : rangeOk R Q (q : Int)) :
 Calls Tryz.prog 58 #[.agg #[.int .i64 k0, .int .i64 k1, .int .i64 R, .int .i64 Q, .int .i64 (q : Int)]] w fun e w' => SofEnds k0 k1 R Q q w e w' := by
 have h1 : ∀ w : World, Calls Tryz.prog 83 #[.agg #[.int .i64 k0, .int .i64 k1, .int .i64 R, .int .i64 Q, .int .i64 (q : Int)]] w fun e w' => e = .returned (.tuple #[.agg #[.int .i64 k0, .int .i64 1, .int .i64 (-1), .int .i64 0, .int .i64 0, .int .i64 0, .int .i64 k1, .int .i64 1, .int .i64 (-1), .int .i64 0, .int .i64 0, .int .i64 0, .int .i64 0, .int .i64 0], .int .i64 0]) ∧ Below w.heap.size w w' := fun w => pstart_ok k0 k1 R Q (q : Int) w hk hr
 have H1 := hide h1
 have HK := hide hk; have HR := hide hr
 have hq3 : q ≤ 3 := by unfold rangeOk at hr; omega
 clear h1 hk hr
 obtain ⟨i1, hi1, hx1, hy1, hz1⟩ := info_parts infoInt
 obtain ⟨i2, hi2, hx2, hy2, hz2⟩ := info_parts infoPair
 obtain ⟨i3, hi3, hx3, hy3, hz3⟩ := info_parts infoRound
 obtain ⟨i4, hi4, hx4, hy4, hz4⟩ := info_parts infoState
 have HI1 := hide (And.intro hi1 (And.intro hx1 (And.intro hy1 hz1)))
 have HI2 := hide (And.intro hi2 (And.intro hx2 (And.intro hy2 hz2)))
 have HI3 := hide (And.intro hi3 (And.intro hx3 (And.intro hy3 hz3)))
 have HI4 := hide (And.intro hi4 (And.intro hx4 (And.intro hy4 hz4)))
 clear hi1 hx1 hy1 hz1 hi2 hx2 hy2 hz2 hi3 hx3 hy3 hz3 hi4 hx4 hy4 hz4
 obtain ⟨S, hS⟩ : ∃ S, w.heap.size = S := ⟨_, rfl⟩
 go_enter Tryz.func58, Tryz.ntmps58
 go_wp2_with fail
 obtain ⟨W, hW⟩ : ∃ W, W = (w.alloc (.cells #[.int .i64 k0, .int .i64 k1, .int .i64 R, .int .i64 Q, .int .i64 (q : Int)] 49)).alloc (.cells #[.slice none 0 0, .slice none 0 0, .slice none 0 0, .slice none 0 0, .slice none 0 0] 118) := ⟨_, rfl⟩
 rw [← hW]
 refine (H1.out W).mono ?_
 rintro e w1 ⟨rfl, hA⟩
 obtain ⟨N, hN⟩ : ∃ N, w1.heap.size = N := ⟨_, rfl⟩
 go_wp2_with fail
 obtain ⟨X, hX⟩ : ∃ X, X = ((w1.alloc (.cells #[.int .i64 k0, .int .i64 1, .int .i64 (-1), .int .i64 0, .int .i64 0, .int .i64 0, .int .i64 k1, .int .i64 1, .int .i64 (-1), .int .i64 0, .int .i64 0, .int .i64 0, .int .i64 0, .int .i64 0] 133)).alloc (.cells #[.int .i64 k0, .int .i64 1, .int .i64 (-1), .int .i64 0, .int .i64 0, .int .i64 0, .int .i64 k1, .int .i64 1, .int .i64 (-1), .int .i64 0, .int .i64 0, .int .i64 0, .int .i64 0, .int .i64 0] 133)).alloc (.cells #[.slice (some ⟨N + 1, 0, none⟩) 1 1, .slice none 0 0, .slice none 0 0, .slice none 0 0, .slice none 0 0] 118) := ⟨_, rfl⟩
 rw [← hX]
 obtain ⟨hRS, hXs, hSN⟩ := sof_start (RL := [.int .i64 k0, .int .i64 k1, .int .i64 R, .int .i64 Q, .int .i64 (q : Int)]) (s0 := startI k0 k1) hS hW hA hN rfl hX
 obtain ⟨PB, hPB⟩ : ∃ PB, N + 1 + 1 = PB := ⟨_, rfl⟩
 obtain ⟨B, hB⟩ : ∃ B, N + 1 = B := ⟨_, rfl⟩
 rw [hPB, hB] at hRS
 have HL0 : Hid (SL k0 k1 R Q q w S PB B 0 X) := hide ⟨_, _, _, _, _, hRS, rfl, start_good HK.out HR.out, by simp [rnds, rounds], Nat.zero_le _, fun j hj => by omega⟩
 have HSB : Hid (S + 2 ≤ B) := hide (by omega)
 have HBP : Hid (B ≤ PB) := hide (by omega)
 have HSw := hide hS
 clear hRS hX hXs hW hA H1 hN hS
 rw [hPB]
 clear hPB hB hSN
 go_loopg [7] 301 (fun gk v wr => ∃ kk : Nat, v = .int .i64 (kk : Int) ∧ gk + kk = 301 ∧ Hid (SL k0 k1 R Q q w S PB B kk wr))
 case atStart => exact ⟨0, rfl, rfl, HL0⟩
 case round =>
  obtain ⟨kk, rfl, hgk, hrel⟩ := hrel
  clear HL0
  clear X
  obtain ⟨v0, v1, v2, v3, v4, hE, hfull, hok, hel, hkl, hbef⟩ := hrel.out
  obtain ⟨n, hn⟩ : ∃ n, (rnds k0 k1 R Q q kk).states.length = n := ⟨_, rfl⟩
  have hn3 : n ≤ 300 := by rw [← hn]; exact hok.most
  have hkn : kk ≤ n := by omega
  obtain ⟨a0, c0, e0⟩ := sliceShape hE.sp.r0
  rw [hn] at e0
  have p0 := hE.sp.c0
  rw [e0] at p0
  have he0 := hide e0
  have BR : Blk wr S [.int .i64 k0, .int .i64 k1, .int .i64 R, .int .i64 Q, .int .i64 (q : Int)] := blk_heap (hE.tr (S, .cells [.int .i64 k0, .int .i64 k1, .int .i64 R, .int .i64 Q, .int .i64 (q : Int)].toArray 49 (0, 0)) (by simp [trR])).1
  have kk0 : (0 : Int) ≤ (kk : Int) := Int.natCast_nonneg _
  have r_0 := (BR 0 _ rfl).1
  have r_1 := (BR 1 _ rfl).1
  have r_2 := (BR 2 _ rfl).1
  have r_3 := (BR 3 _ rfl).1
  have r_4 := (BR 4 _ rfl).1
  have HN' := hide hn
  have HFULL := hide hfull
  have HOK := hide hok
  have HBEF := hide hbef
  have HEL := hide hel
  have HE := hide hE
  clear hE hok hfull hel hbef hn e0 BR hkl
  by_cases hlt : kk < n
  · have hlt' : (kk : Int) < (n : Int) := by omega
    obtain ⟨M1, hM1⟩ : ∃ M1, q + 1 = M1 := ⟨_, rfl⟩
    obtain ⟨M2, hM2⟩ : ∃ M2, M1 * M1 = M2 := ⟨_, rfl⟩
    have hM14 : M1 ≤ 4 := by omega
    have hM216 : M2 ≤ 16 := by rw [← hM2]; exact Nat.le_trans (Nat.mul_le_mul hM14 hM14) (by decide)
    have f1 : IntKind.i64.wrap ((q : Int) + 1) = (M1 : Int) := by rw [← hM1, IntWalk.i64_in _ (by omega)]; omega
    have f2 : IntKind.i64.wrap ((M1 : Int) * (M1 : Int)) = (M2 : Int) := by
     have : (M1 : Int) * (M1 : Int) = ((M2 : Nat) : Int) := by rw [← hM2]; exact (Int.natCast_mul _ _).symm
     rw [this, IntWalk.i64_in _ (by omega)]
    have HM1 := hide hM1
    have HM2 := hide hM2
    clear hM1 hM2
    go_wp2_with fail
    have HLR := hrel
    go_loopg [42] M2 (fun gj v wr2 => ∃ m : Nat, v = .int .i64 (m : Int) ∧ gj + m = M2 ∧ Hid (SI k0 k1 R Q q w S PB B kk m wr2))
    case atStart => exact ⟨0, rfl, rfl, hide (hrel.out.into (Below.refl _ _))⟩
    case round =>
     clear HE p0 r_0 r_1 r_2 r_3 r_4 f1 f2
     obtain ⟨m, rfl, hgm, hrel⟩ := hrel
     have hm2 : m ≤ M2 := by omega
     by_cases hlm : m < M2
     · have hlm' : (m : Int) < (M2 : Int) := by omega
       obtain ⟨v0, v1, v2, v3, v4, hE, hfull⟩ := hrel.out
       have hmq : m < (q + 1) * (q + 1) := by rw [HM1.out, HM2.out]; exact hlm
       have hokY := walk_ok2 HOK.out (by rw [HN'.out]; exact hlt) (Nat.le_of_lt hmq)
       have hlq := latesP_ok (Nat.succ_le_of_lt hmq) ⟨((m / (q + 1) : Nat) : Int), ((m % (q + 1) : Nat) : Int)⟩ (by rw [latesP_succ]; simp)
       have hmono := Sx.walk_mono (step := stp k0 k1 R Q q) (rnds k0 k1 R Q q kk) kk (latesP (q + 1) m)
       obtain ⟨Y, hY⟩ : ∃ Y, (rnds k0 k1 R Q q kk).walk (stp k0 k1 R Q q) kk (latesP (q + 1) m) = Y := ⟨_, rfl⟩
       have hed := Sx.walk_edges hfull
       rw [latesP_len] at hed
       have hed2 : Y.edges.length < 4800 := by
        rw [← hY, hed, HEL.out]
        exact edges_few (by omega) hq3 hmq
       rw [hY] at hE hfull hokY hmono
       obtain ⟨D, hD⟩ : ∃ D, m / (q + 1) = D := ⟨_, rfl⟩
       obtain ⟨E, hE2⟩ : ∃ E, m % (q + 1) = E := ⟨_, rfl⟩
       rw [hD, hE2] at hlq
       dsimp only at hlq
       have j1 : Int.tdiv (m : Int) (M1 : Int) = (D : Int) := by rw [← hD, HM1.out]; exact (Int.ofNat_tdiv m M1).symm
       have j2 : Int.tmod (m : Int) (M1 : Int) = (E : Int) := by rw [← hE2, HM1.out]; exact (Int.ofNat_tmod m M1).symm
       have f1 : IntKind.i64.wrap ((q : Int) + 1) = (M1 : Int) := by have := HM1.out; rw [IntWalk.i64_in _ (by omega)]; omega
       have f3 : IntKind.i64.wrap (D : Int) = (D : Int) := IntWalk.i64_in _ (by omega)
       have f4 : IntKind.i64.wrap (E : Int) = (E : Int) := IntWalk.i64_in _ (by omega)
       have f5 : ¬ M1 = 0 := by have := HM1.out; omega
       have BR : Blk wr S [.int .i64 k0, .int .i64 k1, .int .i64 R, .int .i64 Q, .int .i64 (q : Int)] := blk_heap (hE.tr (S, .cells [.int .i64 k0, .int .i64 k1, .int .i64 R, .int .i64 Q, .int .i64 (q : Int)].toArray 49 (0, 0)) (by simp [trR])).1
       have r_0 := (BR 0 _ rfl).1
       have r_1 := (BR 1 _ rfl).1
       have r_2 := (BR 2 _ rfl).1
       have r_3 := (BR 3 _ rfl).1
       have r_4 := (BR 4 _ rfl).1
       have HE := hide hE; have HFY := hide hfull; have HOKY := hide hokY; have HY := hide hY; have HED := hide hed2; have HLQ := hide hlq; have HDQ := hide hD; have HEQ := hide hE2
       have HMQ := hide hmq
       clear hE hfull hokY hY hed2 hlq hD hE2 BR hmq hed
       go_wp2_with fail
       obtain ⟨V, hV⟩ : ∃ V, wr.drew = V := ⟨_, rfl⟩
       have hF := hide (show (fun w' : World => w'.cell? ⟨S, 4, none⟩ = some (.int .i64 (q : Int))) V by rw [← hV]; exact r_4)
       have hFB : Hid ((fun w' : World => w'.cell? ⟨S, 4, none⟩ = some (.int .i64 (q : Int))) (V.alloc (.cells #[.int .i64 0, .int .i64 0] 47 (0, 0)))) := by
        refine hide ?_
        have h1 : V.cell? ⟨S, 4, none⟩ = some (.int .i64 (q : Int)) := hF.out
        show (V.alloc _).cell? ⟨S, 4, none⟩ = _
        rw [World.cell?_alloc_past _ _ _ (World.block_lt_of_cell? V _ h1)]; exact h1
       refine wp_region_G 12 (fun w' : World => w'.cell? ⟨S, 4, none⟩ = some (.int .i64 (q : Int))) (by kernel_rfl) ?_
       rw [hV]
       refine kB 0 hF.out ?_
       refine kB 1 hF.out ?_
       refine kB 2 hF.out ?_
       refine kB 3 hF.out ?_
       refine kB 4 hF.out ?_
       refine kB 5 hF.out ?_
       refine kB 6 hF.out ?_
       refine kB 7 hF.out ?_
       refine kB 8 hF.out ?_
       refine kB 9 hF.out ?_
       refine kB 10 hF.out ?_
       refine wpAnyG_oneF (i := 11) rfl (by kernel_rfl) (fun K hK => ?_)
       go_simp
       refine hK.out _ _ hFB.out ?_
       clear hK K
       refine kL ?_
       refine wpAnyG_one (i := 12) rfl (by kernel_rfl) (by kernel_rfl) (fun K hK => ?_)
       go_simp
       refine hK.out _ _ ?_
       clear hK K
       refine kL ?_
       refine wpAnyG_done (by kernel_rfl) ?_ _
       obtain ⟨LB, hLB⟩ : ∃ LB, V.heap.size = LB := ⟨_, rfl⟩
       have hbV : Below wr.heap.size wr V := by rw [← hV]; exact (Below.refl _ _).drew
       have hEL := (HE.out.below hbV).alloc (.cells #[.int .i64 D, .int .i64 E] 47 (0, 0))
       obtain ⟨W2, hW2⟩ : ∃ W2, W2 = V.alloc (.cells #[.int .i64 D, .int .i64 E] 47) := ⟨_, rfl⟩
       rw [← hW2, hLB] at hEL
       rw [← hW2]
       rw [hLB]
       have BR : Blk W2 S [.int .i64 k0, .int .i64 k1, .int .i64 R, .int .i64 Q, .int .i64 (q : Int)] := blk_heap (hEL.tr (S, .cells [.int .i64 k0, .int .i64 k1, .int .i64 R, .int .i64 Q, .int .i64 (q : Int)].toArray 49 (0, 0)) (by simp [trR])).1
       have BL : Blk W2 LB [.int .i64 D, .int .i64 E] := blk_heap (hEL.tr (LB, .cells #[.int .i64 D, .int .i64 E] 47 (0, 0)) List.mem_cons_self).1
       obtain ⟨sn, hsn⟩ : ∃ sn, Y.states.length = sn := ⟨_, rfl⟩
       have hks : kk < sn := by rw [← hsn]; have := HN'.out; omega
       have hs3 : sn ≤ 300 := by rw [← hsn]; exact HOKY.out.most
       obtain ⟨s, hs⟩ : ∃ s, Y.states[kk]? = some s := ⟨_, List.getElem?_eq_getElem (by omega)⟩
       have hsg := HOKY.out.good s (List.mem_of_getElem? hs)
       obtain ⟨a0, a1, a2, a3, a4, a5, a6, a7, a8, a9, a10, a11, a12, a13, rfl⟩ := len14 hsg.2.1
       obtain ⟨c0, c1, c2, c3, c4, c5, c6, c7, c8, c9, c10, c11, c12, c13, x0, x1, x2, x3, x4, x5, hst, hcg, hxr, _, hcall⟩ := stp_calls HLQ.out hsg
       obtain ⟨ad, cap, e1', hadl, st_0, st_1, st_2, st_3, st_4, st_5, st_6, st_7, st_8, st_9, st_10, st_11, st_12, st_13⟩ := rowStateAt hEL.sp.r0 (fun t ht => (HOKY.out.good t ht).2.1) hs
       rw [hsn] at e1'
       have p1 := hEL.sp.c0
       rw [e1'] at p1
       have HE1' := hide e1'
       obtain ⟨U, hU⟩ : ∃ U, W2.drew = U := ⟨_, rfl⟩
       have hUB : Below W2.heap.size W2 U := by rw [← hU]; exact (Below.refl _ _).drew
       have hF0 : (fun w' : World => w'.cell? ⟨S, 0, none⟩ = some (.int .i64 k0) ∧ w'.cell? ⟨S, 1, none⟩ = some (.int .i64 k1) ∧ w'.cell? ⟨S, 2, none⟩ = some (.int .i64 R) ∧ w'.cell? ⟨S, 3, none⟩ = some (.int .i64 Q) ∧ w'.cell? ⟨S, 4, none⟩ = some (.int .i64 (q : Int)) ∧ w'.cell? ⟨PB, 0, none⟩ = some (.slice (some ad) sn cap) ∧ w'.cell? (ad.add (kk * 14)) = some (.int .i64 a0) ∧ w'.cell? (⟨(ad.add (kk * 14)).block, (ad.add (kk * 14)).off + 1, none⟩) = some (.int .i64 a1) ∧ w'.cell? (⟨(ad.add (kk * 14)).block, (ad.add (kk * 14)).off + 2, none⟩) = some (.int .i64 a2) ∧ w'.cell? (⟨(ad.add (kk * 14)).block, (ad.add (kk * 14)).off + 3, none⟩) = some (.int .i64 a3) ∧ w'.cell? (⟨(ad.add (kk * 14)).block, (ad.add (kk * 14)).off + 4, none⟩) = some (.int .i64 a4) ∧ w'.cell? (⟨(ad.add (kk * 14)).block, (ad.add (kk * 14)).off + 5, none⟩) = some (.int .i64 a5) ∧ w'.cell? (⟨(ad.add (kk * 14)).block, (ad.add (kk * 14)).off + 6, none⟩) = some (.int .i64 a6) ∧ w'.cell? (⟨(ad.add (kk * 14)).block, (ad.add (kk * 14)).off + 7, none⟩) = some (.int .i64 a7) ∧ w'.cell? (⟨(ad.add (kk * 14)).block, (ad.add (kk * 14)).off + 8, none⟩) = some (.int .i64 a8) ∧ w'.cell? (⟨(ad.add (kk * 14)).block, (ad.add (kk * 14)).off + 9, none⟩) = some (.int .i64 a9) ∧ w'.cell? (⟨(ad.add (kk * 14)).block, (ad.add (kk * 14)).off + 10, none⟩) = some (.int .i64 a10) ∧ w'.cell? (⟨(ad.add (kk * 14)).block, (ad.add (kk * 14)).off + 11, none⟩) = some (.int .i64 a11) ∧ w'.cell? (⟨(ad.add (kk * 14)).block, (ad.add (kk * 14)).off + 12, none⟩) = some (.int .i64 a12) ∧ w'.cell? (⟨(ad.add (kk * 14)).block, (ad.add (kk * 14)).off + 13, none⟩) = some (.int .i64 a13) ∧ w'.cell? ⟨LB, 0, none⟩ = some (.int .i64 D) ∧ w'.cell? ⟨LB, 1, none⟩ = some (.int .i64 E)) U := by
        rw [← hU]
        exact ⟨(BR 0 _ rfl).1, (BR 1 _ rfl).1, (BR 2 _ rfl).1, (BR 3 _ rfl).1, (BR 4 _ rfl).1, p1, st_0, st_1, st_2, st_3, st_4, st_5, st_6, st_7, st_8, st_9, st_10, st_11, st_12, st_13, (BL 0 _ rfl).1, (BL 1 _ rfl).1⟩
       clear hF hFB
       have hF := hide hF0
       have HFB : Hid (∀ u, Below U.heap.size U u → (fun w' : World => w'.cell? ⟨S, 0, none⟩ = some (.int .i64 k0) ∧ w'.cell? ⟨S, 1, none⟩ = some (.int .i64 k1) ∧ w'.cell? ⟨S, 2, none⟩ = some (.int .i64 R) ∧ w'.cell? ⟨S, 3, none⟩ = some (.int .i64 Q) ∧ w'.cell? ⟨S, 4, none⟩ = some (.int .i64 (q : Int)) ∧ w'.cell? ⟨PB, 0, none⟩ = some (.slice (some ad) sn cap) ∧ w'.cell? (ad.add (kk * 14)) = some (.int .i64 a0) ∧ w'.cell? (⟨(ad.add (kk * 14)).block, (ad.add (kk * 14)).off + 1, none⟩) = some (.int .i64 a1) ∧ w'.cell? (⟨(ad.add (kk * 14)).block, (ad.add (kk * 14)).off + 2, none⟩) = some (.int .i64 a2) ∧ w'.cell? (⟨(ad.add (kk * 14)).block, (ad.add (kk * 14)).off + 3, none⟩) = some (.int .i64 a3) ∧ w'.cell? (⟨(ad.add (kk * 14)).block, (ad.add (kk * 14)).off + 4, none⟩) = some (.int .i64 a4) ∧ w'.cell? (⟨(ad.add (kk * 14)).block, (ad.add (kk * 14)).off + 5, none⟩) = some (.int .i64 a5) ∧ w'.cell? (⟨(ad.add (kk * 14)).block, (ad.add (kk * 14)).off + 6, none⟩) = some (.int .i64 a6) ∧ w'.cell? (⟨(ad.add (kk * 14)).block, (ad.add (kk * 14)).off + 7, none⟩) = some (.int .i64 a7) ∧ w'.cell? (⟨(ad.add (kk * 14)).block, (ad.add (kk * 14)).off + 8, none⟩) = some (.int .i64 a8) ∧ w'.cell? (⟨(ad.add (kk * 14)).block, (ad.add (kk * 14)).off + 9, none⟩) = some (.int .i64 a9) ∧ w'.cell? (⟨(ad.add (kk * 14)).block, (ad.add (kk * 14)).off + 10, none⟩) = some (.int .i64 a10) ∧ w'.cell? (⟨(ad.add (kk * 14)).block, (ad.add (kk * 14)).off + 11, none⟩) = some (.int .i64 a11) ∧ w'.cell? (⟨(ad.add (kk * 14)).block, (ad.add (kk * 14)).off + 12, none⟩) = some (.int .i64 a12) ∧ w'.cell? (⟨(ad.add (kk * 14)).block, (ad.add (kk * 14)).off + 13, none⟩) = some (.int .i64 a13) ∧ w'.cell? ⟨LB, 0, none⟩ = some (.int .i64 D) ∧ w'.cell? ⟨LB, 1, none⟩ = some (.int .i64 E)) u) := hide (fun u hb => by
        obtain ⟨g0, g1, g2, g3, g4, g5, g6, g7, g8, g9, g10, g11, g12, g13, g14, g15, g16, g17, g18, g19, g20, g21⟩ := hF0
        have k : ∀ {a : Addr} {v : Value}, U.cell? a = some v → u.cell? a = some v := fun {a v} h => (hb.cell (World.block_lt_of_cell? U a h)).trans h
        exact ⟨k g0, k g1, k g2, k g3, k g4, k g5, k g6, k g7, k g8, k g9, k g10, k g11, k g12, k g13, k g14, k g15, k g16, k g17, k g18, k g19, k g20, k g21⟩)
       have HEL2 := hide hEL; have HSY := hide hs; have HST := hide hst; have HCG := hide hcg; have HXR := hide hxr; have HC := hide hcall; have HSN := hide hsn; have HUB := hide hUB; have HSG := hide hsg
       have hks' : (kk : Int) < (sn : Int) := by omega
       have hU' := hide hU
       clear hEL hs hst hcg hxr hcall hsn hUB hsg hF0 BR BL p1 hU e1' hV hbV hW2 r_0 r_1 r_2 r_3 r_4 j1 j2 f1 f3 f4 f5 hadl st_0 st_1 st_2 st_3 st_4 st_5 st_6 st_7 st_8 st_9 st_10 st_11 st_12 st_13
       go_wp2_with fail
       refine wp_region_G 7 (fun w' : World => w'.cell? ⟨S, 0, none⟩ = some (.int .i64 k0) ∧ w'.cell? ⟨S, 1, none⟩ = some (.int .i64 k1) ∧ w'.cell? ⟨S, 2, none⟩ = some (.int .i64 R) ∧ w'.cell? ⟨S, 3, none⟩ = some (.int .i64 Q) ∧ w'.cell? ⟨S, 4, none⟩ = some (.int .i64 (q : Int)) ∧ w'.cell? ⟨PB, 0, none⟩ = some (.slice (some ad) sn cap) ∧ w'.cell? (ad.add (kk * 14)) = some (.int .i64 a0) ∧ w'.cell? (⟨(ad.add (kk * 14)).block, (ad.add (kk * 14)).off + 1, none⟩) = some (.int .i64 a1) ∧ w'.cell? (⟨(ad.add (kk * 14)).block, (ad.add (kk * 14)).off + 2, none⟩) = some (.int .i64 a2) ∧ w'.cell? (⟨(ad.add (kk * 14)).block, (ad.add (kk * 14)).off + 3, none⟩) = some (.int .i64 a3) ∧ w'.cell? (⟨(ad.add (kk * 14)).block, (ad.add (kk * 14)).off + 4, none⟩) = some (.int .i64 a4) ∧ w'.cell? (⟨(ad.add (kk * 14)).block, (ad.add (kk * 14)).off + 5, none⟩) = some (.int .i64 a5) ∧ w'.cell? (⟨(ad.add (kk * 14)).block, (ad.add (kk * 14)).off + 6, none⟩) = some (.int .i64 a6) ∧ w'.cell? (⟨(ad.add (kk * 14)).block, (ad.add (kk * 14)).off + 7, none⟩) = some (.int .i64 a7) ∧ w'.cell? (⟨(ad.add (kk * 14)).block, (ad.add (kk * 14)).off + 8, none⟩) = some (.int .i64 a8) ∧ w'.cell? (⟨(ad.add (kk * 14)).block, (ad.add (kk * 14)).off + 9, none⟩) = some (.int .i64 a9) ∧ w'.cell? (⟨(ad.add (kk * 14)).block, (ad.add (kk * 14)).off + 10, none⟩) = some (.int .i64 a10) ∧ w'.cell? (⟨(ad.add (kk * 14)).block, (ad.add (kk * 14)).off + 11, none⟩) = some (.int .i64 a11) ∧ w'.cell? (⟨(ad.add (kk * 14)).block, (ad.add (kk * 14)).off + 12, none⟩) = some (.int .i64 a12) ∧ w'.cell? (⟨(ad.add (kk * 14)).block, (ad.add (kk * 14)).off + 13, none⟩) = some (.int .i64 a13) ∧ w'.cell? ⟨LB, 0, none⟩ = some (.int .i64 D) ∧ w'.cell? ⟨LB, 1, none⟩ = some (.int .i64 E)) (by kernel_rfl) ?_
       rw [hU'.out]
       refine kB 0 hF.out ?_
       refine kB 1 hF.out ?_
       refine kB 2 hF.out ?_
       refine kB 3 hF.out ?_
       refine kB 4 hF.out ?_
       refine kB 5 hF.out ?_
       refine kB 6 hF.out ?_
       refine wpAnyG_meet2 (#[true, true, true, true, true, true, true, true, true, true, true, true, true, true, false, false, false]) 3 (fun a NB OB => ((((((a.put (some 64) (.tuple #[.agg #[.int .i64 c0, .int .i64 c1, .int .i64 c2, .int .i64 c3, .int .i64 c4, .int .i64 c5, .int .i64 c6, .int .i64 c7, .int .i64 c8, .int .i64 c9, .int .i64 c10, .int .i64 c11, .int .i64 c12, .int .i64 c13], .agg #[.int .i64 x0, .int .i64 x1, .int .i64 x2, .int .i64 x3, .int .i64 x4, .int .i64 x5], .int .i64 0])).put (some 56) (.tuple #[.agg #[.int .i64 c0, .int .i64 c1, .int .i64 c2, .int .i64 c3, .int .i64 c4, .int .i64 c5, .int .i64 c6, .int .i64 c7, .int .i64 c8, .int .i64 c9, .int .i64 c10, .int .i64 c11, .int .i64 c12, .int .i64 c13], .agg #[.int .i64 x0, .int .i64 x1, .int .i64 x2, .int .i64 x3, .int .i64 x4, .int .i64 x5], .int .i64 0])).put (some 65) (.agg #[.int .i64 c0, .int .i64 c1, .int .i64 c2, .int .i64 c3, .int .i64 c4, .int .i64 c5, .int .i64 c6, .int .i64 c7, .int .i64 c8, .int .i64 c9, .int .i64 c10, .int .i64 c11, .int .i64 c12, .int .i64 c13])).put (some 66) (.agg #[.int .i64 x0, .int .i64 x1, .int .i64 x2, .int .i64 x3, .int .i64 x4, .int .i64 x5])).put (some 67) (.int .i64 0)).put (some 10) (.pointer (some ⟨NB, 0, none⟩))).put (some 11) (.pointer (some ⟨OB, 0, none⟩))) (TwoNew U (.cells #[.int .i64 0, .int .i64 0, .int .i64 0, .int .i64 0, .int .i64 0, .int .i64 0, .int .i64 0, .int .i64 0, .int .i64 0, .int .i64 0, .int .i64 0, .int .i64 0, .int .i64 0, .int .i64 0] 133 (0, 0)) (.cells #[.int .i64 0, .int .i64 0, .int .i64 0, .int .i64 0, .int .i64 0, .int .i64 0] 92 (0, 0))) ?hc ?hgo
       case hgo =>
        intro hgo
        refine wpAnyG_threeF (i := 7) (j := 12) (k := 13) rfl rfl rfl  (by kernel_rfl) (fun K hK => ?_) (fun K hK => ?_) (fun K hK => ?_)
        · go_simp
          go_wp2_with (go_at_call 84; refine (HC.out _).mono ?_; rintro e y1 ⟨rfl, hA1⟩)
          have b1 : Below U.heap.size U y1 := (Below.refl U.heap.size U).trans (hA1.mono (Below.refl U.heap.size U).size)
          refine hK.out _ _ (HFB.out _ b1) ?_
          clear hK K
          refine kL ?_
          refine kC 8 ?_
          refine kC 9 ?_
          refine kC 10 ?_
          refine kC 11 ?_
          refine wpAnyG_twoF (i := 12) (j := 13) rfl rfl  (by kernel_rfl) (fun K hK => ?_) (fun K hK => ?_)
          · go_simp
            have b2 : Below U.heap.size U (y1.alloc (.cells #[.int .i64 0, .int .i64 0, .int .i64 0, .int .i64 0, .int .i64 0, .int .i64 0, .int .i64 0, .int .i64 0, .int .i64 0, .int .i64 0, .int .i64 0, .int .i64 0, .int .i64 0, .int .i64 0] 133 (0, 0))) := b1.alloc b1.size (.cells #[.int .i64 0, .int .i64 0, .int .i64 0, .int .i64 0, .int .i64 0, .int .i64 0, .int .i64 0, .int .i64 0, .int .i64 0, .int .i64 0, .int .i64 0, .int .i64 0, .int .i64 0, .int .i64 0] 133 (0, 0))
            have hn2 : (y1.alloc (.cells #[.int .i64 0, .int .i64 0, .int .i64 0, .int .i64 0, .int .i64 0, .int .i64 0, .int .i64 0, .int .i64 0, .int .i64 0, .int .i64 0, .int .i64 0, .int .i64 0, .int .i64 0, .int .i64 0] 133 (0, 0))).heap[y1.heap.size]? = some (.cells #[.int .i64 0, .int .i64 0, .int .i64 0, .int .i64 0, .int .i64 0, .int .i64 0, .int .i64 0, .int .i64 0, .int .i64 0, .int .i64 0, .int .i64 0, .int .i64 0, .int .i64 0, .int .i64 0] 133 (0, 0)) := by
             have := heap_new y1 (.cells #[.int .i64 0, .int .i64 0, .int .i64 0, .int .i64 0, .int .i64 0, .int .i64 0, .int .i64 0, .int .i64 0, .int .i64 0, .int .i64 0, .int .i64 0, .int .i64 0, .int .i64 0, .int .i64 0] 133 (0, 0))
             simpa using this
            refine hK.out _ _ (HFB.out _ b2) ?_
            clear hK K
            refine kL ?_
            refine wpAnyG_oneF (i := 13) rfl (by kernel_rfl) (fun K hK => ?_)
            go_simp
            have b3 : Below U.heap.size U ((y1.alloc (.cells #[.int .i64 0, .int .i64 0, .int .i64 0, .int .i64 0, .int .i64 0, .int .i64 0, .int .i64 0, .int .i64 0, .int .i64 0, .int .i64 0, .int .i64 0, .int .i64 0, .int .i64 0, .int .i64 0] 133 (0, 0))).alloc (.cells #[.int .i64 0, .int .i64 0, .int .i64 0, .int .i64 0, .int .i64 0, .int .i64 0] 92 (0, 0))) := b2.alloc b2.size (.cells #[.int .i64 0, .int .i64 0, .int .i64 0, .int .i64 0, .int .i64 0, .int .i64 0] 92 (0, 0))
            have hn3 : ((y1.alloc (.cells #[.int .i64 0, .int .i64 0, .int .i64 0, .int .i64 0, .int .i64 0, .int .i64 0, .int .i64 0, .int .i64 0, .int .i64 0, .int .i64 0, .int .i64 0, .int .i64 0, .int .i64 0, .int .i64 0] 133 (0, 0))).alloc (.cells #[.int .i64 0, .int .i64 0, .int .i64 0, .int .i64 0, .int .i64 0, .int .i64 0] 92 (0, 0))).heap[y1.heap.size + 1]? = some (.cells #[.int .i64 0, .int .i64 0, .int .i64 0, .int .i64 0, .int .i64 0, .int .i64 0] 92 (0, 0)) := by
             have := heap_new (y1.alloc (.cells #[.int .i64 0, .int .i64 0, .int .i64 0, .int .i64 0, .int .i64 0, .int .i64 0, .int .i64 0, .int .i64 0, .int .i64 0, .int .i64 0, .int .i64 0, .int .i64 0, .int .i64 0, .int .i64 0] 133 (0, 0))) (.cells #[.int .i64 0, .int .i64 0, .int .i64 0, .int .i64 0, .int .i64 0, .int .i64 0] 92 (0, 0))
             simpa using this
            have ho3 : ((y1.alloc (.cells #[.int .i64 0, .int .i64 0, .int .i64 0, .int .i64 0, .int .i64 0, .int .i64 0, .int .i64 0, .int .i64 0, .int .i64 0, .int .i64 0, .int .i64 0, .int .i64 0, .int .i64 0, .int .i64 0] 133 (0, 0))).alloc (.cells #[.int .i64 0, .int .i64 0, .int .i64 0, .int .i64 0, .int .i64 0, .int .i64 0] 92 (0, 0))).heap[y1.heap.size]? = some (.cells #[.int .i64 0, .int .i64 0, .int .i64 0, .int .i64 0, .int .i64 0, .int .i64 0, .int .i64 0, .int .i64 0, .int .i64 0, .int .i64 0, .int .i64 0, .int .i64 0, .int .i64 0, .int .i64 0] 133 (0, 0)) := (heap_old _ _ (Array.getElem?_eq_some_iff.1 hn2).1).trans hn2
            have he3 : y1.heap.size ≠ y1.heap.size + 1 := by
             have := (Array.getElem?_eq_some_iff.1 hn2).1
             first | omega | ((try simp at this); omega)
            refine hK.out _ _ (HFB.out _ b3) ?_
            clear hK K
            refine kL ?_
            exact hgo.out _ _ (y1.heap.size) (y1.heap.size + 1) _ (by kernel_rfl) (by kernel_rfl) ⟨b3, (by first | omega | (have := hA1.size; (try simp at this); omega)), (by first | omega | (have := hA1.size; (try simp at this); omega)), he3, ho3, hn3⟩
          · go_simp
            have b4 : Below U.heap.size U (y1.alloc (.cells #[.int .i64 0, .int .i64 0, .int .i64 0, .int .i64 0, .int .i64 0, .int .i64 0] 92 (0, 0))) := b1.alloc b1.size (.cells #[.int .i64 0, .int .i64 0, .int .i64 0, .int .i64 0, .int .i64 0, .int .i64 0] 92 (0, 0))
            have hn4 : (y1.alloc (.cells #[.int .i64 0, .int .i64 0, .int .i64 0, .int .i64 0, .int .i64 0, .int .i64 0] 92 (0, 0))).heap[y1.heap.size]? = some (.cells #[.int .i64 0, .int .i64 0, .int .i64 0, .int .i64 0, .int .i64 0, .int .i64 0] 92 (0, 0)) := by
             have := heap_new y1 (.cells #[.int .i64 0, .int .i64 0, .int .i64 0, .int .i64 0, .int .i64 0, .int .i64 0] 92 (0, 0))
             simpa using this
            refine hK.out _ _ (HFB.out _ b4) ?_
            clear hK K
            refine kL ?_
            refine wpAnyG_oneF (i := 12) rfl (by kernel_rfl) (fun K hK => ?_)
            go_simp
            have b5 : Below U.heap.size U ((y1.alloc (.cells #[.int .i64 0, .int .i64 0, .int .i64 0, .int .i64 0, .int .i64 0, .int .i64 0] 92 (0, 0))).alloc (.cells #[.int .i64 0, .int .i64 0, .int .i64 0, .int .i64 0, .int .i64 0, .int .i64 0, .int .i64 0, .int .i64 0, .int .i64 0, .int .i64 0, .int .i64 0, .int .i64 0, .int .i64 0, .int .i64 0] 133 (0, 0))) := b4.alloc b4.size (.cells #[.int .i64 0, .int .i64 0, .int .i64 0, .int .i64 0, .int .i64 0, .int .i64 0, .int .i64 0, .int .i64 0, .int .i64 0, .int .i64 0, .int .i64 0, .int .i64 0, .int .i64 0, .int .i64 0] 133 (0, 0))
            have hn5 : ((y1.alloc (.cells #[.int .i64 0, .int .i64 0, .int .i64 0, .int .i64 0, .int .i64 0, .int .i64 0] 92 (0, 0))).alloc (.cells #[.int .i64 0, .int .i64 0, .int .i64 0, .int .i64 0, .int .i64 0, .int .i64 0, .int .i64 0, .int .i64 0, .int .i64 0, .int .i64 0, .int .i64 0, .int .i64 0, .int .i64 0, .int .i64 0] 133 (0, 0))).heap[y1.heap.size + 1]? = some (.cells #[.int .i64 0, .int .i64 0, .int .i64 0, .int .i64 0, .int .i64 0, .int .i64 0, .int .i64 0, .int .i64 0, .int .i64 0, .int .i64 0, .int .i64 0, .int .i64 0, .int .i64 0, .int .i64 0] 133 (0, 0)) := by
             have := heap_new (y1.alloc (.cells #[.int .i64 0, .int .i64 0, .int .i64 0, .int .i64 0, .int .i64 0, .int .i64 0] 92 (0, 0))) (.cells #[.int .i64 0, .int .i64 0, .int .i64 0, .int .i64 0, .int .i64 0, .int .i64 0, .int .i64 0, .int .i64 0, .int .i64 0, .int .i64 0, .int .i64 0, .int .i64 0, .int .i64 0, .int .i64 0] 133 (0, 0))
             simpa using this
            have ho5 : ((y1.alloc (.cells #[.int .i64 0, .int .i64 0, .int .i64 0, .int .i64 0, .int .i64 0, .int .i64 0] 92 (0, 0))).alloc (.cells #[.int .i64 0, .int .i64 0, .int .i64 0, .int .i64 0, .int .i64 0, .int .i64 0, .int .i64 0, .int .i64 0, .int .i64 0, .int .i64 0, .int .i64 0, .int .i64 0, .int .i64 0, .int .i64 0] 133 (0, 0))).heap[y1.heap.size]? = some (.cells #[.int .i64 0, .int .i64 0, .int .i64 0, .int .i64 0, .int .i64 0, .int .i64 0] 92 (0, 0)) := (heap_old _ _ (Array.getElem?_eq_some_iff.1 hn4).1).trans hn4
            have he5 : y1.heap.size + 1 ≠ y1.heap.size := by
             have := (Array.getElem?_eq_some_iff.1 hn4).1
             first | omega | ((try simp at this); omega)
            refine hK.out _ _ (HFB.out _ b5) ?_
            clear hK K
            refine kL ?_
            exact hgo.out _ _ (y1.heap.size + 1) (y1.heap.size) _ (by kernel_rfl) (by kernel_rfl) ⟨b5, (by first | omega | (have := hA1.size; (try simp at this); omega)), (by first | omega | (have := hA1.size; (try simp at this); omega)), he5, hn5, ho5⟩
        · go_simp
          have b6 : Below U.heap.size U (U.alloc (.cells #[.int .i64 0, .int .i64 0, .int .i64 0, .int .i64 0, .int .i64 0, .int .i64 0, .int .i64 0, .int .i64 0, .int .i64 0, .int .i64 0, .int .i64 0, .int .i64 0, .int .i64 0, .int .i64 0] 133 (0, 0))) := (Below.refl U.heap.size U).alloc (Below.refl U.heap.size U).size (.cells #[.int .i64 0, .int .i64 0, .int .i64 0, .int .i64 0, .int .i64 0, .int .i64 0, .int .i64 0, .int .i64 0, .int .i64 0, .int .i64 0, .int .i64 0, .int .i64 0, .int .i64 0, .int .i64 0] 133 (0, 0))
          have hn6 : (U.alloc (.cells #[.int .i64 0, .int .i64 0, .int .i64 0, .int .i64 0, .int .i64 0, .int .i64 0, .int .i64 0, .int .i64 0, .int .i64 0, .int .i64 0, .int .i64 0, .int .i64 0, .int .i64 0, .int .i64 0] 133 (0, 0))).heap[U.heap.size]? = some (.cells #[.int .i64 0, .int .i64 0, .int .i64 0, .int .i64 0, .int .i64 0, .int .i64 0, .int .i64 0, .int .i64 0, .int .i64 0, .int .i64 0, .int .i64 0, .int .i64 0, .int .i64 0, .int .i64 0] 133 (0, 0)) := by
           have := heap_new U (.cells #[.int .i64 0, .int .i64 0, .int .i64 0, .int .i64 0, .int .i64 0, .int .i64 0, .int .i64 0, .int .i64 0, .int .i64 0, .int .i64 0, .int .i64 0, .int .i64 0, .int .i64 0, .int .i64 0] 133 (0, 0))
           simpa using this
          refine hK.out _ _ (HFB.out _ b6) ?_
          clear hK K
          refine kL ?_
          refine wpAnyG_twoF (i := 7) (j := 13) rfl rfl  (by kernel_rfl) (fun K hK => ?_) (fun K hK => ?_)
          · go_simp
            go_wp2_with (go_at_call 84; refine (HC.out _).mono ?_; rintro e y7 ⟨rfl, hA7⟩)
            have b7 : Below U.heap.size U y7 := b6.trans (hA7.mono b6.size)
            have hn7 : y7.heap[U.heap.size]? = some (.cells #[.int .i64 0, .int .i64 0, .int .i64 0, .int .i64 0, .int .i64 0, .int .i64 0, .int .i64 0, .int .i64 0, .int .i64 0, .int .i64 0, .int .i64 0, .int .i64 0, .int .i64 0, .int .i64 0] 133 (0, 0)) := (hA7.block _ (Array.getElem?_eq_some_iff.1 hn6).1).trans hn6
            refine hK.out _ _ (HFB.out _ b7) ?_
            clear hK K
            refine kL ?_
            refine kC 8 ?_
            refine kC 9 ?_
            refine kC 10 ?_
            refine kC 11 ?_
            refine wpAnyG_oneF (i := 13) rfl (by kernel_rfl) (fun K hK => ?_)
            go_simp
            have b8 : Below U.heap.size U (y7.alloc (.cells #[.int .i64 0, .int .i64 0, .int .i64 0, .int .i64 0, .int .i64 0, .int .i64 0] 92 (0, 0))) := b7.alloc b7.size (.cells #[.int .i64 0, .int .i64 0, .int .i64 0, .int .i64 0, .int .i64 0, .int .i64 0] 92 (0, 0))
            have hn8 : (y7.alloc (.cells #[.int .i64 0, .int .i64 0, .int .i64 0, .int .i64 0, .int .i64 0, .int .i64 0] 92 (0, 0))).heap[y7.heap.size]? = some (.cells #[.int .i64 0, .int .i64 0, .int .i64 0, .int .i64 0, .int .i64 0, .int .i64 0] 92 (0, 0)) := by
             have := heap_new y7 (.cells #[.int .i64 0, .int .i64 0, .int .i64 0, .int .i64 0, .int .i64 0, .int .i64 0] 92 (0, 0))
             simpa using this
            have ho8 : (y7.alloc (.cells #[.int .i64 0, .int .i64 0, .int .i64 0, .int .i64 0, .int .i64 0, .int .i64 0] 92 (0, 0))).heap[U.heap.size]? = some (.cells #[.int .i64 0, .int .i64 0, .int .i64 0, .int .i64 0, .int .i64 0, .int .i64 0, .int .i64 0, .int .i64 0, .int .i64 0, .int .i64 0, .int .i64 0, .int .i64 0, .int .i64 0, .int .i64 0] 133 (0, 0)) := (heap_old _ _ (Array.getElem?_eq_some_iff.1 hn7).1).trans hn7
            have he8 : U.heap.size ≠ y7.heap.size := by
             have := (Array.getElem?_eq_some_iff.1 hn7).1
             first | omega | ((try simp at this); omega)
            refine hK.out _ _ (HFB.out _ b8) ?_
            clear hK K
            refine kL ?_
            exact hgo.out _ _ (U.heap.size) (y7.heap.size) _ (by kernel_rfl) (by kernel_rfl) ⟨b8, (by first | omega | (have := hA7.size; (try simp at this); omega)), (by first | omega | (have := hA7.size; (try simp at this); omega)), he8, ho8, hn8⟩
          · go_simp
            have b9 : Below U.heap.size U ((U.alloc (.cells #[.int .i64 0, .int .i64 0, .int .i64 0, .int .i64 0, .int .i64 0, .int .i64 0, .int .i64 0, .int .i64 0, .int .i64 0, .int .i64 0, .int .i64 0, .int .i64 0, .int .i64 0, .int .i64 0] 133 (0, 0))).alloc (.cells #[.int .i64 0, .int .i64 0, .int .i64 0, .int .i64 0, .int .i64 0, .int .i64 0] 92 (0, 0))) := b6.alloc b6.size (.cells #[.int .i64 0, .int .i64 0, .int .i64 0, .int .i64 0, .int .i64 0, .int .i64 0] 92 (0, 0))
            have hn9 : ((U.alloc (.cells #[.int .i64 0, .int .i64 0, .int .i64 0, .int .i64 0, .int .i64 0, .int .i64 0, .int .i64 0, .int .i64 0, .int .i64 0, .int .i64 0, .int .i64 0, .int .i64 0, .int .i64 0, .int .i64 0] 133 (0, 0))).alloc (.cells #[.int .i64 0, .int .i64 0, .int .i64 0, .int .i64 0, .int .i64 0, .int .i64 0] 92 (0, 0))).heap[U.heap.size + 1]? = some (.cells #[.int .i64 0, .int .i64 0, .int .i64 0, .int .i64 0, .int .i64 0, .int .i64 0] 92 (0, 0)) := by
             have := heap_new (U.alloc (.cells #[.int .i64 0, .int .i64 0, .int .i64 0, .int .i64 0, .int .i64 0, .int .i64 0, .int .i64 0, .int .i64 0, .int .i64 0, .int .i64 0, .int .i64 0, .int .i64 0, .int .i64 0, .int .i64 0] 133 (0, 0))) (.cells #[.int .i64 0, .int .i64 0, .int .i64 0, .int .i64 0, .int .i64 0, .int .i64 0] 92 (0, 0))
             simpa using this
            have ho9 : ((U.alloc (.cells #[.int .i64 0, .int .i64 0, .int .i64 0, .int .i64 0, .int .i64 0, .int .i64 0, .int .i64 0, .int .i64 0, .int .i64 0, .int .i64 0, .int .i64 0, .int .i64 0, .int .i64 0, .int .i64 0] 133 (0, 0))).alloc (.cells #[.int .i64 0, .int .i64 0, .int .i64 0, .int .i64 0, .int .i64 0, .int .i64 0] 92 (0, 0))).heap[U.heap.size]? = some (.cells #[.int .i64 0, .int .i64 0, .int .i64 0, .int .i64 0, .int .i64 0, .int .i64 0, .int .i64 0, .int .i64 0, .int .i64 0, .int .i64 0, .int .i64 0, .int .i64 0, .int .i64 0, .int .i64 0] 133 (0, 0)) := (heap_old _ _ (Array.getElem?_eq_some_iff.1 hn6).1).trans hn6
            have he9 : U.heap.size ≠ U.heap.size + 1 := by
             have := (Array.getElem?_eq_some_iff.1 hn6).1
             first | omega | ((try simp at this); omega)
            refine hK.out _ _ (HFB.out _ b9) ?_
            clear hK K
            refine kL ?_
            refine wpAnyG_oneF (i := 7) rfl (by kernel_rfl) (fun K hK => ?_)
            go_simp
            go_wp2_with (go_at_call 84; refine (HC.out _).mono ?_; rintro e y10 ⟨rfl, hA10⟩)
            have b10 : Below U.heap.size U y10 := b9.trans (hA10.mono b9.size)
            have hn10 : y10.heap[U.heap.size]? = some (.cells #[.int .i64 0, .int .i64 0, .int .i64 0, .int .i64 0, .int .i64 0, .int .i64 0, .int .i64 0, .int .i64 0, .int .i64 0, .int .i64 0, .int .i64 0, .int .i64 0, .int .i64 0, .int .i64 0] 133 (0, 0)) := (hA10.block _ (Array.getElem?_eq_some_iff.1 ho9).1).trans ho9
            have ho10 : y10.heap[U.heap.size + 1]? = some (.cells #[.int .i64 0, .int .i64 0, .int .i64 0, .int .i64 0, .int .i64 0, .int .i64 0] 92 (0, 0)) := (hA10.block _ (Array.getElem?_eq_some_iff.1 hn9).1).trans hn9
            refine hK.out _ _ (HFB.out _ b10) ?_
            clear hK K
            refine kL ?_
            refine kC 8 ?_
            refine kC 9 ?_
            refine kC 10 ?_
            refine kC 11 ?_
            exact hgo.out _ _ (U.heap.size) (U.heap.size + 1) _ (by kernel_rfl) (by kernel_rfl) ⟨b10, (by first | omega | (have := hA10.size; (try simp at this); omega)), (by first | omega | (have := hA10.size; (try simp at this); omega)), he9, hn10, ho10⟩
        · go_simp
          have b11 : Below U.heap.size U (U.alloc (.cells #[.int .i64 0, .int .i64 0, .int .i64 0, .int .i64 0, .int .i64 0, .int .i64 0] 92 (0, 0))) := (Below.refl U.heap.size U).alloc (Below.refl U.heap.size U).size (.cells #[.int .i64 0, .int .i64 0, .int .i64 0, .int .i64 0, .int .i64 0, .int .i64 0] 92 (0, 0))
          have hn11 : (U.alloc (.cells #[.int .i64 0, .int .i64 0, .int .i64 0, .int .i64 0, .int .i64 0, .int .i64 0] 92 (0, 0))).heap[U.heap.size]? = some (.cells #[.int .i64 0, .int .i64 0, .int .i64 0, .int .i64 0, .int .i64 0, .int .i64 0] 92 (0, 0)) := by
           have := heap_new U (.cells #[.int .i64 0, .int .i64 0, .int .i64 0, .int .i64 0, .int .i64 0, .int .i64 0] 92 (0, 0))
           simpa using this
          refine hK.out _ _ (HFB.out _ b11) ?_
          clear hK K
          refine kL ?_
          refine wpAnyG_twoF (i := 7) (j := 12) rfl rfl  (by kernel_rfl) (fun K hK => ?_) (fun K hK => ?_)
          · go_simp
            go_wp2_with (go_at_call 84; refine (HC.out _).mono ?_; rintro e y12 ⟨rfl, hA12⟩)
            have b12 : Below U.heap.size U y12 := b11.trans (hA12.mono b11.size)
            have ho12 : y12.heap[U.heap.size]? = some (.cells #[.int .i64 0, .int .i64 0, .int .i64 0, .int .i64 0, .int .i64 0, .int .i64 0] 92 (0, 0)) := (hA12.block _ (Array.getElem?_eq_some_iff.1 hn11).1).trans hn11
            refine hK.out _ _ (HFB.out _ b12) ?_
            clear hK K
            refine kL ?_
            refine kC 8 ?_
            refine kC 9 ?_
            refine kC 10 ?_
            refine kC 11 ?_
            refine wpAnyG_oneF (i := 12) rfl (by kernel_rfl) (fun K hK => ?_)
            go_simp
            have b13 : Below U.heap.size U (y12.alloc (.cells #[.int .i64 0, .int .i64 0, .int .i64 0, .int .i64 0, .int .i64 0, .int .i64 0, .int .i64 0, .int .i64 0, .int .i64 0, .int .i64 0, .int .i64 0, .int .i64 0, .int .i64 0, .int .i64 0] 133 (0, 0))) := b12.alloc b12.size (.cells #[.int .i64 0, .int .i64 0, .int .i64 0, .int .i64 0, .int .i64 0, .int .i64 0, .int .i64 0, .int .i64 0, .int .i64 0, .int .i64 0, .int .i64 0, .int .i64 0, .int .i64 0, .int .i64 0] 133 (0, 0))
            have hn13 : (y12.alloc (.cells #[.int .i64 0, .int .i64 0, .int .i64 0, .int .i64 0, .int .i64 0, .int .i64 0, .int .i64 0, .int .i64 0, .int .i64 0, .int .i64 0, .int .i64 0, .int .i64 0, .int .i64 0, .int .i64 0] 133 (0, 0))).heap[y12.heap.size]? = some (.cells #[.int .i64 0, .int .i64 0, .int .i64 0, .int .i64 0, .int .i64 0, .int .i64 0, .int .i64 0, .int .i64 0, .int .i64 0, .int .i64 0, .int .i64 0, .int .i64 0, .int .i64 0, .int .i64 0] 133 (0, 0)) := by
             have := heap_new y12 (.cells #[.int .i64 0, .int .i64 0, .int .i64 0, .int .i64 0, .int .i64 0, .int .i64 0, .int .i64 0, .int .i64 0, .int .i64 0, .int .i64 0, .int .i64 0, .int .i64 0, .int .i64 0, .int .i64 0] 133 (0, 0))
             simpa using this
            have ho13 : (y12.alloc (.cells #[.int .i64 0, .int .i64 0, .int .i64 0, .int .i64 0, .int .i64 0, .int .i64 0, .int .i64 0, .int .i64 0, .int .i64 0, .int .i64 0, .int .i64 0, .int .i64 0, .int .i64 0, .int .i64 0] 133 (0, 0))).heap[U.heap.size]? = some (.cells #[.int .i64 0, .int .i64 0, .int .i64 0, .int .i64 0, .int .i64 0, .int .i64 0] 92 (0, 0)) := (heap_old _ _ (Array.getElem?_eq_some_iff.1 ho12).1).trans ho12
            have he13 : y12.heap.size ≠ U.heap.size := by
             have := (Array.getElem?_eq_some_iff.1 ho12).1
             first | omega | ((try simp at this); omega)
            refine hK.out _ _ (HFB.out _ b13) ?_
            clear hK K
            refine kL ?_
            exact hgo.out _ _ (y12.heap.size) (U.heap.size) _ (by kernel_rfl) (by kernel_rfl) ⟨b13, (by first | omega | (have := hA12.size; (try simp at this); omega)), (by first | omega | (have := hA12.size; (try simp at this); omega)), he13, hn13, ho13⟩
          · go_simp
            have b14 : Below U.heap.size U ((U.alloc (.cells #[.int .i64 0, .int .i64 0, .int .i64 0, .int .i64 0, .int .i64 0, .int .i64 0] 92 (0, 0))).alloc (.cells #[.int .i64 0, .int .i64 0, .int .i64 0, .int .i64 0, .int .i64 0, .int .i64 0, .int .i64 0, .int .i64 0, .int .i64 0, .int .i64 0, .int .i64 0, .int .i64 0, .int .i64 0, .int .i64 0] 133 (0, 0))) := b11.alloc b11.size (.cells #[.int .i64 0, .int .i64 0, .int .i64 0, .int .i64 0, .int .i64 0, .int .i64 0, .int .i64 0, .int .i64 0, .int .i64 0, .int .i64 0, .int .i64 0, .int .i64 0, .int .i64 0, .int .i64 0] 133 (0, 0))
            have hn14 : ((U.alloc (.cells #[.int .i64 0, .int .i64 0, .int .i64 0, .int .i64 0, .int .i64 0, .int .i64 0] 92 (0, 0))).alloc (.cells #[.int .i64 0, .int .i64 0, .int .i64 0, .int .i64 0, .int .i64 0, .int .i64 0, .int .i64 0, .int .i64 0, .int .i64 0, .int .i64 0, .int .i64 0, .int .i64 0, .int .i64 0, .int .i64 0] 133 (0, 0))).heap[U.heap.size + 1]? = some (.cells #[.int .i64 0, .int .i64 0, .int .i64 0, .int .i64 0, .int .i64 0, .int .i64 0, .int .i64 0, .int .i64 0, .int .i64 0, .int .i64 0, .int .i64 0, .int .i64 0, .int .i64 0, .int .i64 0] 133 (0, 0)) := by
             have := heap_new (U.alloc (.cells #[.int .i64 0, .int .i64 0, .int .i64 0, .int .i64 0, .int .i64 0, .int .i64 0] 92 (0, 0))) (.cells #[.int .i64 0, .int .i64 0, .int .i64 0, .int .i64 0, .int .i64 0, .int .i64 0, .int .i64 0, .int .i64 0, .int .i64 0, .int .i64 0, .int .i64 0, .int .i64 0, .int .i64 0, .int .i64 0] 133 (0, 0))
             simpa using this
            have ho14 : ((U.alloc (.cells #[.int .i64 0, .int .i64 0, .int .i64 0, .int .i64 0, .int .i64 0, .int .i64 0] 92 (0, 0))).alloc (.cells #[.int .i64 0, .int .i64 0, .int .i64 0, .int .i64 0, .int .i64 0, .int .i64 0, .int .i64 0, .int .i64 0, .int .i64 0, .int .i64 0, .int .i64 0, .int .i64 0, .int .i64 0, .int .i64 0] 133 (0, 0))).heap[U.heap.size]? = some (.cells #[.int .i64 0, .int .i64 0, .int .i64 0, .int .i64 0, .int .i64 0, .int .i64 0] 92 (0, 0)) := (heap_old _ _ (Array.getElem?_eq_some_iff.1 hn11).1).trans hn11
            have he14 : U.heap.size + 1 ≠ U.heap.size := by
             have := (Array.getElem?_eq_some_iff.1 hn11).1
             first | omega | ((try simp at this); omega)
            refine hK.out _ _ (HFB.out _ b14) ?_
            clear hK K
            refine kL ?_
            refine wpAnyG_oneF (i := 7) rfl (by kernel_rfl) (fun K hK => ?_)
            go_simp
            go_wp2_with (go_at_call 84; refine (HC.out _).mono ?_; rintro e y15 ⟨rfl, hA15⟩)
            have b15 : Below U.heap.size U y15 := b14.trans (hA15.mono b14.size)
            have hn15 : y15.heap[U.heap.size + 1]? = some (.cells #[.int .i64 0, .int .i64 0, .int .i64 0, .int .i64 0, .int .i64 0, .int .i64 0, .int .i64 0, .int .i64 0, .int .i64 0, .int .i64 0, .int .i64 0, .int .i64 0, .int .i64 0, .int .i64 0] 133 (0, 0)) := (hA15.block _ (Array.getElem?_eq_some_iff.1 hn14).1).trans hn14
            have ho15 : y15.heap[U.heap.size]? = some (.cells #[.int .i64 0, .int .i64 0, .int .i64 0, .int .i64 0, .int .i64 0, .int .i64 0] 92 (0, 0)) := (hA15.block _ (Array.getElem?_eq_some_iff.1 ho14).1).trans ho14
            refine hK.out _ _ (HFB.out _ b15) ?_
            clear hK K
            refine kL ?_
            refine kC 8 ?_
            refine kC 9 ?_
            refine kC 10 ?_
            refine kC 11 ?_
            exact hgo.out _ _ (U.heap.size + 1) (U.heap.size) _ (by kernel_rfl) (by kernel_rfl) ⟨b15, (by first | omega | (have := hA15.size; (try simp at this); omega)), (by first | omega | (have := hA15.size; (try simp at this); omega)), he14, hn15, ho15⟩
       case hc =>
        intro NB OB W3 hTN
        have dq : ¬ NB = OB := hTN.ne
        have dr : ¬ OB = NB := fun e => hTN.ne e.symm
        have BN : Blk W3 NB [.int .i64 0, .int .i64 0, .int .i64 0, .int .i64 0, .int .i64 0, .int .i64 0, .int .i64 0, .int .i64 0, .int .i64 0, .int .i64 0, .int .i64 0, .int .i64 0, .int .i64 0, .int .i64 0] := blk_heap hTN.h1
        have BO : Blk W3 OB [.int .i64 0, .int .i64 0, .int .i64 0, .int .i64 0, .int .i64 0, .int .i64 0] := blk_heap hTN.h2
        have n_0 := (BN 0 _ rfl).1
        have n_f0 := (BN 0 _ rfl).2
        have n_1 := (BN 1 _ rfl).1
        have n_f1 := (BN 1 _ rfl).2
        have n_2 := (BN 2 _ rfl).1
        have n_f2 := (BN 2 _ rfl).2
        have n_3 := (BN 3 _ rfl).1
        have n_f3 := (BN 3 _ rfl).2
        have n_4 := (BN 4 _ rfl).1
        have n_f4 := (BN 4 _ rfl).2
        have n_5 := (BN 5 _ rfl).1
        have n_f5 := (BN 5 _ rfl).2
        have n_6 := (BN 6 _ rfl).1
        have n_f6 := (BN 6 _ rfl).2
        have n_7 := (BN 7 _ rfl).1
        have n_f7 := (BN 7 _ rfl).2
        have n_8 := (BN 8 _ rfl).1
        have n_f8 := (BN 8 _ rfl).2
        have n_9 := (BN 9 _ rfl).1
        have n_f9 := (BN 9 _ rfl).2
        have n_10 := (BN 10 _ rfl).1
        have n_f10 := (BN 10 _ rfl).2
        have n_11 := (BN 11 _ rfl).1
        have n_f11 := (BN 11 _ rfl).2
        have n_12 := (BN 12 _ rfl).1
        have n_f12 := (BN 12 _ rfl).2
        have n_13 := (BN 13 _ rfl).1
        have n_f13 := (BN 13 _ rfl).2
        have o_0 := (BO 0 _ rfl).1
        have o_f0 := (BO 0 _ rfl).2
        have o_1 := (BO 1 _ rfl).1
        have o_f1 := (BO 1 _ rfl).2
        have o_2 := (BO 2 _ rfl).1
        have o_f2 := (BO 2 _ rfl).2
        have o_3 := (BO 3 _ rfl).1
        have o_f3 := (BO 3 _ rfl).2
        have o_4 := (BO 4 _ rfl).1
        have o_f4 := (BO 4 _ rfl).2
        have o_5 := (BO 5 _ rfl).1
        have o_f5 := (BO 5 _ rfl).2
        have HTN := hide hTN
        clear hTN BN BO hF HFB HC
        refine kL ?_
        refine wpAnyG_one (i := 14) rfl (by kernel_rfl) (by kernel_rfl) (fun K hK => ?_)
        go_simp
        refine hK.out _ _ ?_
        clear hK K
        refine kL ?_
        refine wpAnyG_one (i := 15) rfl (by kernel_rfl) (by kernel_rfl) (fun K hK => ?_)
        go_simp
        refine hK.out _ _ ?_
        clear hK K
        refine kL ?_
        refine wpAnyG_one (i := 16) rfl (by kernel_rfl) (by kernel_rfl) (fun K hK => ?_)
        go_simp
        refine hK.out _ _ ?_
        clear hK K
        refine kL ?_
        refine wpAnyG_done (by kernel_rfl) ?_ _
        obtain ⟨Z, hZ⟩ : ∃ Z, Z = ((((((((((((((((((((W3.setCell ⟨NB, 0, none⟩ (.int .i64 c0)).setCell ⟨NB, 1, none⟩ (.int .i64 c1)).setCell ⟨NB, 2, none⟩ (.int .i64 c2)).setCell ⟨NB, 3, none⟩ (.int .i64 c3)).setCell ⟨NB, 4, none⟩ (.int .i64 c4)).setCell ⟨NB, 5, none⟩ (.int .i64 c5)).setCell ⟨NB, 6, none⟩ (.int .i64 c6)).setCell ⟨NB, 7, none⟩ (.int .i64 c7)).setCell ⟨NB, 8, none⟩ (.int .i64 c8)).setCell ⟨NB, 9, none⟩ (.int .i64 c9)).setCell ⟨NB, 10, none⟩ (.int .i64 c10)).setCell ⟨NB, 11, none⟩ (.int .i64 c11)).setCell ⟨NB, 12, none⟩ (.int .i64 c12)).setCell ⟨NB, 13, none⟩ (.int .i64 c13)).setCell ⟨OB, 0, none⟩ (.int .i64 x0)).setCell ⟨OB, 1, none⟩ (.int .i64 x1)).setCell ⟨OB, 2, none⟩ (.int .i64 x2)).setCell ⟨OB, 3, none⟩ (.int .i64 x3)).setCell ⟨OB, 4, none⟩ (.int .i64 x4)).setCell ⟨OB, 5, none⟩ (.int .i64 x5)) := ⟨_, rfl⟩
        rw [← hZ]
        have hcz := (two_chg HUB.out HTN.out hZ).below
        have hh := two_heap HTN.out hZ
        have HEZ := hide (HEL2.out.two hcz hh.1 hh.2 (Nat.le_trans HUB.out.size HTN.out.n1) (Nat.le_trans HUB.out.size HTN.out.n2))
        clear hZ hcz hh HTN n_0 n_f0 n_1 n_f1 n_2 n_f2 n_3 n_f3 n_4 n_f4 n_5 n_f5 n_6 n_f6 n_7 n_f7 n_8 n_f8 n_9 n_f9 n_10 n_f10 n_11 n_f11 n_12 n_f12 n_13 n_f13 o_0 o_f0 o_1 o_f1 o_2 o_f2 o_3 o_f3 o_4 o_f4 o_5 o_f5 HE
        have p0 : Z.cell? ⟨PB, 0, none⟩ = some v0 := HEZ.out.sp.c0
        rw [HE1'.out] at p0
        go_wp2_with fail
        clear p0
        have HGC := HCG
        go_loopw [71, 13] (fun i t wr => ∃ j : Nat, j ≤ sn ∧ i = .int .i64 (j : Int) ∧ t = .int .i64 (toI [c0, c1, c2, c3, c4, c5, c6, c7, c8, c9, c10, c11, c12, c13] Y.states j) ∧ Hid (Below Z.heap.size Z wr)) (fun i _ _ => sn - (intOf i).toNat)
        case atStart => exact ⟨0, Nat.zero_le _, rfl, by rw [toI_zero], hide (Below.refl _ _)⟩
        case round =>
         obtain ⟨j, hjs, rfl, rfl, hrel⟩ := hrel
         have HEW := hide (HEZ.out.below hrel.out)
         by_cases hjl : j < sn
         · have hjl' : (j : Int) < (sn : Int) := by omega
           have j0 : (0 : Int) ≤ (j : Int) := Int.natCast_nonneg _
           obtain ⟨t, ht⟩ : ∃ t, Y.states[j]? = some t := ⟨_, List.getElem?_eq_getElem (by have := HSN.out; omega)⟩
           have htg := HOKY.out.good t (List.mem_of_getElem? ht)
           obtain ⟨b0, b1, b2, b3, b4, b5, b6, b7, b8, b9, b10, b11, b12, b13, rfl⟩ := len14 htg.2.1
           obtain ⟨ad2, cap2, e2, had2, bt_0, bt_1, bt_2, bt_3, bt_4, bt_5, bt_6, bt_7, bt_8, bt_9, bt_10, bt_11, bt_12, bt_13⟩ := rowStateAt HEW.out.sp.r0 (fun t ht => (HOKY.out.good t ht).2.1) ht
           rw [HSN.out, HE1'.out] at e2
           injection e2 with e2 e3 e4
           injection e2 with e2
           subst e2
           subst e4
           have BN : Blk wr NB [.int .i64 c0, .int .i64 c1, .int .i64 c2, .int .i64 c3, .int .i64 c4, .int .i64 c5, .int .i64 c6, .int .i64 c7, .int .i64 c8, .int .i64 c9, .int .i64 c10, .int .i64 c11, .int .i64 c12, .int .i64 c13] := blk_heap (HEW.out.tr (NB, .cells #[.int .i64 c0, .int .i64 c1, .int .i64 c2, .int .i64 c3, .int .i64 c4, .int .i64 c5, .int .i64 c6, .int .i64 c7, .int .i64 c8, .int .i64 c9, .int .i64 c10, .int .i64 c11, .int .i64 c12, .int .i64 c13] 133 (0, 0)) (by simp)).1
           have n_0 := (BN 0 _ rfl).1
           have n_1 := (BN 1 _ rfl).1
           have n_2 := (BN 2 _ rfl).1
           have n_3 := (BN 3 _ rfl).1
           have n_4 := (BN 4 _ rfl).1
           have n_5 := (BN 5 _ rfl).1
           have n_6 := (BN 6 _ rfl).1
           have n_7 := (BN 7 _ rfl).1
           have n_8 := (BN 8 _ rfl).1
           have n_9 := (BN 9 _ rfl).1
           have n_10 := (BN 10 _ rfl).1
           have n_11 := (BN 11 _ rfl).1
           have n_12 := (BN 12 _ rfl).1
           have n_13 := (BN 13 _ rfl).1
           have hNl : NB < wr.heap.size := BN.lt
           have heq : ∀ w, (Op.equalIn 10000 133 (.agg #[.int .i64 b0, .int .i64 b1, .int .i64 b2, .int .i64 b3, .int .i64 b4, .int .i64 b5, .int .i64 b6, .int .i64 b7, .int .i64 b8, .int .i64 b9, .int .i64 b10, .int .i64 b11, .int .i64 b12, .int .i64 b13]) (.agg #[.int .i64 c0, .int .i64 c1, .int .i64 c2, .int .i64 c3, .int .i64 c4, .int .i64 c5, .int .i64 c6, .int .i64 c7, .int .i64 c8, .int .i64 c9, .int .i64 c10, .int .i64 c11, .int .i64 c12, .int .i64 c13])).run Tryz.prog w = .ok (decide ([b0, b1, b2, b3, b4, b5, b6, b7, b8, b9, b10, b11, b12, b13] = [c0, c1, c2, c3, c4, c5, c6, c7, c8, c9, c10, c11, c12, c13])) w := fun w => eqState2 htg.2 HCG.out.2 w
           have HTJ := hide ht
           have HREL := hide hrel
           clear BN ht htg had2 e3 hrel
           by_cases hbc : [b0, b1, b2, b3, b4, b5, b6, b7, b8, b9, b10, b11, b12, b13] = [c0, c1, c2, c3, c4, c5, c6, c7, c8, c9, c10, c11, c12, c13]
           · have hti : Hid (toI [c0, c1, c2, c3, c4, c5, c6, c7, c8, c9, c10, c11, c12, c13] Y.states (j + 1) = (j : Int)) := hide (toI_hit HOKY.out.nodup (by rw [HTJ.out, hbc]))
             have HBC := hide hbc
             simp only [hbc, decide_true] at heq
             clear hbc
             go_wp2
             exact ⟨⟨j + 1, by omega, by simp, by rw [hti.out], hide ((HREL.out.alloc HREL.out.size _))⟩, by first | omega | (simp; omega) | (simp [intOf]; omega)⟩
           · have hti : Hid (toI [c0, c1, c2, c3, c4, c5, c6, c7, c8, c9, c10, c11, c12, c13] Y.states (j + 1) = toI [c0, c1, c2, c3, c4, c5, c6, c7, c8, c9, c10, c11, c12, c13] Y.states j) := hide (toI_miss HTJ.out hbc)
             simp only [hbc, decide_false] at heq
             clear hbc
             go_wp2
             exact ⟨⟨j + 1, by omega, by simp, by rw [hti.out], hide ((HREL.out.alloc HREL.out.size _))⟩, by first | omega | (simp; omega) | (simp [intOf]; omega)⟩
         · obtain rfl : j = sn := by omega
           have hlt9 : ¬ (j : Int) < (j : Int) := by omega
           clear hjl hjs
           go_upto_if 82 with fail
           go_cut [13] (fun t wc => ∃ (ti : Nat) (v0' : Value) (Z' : Sx), t = .int .i64 (ti : Int) ∧ Hid (Y.go (stp k0 k1 R Q q) kk ⟨(D : Int), (E : Int)⟩ = Z' ∧ Z'.full = false ∧ Z'.edges = Y.edges ++ [⟨kk, ti, ⟨(D : Int), (E : Int)⟩, [x0, x1, x2, x3, x4, x5]⟩]) ∧ Hid (RS w ((OB, .cells #[.int .i64 x0, .int .i64 x1, .int .i64 x2, .int .i64 x3, .int .i64 x4, .int .i64 x5] 92 (0, 0)) :: (LB, .cells #[.int .i64 (D : Int), .int .i64 (E : Int)] 47 (0, 0)) :: trR S [.int .i64 k0, .int .i64 k1, .int .i64 R, .int .i64 Q, .int .i64 (q : Int)]) PB B v0' v1 v2 v3 v4 Z'.states Y.edges wc))
           case first =>
            have hte0 : ∀ i : Nat, Y.states[i]? = some [c0, c1, c2, c3, c4, c5, c6, c7, c8, c9, c10, c11, c12, c13] → toI [c0, c1, c2, c3, c4, c5, c6, c7, c8, c9, c10, c11, c12, c13] Y.states j = (i : Int) := fun i hi => by rw [← HSN.out]; exact toI_old HOKY.out.nodup hi
            by_cases hmem : [c0, c1, c2, c3, c4, c5, c6, c7, c8, c9, c10, c11, c12, c13] ∈ Y.states
            · obtain ⟨i, hi⟩ := List.mem_iff_getElem?.1 hmem
              have hil : i < j := by have := (List.getElem?_eq_some_iff.1 hi).1; have := HSN.out; omega
              have hte : toI [c0, c1, c2, c3, c4, c5, c6, c7, c8, c9, c10, c11, c12, c13] Y.states j = (i : Int) := hte0 i hi
              have HGO := hide (Sx.go_old HFY.out HSY.out HST.out hi HOKY.out.nodup)
              have i0 : ¬ (i : Int) < 0 := by omega
              clear hi hmem hte0
              rw [hte]
              clear hte hrel
              go_wp2
              go_meet
              case rel => exact ⟨i, v0, _, rfl, hide ⟨HGO.out, HFY.out, rfl⟩, hide (HEW.out.sub (fun p hp => by simp only [List.mem_cons] at hp ⊢; rcases hp with h | h | h <;> simp [h]))⟩
            · have hte : toI [c0, c1, c2, c3, c4, c5, c6, c7, c8, c9, c10, c11, c12, c13] Y.states j = -1 := by rw [← HSN.out]; exact toI_new hmem
              rw [hte]
              clear hte hrel hte0
              have p0 : wr.cell? ⟨PB, 0, none⟩ = some v0 := HEW.out.sp.c0
              rw [HE1'.out] at p0
              by_cases hl3 : j = 300
              · have HGO := hide (Sx.go_stop HFY.out HSY.out HST.out hmem (HSN.out.trans hl3))
                have h300 : ((j : Int) == 300) = true := by rw [hl3]; rfl
                have BZ : Blk wr (S + 1) [.slice none 0 0, .slice none 0 0, .slice none 0 0, .slice none 0 0, .slice none 0 0] := blk_heap (HEW.out.tr (S + 1, .cells #[.slice none 0 0, .slice none 0 0, .slice none 0 0, .slice none 0 0, .slice none 0 0] 118 (0, 0)) (by simp [trR])).1
                obtain ⟨z_0, z_f0⟩ := BZ 0 _ rfl
                obtain ⟨z_1, z_f1⟩ := BZ 1 _ rfl
                obtain ⟨z_2, z_f2⟩ := BZ 2 _ rfl
                obtain ⟨z_3, z_f3⟩ := BZ 3 _ rfl
                obtain ⟨z_4, z_f4⟩ := BZ 4 _ rfl
                have HBZ := hide BZ
                have HLE := hide hl3
                clear BZ hmem hl3
                go_wp2
                obtain ⟨Z2, hZ⟩ : ∃ Z2, Z2 = ((((wr.setCell ⟨S + 1, 0, none⟩ (.slice none 0 0)).setCell ⟨S + 1, 1, none⟩ (.slice none 0 0)).setCell ⟨S + 1, 2, none⟩ (.slice none 0 0)).setCell ⟨S + 1, 3, none⟩ (.slice none 0 0)).setCell ⟨S + 1, 4, none⟩ (.slice none 0 0) := ⟨_, rfl⟩
                rw [← hZ]
                obtain ⟨⟨y0, y1, y2, y3, y4⟩, hcz⟩ := set5 HBZ.out hZ
                have hRZ := HEW.out.box hcz (b := S + 1) (o := .cells #[.slice none 0 0, .slice none 0 0, .slice none 0 0, .slice none 0 0, .slice none 0 0] 118 (0, 0)) (by simp [trR]) (by rw [HSw.out]; omega)
                refine bodyPost_ret (v := .tuple #[.agg #[.slice none 0 0, .slice none 0 0, .slice none 0 0, .slice none 0 0, .slice none 0 0], .int .i64 4]) ?_ rfl ?_
                · simp [results, Tryz.f58, go_sem, y0, y1, y2, y3, y4]
                · refine ⟨kk + 1, ⟨fun x hx => ?_, .inl (full_step2 HMQ.out HY.out HDQ.out HEQ.out HGO.out rfl)⟩, hRZ.bl, .inr ⟨full_step2 HMQ.out HY.out HDQ.out HEQ.out HGO.out rfl, rfl⟩⟩
                  rcases (show x < kk ∨ x = kk by omega) with h | rfl
                  · exact HBEF.out x h
                  · exact ⟨HFULL.out, by have := HN'.out; unfold rnds at this; omega⟩
              · have HGO := hide (Sx.go_new HFY.out HSY.out HST.out hmem (fun e => hl3 (HSN.out.symm.trans e)))
                have h300 : ((j : Int) == 300) = false := by simp; omega
                have hj3 : j < 300 := by omega
                have HJ3 := hide hj3
                have BN : Blk wr NB [.int .i64 c0, .int .i64 c1, .int .i64 c2, .int .i64 c3, .int .i64 c4, .int .i64 c5, .int .i64 c6, .int .i64 c7, .int .i64 c8, .int .i64 c9, .int .i64 c10, .int .i64 c11, .int .i64 c12, .int .i64 c13] := blk_heap (HEW.out.tr (NB, .cells #[.int .i64 c0, .int .i64 c1, .int .i64 c2, .int .i64 c3, .int .i64 c4, .int .i64 c5, .int .i64 c6, .int .i64 c7, .int .i64 c8, .int .i64 c9, .int .i64 c10, .int .i64 c11, .int .i64 c12, .int .i64 c13] 133 (0, 0)) (by simp)).1
                have n_0 := (BN 0 _ rfl).1
                have n_1 := (BN 1 _ rfl).1
                have n_2 := (BN 2 _ rfl).1
                have n_3 := (BN 3 _ rfl).1
                have n_4 := (BN 4 _ rfl).1
                have n_5 := (BN 5 _ rfl).1
                have n_6 := (BN 6 _ rfl).1
                have n_7 := (BN 7 _ rfl).1
                have n_8 := (BN 8 _ rfl).1
                have n_9 := (BN 9 _ rfl).1
                have n_10 := (BN 10 _ rfl).1
                have n_11 := (BN 11 _ rfl).1
                have n_12 := (BN 12 _ rfl).1
                have n_13 := (BN 13 _ rfl).1
                have HR5 : Hid (∀ o, (wr.alloc o).ownsRow B 133 14 (.slice (some ad) j cap) j (flatS Y.states)) := hide (fun o => by
                 have := HEW.out.row0 o
                 rw [HE1'.out, HSN.out] at this; exact this)
                have HGR : Hid (∀ (o : Obj) (w5 : World), (wr.alloc o).grownBy w5 (Value.slice (some ad) j cap).ownBlock → w5.cell? ⟨PB, 0, none⟩ = some (.slice (some ad) j cap) ∧ w5.frozen? ⟨PB, 0, none⟩ = false) := hide (fun o w5 hg => by
                 have := HEW.out.grow0 (by rw [HE1'.out]; exact hg)
                 rw [HE1'.out] at this; exact this)
                have hBw : B ≤ wr.heap.size := by have := HEW.out.sp.lt; have := HEW.out.sp.pB; omega
                clear BN hmem hl3
                go_wp2_with (at_builtin; refine wpList_append_own_at _ rfl (.tmp 92) (.tmp 94) 95 rfl B 133 i4 _ 14 112 Tryz.underlying95 HI4.out.1 HI4.out.2.1 HI4.out.2.2.1 HI4.out.2.2.2 (by kernel_rfl) (by decide) _ _ _ rfl (HR5.out _) ⟨wr.heap.size, 0, none⟩ 1 1 [.int .i64 c0, .int .i64 c1, .int .i64 c2, .int .i64 c3, .int .i64 c4, .int .i64 c5, .int .i64 c6, .int .i64 c7, .int .i64 c8, .int .i64 c9, .int .i64 c10, .int .i64 c11, .int .i64 c12, .int .i64 c13] rfl rfl (cells_new wr [.int .i64 c0, .int .i64 c1, .int .i64 c2, .int .i64 c3, .int .i64 c4, .int .i64 c5, .int .i64 c6, .int .i64 c7, .int .i64 c8, .int .i64 c9, .int .i64 c10, .int .i64 c11, .int .i64 c12, .int .i64 c13] 133) (by simp [Value.oneCell']) (by unfold maxLen; omega) (by omega) (by simp; omega) ?_; intro v5 w5 hrow hgrow _ hat; obtain ⟨xr, mr, er⟩ := row_shape hrow; subst er; have hq5 := HGR.out _ _ hgrow; have hq6 := hq5.1; have hq7 := hq5.2; have HRW := hide hrow; have HGW := hide hgrow; have HAT := hide hat; clear hrow hgrow hat hq5)
                have HET := hide (HEW.out.addState (s := [c0, c1, c2, c3, c4, c5, c6, c7, c8, c9, c10, c11, c12, c13]) HSN.out ((Below.refl _ _).alloc (Nat.le_refl _) _) HRW.out (by rw [HE1'.out]; exact HGW.out) (by rw [HE1'.out]; exact HAT.out))
                obtain ⟨WT, hWT⟩ : ∃ WT, w5.setCell ⟨PB, 0, none⟩ (.slice xr (j + 1) mr) = WT := ⟨_, rfl⟩
                rw [hWT] at HET ⊢
                have hgo2 := HGO.out
                rw [HSN.out] at hgo2
                go_meet
                case rel => exact ⟨j, _, _, rfl, hide ⟨hgo2, rfl, rfl⟩, hide (HET.out.sub (fun p hp => by simp only [List.mem_cons] at hp ⊢; rcases hp with h | h | h <;> simp [h]))⟩
           case rest =>
            obtain ⟨ti, v0', Z', rfl, HGO, HET⟩ := hcut
            obtain ⟨WT, hWT⟩ : ∃ WT, wc = WT := ⟨_, rfl⟩
            rw [hWT] at HET ⊢
            go_wp2_with fail
            obtain ⟨ne, hne⟩ : ∃ ne, Y.edges.length = ne := ⟨_, rfl⟩
            have hnl : ne < 4800 := by rw [← hne]; exact HED.out
            have BL : Blk WT LB [.int .i64 (D : Int), .int .i64 (E : Int)] := blk_heap (HET.out.tr (LB, .cells #[.int .i64 (D : Int), .int .i64 (E : Int)] 47 (0, 0)) (by simp)).1
            have BO : Blk WT OB [.int .i64 x0, .int .i64 x1, .int .i64 x2, .int .i64 x3, .int .i64 x4, .int .i64 x5] := blk_heap (HET.out.tr (OB, .cells #[.int .i64 x0, .int .i64 x1, .int .i64 x2, .int .i64 x3, .int .i64 x4, .int .i64 x5] 92 (0, 0)) (by simp)).1
            obtain ⟨G, hG⟩ : ∃ G, WT.drew = G := ⟨_, rfl⟩
            have hGB : Below WT.heap.size WT G := by rw [← hG]; exact (Below.refl _ _).drew
            have HEG := hide (HET.out.below hGB)
            have hf0 : (fun w' : World => w'.cell? ⟨PB, 1, none⟩ = some v1 ∧ w'.cell? ⟨PB, 2, none⟩ = some v2 ∧ w'.cell? ⟨PB, 3, none⟩ = some v3 ∧ w'.cell? ⟨PB, 4, none⟩ = some v4 ∧ w'.cell? ⟨LB, 0, none⟩ = some (.int .i64 D) ∧ w'.cell? ⟨LB, 1, none⟩ = some (.int .i64 E) ∧ w'.cell? ⟨OB, 0, none⟩ = some (.int .i64 x0) ∧ w'.cell? ⟨OB, 1, none⟩ = some (.int .i64 x1) ∧ w'.cell? ⟨OB, 2, none⟩ = some (.int .i64 x2) ∧ w'.cell? ⟨OB, 3, none⟩ = some (.int .i64 x3) ∧ w'.cell? ⟨OB, 4, none⟩ = some (.int .i64 x4) ∧ w'.cell? ⟨OB, 5, none⟩ = some (.int .i64 x5)) G := by rw [← hG]; exact ⟨HET.out.sp.c1, HET.out.sp.c2, HET.out.sp.c3, HET.out.sp.c4, (BL 0 _ rfl).1, (BL 1 _ rfl).1, (BO 0 _ rfl).1, (BO 1 _ rfl).1, (BO 2 _ rfl).1, (BO 3 _ rfl).1, (BO 4 _ rfl).1, (BO 5 _ rfl).1⟩
            have hF := hide hf0
            have hFr : Hid (∀ W, Frm G [⟨3, 4, 100, 101, 24, 3, 1, v1, ne, (fromsE Y.edges).map (Value.int .i64), [.int .i64 (kk : Int)]⟩, ⟨8, 9, 105, 106, 24, 3, 1, v2, ne, (tosE Y.edges).map (Value.int .i64), [.int .i64 (ti : Nat)]⟩, ⟨13, 14, 110, 111, 50, 47, 2, v3, ne, flat2 (latesE Y.edges), [.int .i64 (D : Int), .int .i64 (E : Int)]⟩, ⟨18, 19, 115, 116, 116, 92, 6, v4, ne, flatU Y.edges, [.int .i64 x0, .int .i64 x1, .int .i64 x2, .int .i64 x3, .int .i64 x4, .int .i64 x5]⟩] W → (fun w' : World => w'.cell? ⟨PB, 1, none⟩ = some v1 ∧ w'.cell? ⟨PB, 2, none⟩ = some v2 ∧ w'.cell? ⟨PB, 3, none⟩ = some v3 ∧ w'.cell? ⟨PB, 4, none⟩ = some v4 ∧ w'.cell? ⟨LB, 0, none⟩ = some (.int .i64 D) ∧ w'.cell? ⟨LB, 1, none⟩ = some (.int .i64 E) ∧ w'.cell? ⟨OB, 0, none⟩ = some (.int .i64 x0) ∧ w'.cell? ⟨OB, 1, none⟩ = some (.int .i64 x1) ∧ w'.cell? ⟨OB, 2, none⟩ = some (.int .i64 x2) ∧ w'.cell? ⟨OB, 3, none⟩ = some (.int .i64 x3) ∧ w'.cell? ⟨OB, 4, none⟩ = some (.int .i64 x4) ∧ w'.cell? ⟨OB, 5, none⟩ = some (.int .i64 x5)) W) := hide (ch4_F HEG.out rfl rfl rfl rfl (o1 := .cells #[.int .i64 (D : Int), .int .i64 (E : Int)] 47 (0, 0)) (o2 := .cells #[.int .i64 x0, .int .i64 x1, .int .i64 x2, .int .i64 x3, .int .i64 x4, .int .i64 x5] 92 (0, 0)) (by simp) (by simp) hf0)
            have hFz : Hid (∀ W, Frm G [⟨3, 4, 100, 101, 24, 3, 1, v1, ne, (fromsE Y.edges).map (Value.int .i64), [.int .i64 (kk : Int)]⟩, ⟨8, 9, 105, 106, 24, 3, 1, v2, ne, (tosE Y.edges).map (Value.int .i64), [.int .i64 (ti : Nat)]⟩, ⟨13, 14, 110, 111, 50, 47, 2, v3, ne, flat2 (latesE Y.edges), [.int .i64 (D : Int), .int .i64 (E : Int)]⟩, ⟨18, 19, 115, 116, 116, 92, 6, v4, ne, flatU Y.edges, [.int .i64 x0, .int .i64 x1, .int .i64 x2, .int .i64 x3, .int .i64 x4, .int .i64 x5]⟩] W → ∀ j, W.frozen? ⟨PB, j, none⟩ = false) := hide (ch4_fz HEG.out rfl rfl rfl rfl)
            have hBG : B ≤ G.heap.size := by have := HEG.out.sp.lt; have := HEG.out.sp.pB; omega
            have HNE := hide hne
            have r1 := HEG.out.sp.r1
            have r2 := HEG.out.sp.r2
            have r3 := HEG.out.sp.r3
            have r4 := HEG.out.sp.r4
            rw [hne] at r1 r2 r3 r4
            have HR1 := hide r1; have HR2 := hide r2; have HR3 := hide r3; have HR4 := hide r4
            clear hne BL BO hGB hf0 r1 r2 r3 r4
            refine wp_region_G 21 (fun w' : World => w'.cell? ⟨PB, 1, none⟩ = some v1 ∧ w'.cell? ⟨PB, 2, none⟩ = some v2 ∧ w'.cell? ⟨PB, 3, none⟩ = some v3 ∧ w'.cell? ⟨PB, 4, none⟩ = some v4 ∧ w'.cell? ⟨LB, 0, none⟩ = some (.int .i64 D) ∧ w'.cell? ⟨LB, 1, none⟩ = some (.int .i64 E) ∧ w'.cell? ⟨OB, 0, none⟩ = some (.int .i64 x0) ∧ w'.cell? ⟨OB, 1, none⟩ = some (.int .i64 x1) ∧ w'.cell? ⟨OB, 2, none⟩ = some (.int .i64 x2) ∧ w'.cell? ⟨OB, 3, none⟩ = some (.int .i64 x3) ∧ w'.cell? ⟨OB, 4, none⟩ = some (.int .i64 x4) ∧ w'.cell? ⟨OB, 5, none⟩ = some (.int .i64 x5)) (by kernel_rfl) ?_
            rw [hG]
            clear hG
            refine kB 0 hF.out ?_
            refine kB 1 hF.out ?_
            refine kB 2 hF.out ?_
            refine kB 5 hF.out ?_
            refine kB 6 hF.out ?_
            refine kB 7 hF.out ?_
            refine kB 10 hF.out ?_
            refine kB 11 hF.out ?_
            refine kB 12 hF.out ?_
            refine kB 15 hF.out ?_
            refine kB 16 hF.out ?_
            refine kB 17 hF.out ?_
            refine wpAnyG_appends4E (c1 := ⟨3, 4, 100, 101, 24, 3, 1, v1, ne, (fromsE Y.edges).map (Value.int .i64), [.int .i64 (kk : Int)]⟩) (c2 := ⟨8, 9, 105, 106, 24, 3, 1, v2, ne, (tosE Y.edges).map (Value.int .i64), [.int .i64 (ti : Nat)]⟩) (c3 := ⟨13, 14, 110, 111, 50, 47, 2, v3, ne, flat2 (latesE Y.edges), [.int .i64 (D : Int), .int .i64 (E : Int)]⟩) (c4 := ⟨18, 19, 115, 116, 116, 92, 6, v4, ne, flatU Y.edges, [.int .i64 x0, .int .i64 x1, .int .i64 x2, .int .i64 x3, .int .i64 x4, .int .i64 x5]⟩) (B := B) (f := 7) (e := 20) (k := 6) (ad := ⟨PB, 0, none⟩) (ve := .pointer (some ⟨PB, 1, none⟩)) rfl rfl rfl rfl (by simp [ixs, slots]) (by simp [ixs, slots]) (by kernel_rfl) (fun w => by kernel_rfl) (by kernel_rfl) (by kernel_rfl) (by kernel_rfl) (by simp [ixs, slots]) ?hsl hFr.out ?k1 ?k2 ?k3 ?k4 hBG HR1.out HR2.out HR3.out HR4.out HEG.out.sp.ap.a12 HEG.out.sp.ap.a13 HEG.out.sp.ap.a14 HEG.out.sp.ap.a23 HEG.out.sp.ap.a24 HEG.out.sp.ap.a34 ?he
            case hsl =>
             intro d hd
             exact Nat.lt_of_lt_of_eq (ch4_slots d hd) (by kernel_rfl)
            case k1 => rintro _ (rfl | rfl) <;> exact ⟨⟨_, 99, .int .i64 (kk : Int), rfl, rfl, rfl, rfl, by simp [ixs, slots], by kernel_rfl, laysInt (kk : Int)⟩, ⟨_, 98, rfl, rfl, rfl, rfl, by simp [ixs, slots], by kernel_rfl⟩, ⟨i1, _, 8, Tryz.underlying24, HI1.out.1, HI1.out.2.1, HI1.out.2.2.1, HI1.out.2.2.2, by kernel_rfl, Nat.succ_pos _, by dsimp only; omega⟩, rfl, by simp [Value.oneCell'], by unfold maxLen; dsimp only; omega⟩
            case k2 => rintro _ (rfl | rfl) <;> exact ⟨⟨_, 104, .int .i64 (ti : Nat), rfl, rfl, rfl, rfl, by simp [ixs, slots], by kernel_rfl, laysInt (ti : Nat)⟩, ⟨_, 103, rfl, rfl, rfl, rfl, by simp [ixs, slots], by kernel_rfl⟩, ⟨i1, _, 8, Tryz.underlying24, HI1.out.1, HI1.out.2.1, HI1.out.2.2.1, HI1.out.2.2.2, by kernel_rfl, Nat.succ_pos _, by dsimp only; omega⟩, rfl, by simp [Value.oneCell'], by unfold maxLen; dsimp only; omega⟩
            case k3 => rintro _ (rfl | rfl) <;> exact ⟨⟨_, 109, .agg #[.int .i64 (D : Int), .int .i64 (E : Int)], rfl, rfl, rfl, rfl, by simp [ixs, slots], by kernel_rfl, laysPair (D : Int) (E : Int)⟩, ⟨_, 108, rfl, rfl, rfl, rfl, by simp [ixs, slots], by kernel_rfl⟩, ⟨i2, _, 16, Tryz.underlying50, HI2.out.1, HI2.out.2.1, HI2.out.2.2.1, HI2.out.2.2.2, by kernel_rfl, Nat.succ_pos _, by dsimp only; omega⟩, rfl, by simp [Value.oneCell'], by unfold maxLen; dsimp only; omega⟩
            case k4 => rintro _ (rfl | rfl) <;> exact ⟨⟨_, 114, .agg #[.int .i64 x0, .int .i64 x1, .int .i64 x2, .int .i64 x3, .int .i64 x4, .int .i64 x5], rfl, rfl, rfl, rfl, by simp [ixs, slots], by kernel_rfl, laysRound x0 x1 x2 x3 x4 x5⟩, ⟨_, 113, rfl, rfl, rfl, rfl, by simp [ixs, slots], by kernel_rfl⟩, ⟨i3, _, 48, Tryz.underlying116, HI3.out.1, HI3.out.2.1, HI3.out.2.2.1, HI3.out.2.2.2, by kernel_rfl, Nat.succ_pos _, by dsimp only; omega⟩, rfl, by simp [Value.oneCell'], by unfold maxLen; dsimp only; omega⟩
            case he =>
             intro u1 u2 u3 u4 y1 y2 y3 y4 m1 m2 m3 m4 WW hA
             have HA := hide hA
             obtain ⟨e1, e2, e3, e4, _, _⟩ := hFr.out WW hA.frm
             have z1 := hFz.out WW hA.frm 1
             have z2 := hFz.out WW hA.frm 2
             have z3 := hFz.out WW hA.frm 3
             have z4 := hFz.out WW hA.frm 4
             clear hA hFr hFz hF HI1 HI2 HI3
             simp only [Act.put, List.setIfInBounds_toArray, List.set_cons_zero, List.set_cons_succ]
             refine wpAnyG_one (i := 21) rfl (by kernel_rfl) (by kernel_rfl) (fun K hK => ?_)
             go_simp
             refine hK.out _ _ ?_
             clear hK K
             refine kL ?_
             refine wpAnyG_one (i := 22) rfl (by kernel_rfl) (by kernel_rfl) (fun K hK => ?_)
             go_simp
             refine hK.out _ _ ?_
             clear hK K
             refine kL ?_
             refine wpAnyG_one (i := 23) rfl (by kernel_rfl) (by kernel_rfl) (fun K hK => ?_)
             go_simp
             refine hK.out _ _ ?_
             clear hK K
             refine kL ?_
             refine wpAnyG_one (i := 24) rfl (by kernel_rfl) (by kernel_rfl) (fun K hK => ?_)
             go_simp
             refine hK.out _ _ ?_
             clear hK K
             refine kL ?_
             refine wpAnyG_one (i := 25) rfl (by kernel_rfl) (by kernel_rfl) (fun K hK => ?_)
             go_simp
             refine hK.out _ _ ?_
             clear hK K
             refine kL ?_
             refine wpAnyG_one (i := 26) rfl (by kernel_rfl) (by kernel_rfl) (fun K hK => ?_)
             go_simp
             refine hK.out _ _ ?_
             clear hK K
             refine kL ?_
             refine wpAnyG_one (i := 27) rfl (by kernel_rfl) (by kernel_rfl) (fun K hK => ?_)
             go_simp
             refine hK.out _ _ ?_
             clear hK K
             refine kL ?_
             refine wpAnyG_done (by kernel_rfl) ?_ _
             have HRE := hide (HEG.out.addEdge (l := ⟨(D : Int), (E : Int)⟩) (us := [x0, x1, x2, x3, x4, x5]) HNE.out HA.out)
             clear HA e1 e2 e3 e4 z1 z2 z3 z4
             go_wp2
             go_roundg (gk - 1)
             case rel => exact ⟨m + 1, by simp, by omega, hide (SI.step HY.out HDQ.out HEQ.out HGO.out.1 HGO.out.2.1 (by rw [HGO.out.2.2]; exact HRE.out) (fun p hp => by simp [hp]))⟩
             case measure => omega
     · have hgm2 : ¬ (m : Int) < (M2 : Int) := by omega
       have hmm : m = M2 := by omega
       have hlk : kk < (rnds k0 k1 R Q q kk).states.length := by rw [HN'.out]; exact hlt
       rw [hmm, ← HM2.out, ← HM1.out] at hrel
       have HNX := hide (hrel.out.next HLR.out hlk)
       clear hrel hlk
       go_wp2
       go_roundg (300 - kk)
       case rel => exact ⟨kk + 1, by simp, by omega, HNX⟩
       case measure => omega
  · have hge : ¬ (kk : Int) < (n : Int) := by omega
    obtain ⟨a1, c1, rfl⟩ := sliceShape HE.out.sp.r1
    obtain ⟨a2, c2, rfl⟩ := sliceShape HE.out.sp.r2
    obtain ⟨a3, c3, rfl⟩ := sliceShape HE.out.sp.r3
    obtain ⟨a4, c4, rfl⟩ := sliceShape HE.out.sp.r4
    have HE0 := hide (show v0 = .slice a0 n c0 from he0.out)
    have p1 := HE.out.sp.c1
    have p2 := HE.out.sp.c2
    have p3 := HE.out.sp.c3
    have p4 := HE.out.sp.c4
    have BZ : Blk wr (S + 1) [.slice none 0 0, .slice none 0 0, .slice none 0 0, .slice none 0 0, .slice none 0 0] := blk_heap (HE.out.tr (S + 1, .cells #[.slice none 0 0, .slice none 0 0, .slice none 0 0, .slice none 0 0, .slice none 0 0] 118 (0, 0)) (by simp [trR])).1
    obtain ⟨z_0, z_f0⟩ := BZ 0 _ rfl
    obtain ⟨z_1, z_f1⟩ := BZ 1 _ rfl
    obtain ⟨z_2, z_f2⟩ := BZ 2 _ rfl
    obtain ⟨z_3, z_f3⟩ := BZ 3 _ rfl
    obtain ⟨z_4, z_f4⟩ := BZ 4 _ rfl
    have HBZ := hide BZ
    clear BZ
    go_wp2
    obtain ⟨Z, hZ⟩ : ∃ Z, Z = ((((wr.setCell ⟨S + 1, 0, none⟩ (.slice a0 n c0)).setCell ⟨S + 1, 1, none⟩ (.slice a1 (rnds k0 k1 R Q q kk).edges.length c1)).setCell ⟨S + 1, 2, none⟩ (.slice a2 (rnds k0 k1 R Q q kk).edges.length c2)).setCell ⟨S + 1, 3, none⟩ (.slice a3 (rnds k0 k1 R Q q kk).edges.length c3)).setCell ⟨S + 1, 4, none⟩ (.slice a4 (rnds k0 k1 R Q q kk).edges.length c4) := ⟨_, rfl⟩
    rw [← hZ]
    obtain ⟨⟨y0, y1, y2, y3, y4⟩, hcz⟩ := set5 HBZ.out hZ
    have hRZ := HE.out.box hcz (b := S + 1) (o := .cells #[.slice none 0 0, .slice none 0 0, .slice none 0 0, .slice none 0 0, .slice none 0 0] 118 (0, 0)) (by simp [trR]) (by rw [HSw.out]; omega)
    rw [HE0.out] at hRZ
    refine bodyPost_ret (v := .tuple #[.agg #[.slice a0 n c0, .slice a1 (rnds k0 k1 R Q q kk).edges.length c1, .slice a2 (rnds k0 k1 R Q q kk).edges.length c2, .slice a3 (rnds k0 k1 R Q q kk).edges.length c3, .slice a4 (rnds k0 k1 R Q q kk).edges.length c4], .int .i64 0]) ?_ rfl ?_
    · simp [results, Tryz.f58, go_sem, y0, y1, y2, y3, y4]
    · refine ⟨kk, ⟨HBEF.out, .inr ?_⟩, hRZ.bl, .inl ⟨PB, B, _, _, _, _, _, HFULL.out, rfl, hRZ⟩⟩
      have := HN'.out
      unfold rnds at this
      omega
end Go.Proofs.YtjjikhaaimfneaaGreatDoor
