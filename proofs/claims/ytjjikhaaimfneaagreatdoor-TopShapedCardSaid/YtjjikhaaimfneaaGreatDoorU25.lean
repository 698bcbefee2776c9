/-
  Lemmas and walks for the statement: Each.
-/
import Derived.Test.YtjjikhaaimfneaaGreatDoorU05
import Derived.Test.YtjjikhaaimfneaaGreatDoorU22
import Derived.Test.YtjjikhaaimfneaaGreatDoorU24
import Derived.Sort.LoopGhostIn
import Derived.Sort.QuietIn
namespace Go.Proofs.YtjjikhaaimfneaaGreatDoor
open Go.RowKit Go.Shelf
set_option linter.unusedSimpArgs false
set_option linter.unusedVariables false
attribute [local go_sem] Oper.semAt_some iteMaxN iteMax
theorem edges_few {kk q p : Nat} (h1 : kk < 300) (h2 : q ≤ 3) (h3 : p < (q + 1) * (q + 1)) : kk * ((q + 1) * (q + 1)) + p < 4800 := by
 have h4 : (q + 1) * (q + 1) ≤ 4 * 4 := Nat.mul_le_mul (by omega) (by omega)
 have h5 : kk * ((q + 1) * (q + 1)) ≤ 299 * ((q + 1) * (q + 1)) := Nat.mul_le_mul_right _ (by omega)
 generalize (q + 1) * (q + 1) = M at *
 omega
set_option maxRecDepth 100000 in
set_option maxHeartbeats 16000000 in
theorem each_run (K : Nat) (caps : Array Value) (T : List Edg → (Nat → Prop) → World → Prop) (hT : TellOk K caps T) (k0 k1 R Q : Int) (q : Nat) (w : World) (F0 : Nat → Prop) (h0 : T [] F0 w) (hk : kindsOk k0 k1) (hr : rangeOk R Q (q : Int)) :
 Calls Tryz.prog 43 #[.agg #[.int .i64 k0, .int .i64 k1, .int .i64 R, .int .i64 Q, .int .i64 (q : Int)], .func (.func K) #[] caps] w fun e w' => EachEnds k0 k1 R Q q T F0 w e w' := by
 have HT := hide hT
 have H0 := hide h0
 have h1 : ∀ w : World, Calls Tryz.prog 65 #[.agg #[.int .i64 k0, .int .i64 k1, .int .i64 R, .int .i64 Q, .int .i64 (q : Int)]] w fun e w' => e = .returned (.tuple #[.agg #[.int .i64 k0, .int .i64 1, .int .i64 (-1), .int .i64 0, .int .i64 0, .int .i64 0, .int .i64 k1, .int .i64 1, .int .i64 (-1), .int .i64 0, .int .i64 0, .int .i64 0, .int .i64 0, .int .i64 0], .int .i64 0]) ∧ Below w.heap.size w w' := fun w => start_ok k0 k1 R Q (q : Int) w hk hr
 have H1 := hide h1
 have HK := hide hk; have HR := hide hr
 have hq3 : q ≤ 3 := by unfold rangeOk at hr; omega
 have hq100 : q ≤ 100 := by omega
 clear hT h0 h1 hk hr
 refine (callsIn_wide (n := 6)).1 ?_
 refine callsIn_of_wp_marks Tryz.func43 rfl trivial ?_ rfl
 simp only [Tryz.ntmps43, List.size_toArray, List.length_cons, List.length_nil, Nat.reduceAdd, Nat.reduceSub, Array.replicate_succ, Array.replicate_zero, List.push_toArray, List.append_toArray, List.nil_append, List.cons_append]
 obtain ⟨S, hS⟩ : ∃ S, w.heap.size = S := ⟨_, rfl⟩
 gi_wp2_with fail
 obtain ⟨W, hW⟩ : ∃ W, W = (((w.alloc (.cells #[.int .i64 k0, .int .i64 k1, .int .i64 R, .int .i64 Q, .int .i64 (q : Int)] 49)).alloc (.cells #[.func (.func K) #[] caps] 93)).alloc (.cells #[.pointer none] 88)).alloc (.cells #[.int .i64 0] 38) := ⟨_, rfl⟩
 rw [← hW]
 have hWB : Below S w W := by rw [hW, ← hS]; exact ((((Below.refl _ _).alloc (Nat.le_refl _) _).alloc (by simp) _).alloc (by simp; omega) _).alloc (by simp; omega) _
 have hWs : W.heap.size = S + 4 := by rw [hW, ← hS]; simp
 refine ⟨trivial, (callsIn_wide.2 (H1.out W)).mono ?_⟩
 rintro e w1 ⟨rfl, hA⟩
 obtain ⟨N, hN⟩ : ∃ N, w1.heap.size = N := ⟨_, rfl⟩
 have hmm := @run_makeMap Tryz.prog
 gi_wp2_with fail
 obtain ⟨X, hX⟩ : ∃ X, X = (((w1.alloc (.cells #[.int .i64 k0, .int .i64 1, .int .i64 (-1), .int .i64 0, .int .i64 0, .int .i64 0, .int .i64 k1, .int .i64 1, .int .i64 (-1), .int .i64 0, .int .i64 0, .int .i64 0, .int .i64 0, .int .i64 0] 133)).alloc (.map #[] 0)).alloc (.cells #[.map (some (N + 1)), .slice none 0 0, .slice none 0 0, .slice none 0 0] 97)).alloc (.cells #[.pointer (some ⟨N + 1 + 1, 0, none⟩)] 88) := ⟨_, rfl⟩
 rw [← hX]
 obtain ⟨hEI, hXs, hSN⟩ := ei_start (RL := [.int .i64 k0, .int .i64 k1, .int .i64 R, .int .i64 Q, .int .i64 (q : Int)]) (s0 := [.int .i64 k0, .int .i64 1, .int .i64 (-1), .int .i64 0, .int .i64 0, .int .i64 0, .int .i64 k1, .int .i64 1, .int .i64 (-1), .int .i64 0, .int .i64 0, .int .i64 0, .int .i64 0, .int .i64 0]) (fv := .func (.func K) #[] caps) HT.out H0.out hS hW hA hN hX
 clear hmm hW hX hWB hWs hA hN
 refine ⟨trivial, (callsIn_wide.2 (find_new (N + 1 + 1) (N + 1) (N + 4) _ _ _ [] [] [] k0 1 (-1) 0 0 0 k1 1 (-1) 0 0 0 0 0 (-1) 0 0 X hEI.sp (gd_start HK.out) (by simp) (by simp) (fun t ht => by simp at ht) (by omega))).mono ?_⟩
 rintro e w2 ⟨rfl, v1, v2, v3, hsp, hsf⟩
 have HEI := hide (hEI.found HT.out hsf hsp)
 have hs2 := hsf.size
 rw [hXs] at hs2
 clear hEI hsp hsf hXs X w1 W H1 H0
 gi_wp2
 refine wpIn_loop_ghost (fun n a W => ∃ (kk KB : Nat) (ds : List Nat) (u31 u32 u33 u34 u35 u36 u37 u38 u39 u40 u41 u75 : Value), n + kk = 301 ∧ Hid (LR k0 k1 R Q q T F0 w S N (.func (.func K) #[] caps) kk KB ds W) ∧ a = { tmps := #[.agg #[.int .i64 k0, .int .i64 k1, .int .i64 R, .int .i64 Q, .int .i64 (q : Int)], .func (.func K) #[] caps, .pointer (some ⟨S, 0, none⟩), .pointer (some ⟨S + 1, 0, none⟩), .pointer (some ⟨S + 1 + 1, 0, none⟩), .pointer (some ⟨S + 1 + 1 + 1, 0, none⟩), .pointer (some ⟨N, 0, none⟩), .int .i64 0, .pointer (some ⟨N + 1 + 1 + 1, 0, none⟩), .pointer (some ⟨KB, 0, none⟩), undef, undef, undef, undef, undef, undef, .tuple #[.agg #[.int .i64 k0, .int .i64 1, .int .i64 (-1), .int .i64 0, .int .i64 0, .int .i64 0, .int .i64 k1, .int .i64 1, .int .i64 (-1), .int .i64 0, .int .i64 0, .int .i64 0, .int .i64 0, .int .i64 0], .int .i64 0], .agg #[.int .i64 k0, .int .i64 k1, .int .i64 R, .int .i64 Q, .int .i64 (q : Int)], .tuple #[.agg #[.int .i64 k0, .int .i64 1, .int .i64 (-1), .int .i64 0, .int .i64 0, .int .i64 0, .int .i64 k1, .int .i64 1, .int .i64 (-1), .int .i64 0, .int .i64 0, .int .i64 0, .int .i64 0, .int .i64 0], .int .i64 0], .agg #[.int .i64 k0, .int .i64 1, .int .i64 (-1), .int .i64 0, .int .i64 0, .int .i64 0, .int .i64 k1, .int .i64 1, .int .i64 (-1), .int .i64 0, .int .i64 0, .int .i64 0, .int .i64 0, .int .i64 0], .int .i64 0, .int .i64 0, .bool false, undef, .map (some (N + 1)), .agg #[.map (some (N + 1)), .slice none 0 0, .slice none 0 0, .slice none 0 0], .pointer (some ⟨N + 1 + 1, 0, none⟩), .pointer (some ⟨N + 1 + 1, 0, none⟩), .agg #[.int .i64 k0, .int .i64 1, .int .i64 (-1), .int .i64 0, .int .i64 0, .int .i64 0, .int .i64 k1, .int .i64 1, .int .i64 (-1), .int .i64 0, .int .i64 0, .int .i64 0, .int .i64 0, .int .i64 0], .agg #[.int .i64 0, .int .i64 0], .tuple #[.int .i64 0, .bool true], u31, u32, u33, u34, u35, u36, u37, u38, u39, u40, u41, undef, undef, undef, undef, undef, undef, undef, undef, undef, undef, undef, undef, undef, undef, undef, undef, undef, undef, undef, undef, undef, undef, undef, undef, undef, undef, undef, undef, undef, undef, undef, undef, undef, u75, undef], defers := ds.map dfr }) 301 ?start ?round
 case start =>
  refine ⟨0, w2.heap.size, [], undef, undef, undef, undef, undef, undef, undef, undef, undef, undef, undef, undef, rfl, hide ⟨v1, v2, v3, F0, HEI.out.alloc HT.out _, rfl, start_good HK.out HR.out, by simp [rnds, rounds], by omega, List.nodup_nil, (fun D hD => by simp at hD), (fun j hj => by omega), by simp; omega⟩, rfl⟩
 case round =>
  clear HEI hs2 w2 v1 v2 v3
  rintro gn a W ⟨kk, KB, ds, u31, u32, u33, u34, u35, u36, u37, u38, u39, u40, u41, u75, hgn, hLR, rfl⟩
  obtain ⟨v1, v2, v3, F, hE, hfull, hok, hel, hkl, hnd, hds, hbef, hNW⟩ := hLR.out
  have hwW := hE.chg.size
  have HE := hide hE
  have HOK := hide hok
  have HFULL := hide hfull
  have HEL := hide hel
  have HBEF := hide hbef
  have HDS := hide hds
  have HND := hide hnd
  obtain ⟨n, hn⟩ : ∃ n, (rnds k0 k1 R Q q kk).states.length = n := ⟨_, rfl⟩
  have HN' := hide hn
  have hn3 : n ≤ 300 := by rw [← hn]; exact hok.most
  have hkn : kk ≤ n := by omega
  obtain ⟨a1, c1, e1⟩ := sliceShape hE.sp.r1
  rw [hn] at e1
  have HE1 := hide e1
  have p1 := hE.sp.c1
  rw [e1] at p1
  have p8 : W.cell? ⟨N + 1 + 1 + 1, 0, none⟩ = some (.pointer (some ⟨N + 1 + 1, 0, none⟩)) := cell_heap (vs := [_]) (hE.tr (N + 1 + 1 + 1, .cells #[.pointer (some ⟨N + 1 + 1, 0, none⟩)] 88 (0, 0)) (by simp [trk, trs])).1 rfl
  have p9 : W.cell? ⟨KB, 0, none⟩ = some (.int .i64 kk) := cell_heap (vs := [_]) (hE.tr (KB, .cells #[.int .i64 kk] 3 (0, 0)) (by simp [trk])).1 rfl
  have BR : Blk W S [.int .i64 k0, .int .i64 k1, .int .i64 R, .int .i64 Q, .int .i64 (q : Int)] := blk_heap (hE.tr (S, .cells [.int .i64 k0, .int .i64 k1, .int .i64 R, .int .i64 Q, .int .i64 (q : Int)].toArray 49 (0, 0)) (by simp [trk, trs])).1
  have kk0 : (0 : Int) ≤ (kk : Int) := Int.natCast_nonneg _
  have HBR := hide BR
  clear hE hok hfull hel hbef hds hnd hn e1 BR hLR hkl
  by_cases hlt : kk < n
  · have hlt' : (kk : Int) < (n : Int) := by omega
    gi_wp2_with fail
    gi_quiet (fail)
    rename_i nq
    obtain ⟨V, hV⟩ : ∃ V, W.drewN nq = V := ⟨_, rfl⟩
    have HEV := hide (HE.out.below HT.out (Go.below_drewN (Below.refl W.heap.size W) nq))
    have BV : Blk V S [.int .i64 k0, .int .i64 k1, .int .i64 R, .int .i64 Q, .int .i64 (q : Int)] := by rw [← hV]; exact HBR.out.below (Go.below_drewN (Below.refl W.heap.size W) nq) HBR.out.lt
    have HVs : Hid (W.heap.size = V.heap.size) := by rw [← hV]; rfl
    rw [hV] at HEV ⊢
    clear hV p1 p8 p9 HBR
    have r_0 := (BV 0 _ rfl).1
    have r_1 := (BV 1 _ rfl).1
    have r_2 := (BV 2 _ rfl).1
    have r_3 := (BV 3 _ rfl).1
    have r_4 := (BV 4 _ rfl).1
    gi_wp2_with fail
    refine ⟨trivial, (draws_in Fence.wide _ trivial rfl k0 k1 R Q (q : Int) V).mono ?_⟩
    rintro e w3 ⟨rfl, rfl⟩
    clear r_0 r_1 r_2 r_3 r_4
    obtain ⟨RB, hRB⟩ : ∃ RB, V.heap.size = RB := ⟨_, rfl⟩
    obtain ⟨X, hX⟩ : ∃ X, X = V.alloc (.cells #[.int .i64 k0, .int .i64 k1, .int .i64 R, .int .i64 Q, .int .i64 (q : Int)] 49) := ⟨_, rfl⟩
    have HEX := hide (HEV.out.alloc HT.out (.cells #[.int .i64 k0, .int .i64 k1, .int .i64 R, .int .i64 Q, .int .i64 (q : Int)] 49 (0, 0)))
    have hRBW : W.heap.size ≤ RB := by rw [← hRB, ← HVs.out]; exact Nat.le_refl _
    have hXs : X.heap.size = RB + 1 := by rw [hX, ← hRB]; simp
    rw [← hX, hRB] at HEX
    rw [← hX]
    clear hX HEV
    have HTR : Hid (∀ p ∈ ((RB, .cells #[.int .i64 k0, .int .i64 k1, .int .i64 R, .int .i64 Q, .int .i64 (q : Int)] 49 (0, 0)) :: (trk KB kk ds ++ trs S (N + 1 + 1 + 1) (N + 1 + 1) [.int .i64 k0, .int .i64 k1, .int .i64 R, .int .i64 Q, .int .i64 (q : Int)] (.func (.func K) #[] caps)) : List (Nat × Obj)), p.2.isCells = false → p.1 < X.heap.size) := hide (fun p hp _ => (Array.getElem?_eq_some_iff.1 (HEX.out.tr p hp).1).1)
    have HTR2 : Hid (∀ p ∈ ((S + 1 + 1 + 1, .cells #[.int .i64 4] 38 (0, 0)) :: (S + 1 + 1, .cells #[.pointer none] 88 (0, 0)) :: dls ds : List (Nat × Obj)), p.2.isCells = false → p.1 < X.heap.size) := hide (fun p hp hpc => by
     simp only [List.mem_cons] at hp
     rcases hp with rfl | rfl | hp
     · cases hpc
     · cases hpc
     · obtain ⟨h4, h5⟩ := dls_mem hp
       exact (Array.getElem?_eq_some_iff.1 (HEX.out.tr (p.1, .deferred (some [])) (by simp only [trk, List.cons_append, List.mem_cons, List.mem_append]; exact .inr (.inr (.inl (mem_dls h4))))).1).1)
    gi_wp2_with fail
    refine wpIn_rangeFunc_ownH (F := Fence.wide) rfl (by omega) (gf := 88) (lb := #[.pointer (some ⟨RB, 0, none⟩)]) rfl trivial (enters_of Tryz.func88 (by kernel_rfl) rfl)
     (draws_stops Fence.wide _ trivial rfl (by omega) RB q hq100 X (by omega) (cell_heap (vs := [.int .i64 k0, .int .i64 k1, .int .i64 R, .int .i64 Q, .int .i64 (q : Int)]) (HEX.out.tr (RB, .cells #[.int .i64 k0, .int .i64 k1, .int .i64 R, .int .i64 Q, .int .i64 (q : Int)] 49 (0, 0)) List.mem_cons_self).1 rfl)) (fun h k => h.trans k) (fun W l o o' => kpD_b (w := X) W l o o') (Below.refl _ _) (fun _ => rfl)
     (RI k0 k1 R Q q T F0 w S N (.func (.func K) #[] caps) kk KB RB ds) (RX k0 k1 R Q q T F0 w S N kk ds) ?own ?ownx ?start (AX q T F0 w N (fun LB xv => #[.agg #[.int .i64 k0, .int .i64 k1, .int .i64 R, .int .i64 Q, .int .i64 (q : Int)], .func (.func K) #[] caps, .pointer (some ⟨S, 0, none⟩), .pointer (some ⟨S + 1, 0, none⟩), .pointer (some ⟨S + 1 + 1, 0, none⟩), .pointer (some ⟨S + 1 + 1 + 1, 0, none⟩), .pointer (some ⟨N, 0, none⟩), .int .i64 0, .pointer (some ⟨N + 1 + 1 + 1, 0, none⟩), .pointer (some ⟨KB, 0, none⟩), .pointer (some ⟨LB, 0, none⟩), undef, undef, undef, undef, undef, .tuple #[.agg #[.int .i64 k0, .int .i64 1, .int .i64 (-1), .int .i64 0, .int .i64 0, .int .i64 0, .int .i64 k1, .int .i64 1, .int .i64 (-1), .int .i64 0, .int .i64 0, .int .i64 0, .int .i64 0, .int .i64 0], .int .i64 0], .agg #[.int .i64 k0, .int .i64 k1, .int .i64 R, .int .i64 Q, .int .i64 (q : Int)], .tuple #[.agg #[.int .i64 k0, .int .i64 1, .int .i64 (-1), .int .i64 0, .int .i64 0, .int .i64 0, .int .i64 k1, .int .i64 1, .int .i64 (-1), .int .i64 0, .int .i64 0, .int .i64 0, .int .i64 0, .int .i64 0], .int .i64 0], .agg #[.int .i64 k0, .int .i64 1, .int .i64 (-1), .int .i64 0, .int .i64 0, .int .i64 0, .int .i64 k1, .int .i64 1, .int .i64 (-1), .int .i64 0, .int .i64 0, .int .i64 0, .int .i64 0, .int .i64 0], .int .i64 0, .int .i64 0, .bool false, undef, .map (some (N + 1)), .agg #[.map (some (N + 1)), .slice none 0 0, .slice none 0 0, .slice none 0 0], .pointer (some ⟨N + 1 + 1, 0, none⟩), .pointer (some ⟨N + 1 + 1, 0, none⟩), .agg #[.int .i64 k0, .int .i64 1, .int .i64 (-1), .int .i64 0, .int .i64 0, .int .i64 0, .int .i64 k1, .int .i64 1, .int .i64 (-1), .int .i64 0, .int .i64 0, .int .i64 0, .int .i64 0, .int .i64 0], .agg #[.int .i64 0, .int .i64 0], .tuple #[.int .i64 0, .bool true], .int .i64 kk, .pointer (some ⟨N + 1 + 1, 0, none⟩), .pointer (some ⟨N + 1 + 1, 0, none⟩), .pointer (some ⟨N + 1 + 1, 1, none⟩), .slice a1 n c1, .int .i64 n, .bool true, u38, u39, .agg #[.int .i64 k0, .int .i64 k1, .int .i64 R, .int .i64 Q, .int .i64 (q : Int)], .func (.func 88) #[] #[.pointer (some ⟨RB, 0, none⟩)], xv, undef, undef, undef, undef, undef, undef, undef, undef, undef, undef, undef, undef, undef, undef, undef, undef, undef, undef, undef, undef, undef, undef, undef, undef, undef, undef, undef, undef, undef, undef, undef, undef, u75, undef])) ?ownax ?assign ?body ?done ?stop
    case own =>
     refine fun pre A A' row hI hg hr => ?_
     obtain ⟨v1, v2, v3, F, hE, hf⟩ := hI
     exact ⟨v1, v2, v3, F, hE.own HT.out hg hr (by omega) (by omega) (HTR.out), hf⟩
    case ownx =>
     refine fun c pre A A' row hI hg hr => ?_
     obtain ⟨hc, hf, v1, v2, v3, F, ss, fr, bys, es, hE⟩ := hI
     exact ⟨hc, hf, v1, v2, v3, F, ss, fr, bys, es, hE.own HT.out hg hr (by omega) (by omega) (HTR2.out)⟩
    case start => exact ⟨v1, v2, v3, F, HEX.out, HFULL.out⟩
    case ownax =>
     refine fun x a' _ A A' row hI hg hr => ?_
     obtain ⟨LB, h1, v1, v2, v3, ss, fr, bys, es, F, hE⟩ := hI
     exact ⟨LB, h1, v1, v2, v3, ss, fr, bys, es, F, hE.own HT.out hg hr (by omega) (by omega) (fun p hp => by simp at hp; subst hp; simp [Obj.isCells])⟩
    case assign =>
     intro l pre x W K hI hK
     obtain ⟨v1, v2, v3, F, hE, hf⟩ := hI
     have HE := hide hE
     have HK := hide hK
     have HF := hide hf
     clear hE hK hf
     simp only [encL]
     gi_wp2
     obtain ⟨LB, hLB⟩ : ∃ LB, W.heap.size = LB := ⟨_, rfl⟩
     obtain ⟨Y, hY⟩ : ∃ Y, Y = W.alloc (.cells #[.int .i64 x.1.x, .int .i64 x.1.y] 47) := ⟨_, rfl⟩
     have hb : Below W.heap.size W Y := by rw [hY]; exact (Below.refl _ _).alloc (Nat.le_refl _) _
     have HEY := HE.out.alloc HT.out (.cells #[.int .i64 x.1.x, .int .i64 x.1.y] 47 (0, 0))
     rw [← hY, hLB] at HEY
     rw [← hY]
     rw [hLB]
     exact HK.out _ _ (KeepsFrom.of_below hb) (fun a v _ hc => by rw [hb.cell (World.block_lt_of_cell? W a hc)]; exact hc) ⟨v1, v2, v3, F, HEY.drop, HF.out⟩ ⟨LB, rfl, v1, v2, v3, _, _, _, _, F, HEY.sub (fun p hp => by simp at hp; subst hp; simp)⟩
    case body =>
     rintro l pre x a' W1 hl hrec hI ⟨LB, rfl, u1, u2, u3, ss', fr', bys', es', G, hE'⟩ hlen
     clear hl hrec
     obtain ⟨v1, v2, v3, F, hE, hfull⟩ := hI
     have hEM := hE.merge HT.out hE'
     clear hE hE'
     obtain ⟨⟨l0, l1⟩, hx⟩ := x
     dsimp only at hx hEM ⊢
     have hokY := walk_ok HOK.out (by rw [HN'.out]; exact hlt) pre
     have hmono := Sx.walk_mono (step := stp k0 k1 R Q q) (rnds k0 k1 R Q q kk) kk (pre.map fun x => x.1)
     have hed := Sx.walk_edges hfull
     obtain ⟨Y, hY⟩ : ∃ Y, (rnds k0 k1 R Q q kk).walk (stp k0 k1 R Q q) kk (pre.map fun x => x.1) = Y := ⟨_, rfl⟩
     rw [hY] at hEM hfull hokY hmono hed
     have HY := hide hY
     have hed2 : Y.edges.length < 4800 := by
      rw [hed, HEL.out, List.length_map]
      exact edges_few (by omega) hq3 hlen
     obtain ⟨m, hm⟩ : ∃ m, Y.states.length = m := ⟨_, rfl⟩
     have hkm : kk < m := by rw [← hm]; have := HN'.out; omega
     have hm3 : m ≤ 300 := by rw [← hm]; exact hokY.most
     obtain ⟨s, hs⟩ : ∃ s, Y.states[kk]? = some s := ⟨_, List.getElem?_eq_getElem (by omega)⟩
     have hsg := hokY.good s (List.mem_of_getElem? hs)
     obtain ⟨a0, a1, a2, a3, a4, a5, a6, a7, a8, a9, a10, a11, a12, a13, rfl⟩ := len14 hsg.2.1
     obtain ⟨c0, c1, c2, c3, c4, c5, c6, c7, c8, c9, c10, c11, c12, c13, x0, x1, x2, x3, x4, x5, hst, hcg, hxr, hcall, _⟩ := stp_calls hx hsg
     obtain ⟨ad, cap, e1', hadl, st_0, st_1, st_2, st_3, st_4, st_5, st_6, st_7, st_8, st_9, st_10, st_11, st_12, st_13⟩ := hEM.sp.stateAt (fun t ht => (hokY.good t ht).2.1) hs
     rw [hm] at e1'
     have p1 := hEM.sp.c1
     rw [e1'] at p1
     have HE1' := hide e1'
     have p8 : W1.cell? ⟨N + 1 + 1 + 1, 0, none⟩ = some (.pointer (some ⟨N + 1 + 1, 0, none⟩)) := cell_heap (vs := [_]) (hEM.tr (N + 1 + 1 + 1, .cells #[.pointer (some ⟨N + 1 + 1, 0, none⟩)] 88 (0, 0)) (by simp [trk, trs])).1 rfl
     have p9 : W1.cell? ⟨KB, 0, none⟩ = some (.int .i64 kk) := cell_heap (vs := [_]) (hEM.tr (KB, .cells #[.int .i64 kk] 3 (0, 0)) (by simp [trk])).1 rfl
     have BR : Blk W1 S [.int .i64 k0, .int .i64 k1, .int .i64 R, .int .i64 Q, .int .i64 (q : Int)] := blk_heap (hEM.tr (S, .cells [.int .i64 k0, .int .i64 k1, .int .i64 R, .int .i64 Q, .int .i64 (q : Int)].toArray 49 (0, 0)) (by simp [trk, trs])).1
     have BL : Blk W1 LB [.int .i64 l0, .int .i64 l1] := blk_heap (hEM.tr (LB, .cells #[.int .i64 l0, .int .i64 l1] 47 (0, 0)) List.mem_cons_self).1
     obtain ⟨V, hV⟩ : ∃ V, W1.drew = V := ⟨_, rfl⟩
     have hVB : Below W1.heap.size W1 V := by rw [← hV]; exact (Below.refl _ _).drew
     have hF0 : (fun w' : World => w'.cell? ⟨S, 0, none⟩ = some (.int .i64 k0) ∧ w'.cell? ⟨S, 1, none⟩ = some (.int .i64 k1) ∧ w'.cell? ⟨S, 2, none⟩ = some (.int .i64 R) ∧ w'.cell? ⟨S, 3, none⟩ = some (.int .i64 Q) ∧ w'.cell? ⟨S, 4, none⟩ = some (.int .i64 (q : Int)) ∧ w'.cell? ⟨N + 1 + 1 + 1, 0, none⟩ = some (.pointer (some ⟨N + 1 + 1, 0, none⟩)) ∧ w'.cell? ⟨N + 1 + 1, 1, none⟩ = some (.slice (some ad) m cap) ∧ w'.cell? ⟨KB, 0, none⟩ = some (.int .i64 kk) ∧ w'.cell? (ad.add (kk * 14)) = some (.int .i64 a0) ∧ w'.cell? (⟨(ad.add (kk * 14)).block, (ad.add (kk * 14)).off + 1, none⟩) = some (.int .i64 a1) ∧ w'.cell? (⟨(ad.add (kk * 14)).block, (ad.add (kk * 14)).off + 2, none⟩) = some (.int .i64 a2) ∧ w'.cell? (⟨(ad.add (kk * 14)).block, (ad.add (kk * 14)).off + 3, none⟩) = some (.int .i64 a3) ∧ w'.cell? (⟨(ad.add (kk * 14)).block, (ad.add (kk * 14)).off + 4, none⟩) = some (.int .i64 a4) ∧ w'.cell? (⟨(ad.add (kk * 14)).block, (ad.add (kk * 14)).off + 5, none⟩) = some (.int .i64 a5) ∧ w'.cell? (⟨(ad.add (kk * 14)).block, (ad.add (kk * 14)).off + 6, none⟩) = some (.int .i64 a6) ∧ w'.cell? (⟨(ad.add (kk * 14)).block, (ad.add (kk * 14)).off + 7, none⟩) = some (.int .i64 a7) ∧ w'.cell? (⟨(ad.add (kk * 14)).block, (ad.add (kk * 14)).off + 8, none⟩) = some (.int .i64 a8) ∧ w'.cell? (⟨(ad.add (kk * 14)).block, (ad.add (kk * 14)).off + 9, none⟩) = some (.int .i64 a9) ∧ w'.cell? (⟨(ad.add (kk * 14)).block, (ad.add (kk * 14)).off + 10, none⟩) = some (.int .i64 a10) ∧ w'.cell? (⟨(ad.add (kk * 14)).block, (ad.add (kk * 14)).off + 11, none⟩) = some (.int .i64 a11) ∧ w'.cell? (⟨(ad.add (kk * 14)).block, (ad.add (kk * 14)).off + 12, none⟩) = some (.int .i64 a12) ∧ w'.cell? (⟨(ad.add (kk * 14)).block, (ad.add (kk * 14)).off + 13, none⟩) = some (.int .i64 a13) ∧ w'.cell? ⟨LB, 0, none⟩ = some (.int .i64 l0) ∧ w'.cell? ⟨LB, 1, none⟩ = some (.int .i64 l1)) V := by
      rw [← hV]
      exact ⟨(BR 0 _ rfl).1, (BR 1 _ rfl).1, (BR 2 _ rfl).1, (BR 3 _ rfl).1, (BR 4 _ rfl).1, p8, p1, p9, st_0, st_1, st_2, st_3, st_4, st_5, st_6, st_7, st_8, st_9, st_10, st_11, st_12, st_13, (BL 0 _ rfl).1, (BL 1 _ rfl).1⟩
     have hF := hide hF0
     have HFB : Hid (∀ u, Below V.heap.size V u → (fun w' : World => w'.cell? ⟨S, 0, none⟩ = some (.int .i64 k0) ∧ w'.cell? ⟨S, 1, none⟩ = some (.int .i64 k1) ∧ w'.cell? ⟨S, 2, none⟩ = some (.int .i64 R) ∧ w'.cell? ⟨S, 3, none⟩ = some (.int .i64 Q) ∧ w'.cell? ⟨S, 4, none⟩ = some (.int .i64 (q : Int)) ∧ w'.cell? ⟨N + 1 + 1 + 1, 0, none⟩ = some (.pointer (some ⟨N + 1 + 1, 0, none⟩)) ∧ w'.cell? ⟨N + 1 + 1, 1, none⟩ = some (.slice (some ad) m cap) ∧ w'.cell? ⟨KB, 0, none⟩ = some (.int .i64 kk) ∧ w'.cell? (ad.add (kk * 14)) = some (.int .i64 a0) ∧ w'.cell? (⟨(ad.add (kk * 14)).block, (ad.add (kk * 14)).off + 1, none⟩) = some (.int .i64 a1) ∧ w'.cell? (⟨(ad.add (kk * 14)).block, (ad.add (kk * 14)).off + 2, none⟩) = some (.int .i64 a2) ∧ w'.cell? (⟨(ad.add (kk * 14)).block, (ad.add (kk * 14)).off + 3, none⟩) = some (.int .i64 a3) ∧ w'.cell? (⟨(ad.add (kk * 14)).block, (ad.add (kk * 14)).off + 4, none⟩) = some (.int .i64 a4) ∧ w'.cell? (⟨(ad.add (kk * 14)).block, (ad.add (kk * 14)).off + 5, none⟩) = some (.int .i64 a5) ∧ w'.cell? (⟨(ad.add (kk * 14)).block, (ad.add (kk * 14)).off + 6, none⟩) = some (.int .i64 a6) ∧ w'.cell? (⟨(ad.add (kk * 14)).block, (ad.add (kk * 14)).off + 7, none⟩) = some (.int .i64 a7) ∧ w'.cell? (⟨(ad.add (kk * 14)).block, (ad.add (kk * 14)).off + 8, none⟩) = some (.int .i64 a8) ∧ w'.cell? (⟨(ad.add (kk * 14)).block, (ad.add (kk * 14)).off + 9, none⟩) = some (.int .i64 a9) ∧ w'.cell? (⟨(ad.add (kk * 14)).block, (ad.add (kk * 14)).off + 10, none⟩) = some (.int .i64 a10) ∧ w'.cell? (⟨(ad.add (kk * 14)).block, (ad.add (kk * 14)).off + 11, none⟩) = some (.int .i64 a11) ∧ w'.cell? (⟨(ad.add (kk * 14)).block, (ad.add (kk * 14)).off + 12, none⟩) = some (.int .i64 a12) ∧ w'.cell? (⟨(ad.add (kk * 14)).block, (ad.add (kk * 14)).off + 13, none⟩) = some (.int .i64 a13) ∧ w'.cell? ⟨LB, 0, none⟩ = some (.int .i64 l0) ∧ w'.cell? ⟨LB, 1, none⟩ = some (.int .i64 l1)) u) := hide (fun u hb => by
      obtain ⟨g0, g1, g2, g3, g4, g5, g6, g7, g8, g9, g10, g11, g12, g13, g14, g15, g16, g17, g18, g19, g20, g21, g22, g23⟩ := hF0
      have k : ∀ {a : Addr} {v : Value}, V.cell? a = some v → u.cell? a = some v := fun {a v} h => (hb.cell (World.block_lt_of_cell? V a h)).trans h
      exact ⟨k g0, k g1, k g2, k g3, k g4, k g5, k g6, k g7, k g8, k g9, k g10, k g11, k g12, k g13, k g14, k g15, k g16, k g17, k g18, k g19, k g20, k g21, k g22, k g23⟩)
     have HEM := hide hEM; have HOKY := hide hokY; have HFY := hide hfull; have HSY := hide hs; have HST := hide hst; have HCG := hide hcg; have HXR := hide hxr; have HC := hide hcall; have HM := hide hm; have HED := hide hed2; have HVB := hide hVB; have HSG := hide hsg
     have HLN := hide hlen
     have kk0 : (0 : Int) ≤ (kk : Int) := Int.natCast_nonneg _
     have hkm' : (kk : Int) < (m : Int) := by omega
     have hV' := hide hV
     clear hEM hokY hfull hs hst hcg hxr hcall hm hed2 hVB hsg hlen hF0 BR BL p1 p8 p9 hed hmono hY e1' hV st_0 st_1 st_2 st_3 st_4 st_5 st_6 st_7 st_8 st_9 st_10 st_11 st_12 st_13
     gi_wp2_with fail
     refine wpIn_region_G 9 (fun w' : World => w'.cell? ⟨S, 0, none⟩ = some (.int .i64 k0) ∧ w'.cell? ⟨S, 1, none⟩ = some (.int .i64 k1) ∧ w'.cell? ⟨S, 2, none⟩ = some (.int .i64 R) ∧ w'.cell? ⟨S, 3, none⟩ = some (.int .i64 Q) ∧ w'.cell? ⟨S, 4, none⟩ = some (.int .i64 (q : Int)) ∧ w'.cell? ⟨N + 1 + 1 + 1, 0, none⟩ = some (.pointer (some ⟨N + 1 + 1, 0, none⟩)) ∧ w'.cell? ⟨N + 1 + 1, 1, none⟩ = some (.slice (some ad) m cap) ∧ w'.cell? ⟨KB, 0, none⟩ = some (.int .i64 kk) ∧ w'.cell? (ad.add (kk * 14)) = some (.int .i64 a0) ∧ w'.cell? (⟨(ad.add (kk * 14)).block, (ad.add (kk * 14)).off + 1, none⟩) = some (.int .i64 a1) ∧ w'.cell? (⟨(ad.add (kk * 14)).block, (ad.add (kk * 14)).off + 2, none⟩) = some (.int .i64 a2) ∧ w'.cell? (⟨(ad.add (kk * 14)).block, (ad.add (kk * 14)).off + 3, none⟩) = some (.int .i64 a3) ∧ w'.cell? (⟨(ad.add (kk * 14)).block, (ad.add (kk * 14)).off + 4, none⟩) = some (.int .i64 a4) ∧ w'.cell? (⟨(ad.add (kk * 14)).block, (ad.add (kk * 14)).off + 5, none⟩) = some (.int .i64 a5) ∧ w'.cell? (⟨(ad.add (kk * 14)).block, (ad.add (kk * 14)).off + 6, none⟩) = some (.int .i64 a6) ∧ w'.cell? (⟨(ad.add (kk * 14)).block, (ad.add (kk * 14)).off + 7, none⟩) = some (.int .i64 a7) ∧ w'.cell? (⟨(ad.add (kk * 14)).block, (ad.add (kk * 14)).off + 8, none⟩) = some (.int .i64 a8) ∧ w'.cell? (⟨(ad.add (kk * 14)).block, (ad.add (kk * 14)).off + 9, none⟩) = some (.int .i64 a9) ∧ w'.cell? (⟨(ad.add (kk * 14)).block, (ad.add (kk * 14)).off + 10, none⟩) = some (.int .i64 a10) ∧ w'.cell? (⟨(ad.add (kk * 14)).block, (ad.add (kk * 14)).off + 11, none⟩) = some (.int .i64 a11) ∧ w'.cell? (⟨(ad.add (kk * 14)).block, (ad.add (kk * 14)).off + 12, none⟩) = some (.int .i64 a12) ∧ w'.cell? (⟨(ad.add (kk * 14)).block, (ad.add (kk * 14)).off + 13, none⟩) = some (.int .i64 a13) ∧ w'.cell? ⟨LB, 0, none⟩ = some (.int .i64 l0) ∧ w'.cell? ⟨LB, 1, none⟩ = some (.int .i64 l1)) (by kernel_rfl) (by kernel_rfl) (fun _ _ h => h) ?_
     rw [hV'.out]
     refine kB 0 hF.out ?_
     refine kB 1 hF.out ?_
     refine kB 2 hF.out ?_
     refine kB 3 hF.out ?_
     refine kB 4 hF.out ?_
     refine kB 5 hF.out ?_
     refine kB 6 hF.out ?_
     refine kB 7 hF.out ?_
     refine kB 8 hF.out ?_
     refine wpAnyG_meet2 (#[true, true, true, true, true, true, true, true, true, true, true, true, true, true, true, true, false, false, false]) 3 (fun a NB OB => ((((((a.put (some 53) (.tuple #[.agg #[.int .i64 c0, .int .i64 c1, .int .i64 c2, .int .i64 c3, .int .i64 c4, .int .i64 c5, .int .i64 c6, .int .i64 c7, .int .i64 c8, .int .i64 c9, .int .i64 c10, .int .i64 c11, .int .i64 c12, .int .i64 c13], .agg #[.int .i64 x0, .int .i64 x1, .int .i64 x2, .int .i64 x3, .int .i64 x4, .int .i64 x5], .int .i64 0])).put (some 43) (.tuple #[.agg #[.int .i64 c0, .int .i64 c1, .int .i64 c2, .int .i64 c3, .int .i64 c4, .int .i64 c5, .int .i64 c6, .int .i64 c7, .int .i64 c8, .int .i64 c9, .int .i64 c10, .int .i64 c11, .int .i64 c12, .int .i64 c13], .agg #[.int .i64 x0, .int .i64 x1, .int .i64 x2, .int .i64 x3, .int .i64 x4, .int .i64 x5], .int .i64 0])).put (some 54) (.agg #[.int .i64 c0, .int .i64 c1, .int .i64 c2, .int .i64 c3, .int .i64 c4, .int .i64 c5, .int .i64 c6, .int .i64 c7, .int .i64 c8, .int .i64 c9, .int .i64 c10, .int .i64 c11, .int .i64 c12, .int .i64 c13])).put (some 55) (.agg #[.int .i64 x0, .int .i64 x1, .int .i64 x2, .int .i64 x3, .int .i64 x4, .int .i64 x5])).put (some 56) (.int .i64 0)).put (some 11) (.pointer (some ⟨NB, 0, none⟩))).put (some 12) (.pointer (some ⟨OB, 0, none⟩))) (TwoNew V (.cells #[.int .i64 0, .int .i64 0, .int .i64 0, .int .i64 0, .int .i64 0, .int .i64 0, .int .i64 0, .int .i64 0, .int .i64 0, .int .i64 0, .int .i64 0, .int .i64 0, .int .i64 0, .int .i64 0] 133 (0, 0)) (.cells #[.int .i64 0, .int .i64 0, .int .i64 0, .int .i64 0, .int .i64 0, .int .i64 0] 92 (0, 0))) ?hc ?hgo
     case hgo =>
      intro hgo
      refine wpAnyG_threeF (i := 9) (j := 14) (k := 15) rfl rfl rfl  (by kernel_rfl) (fun K hK => ?_) (fun K hK => ?_) (fun K hK => ?_)
      · go_simp
        go_wp2_with (go_at_call 68; refine (HC.out _).mono ?_; rintro e y1 ⟨rfl, hA1⟩)
        have b1 : Below V.heap.size V y1 := (Below.refl V.heap.size V).trans (hA1.mono (Below.refl V.heap.size V).size)
        refine hK.out _ _ (HFB.out _ b1) ?_
        clear hK K
        refine kL ?_
        refine kC 10 ?_
        refine kC 11 ?_
        refine kC 12 ?_
        refine kC 13 ?_
        refine wpAnyG_twoF (i := 14) (j := 15) rfl rfl  (by kernel_rfl) (fun K hK => ?_) (fun K hK => ?_)
        · go_simp
          have b2 : Below V.heap.size V (y1.alloc (.cells #[.int .i64 0, .int .i64 0, .int .i64 0, .int .i64 0, .int .i64 0, .int .i64 0, .int .i64 0, .int .i64 0, .int .i64 0, .int .i64 0, .int .i64 0, .int .i64 0, .int .i64 0, .int .i64 0] 133 (0, 0))) := b1.alloc b1.size (.cells #[.int .i64 0, .int .i64 0, .int .i64 0, .int .i64 0, .int .i64 0, .int .i64 0, .int .i64 0, .int .i64 0, .int .i64 0, .int .i64 0, .int .i64 0, .int .i64 0, .int .i64 0, .int .i64 0] 133 (0, 0))
          have hn2 : (y1.alloc (.cells #[.int .i64 0, .int .i64 0, .int .i64 0, .int .i64 0, .int .i64 0, .int .i64 0, .int .i64 0, .int .i64 0, .int .i64 0, .int .i64 0, .int .i64 0, .int .i64 0, .int .i64 0, .int .i64 0] 133 (0, 0))).heap[y1.heap.size]? = some (.cells #[.int .i64 0, .int .i64 0, .int .i64 0, .int .i64 0, .int .i64 0, .int .i64 0, .int .i64 0, .int .i64 0, .int .i64 0, .int .i64 0, .int .i64 0, .int .i64 0, .int .i64 0, .int .i64 0] 133 (0, 0)) := by
           have := heap_new y1 (.cells #[.int .i64 0, .int .i64 0, .int .i64 0, .int .i64 0, .int .i64 0, .int .i64 0, .int .i64 0, .int .i64 0, .int .i64 0, .int .i64 0, .int .i64 0, .int .i64 0, .int .i64 0, .int .i64 0] 133 (0, 0))
           simpa using this
          refine hK.out _ _ (HFB.out _ b2) ?_
          clear hK K
          refine kL ?_
          refine wpAnyG_oneF (i := 15) rfl (by kernel_rfl) (fun K hK => ?_)
          go_simp
          have b3 : Below V.heap.size V ((y1.alloc (.cells #[.int .i64 0, .int .i64 0, .int .i64 0, .int .i64 0, .int .i64 0, .int .i64 0, .int .i64 0, .int .i64 0, .int .i64 0, .int .i64 0, .int .i64 0, .int .i64 0, .int .i64 0, .int .i64 0] 133 (0, 0))).alloc (.cells #[.int .i64 0, .int .i64 0, .int .i64 0, .int .i64 0, .int .i64 0, .int .i64 0] 92 (0, 0))) := b2.alloc b2.size (.cells #[.int .i64 0, .int .i64 0, .int .i64 0, .int .i64 0, .int .i64 0, .int .i64 0] 92 (0, 0))
          have hn3 : ((y1.alloc (.cells #[.int .i64 0, .int .i64 0, .int .i64 0, .int .i64 0, .int .i64 0, .int .i64 0, .int .i64 0, .int .i64 0, .int .i64 0, .int .i64 0, .int .i64 0, .int .i64 0, .int .i64 0, .int .i64 0] 133 (0, 0))).alloc (.cells #[.int .i64 0, .int .i64 0, .int .i64 0, .int .i64 0, .int .i64 0, .int .i64 0] 92 (0, 0))).heap[y1.heap.size + 1]? = some (.cells #[.int .i64 0, .int .i64 0, .int .i64 0, .int .i64 0, .int .i64 0, .int .i64 0] 92 (0, 0)) := by
           have := heap_new (y1.alloc (.cells #[.int .i64 0, .int .i64 0, .int .i64 0, .int .i64 0, .int .i64 0, .int .i64 0, .int .i64 0, .int .i64 0, .int .i64 0, .int .i64 0, .int .i64 0, .int .i64 0, .int .i64 0, .int .i64 0] 133 (0, 0))) (.cells #[.int .i64 0, .int .i64 0, .int .i64 0, .int .i64 0, .int .i64 0, .int .i64 0] 92 (0, 0))
           simpa using this
          have ho3 : ((y1.alloc (.cells #[.int .i64 0, .int .i64 0, .int .i64 0, .int .i64 0, .int .i64 0, .int .i64 0, .int .i64 0, .int .i64 0, .int .i64 0, .int .i64 0, .int .i64 0, .int .i64 0, .int .i64 0, .int .i64 0] 133 (0, 0))).alloc (.cells #[.int .i64 0, .int .i64 0, .int .i64 0, .int .i64 0, .int .i64 0, .int .i64 0] 92 (0, 0))).heap[y1.heap.size]? = some (.cells #[.int .i64 0, .int .i64 0, .int .i64 0, .int .i64 0, .int .i64 0, .int .i64 0, .int .i64 0, .int .i64 0, .int .i64 0, .int .i64 0, .int .i64 0, .int .i64 0, .int .i64 0, .int .i64 0] 133 (0, 0)) := (heap_old _ _ (Array.getElem?_eq_some_iff.1 hn2).1).trans hn2
          have he3 : y1.heap.size ≠ y1.heap.size + 1 := by
           have := (Array.getElem?_eq_some_iff.1 hn2).1
           first | omega | ((try simp at this); omega)
          refine hK.out _ _ (HFB.out _ b3) ?_
          clear hK K
          refine kL ?_
          exact hgo.out _ _ (y1.heap.size) (y1.heap.size + 1) _ (by kernel_rfl) (by kernel_rfl) ⟨b3, (by first | omega | (have := hA1.size; (try simp at this); omega)), (by first | omega | (have := hA1.size; (try simp at this); omega)), he3, ho3, hn3⟩
        · go_simp
          have b4 : Below V.heap.size V (y1.alloc (.cells #[.int .i64 0, .int .i64 0, .int .i64 0, .int .i64 0, .int .i64 0, .int .i64 0] 92 (0, 0))) := b1.alloc b1.size (.cells #[.int .i64 0, .int .i64 0, .int .i64 0, .int .i64 0, .int .i64 0, .int .i64 0] 92 (0, 0))
          have hn4 : (y1.alloc (.cells #[.int .i64 0, .int .i64 0, .int .i64 0, .int .i64 0, .int .i64 0, .int .i64 0] 92 (0, 0))).heap[y1.heap.size]? = some (.cells #[.int .i64 0, .int .i64 0, .int .i64 0, .int .i64 0, .int .i64 0, .int .i64 0] 92 (0, 0)) := by
           have := heap_new y1 (.cells #[.int .i64 0, .int .i64 0, .int .i64 0, .int .i64 0, .int .i64 0, .int .i64 0] 92 (0, 0))
           simpa using this
          refine hK.out _ _ (HFB.out _ b4) ?_
          clear hK K
          refine kL ?_
          refine wpAnyG_oneF (i := 14) rfl (by kernel_rfl) (fun K hK => ?_)
          go_simp
          have b5 : Below V.heap.size V ((y1.alloc (.cells #[.int .i64 0, .int .i64 0, .int .i64 0, .int .i64 0, .int .i64 0, .int .i64 0] 92 (0, 0))).alloc (.cells #[.int .i64 0, .int .i64 0, .int .i64 0, .int .i64 0, .int .i64 0, .int .i64 0, .int .i64 0, .int .i64 0, .int .i64 0, .int .i64 0, .int .i64 0, .int .i64 0, .int .i64 0, .int .i64 0] 133 (0, 0))) := b4.alloc b4.size (.cells #[.int .i64 0, .int .i64 0, .int .i64 0, .int .i64 0, .int .i64 0, .int .i64 0, .int .i64 0, .int .i64 0, .int .i64 0, .int .i64 0, .int .i64 0, .int .i64 0, .int .i64 0, .int .i64 0] 133 (0, 0))
          have hn5 : ((y1.alloc (.cells #[.int .i64 0, .int .i64 0, .int .i64 0, .int .i64 0, .int .i64 0, .int .i64 0] 92 (0, 0))).alloc (.cells #[.int .i64 0, .int .i64 0, .int .i64 0, .int .i64 0, .int .i64 0, .int .i64 0, .int .i64 0, .int .i64 0, .int .i64 0, .int .i64 0, .int .i64 0, .int .i64 0, .int .i64 0, .int .i64 0] 133 (0, 0))).heap[y1.heap.size + 1]? = some (.cells #[.int .i64 0, .int .i64 0, .int .i64 0, .int .i64 0, .int .i64 0, .int .i64 0, .int .i64 0, .int .i64 0, .int .i64 0, .int .i64 0, .int .i64 0, .int .i64 0, .int .i64 0, .int .i64 0] 133 (0, 0)) := by
           have := heap_new (y1.alloc (.cells #[.int .i64 0, .int .i64 0, .int .i64 0, .int .i64 0, .int .i64 0, .int .i64 0] 92 (0, 0))) (.cells #[.int .i64 0, .int .i64 0, .int .i64 0, .int .i64 0, .int .i64 0, .int .i64 0, .int .i64 0, .int .i64 0, .int .i64 0, .int .i64 0, .int .i64 0, .int .i64 0, .int .i64 0, .int .i64 0] 133 (0, 0))
           simpa using this
          have ho5 : ((y1.alloc (.cells #[.int .i64 0, .int .i64 0, .int .i64 0, .int .i64 0, .int .i64 0, .int .i64 0] 92 (0, 0))).alloc (.cells #[.int .i64 0, .int .i64 0, .int .i64 0, .int .i64 0, .int .i64 0, .int .i64 0, .int .i64 0, .int .i64 0, .int .i64 0, .int .i64 0, .int .i64 0, .int .i64 0, .int .i64 0, .int .i64 0] 133 (0, 0))).heap[y1.heap.size]? = some (.cells #[.int .i64 0, .int .i64 0, .int .i64 0, .int .i64 0, .int .i64 0, .int .i64 0] 92 (0, 0)) := (heap_old _ _ (Array.getElem?_eq_some_iff.1 hn4).1).trans hn4
          have he5 : y1.heap.size + 1 ≠ y1.heap.size := by
           have := (Array.getElem?_eq_some_iff.1 hn4).1
           first | omega | ((try simp at this); omega)
          refine hK.out _ _ (HFB.out _ b5) ?_
          clear hK K
          refine kL ?_
          exact hgo.out _ _ (y1.heap.size + 1) (y1.heap.size) _ (by kernel_rfl) (by kernel_rfl) ⟨b5, (by first | omega | (have := hA1.size; (try simp at this); omega)), (by first | omega | (have := hA1.size; (try simp at this); omega)), he5, hn5, ho5⟩
      · go_simp
        have b6 : Below V.heap.size V (V.alloc (.cells #[.int .i64 0, .int .i64 0, .int .i64 0, .int .i64 0, .int .i64 0, .int .i64 0, .int .i64 0, .int .i64 0, .int .i64 0, .int .i64 0, .int .i64 0, .int .i64 0, .int .i64 0, .int .i64 0] 133 (0, 0))) := (Below.refl V.heap.size V).alloc (Below.refl V.heap.size V).size (.cells #[.int .i64 0, .int .i64 0, .int .i64 0, .int .i64 0, .int .i64 0, .int .i64 0, .int .i64 0, .int .i64 0, .int .i64 0, .int .i64 0, .int .i64 0, .int .i64 0, .int .i64 0, .int .i64 0] 133 (0, 0))
        have hn6 : (V.alloc (.cells #[.int .i64 0, .int .i64 0, .int .i64 0, .int .i64 0, .int .i64 0, .int .i64 0, .int .i64 0, .int .i64 0, .int .i64 0, .int .i64 0, .int .i64 0, .int .i64 0, .int .i64 0, .int .i64 0] 133 (0, 0))).heap[V.heap.size]? = some (.cells #[.int .i64 0, .int .i64 0, .int .i64 0, .int .i64 0, .int .i64 0, .int .i64 0, .int .i64 0, .int .i64 0, .int .i64 0, .int .i64 0, .int .i64 0, .int .i64 0, .int .i64 0, .int .i64 0] 133 (0, 0)) := by
         have := heap_new V (.cells #[.int .i64 0, .int .i64 0, .int .i64 0, .int .i64 0, .int .i64 0, .int .i64 0, .int .i64 0, .int .i64 0, .int .i64 0, .int .i64 0, .int .i64 0, .int .i64 0, .int .i64 0, .int .i64 0] 133 (0, 0))
         simpa using this
        refine hK.out _ _ (HFB.out _ b6) ?_
        clear hK K
        refine kL ?_
        refine wpAnyG_twoF (i := 9) (j := 15) rfl rfl  (by kernel_rfl) (fun K hK => ?_) (fun K hK => ?_)
        · go_simp
          go_wp2_with (go_at_call 68; refine (HC.out _).mono ?_; rintro e y7 ⟨rfl, hA7⟩)
          have b7 : Below V.heap.size V y7 := b6.trans (hA7.mono b6.size)
          have hn7 : y7.heap[V.heap.size]? = some (.cells #[.int .i64 0, .int .i64 0, .int .i64 0, .int .i64 0, .int .i64 0, .int .i64 0, .int .i64 0, .int .i64 0, .int .i64 0, .int .i64 0, .int .i64 0, .int .i64 0, .int .i64 0, .int .i64 0] 133 (0, 0)) := (hA7.block _ (Array.getElem?_eq_some_iff.1 hn6).1).trans hn6
          refine hK.out _ _ (HFB.out _ b7) ?_
          clear hK K
          refine kL ?_
          refine kC 10 ?_
          refine kC 11 ?_
          refine kC 12 ?_
          refine kC 13 ?_
          refine wpAnyG_oneF (i := 15) rfl (by kernel_rfl) (fun K hK => ?_)
          go_simp
          have b8 : Below V.heap.size V (y7.alloc (.cells #[.int .i64 0, .int .i64 0, .int .i64 0, .int .i64 0, .int .i64 0, .int .i64 0] 92 (0, 0))) := b7.alloc b7.size (.cells #[.int .i64 0, .int .i64 0, .int .i64 0, .int .i64 0, .int .i64 0, .int .i64 0] 92 (0, 0))
          have hn8 : (y7.alloc (.cells #[.int .i64 0, .int .i64 0, .int .i64 0, .int .i64 0, .int .i64 0, .int .i64 0] 92 (0, 0))).heap[y7.heap.size]? = some (.cells #[.int .i64 0, .int .i64 0, .int .i64 0, .int .i64 0, .int .i64 0, .int .i64 0] 92 (0, 0)) := by
           have := heap_new y7 (.cells #[.int .i64 0, .int .i64 0, .int .i64 0, .int .i64 0, .int .i64 0, .int .i64 0] 92 (0, 0))
           simpa using this
          have ho8 : (y7.alloc (.cells #[.int .i64 0, .int .i64 0, .int .i64 0, .int .i64 0, .int .i64 0, .int .i64 0] 92 (0, 0))).heap[V.heap.size]? = some (.cells #[.int .i64 0, .int .i64 0, .int .i64 0, .int .i64 0, .int .i64 0, .int .i64 0, .int .i64 0, .int .i64 0, .int .i64 0, .int .i64 0, .int .i64 0, .int .i64 0, .int .i64 0, .int .i64 0] 133 (0, 0)) := (heap_old _ _ (Array.getElem?_eq_some_iff.1 hn7).1).trans hn7
          have he8 : V.heap.size ≠ y7.heap.size := by
           have := (Array.getElem?_eq_some_iff.1 hn7).1
           first | omega | ((try simp at this); omega)
          refine hK.out _ _ (HFB.out _ b8) ?_
          clear hK K
          refine kL ?_
          exact hgo.out _ _ (V.heap.size) (y7.heap.size) _ (by kernel_rfl) (by kernel_rfl) ⟨b8, (by first | omega | (have := hA7.size; (try simp at this); omega)), (by first | omega | (have := hA7.size; (try simp at this); omega)), he8, ho8, hn8⟩
        · go_simp
          have b9 : Below V.heap.size V ((V.alloc (.cells #[.int .i64 0, .int .i64 0, .int .i64 0, .int .i64 0, .int .i64 0, .int .i64 0, .int .i64 0, .int .i64 0, .int .i64 0, .int .i64 0, .int .i64 0, .int .i64 0, .int .i64 0, .int .i64 0] 133 (0, 0))).alloc (.cells #[.int .i64 0, .int .i64 0, .int .i64 0, .int .i64 0, .int .i64 0, .int .i64 0] 92 (0, 0))) := b6.alloc b6.size (.cells #[.int .i64 0, .int .i64 0, .int .i64 0, .int .i64 0, .int .i64 0, .int .i64 0] 92 (0, 0))
          have hn9 : ((V.alloc (.cells #[.int .i64 0, .int .i64 0, .int .i64 0, .int .i64 0, .int .i64 0, .int .i64 0, .int .i64 0, .int .i64 0, .int .i64 0, .int .i64 0, .int .i64 0, .int .i64 0, .int .i64 0, .int .i64 0] 133 (0, 0))).alloc (.cells #[.int .i64 0, .int .i64 0, .int .i64 0, .int .i64 0, .int .i64 0, .int .i64 0] 92 (0, 0))).heap[V.heap.size + 1]? = some (.cells #[.int .i64 0, .int .i64 0, .int .i64 0, .int .i64 0, .int .i64 0, .int .i64 0] 92 (0, 0)) := by
           have := heap_new (V.alloc (.cells #[.int .i64 0, .int .i64 0, .int .i64 0, .int .i64 0, .int .i64 0, .int .i64 0, .int .i64 0, .int .i64 0, .int .i64 0, .int .i64 0, .int .i64 0, .int .i64 0, .int .i64 0, .int .i64 0] 133 (0, 0))) (.cells #[.int .i64 0, .int .i64 0, .int .i64 0, .int .i64 0, .int .i64 0, .int .i64 0] 92 (0, 0))
           simpa using this
          have ho9 : ((V.alloc (.cells #[.int .i64 0, .int .i64 0, .int .i64 0, .int .i64 0, .int .i64 0, .int .i64 0, .int .i64 0, .int .i64 0, .int .i64 0, .int .i64 0, .int .i64 0, .int .i64 0, .int .i64 0, .int .i64 0] 133 (0, 0))).alloc (.cells #[.int .i64 0, .int .i64 0, .int .i64 0, .int .i64 0, .int .i64 0, .int .i64 0] 92 (0, 0))).heap[V.heap.size]? = some (.cells #[.int .i64 0, .int .i64 0, .int .i64 0, .int .i64 0, .int .i64 0, .int .i64 0, .int .i64 0, .int .i64 0, .int .i64 0, .int .i64 0, .int .i64 0, .int .i64 0, .int .i64 0, .int .i64 0] 133 (0, 0)) := (heap_old _ _ (Array.getElem?_eq_some_iff.1 hn6).1).trans hn6
          have he9 : V.heap.size ≠ V.heap.size + 1 := by
           have := (Array.getElem?_eq_some_iff.1 hn6).1
           first | omega | ((try simp at this); omega)
          refine hK.out _ _ (HFB.out _ b9) ?_
          clear hK K
          refine kL ?_
          refine wpAnyG_oneF (i := 9) rfl (by kernel_rfl) (fun K hK => ?_)
          go_simp
          go_wp2_with (go_at_call 68; refine (HC.out _).mono ?_; rintro e y10 ⟨rfl, hA10⟩)
          have b10 : Below V.heap.size V y10 := b9.trans (hA10.mono b9.size)
          have hn10 : y10.heap[V.heap.size]? = some (.cells #[.int .i64 0, .int .i64 0, .int .i64 0, .int .i64 0, .int .i64 0, .int .i64 0, .int .i64 0, .int .i64 0, .int .i64 0, .int .i64 0, .int .i64 0, .int .i64 0, .int .i64 0, .int .i64 0] 133 (0, 0)) := (hA10.block _ (Array.getElem?_eq_some_iff.1 ho9).1).trans ho9
          have ho10 : y10.heap[V.heap.size + 1]? = some (.cells #[.int .i64 0, .int .i64 0, .int .i64 0, .int .i64 0, .int .i64 0, .int .i64 0] 92 (0, 0)) := (hA10.block _ (Array.getElem?_eq_some_iff.1 hn9).1).trans hn9
          refine hK.out _ _ (HFB.out _ b10) ?_
          clear hK K
          refine kL ?_
          refine kC 10 ?_
          refine kC 11 ?_
          refine kC 12 ?_
          refine kC 13 ?_
          exact hgo.out _ _ (V.heap.size) (V.heap.size + 1) _ (by kernel_rfl) (by kernel_rfl) ⟨b10, (by first | omega | (have := hA10.size; (try simp at this); omega)), (by first | omega | (have := hA10.size; (try simp at this); omega)), he9, hn10, ho10⟩
      · go_simp
        have b11 : Below V.heap.size V (V.alloc (.cells #[.int .i64 0, .int .i64 0, .int .i64 0, .int .i64 0, .int .i64 0, .int .i64 0] 92 (0, 0))) := (Below.refl V.heap.size V).alloc (Below.refl V.heap.size V).size (.cells #[.int .i64 0, .int .i64 0, .int .i64 0, .int .i64 0, .int .i64 0, .int .i64 0] 92 (0, 0))
        have hn11 : (V.alloc (.cells #[.int .i64 0, .int .i64 0, .int .i64 0, .int .i64 0, .int .i64 0, .int .i64 0] 92 (0, 0))).heap[V.heap.size]? = some (.cells #[.int .i64 0, .int .i64 0, .int .i64 0, .int .i64 0, .int .i64 0, .int .i64 0] 92 (0, 0)) := by
         have := heap_new V (.cells #[.int .i64 0, .int .i64 0, .int .i64 0, .int .i64 0, .int .i64 0, .int .i64 0] 92 (0, 0))
         simpa using this
        refine hK.out _ _ (HFB.out _ b11) ?_
        clear hK K
        refine kL ?_
        refine wpAnyG_twoF (i := 9) (j := 14) rfl rfl  (by kernel_rfl) (fun K hK => ?_) (fun K hK => ?_)
        · go_simp
          go_wp2_with (go_at_call 68; refine (HC.out _).mono ?_; rintro e y12 ⟨rfl, hA12⟩)
          have b12 : Below V.heap.size V y12 := b11.trans (hA12.mono b11.size)
          have ho12 : y12.heap[V.heap.size]? = some (.cells #[.int .i64 0, .int .i64 0, .int .i64 0, .int .i64 0, .int .i64 0, .int .i64 0] 92 (0, 0)) := (hA12.block _ (Array.getElem?_eq_some_iff.1 hn11).1).trans hn11
          refine hK.out _ _ (HFB.out _ b12) ?_
          clear hK K
          refine kL ?_
          refine kC 10 ?_
          refine kC 11 ?_
          refine kC 12 ?_
          refine kC 13 ?_
          refine wpAnyG_oneF (i := 14) rfl (by kernel_rfl) (fun K hK => ?_)
          go_simp
          have b13 : Below V.heap.size V (y12.alloc (.cells #[.int .i64 0, .int .i64 0, .int .i64 0, .int .i64 0, .int .i64 0, .int .i64 0, .int .i64 0, .int .i64 0, .int .i64 0, .int .i64 0, .int .i64 0, .int .i64 0, .int .i64 0, .int .i64 0] 133 (0, 0))) := b12.alloc b12.size (.cells #[.int .i64 0, .int .i64 0, .int .i64 0, .int .i64 0, .int .i64 0, .int .i64 0, .int .i64 0, .int .i64 0, .int .i64 0, .int .i64 0, .int .i64 0, .int .i64 0, .int .i64 0, .int .i64 0] 133 (0, 0))
          have hn13 : (y12.alloc (.cells #[.int .i64 0, .int .i64 0, .int .i64 0, .int .i64 0, .int .i64 0, .int .i64 0, .int .i64 0, .int .i64 0, .int .i64 0, .int .i64 0, .int .i64 0, .int .i64 0, .int .i64 0, .int .i64 0] 133 (0, 0))).heap[y12.heap.size]? = some (.cells #[.int .i64 0, .int .i64 0, .int .i64 0, .int .i64 0, .int .i64 0, .int .i64 0, .int .i64 0, .int .i64 0, .int .i64 0, .int .i64 0, .int .i64 0, .int .i64 0, .int .i64 0, .int .i64 0] 133 (0, 0)) := by
           have := heap_new y12 (.cells #[.int .i64 0, .int .i64 0, .int .i64 0, .int .i64 0, .int .i64 0, .int .i64 0, .int .i64 0, .int .i64 0, .int .i64 0, .int .i64 0, .int .i64 0, .int .i64 0, .int .i64 0, .int .i64 0] 133 (0, 0))
           simpa using this
          have ho13 : (y12.alloc (.cells #[.int .i64 0, .int .i64 0, .int .i64 0, .int .i64 0, .int .i64 0, .int .i64 0, .int .i64 0, .int .i64 0, .int .i64 0, .int .i64 0, .int .i64 0, .int .i64 0, .int .i64 0, .int .i64 0] 133 (0, 0))).heap[V.heap.size]? = some (.cells #[.int .i64 0, .int .i64 0, .int .i64 0, .int .i64 0, .int .i64 0, .int .i64 0] 92 (0, 0)) := (heap_old _ _ (Array.getElem?_eq_some_iff.1 ho12).1).trans ho12
          have he13 : y12.heap.size ≠ V.heap.size := by
           have := (Array.getElem?_eq_some_iff.1 ho12).1
           first | omega | ((try simp at this); omega)
          refine hK.out _ _ (HFB.out _ b13) ?_
          clear hK K
          refine kL ?_
          exact hgo.out _ _ (y12.heap.size) (V.heap.size) _ (by kernel_rfl) (by kernel_rfl) ⟨b13, (by first | omega | (have := hA12.size; (try simp at this); omega)), (by first | omega | (have := hA12.size; (try simp at this); omega)), he13, hn13, ho13⟩
        · go_simp
          have b14 : Below V.heap.size V ((V.alloc (.cells #[.int .i64 0, .int .i64 0, .int .i64 0, .int .i64 0, .int .i64 0, .int .i64 0] 92 (0, 0))).alloc (.cells #[.int .i64 0, .int .i64 0, .int .i64 0, .int .i64 0, .int .i64 0, .int .i64 0, .int .i64 0, .int .i64 0, .int .i64 0, .int .i64 0, .int .i64 0, .int .i64 0, .int .i64 0, .int .i64 0] 133 (0, 0))) := b11.alloc b11.size (.cells #[.int .i64 0, .int .i64 0, .int .i64 0, .int .i64 0, .int .i64 0, .int .i64 0, .int .i64 0, .int .i64 0, .int .i64 0, .int .i64 0, .int .i64 0, .int .i64 0, .int .i64 0, .int .i64 0] 133 (0, 0))
          have hn14 : ((V.alloc (.cells #[.int .i64 0, .int .i64 0, .int .i64 0, .int .i64 0, .int .i64 0, .int .i64 0] 92 (0, 0))).alloc (.cells #[.int .i64 0, .int .i64 0, .int .i64 0, .int .i64 0, .int .i64 0, .int .i64 0, .int .i64 0, .int .i64 0, .int .i64 0, .int .i64 0, .int .i64 0, .int .i64 0, .int .i64 0, .int .i64 0] 133 (0, 0))).heap[V.heap.size + 1]? = some (.cells #[.int .i64 0, .int .i64 0, .int .i64 0, .int .i64 0, .int .i64 0, .int .i64 0, .int .i64 0, .int .i64 0, .int .i64 0, .int .i64 0, .int .i64 0, .int .i64 0, .int .i64 0, .int .i64 0] 133 (0, 0)) := by
           have := heap_new (V.alloc (.cells #[.int .i64 0, .int .i64 0, .int .i64 0, .int .i64 0, .int .i64 0, .int .i64 0] 92 (0, 0))) (.cells #[.int .i64 0, .int .i64 0, .int .i64 0, .int .i64 0, .int .i64 0, .int .i64 0, .int .i64 0, .int .i64 0, .int .i64 0, .int .i64 0, .int .i64 0, .int .i64 0, .int .i64 0, .int .i64 0] 133 (0, 0))
           simpa using this
          have ho14 : ((V.alloc (.cells #[.int .i64 0, .int .i64 0, .int .i64 0, .int .i64 0, .int .i64 0, .int .i64 0] 92 (0, 0))).alloc (.cells #[.int .i64 0, .int .i64 0, .int .i64 0, .int .i64 0, .int .i64 0, .int .i64 0, .int .i64 0, .int .i64 0, .int .i64 0, .int .i64 0, .int .i64 0, .int .i64 0, .int .i64 0, .int .i64 0] 133 (0, 0))).heap[V.heap.size]? = some (.cells #[.int .i64 0, .int .i64 0, .int .i64 0, .int .i64 0, .int .i64 0, .int .i64 0] 92 (0, 0)) := (heap_old _ _ (Array.getElem?_eq_some_iff.1 hn11).1).trans hn11
          have he14 : V.heap.size + 1 ≠ V.heap.size := by
           have := (Array.getElem?_eq_some_iff.1 hn11).1
           first | omega | ((try simp at this); omega)
          refine hK.out _ _ (HFB.out _ b14) ?_
          clear hK K
          refine kL ?_
          refine wpAnyG_oneF (i := 9) rfl (by kernel_rfl) (fun K hK => ?_)
          go_simp
          go_wp2_with (go_at_call 68; refine (HC.out _).mono ?_; rintro e y15 ⟨rfl, hA15⟩)
          have b15 : Below V.heap.size V y15 := b14.trans (hA15.mono b14.size)
          have hn15 : y15.heap[V.heap.size + 1]? = some (.cells #[.int .i64 0, .int .i64 0, .int .i64 0, .int .i64 0, .int .i64 0, .int .i64 0, .int .i64 0, .int .i64 0, .int .i64 0, .int .i64 0, .int .i64 0, .int .i64 0, .int .i64 0, .int .i64 0] 133 (0, 0)) := (hA15.block _ (Array.getElem?_eq_some_iff.1 hn14).1).trans hn14
          have ho15 : y15.heap[V.heap.size]? = some (.cells #[.int .i64 0, .int .i64 0, .int .i64 0, .int .i64 0, .int .i64 0, .int .i64 0] 92 (0, 0)) := (hA15.block _ (Array.getElem?_eq_some_iff.1 ho14).1).trans ho14
          refine hK.out _ _ (HFB.out _ b15) ?_
          clear hK K
          refine kL ?_
          refine kC 10 ?_
          refine kC 11 ?_
          refine kC 12 ?_
          refine kC 13 ?_
          exact hgo.out _ _ (V.heap.size + 1) (V.heap.size) _ (by kernel_rfl) (by kernel_rfl) ⟨b15, (by first | omega | (have := hA15.size; (try simp at this); omega)), (by first | omega | (have := hA15.size; (try simp at this); omega)), he14, hn15, ho15⟩
     case hc =>
      intro NB OB W2 hTN
      have dq : ¬ NB = OB := hTN.ne
      have dr : ¬ OB = NB := fun e => hTN.ne e.symm
      have BN : Blk W2 NB [.int .i64 0, .int .i64 0, .int .i64 0, .int .i64 0, .int .i64 0, .int .i64 0, .int .i64 0, .int .i64 0, .int .i64 0, .int .i64 0, .int .i64 0, .int .i64 0, .int .i64 0, .int .i64 0] := blk_heap hTN.h1
      have BO : Blk W2 OB [.int .i64 0, .int .i64 0, .int .i64 0, .int .i64 0, .int .i64 0, .int .i64 0] := blk_heap hTN.h2
      have n_0 := (BN 0 _ rfl).1
      have n_f0 := (BN 0 _ rfl).2
      have n_1 := (BN 1 _ rfl).1
      have n_f1 := (BN 1 _ rfl).2
      have n_2 := (BN 2 _ rfl).1
      have n_f2 := (BN 2 _ rfl).2
      have n_3 := (BN 3 _ rfl).1
      have n_f3 := (BN 3 _ rfl).2
      have n_4 := (BN 4 _ rfl).1
      have n_f4 := (BN 4 _ rfl).2
      have n_5 := (BN 5 _ rfl).1
      have n_f5 := (BN 5 _ rfl).2
      have n_6 := (BN 6 _ rfl).1
      have n_f6 := (BN 6 _ rfl).2
      have n_7 := (BN 7 _ rfl).1
      have n_f7 := (BN 7 _ rfl).2
      have n_8 := (BN 8 _ rfl).1
      have n_f8 := (BN 8 _ rfl).2
      have n_9 := (BN 9 _ rfl).1
      have n_f9 := (BN 9 _ rfl).2
      have n_10 := (BN 10 _ rfl).1
      have n_f10 := (BN 10 _ rfl).2
      have n_11 := (BN 11 _ rfl).1
      have n_f11 := (BN 11 _ rfl).2
      have n_12 := (BN 12 _ rfl).1
      have n_f12 := (BN 12 _ rfl).2
      have n_13 := (BN 13 _ rfl).1
      have n_f13 := (BN 13 _ rfl).2
      have o_0 := (BO 0 _ rfl).1
      have o_f0 := (BO 0 _ rfl).2
      have o_1 := (BO 1 _ rfl).1
      have o_f1 := (BO 1 _ rfl).2
      have o_2 := (BO 2 _ rfl).1
      have o_f2 := (BO 2 _ rfl).2
      have o_3 := (BO 3 _ rfl).1
      have o_f3 := (BO 3 _ rfl).2
      have o_4 := (BO 4 _ rfl).1
      have o_f4 := (BO 4 _ rfl).2
      have o_5 := (BO 5 _ rfl).1
      have o_f5 := (BO 5 _ rfl).2
      have HTN := hide hTN
      clear hTN BN BO hF HFB HC
      refine kL ?_
      refine wpAnyG_one (i := 16) rfl (by kernel_rfl) (by kernel_rfl) (fun K hK => ?_)
      go_simp
      refine hK.out _ _ ?_
      clear hK K
      refine kL ?_
      refine wpAnyG_one (i := 17) rfl (by kernel_rfl) (by kernel_rfl) (fun K hK => ?_)
      go_simp
      refine hK.out _ _ ?_
      clear hK K
      refine kL ?_
      refine wpAnyG_one (i := 18) rfl (by kernel_rfl) (by kernel_rfl) (fun K hK => ?_)
      go_simp
      refine hK.out _ _ ?_
      clear hK K
      refine kL ?_
      refine wpAnyG_done (by kernel_rfl) ?_ _
      obtain ⟨Z, hZ⟩ : ∃ Z, Z = ((((((((((((((((((((W2.setCell ⟨NB, 0, none⟩ (.int .i64 c0)).setCell ⟨NB, 1, none⟩ (.int .i64 c1)).setCell ⟨NB, 2, none⟩ (.int .i64 c2)).setCell ⟨NB, 3, none⟩ (.int .i64 c3)).setCell ⟨NB, 4, none⟩ (.int .i64 c4)).setCell ⟨NB, 5, none⟩ (.int .i64 c5)).setCell ⟨NB, 6, none⟩ (.int .i64 c6)).setCell ⟨NB, 7, none⟩ (.int .i64 c7)).setCell ⟨NB, 8, none⟩ (.int .i64 c8)).setCell ⟨NB, 9, none⟩ (.int .i64 c9)).setCell ⟨NB, 10, none⟩ (.int .i64 c10)).setCell ⟨NB, 11, none⟩ (.int .i64 c11)).setCell ⟨NB, 12, none⟩ (.int .i64 c12)).setCell ⟨NB, 13, none⟩ (.int .i64 c13)).setCell ⟨OB, 0, none⟩ (.int .i64 x0)).setCell ⟨OB, 1, none⟩ (.int .i64 x1)).setCell ⟨OB, 2, none⟩ (.int .i64 x2)).setCell ⟨OB, 3, none⟩ (.int .i64 x3)).setCell ⟨OB, 4, none⟩ (.int .i64 x4)).setCell ⟨OB, 5, none⟩ (.int .i64 x5)) := ⟨_, rfl⟩
      rw [← hZ]
      have HEZ := hide (HEM.out.two HT.out HVB.out HTN.out hZ)
      have HCZ := hide (two_chg HVB.out HTN.out hZ)
      have hBZ : N + 4 ≤ Z.heap.size := by have := (Array.getElem?_eq_some_iff.1 (HEZ.out.tr (RB, .cells #[.int .i64 k0, .int .i64 k1, .int .i64 R, .int .i64 Q, .int .i64 (q : Int)] 49 (0, 0)) (by simp)).1).1; omega
      clear hZ HTN n_0 n_f0 n_1 n_f1 n_2 n_f2 n_3 n_f3 n_4 n_f4 n_5 n_f5 n_6 n_f6 n_7 n_f7 n_8 n_f8 n_9 n_f9 n_10 n_f10 n_11 n_f11 n_12 n_f12 n_13 n_f13 o_0 o_f0 o_1 o_f1 o_2 o_f2 o_3 o_f3 o_4 o_f4 o_5 o_f5
      have BN : Blk Z NB [.int .i64 c0, .int .i64 c1, .int .i64 c2, .int .i64 c3, .int .i64 c4, .int .i64 c5, .int .i64 c6, .int .i64 c7, .int .i64 c8, .int .i64 c9, .int .i64 c10, .int .i64 c11, .int .i64 c12, .int .i64 c13] := blk_heap (HEZ.out.tr (NB, .cells #[.int .i64 c0, .int .i64 c1, .int .i64 c2, .int .i64 c3, .int .i64 c4, .int .i64 c5, .int .i64 c6, .int .i64 c7, .int .i64 c8, .int .i64 c9, .int .i64 c10, .int .i64 c11, .int .i64 c12, .int .i64 c13] 133 (0, 0)) (by simp)).1
      have BL : Blk Z LB [.int .i64 l0, .int .i64 l1] := blk_heap (HEZ.out.tr (LB, .cells #[.int .i64 l0, .int .i64 l1] 47 (0, 0)) (by simp)).1
      have p8 : Z.cell? ⟨N + 1 + 1 + 1, 0, none⟩ = some (.pointer (some ⟨N + 1 + 1, 0, none⟩)) := cell_heap (vs := [_]) (HEZ.out.tr (N + 1 + 1 + 1, .cells #[.pointer (some ⟨N + 1 + 1, 0, none⟩)] 88 (0, 0)) (by simp [trk, trs])).1 rfl
      have p9 : Z.cell? ⟨KB, 0, none⟩ = some (.int .i64 kk) := cell_heap (vs := [_]) (HEZ.out.tr (KB, .cells #[.int .i64 kk] 3 (0, 0)) (by simp [trk])).1 rfl
      have n_0 := (BN 0 _ rfl).1
      have n_1 := (BN 1 _ rfl).1
      have n_2 := (BN 2 _ rfl).1
      have n_3 := (BN 3 _ rfl).1
      have n_4 := (BN 4 _ rfl).1
      have n_5 := (BN 5 _ rfl).1
      have n_6 := (BN 6 _ rfl).1
      have n_7 := (BN 7 _ rfl).1
      have n_8 := (BN 8 _ rfl).1
      have n_9 := (BN 9 _ rfl).1
      have n_10 := (BN 10 _ rfl).1
      have n_11 := (BN 11 _ rfl).1
      have n_12 := (BN 12 _ rfl).1
      have n_13 := (BN 13 _ rfl).1
      have l_0 := (BL 0 _ rfl).1
      have l_1 := (BL 1 _ rfl).1
      clear BN BL
      gi_wp2_with fail
      clear n_0 n_1 n_2 n_3 n_4 n_5 n_6 n_7 n_8 n_9 n_10 n_11 n_12 n_13 l_0 l_1 p8 p9
      by_cases hmem : [c0, c1, c2, c3, c4, c5, c6, c7, c8, c9, c10, c11, c12, c13] ∈ Y.states
      · obtain ⟨i, hi⟩ := List.mem_iff_getElem?.1 hmem
        have hil : i < m := by have := (List.getElem?_eq_some_iff.1 hi).1; have := HM.out; omega
        have HGO := hide (Sx.go_old HFY.out HSY.out HST.out hi HOKY.out.nodup)
        refine ⟨trivial, ((callsIn_wide.2 (find_old (N + 1 + 1) (N + 1) (N + 4) _ _ _ _ _ _ c0 c1 c2 c3 c4 c5 c6 c7 c8 c9 c10 c11 c12 c13 (kk : Int) l0 l1 Z HEZ.out.sp HCG.out.2 i hi)).inRound l).mono ?_⟩
        rintro e w3 ⟨rfl, hb3⟩
        have HE3 := hide (HEZ.out.below HT.out hb3)
        have HC3 : Hid (Chg Z w3 (Foot (N + 1 + 1) (N + 1) v1 v2 v3)) := hide (Chg.of_below hb3)
        clear hi hmem hb3
        have BO : Blk w3 OB [.int .i64 x0, .int .i64 x1, .int .i64 x2, .int .i64 x3, .int .i64 x4, .int .i64 x5] := blk_heap (HE3.out.tr (OB, .cells #[.int .i64 x0, .int .i64 x1, .int .i64 x2, .int .i64 x3, .int .i64 x4, .int .i64 x5] 92 (0, 0)) List.mem_cons_self).1
        have p9 : w3.cell? ⟨KB, 0, none⟩ = some (.int .i64 kk) := cell_heap (vs := [_]) (HE3.out.tr (KB, .cells #[.int .i64 kk] 3 (0, 0)) (by simp [trk])).1 rfl
        have q1 : w3.cell? ⟨S + 1, 0, none⟩ = some (.func (.func K) #[] caps) := cell_heap (vs := [_]) (HE3.out.tr (S + 1, .cells #[.func (.func K) #[] caps] 93 (0, 0)) (by simp [trk, trs])).1 rfl
        have hEnt : ∀ (args : Array Value) (w : World), (callFunc K args).run Tryz.prog w = .ok (.enter K args) w := HT.out.enters
        have o_0 := (BO 0 _ rfl).1
        have o_1 := (BO 1 _ rfl).1
        have o_2 := (BO 2 _ rfl).1
        have o_3 := (BO 3 _ rfl).1
        have o_4 := (BO 4 _ rfl).1
        have o_5 := (BO 5 _ rfl).1
        clear BO
        gi_wp2_with fail
        refine ⟨trivial, ((callsIn_wide.2 (HT.out.run kk i ⟨l0, l1⟩ x0 x1 x2 x3 x4 x5 HE3.out.tl HED.out (by omega) (by omega) HXR.out)).inRound l).mono ?_⟩
        rintro e w4 ⟨⟨v, rfl⟩, F', ht, hc, hF'⟩
        have HE4 := hide (HE3.out.told HT.out ht hc hF')
        have HC4 := hide (total_chg HCZ.out HC3.out hc)
        clear ht hc hF' p9 q1 hEnt o_0 o_1 o_2 o_3 o_4 o_5
        gi_wp2
        exact ⟨HEM.out.from_ HT.out HC4.out (by omega), HEM.out.kpd HC4.out (p := (RB, .cells #[.int .i64 k0, .int .i64 k1, .int .i64 R, .int .i64 Q, .int .i64 (q : Int)] 49 (0, 0))) (by simp), RI.step HY.out HGO.out HFY.out HE4.out (fun p hp => List.mem_cons_of_mem _ (List.mem_cons_of_mem _ (List.mem_cons_of_mem _ hp)))⟩
      · by_cases hl3 : Y.states.length = 300
        · have HGO := hide (Sx.go_stop HFY.out HSY.out HST.out hmem hl3)
          refine ⟨trivial, ((callsIn_wide.2 (find_full (N + 1 + 1) (N + 1) (N + 4) _ _ _ _ _ _ c0 c1 c2 c3 c4 c5 c6 c7 c8 c9 c10 c11 c12 c13 (kk : Int) l0 l1 Z HEZ.out.sp HCG.out.2 hmem hl3)).inRound l).mono ?_⟩
          rintro e w3 ⟨rfl, hb3⟩
          have HE3 := hide (HEZ.out.below HT.out hb3)
          have HKF : Hid (KeepsFrom X.heap.size W1 w3) := hide (KeepsFrom.of_below ((HCZ.out.trans (F := fun _ => False) (G := fun _ => False) (Chg.of_below hb3) (fun x hx => False.elim hx)).below))
          have q4 := (HE3.out.tr (S + 1 + 1, .cells #[.pointer none] 88 (0, 0)) (by simp [trk, trs])).1
          have q5 := (HE3.out.tr (S + 1 + 1 + 1, .cells #[.int .i64 0] 38 (0, 0)) (by simp [trk, trs])).1
          have e4 : w3.cell? ⟨S + 1 + 1, 0, none⟩ = some (.pointer none) := cell_heap (vs := [_]) q4 rfl
          have e5 : w3.cell? ⟨S + 1 + 1 + 1, 0, none⟩ = some (.int .i64 0) := cell_heap (vs := [_]) q5 rfl
          have f4 : w3.frozen? ⟨S + 1 + 1, 0, none⟩ = false := froz_heap q4
          have f5 : w3.frozen? ⟨S + 1 + 1 + 1, 0, none⟩ = false := froz_heap q5
          have HER := hide (HE3.out.ret HT.out (S := S) (ds := ds) (by simp [trk, trs]) (by simp [trk, trs]) (fun D hD => by simp only [trk, List.cons_append, List.mem_cons, List.mem_append]; exact .inr (.inr (.inr (.inr (.inr (.inl (mem_dls hD))))))) hS (.pointer none) (.int .i64 4))
          clear q4 q5 hb3 hmem hl3
          gi_wp2
          refine ⟨(HKF.out.trans (KeepsFrom.of_grownBy (grownBy_setCell' _ _ _) (fun j e => by injection e with e; omega))).trans (KeepsFrom.of_grownBy (grownBy_setCell' _ _ _) (fun j e => by injection e with e; omega)), rfl, full_step HY.out HGO.out rfl, _, _, _, _, _, _, _, _, HER.out⟩
        · have HGO := hide (Sx.go_new HFY.out HSY.out HST.out hmem hl3)
          refine ⟨trivial, ((callsIn_wide.2 (find_new (N + 1 + 1) (N + 1) (N + 4) _ _ _ _ _ _ c0 c1 c2 c3 c4 c5 c6 c7 c8 c9 c10 c11 c12 c13 (kk : Int) l0 l1 Z HEZ.out.sp HCG.out.2 hmem (by have := HM.out; omega) (fun t ht => (HOKY.out.good t ht).2) hBZ)).inRound l).mono ?_⟩
          rintro e w3 ⟨rfl, u1, u2, u3, hsp, hsf⟩
          have HE3 := hide (HEZ.out.found HT.out hsf hsp)
          have HC3 : Hid (Chg Z w3 (Foot (N + 1 + 1) (N + 1) v1 v2 v3)) := hide (Chg.of_sfr hsf)
          have hil : Y.states.length ≤ 300 := by have := HM.out; omega
          clear hsp hsf hmem hl3
          have BO : Blk w3 OB [.int .i64 x0, .int .i64 x1, .int .i64 x2, .int .i64 x3, .int .i64 x4, .int .i64 x5] := blk_heap (HE3.out.tr (OB, .cells #[.int .i64 x0, .int .i64 x1, .int .i64 x2, .int .i64 x3, .int .i64 x4, .int .i64 x5] 92 (0, 0)) List.mem_cons_self).1
          have p9 : w3.cell? ⟨KB, 0, none⟩ = some (.int .i64 kk) := cell_heap (vs := [_]) (HE3.out.tr (KB, .cells #[.int .i64 kk] 3 (0, 0)) (by simp [trk])).1 rfl
          have q1 : w3.cell? ⟨S + 1, 0, none⟩ = some (.func (.func K) #[] caps) := cell_heap (vs := [_]) (HE3.out.tr (S + 1, .cells #[.func (.func K) #[] caps] 93 (0, 0)) (by simp [trk, trs])).1 rfl
          have hEnt : ∀ (args : Array Value) (w : World), (callFunc K args).run Tryz.prog w = .ok (.enter K args) w := HT.out.enters
          have o_0 := (BO 0 _ rfl).1
          have o_1 := (BO 1 _ rfl).1
          have o_2 := (BO 2 _ rfl).1
          have o_3 := (BO 3 _ rfl).1
          have o_4 := (BO 4 _ rfl).1
          have o_5 := (BO 5 _ rfl).1
          clear BO
          gi_wp2_with fail
          refine ⟨trivial, ((callsIn_wide.2 (HT.out.run kk Y.states.length ⟨l0, l1⟩ x0 x1 x2 x3 x4 x5 HE3.out.tl HED.out (by omega) (by omega) HXR.out)).inRound l).mono ?_⟩
          rintro e w4 ⟨⟨v, rfl⟩, F', ht, hc, hF'⟩
          have HE4 := hide (HE3.out.told HT.out ht hc hF')
          have HC4 := hide (total_chg HCZ.out HC3.out hc)
          clear ht hc hF' p9 q1 hEnt o_0 o_1 o_2 o_3 o_4 o_5
          gi_wp2
          exact ⟨HEM.out.from_ HT.out HC4.out (by omega), HEM.out.kpd HC4.out (p := (RB, .cells #[.int .i64 k0, .int .i64 k1, .int .i64 R, .int .i64 Q, .int .i64 (q : Int)] 49 (0, 0))) (by simp), RI.step HY.out HGO.out rfl HE4.out (fun p hp => List.mem_cons_of_mem _ (List.mem_cons_of_mem _ (List.mem_cons_of_mem _ hp)))⟩
    case done =>
     rintro D xs W' hD hxs hI hDk
     have HI := hide hI
     have HX := hide hxs
     have HD := hide hDk
     have p9 : W'.cell? ⟨KB, 0, none⟩ = some (.int .i64 kk) := by
      obtain ⟨u1, u2, u3, G, hE, _⟩ := hI
      exact cell_heap (vs := [_]) (hE.tr (KB, .cells #[.int .i64 kk] 3 (0, 0)) (by simp [trk])).1 rfl
     have HLT : Hid (∀ E ∈ ds, E < X.heap.size) := hide (fun E hE => HTR2.out (E, .deferred (some [])) (List.mem_cons_of_mem _ (List.mem_cons_of_mem _ (mem_dls hE))) rfl)
     clear hI hxs hDk
     gi_wp2
     refine ⟨gn - 1, by omega, kk + 1, W'.heap.size, D :: ds, _, _, _, _, _, _, _, _, _, _, _, _, by omega, hide (LR.next HT.out HI.out HX.out HOK.out HEL.out HFULL.out (by rw [HN'.out]; exact hlt) HND.out HDS.out HLT.out hD (by omega) hSN HBEF.out HD.out rfl), rfl⟩
    case stop =>
     rintro D c pre W' hD ⟨m, hm, hpm⟩ ⟨rfl, hfull, u1, u2, u3, G, ss, fr, bys, es, hE⟩ hDk
     have HEK := hide hE
     have HPF := hide (full_pre hm hpm hfull)
     have HD := hide hDk
     have HLT : Hid (∀ E ∈ ds, E < X.heap.size) := hide (fun E hE => HTR2.out (E, .deferred (some [])) (List.mem_cons_of_mem _ (List.mem_cons_of_mem _ (mem_dls hE))) rfl)
     have HEK2 := hide ((hE.mark HT.out hDk rfl (by omega)).sub (TR' := (S + 1 + 1 + 1, .cells #[.int .i64 4] 38 (0, 0)) :: (S + 1 + 1, .cells #[.pointer none] 88 (0, 0)) :: dls (D :: ds)) (fun p hp => by
      simp only [dls, List.map_cons, List.mem_cons] at hp ⊢
      rcases hp with h | h | h | h
      · exact .inr (.inl h)
      · exact .inr (.inr (.inl h))
      · exact .inl h
      · exact .inr (.inr (.inr h))))
     clear hE hfull hpm hm hDk
     gi_wp2
     show LeavesInM _ _ _ _ _ _ ((D :: ds).map dfr) _ _
     refine leaves_all (D :: ds) W' (List.nodup_cons.2 ⟨fun h => by have := HLT.out D h; omega, HND.out⟩) (fun E hE => (HEK2.out.tr (E, .deferred (some [])) (List.mem_cons_of_mem _ (List.mem_cons_of_mem _ (mem_dls hE)))).1) (fun W'' hW'' => ?_)
     obtain ⟨z4, z5, hEL⟩ := HEK2.out.left HT.out hW'' hS (fun E hE => by
      rcases List.mem_cons.1 hE with rfl | hE
      · omega
      · exact HDS.out E hE)
     refine ⟨.tuple #[.pointer none, .int .i64 4], ?_, ⟨kk + 1, ⟨fun j hj => ?_, .inl HPF.out⟩, .inr ⟨HPF.out, rfl, hEL.chg⟩⟩⟩
     · simp [results, Tryz.f43, go_sem, z4, z5]
     · rcases (show j < kk ∨ j = kk by omega) with h | rfl
       · exact HBEF.out j h
       · exact ⟨HFULL.out, by have := HN'.out; unfold rnds at this; omega⟩
  · have hge : ¬ (kk : Int) < (n : Int) := by omega
    gi_wp2_with fail
    gi_quiet (fail)
    rename_i nq
    obtain ⟨V, hV⟩ : ∃ V, W.drewN nq = V := ⟨_, rfl⟩
    have HEV := hide (HE.out.below HT.out (Go.below_drewN (Below.refl W.heap.size W) nq))
    rw [hV] at HEV ⊢
    clear hV p1 p8 p9 HBR HE HE1
    have q4 := (HEV.out.tr (S + 1 + 1, .cells #[.pointer none] 88 (0, 0)) (by simp [trk, trs])).1
    have q5 := (HEV.out.tr (S + 1 + 1 + 1, .cells #[.int .i64 0] 38 (0, 0)) (by simp [trk, trs])).1
    have p8 : V.cell? ⟨N + 1 + 1 + 1, 0, none⟩ = some (.pointer (some ⟨N + 1 + 1, 0, none⟩)) := cell_heap (vs := [_]) (HEV.out.tr (N + 1 + 1 + 1, .cells #[.pointer (some ⟨N + 1 + 1, 0, none⟩)] 88 (0, 0)) (by simp [trk, trs])).1 rfl
    have e4 : V.cell? ⟨S + 1 + 1, 0, none⟩ = some (.pointer none) := cell_heap (vs := [_]) q4 rfl
    have e5 : V.cell? ⟨S + 1 + 1 + 1, 0, none⟩ = some (.int .i64 0) := cell_heap (vs := [_]) q5 rfl
    have f4 : V.frozen? ⟨S + 1 + 1, 0, none⟩ = false := froz_heap q4
    have f5 : V.frozen? ⟨S + 1 + 1 + 1, 0, none⟩ = false := froz_heap q5
    have HEZ := hide (HEV.out.ret HT.out (S := S) (ds := ds) (by simp [trk, trs]) (by simp [trk, trs]) (fun D hD => by simp only [trk, List.cons_append, List.mem_cons, List.mem_append]; exact .inr (.inl (mem_dls hD))) hS (.pointer (some ⟨N + 1 + 1, 0, none⟩)) (.int .i64 0))
    clear q4 q5 HEV
    gi_wp2
    refine leaves_all ds _ HND.out (fun D hD => (HEZ.out.tr (D, .deferred (some [])) (List.mem_cons_of_mem _ (List.mem_cons_of_mem _ (mem_dls hD)))).1) (fun W' hW' => ?_)
    obtain ⟨z4, z5, hEL⟩ := HEZ.out.left HT.out hW' hS HDS.out
    refine ⟨.tuple #[.pointer (some ⟨N + 1 + 1, 0, none⟩), .int .i64 0], ?_, ⟨kk, ⟨HBEF.out, .inr ?_⟩, .inl ⟨_, _, _, v1, v2, v3, F, HFULL.out, rfl, hEL⟩⟩⟩
    · simp [results, Tryz.f43, go_sem, z4, z5]
    · have := HN'.out
      unfold rnds at this
      omega
end Go.Proofs.YtjjikhaaimfneaaGreatDoor
