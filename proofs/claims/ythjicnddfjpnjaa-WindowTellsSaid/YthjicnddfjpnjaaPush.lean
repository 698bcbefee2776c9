/-
  WALKS: the deque's push.
-/
import Derived.Test.YthjicnddfjpnjaaDqL
import Derived.Test.YthjicnddfjpnjaaMin
import Derived.Deep.LoopGhost
import Derived.Deep.DeepCutAuto
namespace Go.Proofs.Ythjicnddfjpnjaa
open Go.RowKit
set_option linter.unusedSimpArgs false
set_option linter.unusedVariables false

attribute [local go_sem] iteMin iteMax iteMinN iteMaxN

/-- what push has done -/
def Pushed (bt : Int → Int → Prop) (w w' : World) (D : Nat) (k x : Int) (fb va vo : Value) (ks vs : List Int) : Prop := ∃ m va' vo', m ≤ vs.length ∧ (∀ y, 0 < m → vs[m - 1]? = some y → bt y x) ∧ (∀ j y, m ≤ j → vs[j]? = some y → ¬ bt y x) ∧ Dq w' D fb va' vo' (ks.take m ++ [k]) (vs.take m ++ [x]) ∧ Fr w w' D va vo va' vo'
theorem RowC.shape {w : World} {B : Nat} {v : Value} {xs : List Int} (h : RowC w B v xs) : ∃ a c, v = .slice a xs.length c := by
  rcases h with ⟨rfl, rfl⟩ | ⟨g, off, cap, rfl, _⟩
  · exact ⟨none, 0, rfl⟩
  · exact ⟨_, _, rfl⟩

theorem bestL (y x : Int) (b : Bool) (hb : decide (y < x) = b) (w : World) : Calls Try.prog 47 #[.int .i64 y, .int .i64 x] w fun e w' => e = .returned (.bool b) ∧ w = w' := by
  subst hb
  go_enter Try.func47, Try.ntmps47
  go_wp2
  go_ret
  exact ⟨by first | rfl | simp, rfl⟩
set_option maxRecDepth 100000 in
set_option maxHeartbeats 8000000 in
theorem pushL (D : Nat) (k x : Int) (va vo : Value) (ks vs : List Int) (w : World) (h : Dq w D (.func (.func 47) #[] #[]) va vo ks vs) (hl : ks.length = vs.length) (hn : vs.length < 17592186044416) :
    Calls Try.prog 57 #[.pointer (some ⟨D, 0, none⟩), .int .i64 k, .int .i64 x] w fun e w' => e = .returned (.tuple #[]) ∧ Pushed (fun y z => y < z) w w' D k x (.func (.func 47) #[] #[]) va vo ks vs := by
  have HD0 := hide h
  clear h
  go_enter Try.func57, Try.ntmps57
  go_wp2
  go_loopg [] (vs.length) (fun gk wr => ∃ va1 vo1, gk ≤ vs.length ∧ Hid (∀ j y, gk ≤ j → vs[j]? = some y → ¬ (y < x)) ∧ Hid (Dq wr D (.func (.func 47) #[] #[]) va1 vo1 (ks.take gk) (vs.take gk)) ∧ Hid (Fr w wr D va vo va1 vo1))
  case atStart => exact ⟨va, vo, Nat.le_refl _, (fun j y hj hy => by have := (List.getElem?_eq_some_iff.1 hy).1; omega), by rw [List.take_length, ← hl, List.take_length]; exact HD0, Fr.refl _ _ _ _⟩
  case round =>
    obtain ⟨va1, vo1, hm, HA, HD, HF⟩ := hrel
    obtain ⟨a1, c1, e1⟩ := HD.out.ra.shape
    obtain ⟨a2, c2, e2⟩ := HD.out.rb.shape
    subst e1
    subst e2
    rw [List.length_take, Nat.min_eq_left (by omega)] at HD HF
    rw [List.length_take, Nat.min_eq_left (by omega)] at HD HF
    have HC := hide HD.out.dc
    have dlt := HC.out.lt
    have C0 : ∀ q : Beyond wr, q.w.cell? ⟨D, 0, none⟩ = some (.slice a1 gk c1) := fun q => q.cell dlt HC.out.a
    have C1 : ∀ q : Beyond wr, q.w.cell? ⟨D, 1, none⟩ = some (.slice a2 gk c2) := fun q => q.cell dlt HC.out.b
    have C2 : ∀ q : Beyond wr, q.w.cell? ⟨D, 2, none⟩ = some (.func (.func 47) #[] #[]) := fun q => q.cell dlt HC.out.c
    by_cases h0 : gk = 0
    · subst h0
      go_upto_region 0 with fail
      refine wp_region_beyond (by kernel_rfl) (by kernel_rfl) ?_
      repeat (first | go_big_quiet_step (fail) | quiet_step (fail))
      refine wpQuiet_nil ?_
      intro _ hw'
      obtain ⟨pq, hw''⟩ := hw'
      subst hw''
      clear C0 C1 C2
      go_upto_region 2 with fail
      obtain ⟨V, hV⟩ : ∃ V, pq.w = V := ⟨_, rfl⟩
      have hVB := pq.h
      rw [hV] at hVB ⊢
      clear hV
      have HDV := hide (HD.out.below (hVB.trans (Below.refl _ _).drew))
      have HFV := hide (HF.out.below (hVB.trans (Below.refl _ _).drew))
      clear HD HF HC hVB dlt 
      obtain ⟨va2, hva⟩ : ∃ v, Value.slice a1 0 c1 = v := ⟨_, rfl⟩
      obtain ⟨vo2, hvo⟩ : ∃ v, Value.slice a2 0 c2 = v := ⟨_, rfl⟩
      rw [hva, hvo] at HDV HFV
      clear hva hvo
      refine wp_region_G 15 (fun w' : World => w'.cell? ⟨D, 0, none⟩ = some va2 ∧ w'.cell? ⟨D, 1, none⟩ = some vo2) (by kernel_rfl) ?_
      obtain ⟨V0, hV0⟩ : ∃ V0, V.drew = V0 := ⟨_, rfl⟩
      rw [hV0] at HDV HFV ⊢
      clear hV0
      have hF := hide (show (fun w' : World => w'.cell? ⟨D, 0, none⟩ = some va2 ∧ w'.cell? ⟨D, 1, none⟩ = some vo2) V0 from ⟨HDV.out.a, HDV.out.b⟩)
      obtain ⟨ka, hka⟩ : ∃ l, ks.take (0) = l := ⟨_, rfl⟩
      obtain ⟨kb, hkb⟩ : ∃ l, vs.take (0) = l := ⟨_, rfl⟩
      have hlA : ka.length = 0 := by rw [← hka, List.length_take]; omega
      have hlB : kb.length = 0 := by rw [← hkb, List.length_take]; omega
      rw [hka, hkb] at HDV
      have HKA := hide hka
      have HKB := hide hkb
      have lA : ka.length < 17592186044416 := by omega
      have lB : kb.length < 17592186044416 := by omega
      clear hka hkb
      have HD0 := hide HDV.out.dc
      have HF0 := HFV
      have HA0 := hide HDV.out.ra
      have HB0 := hide HDV.out.rb
      have HAp := hide HDV.out.ap
      have s0 : D + 1 ≤ V0.heap.size := HDV.out.lt
      clear HDV
      refine wpAnyG_pure (i := 0) (v := ?v0_29) rfl (by kernel_rfl) (by kernel_rfl) (by kernel_rfl) (by kernel_rfl) (by kernel_rfl) (fun _ _ _ h => h) (fun _ => hF.out) (Or.inl ⟨by rfl, ?hy0_29⟩) ?rest0_29
      case hy0_29 =>
        intro w _
        go_simp
        all_goals (with_reducible rfl)
      try simp only [Act.put, List.setIfInBounds_toArray, List.set_cons_zero, List.set_cons_succ]
      refine wpAnyG_pure (i := 1) (v := ?v1_30) rfl (by kernel_rfl) (by kernel_rfl) (by kernel_rfl) (by kernel_rfl) (by kernel_rfl) (fun _ _ _ h => h) (fun _ => hF.out) (Or.inl ⟨by rfl, ?hy1_30⟩) ?rest1_30
      case hy1_30 =>
        intro w _
        go_simp
        all_goals (with_reducible rfl)
      try simp only [Act.put, List.setIfInBounds_toArray, List.set_cons_zero, List.set_cons_succ]
      refine wpAnyG_pure (i := 2) (v := ?v2_31) rfl (by kernel_rfl) (by kernel_rfl) (by kernel_rfl) (by kernel_rfl) (by kernel_rfl) (fun _ _ _ h => h) (fun _ => hF.out) (Or.inl ⟨by rfl, ?hy2_31⟩) ?rest2_31
      case hy2_31 =>
        intro w _
        go_simp
        all_goals (with_reducible rfl)
      try simp only [Act.put, List.setIfInBounds_toArray, List.set_cons_zero, List.set_cons_succ]
      refine wpAnyG_pure (i := 3) (v := ?v3_32) rfl (by kernel_rfl) (by kernel_rfl) (by kernel_rfl) (by kernel_rfl) (by kernel_rfl) (fun _ _ _ h => h) (fun _ => hF.out) (Or.inl ⟨by rfl, ?hy3_32⟩) ?rest3_32
      case hy3_32 =>
        intro w _
        go_simp
        all_goals (with_reducible rfl)
      try simp only [Act.put, List.setIfInBounds_toArray, List.set_cons_zero, List.set_cons_succ]
      refine wpAnyG_pure (i := 4) (v := ?v4_33) rfl (by kernel_rfl) (by kernel_rfl) (by kernel_rfl) (by kernel_rfl) (by kernel_rfl) (fun _ _ _ h => h) (fun _ => hF.out) (Or.inl ⟨by rfl, ?hy4_33⟩) ?rest4_33
      case hy4_33 =>
        intro w _
        go_simp
        all_goals (with_reducible rfl)
      try simp only [Act.put, List.setIfInBounds_toArray, List.set_cons_zero, List.set_cons_succ]
      refine wpAnyG_before (i := 5) (f := 4) (v := ?v5_34) rfl (by kernel_rfl) (by kernel_rfl) (by kernel_rfl) (by kernel_rfl) (by kernel_rfl) (by kernel_rfl) (fun _ _ _ h => h) hF.out (Or.inl ⟨by rfl, ?hy5_34⟩) ?rest5_34
      case hy5_34 =>
        intro w hSw
        (try dsimp only at hSw)
        go_split_ands
        go_simp
        all_goals (with_reducible rfl)
      try simp only [Act.put, List.setIfInBounds_toArray, List.set_cons_zero, List.set_cons_succ]
      refine wpAnyG_pure (i := 6) (v := ?v6_35) rfl (by kernel_rfl) (by kernel_rfl) (by kernel_rfl) (by kernel_rfl) (by kernel_rfl) (fun _ _ _ h => h) (fun _ => hF.out) (Or.inl ⟨by rfl, ?hy6_35⟩) ?rest6_35
      case hy6_35 =>
        intro w _
        go_simp
        all_goals (with_reducible rfl)
      try simp only [Act.put, List.setIfInBounds_toArray, List.set_cons_zero, List.set_cons_succ]
      refine wpAnyG_pure (i := 9) (v := ?v9_36) rfl (by kernel_rfl) (by kernel_rfl) (by kernel_rfl) (by kernel_rfl) (by kernel_rfl) (fun _ _ _ h => h) (fun _ => hF.out) (Or.inl ⟨by rfl, ?hy9_36⟩) ?rest9_36
      case hy9_36 =>
        intro w _
        go_simp
        all_goals (with_reducible rfl)
      try simp only [Act.put, List.setIfInBounds_toArray, List.set_cons_zero, List.set_cons_succ]
      refine wpAnyG_pure (i := 10) (v := ?v10_37) rfl (by kernel_rfl) (by kernel_rfl) (by kernel_rfl) (by kernel_rfl) (by kernel_rfl) (fun _ _ _ h => h) (fun _ => hF.out) (Or.inl ⟨by rfl, ?hy10_37⟩) ?rest10_37
      case hy10_37 =>
        intro w _
        go_simp
        all_goals (with_reducible rfl)
      try simp only [Act.put, List.setIfInBounds_toArray, List.set_cons_zero, List.set_cons_succ]
      refine wpAnyG_pure (i := 11) (v := ?v11_38) rfl (by kernel_rfl) (by kernel_rfl) (by kernel_rfl) (by kernel_rfl) (by kernel_rfl) (fun _ _ _ h => h) (fun _ => hF.out) (Or.inl ⟨by rfl, ?hy11_38⟩) ?rest11_38
      case hy11_38 =>
        intro w _
        go_simp
        all_goals (with_reducible rfl)
      try simp only [Act.put, List.setIfInBounds_toArray, List.set_cons_zero, List.set_cons_succ]
      refine wpAnyG_before (i := 12) (f := 4) (v := ?v12_39) rfl (by kernel_rfl) (by kernel_rfl) (by kernel_rfl) (by kernel_rfl) (by kernel_rfl) (by kernel_rfl) (fun _ _ _ h => h) hF.out (Or.inl ⟨by rfl, ?hy12_39⟩) ?rest12_39
      case hy12_39 =>
        intro w hSw
        (try dsimp only at hSw)
        go_split_ands
        go_simp
        all_goals (with_reducible rfl)
      try simp only [Act.put, List.setIfInBounds_toArray, List.set_cons_zero, List.set_cons_succ]
      refine wpAnyG_pure (i := 13) (v := ?v13_40) rfl (by kernel_rfl) (by kernel_rfl) (by kernel_rfl) (by kernel_rfl) (by kernel_rfl) (fun _ _ _ h => h) (fun _ => hF.out) (Or.inl ⟨by rfl, ?hy13_40⟩) ?rest13_40
      case hy13_40 =>
        intro w _
        go_simp
        all_goals (with_reducible rfl)
      try simp only [Act.put, List.setIfInBounds_toArray, List.set_cons_zero, List.set_cons_succ]
      clear hF
      refine wpAnyG_twoF (i := 7) (j := 14) rfl rfl (by kernel_rfl) (fun K hK => ?_) (fun K hK => ?_)
      · go_simp
        have hb1 : Below (V0).heap.size (V0) ((V0).alloc (.cells #[.int .i64 k] 3)) := (Below.refl _ _).alloc (Nat.le_refl _) _
        have HD1 := hide (HD0.out.below hb1)
        have HA1 := hide (HA0.out.below hb1)
        have HB1 := hide (HB0.out.below hb1)
        have HF1 := hide (HF0.out.below hb1)
        have s1 : D + 1 ≤ ((V0).alloc (.cells #[.int .i64 k] 3)).heap.size := Nat.le_trans s0 hb1.size
        have ck1 : ((V0).alloc (.cells #[.int .i64 k] 3)).cell? ⟨V0.heap.size, 0, none⟩ = some (.int .i64 k) := news_new (by first | rfl | simp)
        refine hK.out _ _ ⟨HD1.out.a, HD1.out.b⟩ ?_
        clear hK K
        try simp only [Act.put, List.setIfInBounds_toArray, List.set_cons_zero, List.set_cons_succ]
        refine wpAnyG_twoF (i := 8) (j := 14) rfl rfl (by kernel_rfl) (fun K hK => ?_) (fun K hK => ?_)
        · refine step_appendC rfl (.tmp 66) (.tmp 68) rfl (D + 1) va2 _ k rfl HA1.out s1 ⟨V0.heap.size, 0, none⟩ 1 (by first | rfl | simp) ck1 lA (fun g8 o8 q8 w2 r2 gr2 nn2 => ?_)
          have HD2 := hide (HD1.out.grown gr2 HA1.out.farD)
          have HB2 := hide (HB1.out.grown gr2 (by rcases HAp.out with h | h <;> first | exact .inr (fun e => h e.symm) | (rw [h]; cases hq : (vo2 : Value).ownBlock with | none => exact .inl rfl | some _ => exact .inr (by simp))))
          have hne := ap_new HAp.out nn2 (fun b e => (HB1.out.lt b e).2)
          have HA2 := hide r2
          have HF2 := hide (HF1.out.grownA (off := o8) (n := ka.length + 1) (c := q8) gr2 nn2)
          have s2 : D + 1 ≤ w2.heap.size := Nat.le_trans s1 gr2.size
          refine hK.out _ _ ⟨HD2.out.a, HD2.out.b⟩ ?_
          clear hK K
          try simp only [Act.put, List.setIfInBounds_toArray, List.set_cons_zero, List.set_cons_succ]
          refine wpAnyG_oneF (i := 14) rfl (by kernel_rfl) (fun K hK => ?_)
          go_simp
          have hb3 : Below (w2).heap.size (w2) ((w2).alloc (.cells #[.int .i64 x] 3)) := (Below.refl _ _).alloc (Nat.le_refl _) _
          have HD3 := hide (HD2.out.below hb3)
          have HA3 := hide (HA2.out.below hb3)
          have HB3 := hide (HB2.out.below hb3)
          have HF3 := hide (HF2.out.below hb3)
          have s3 : D + 1 ≤ ((w2).alloc (.cells #[.int .i64 x] 3)).heap.size := Nat.le_trans s2 hb3.size
          have cx3 : ((w2).alloc (.cells #[.int .i64 x] 3)).cell? ⟨w2.heap.size, 0, none⟩ = some (.int .i64 x) := news_new (by first | rfl | simp)
          refine hK.out _ _ ⟨HD3.out.a, HD3.out.b⟩ ?_
          clear hK K
          try simp only [Act.put, List.setIfInBounds_toArray, List.set_cons_zero, List.set_cons_succ]
          refine wpAnyG_one (i := 15) rfl (by kernel_rfl) (by kernel_rfl) (fun K hK => ?_)
          refine step_appendC rfl (.tmp 73) (.tmp 75) rfl (D + 1) vo2 _ x rfl HB3.out s3 ⟨w2.heap.size, 0, none⟩ 1 (by first | rfl | simp) cx3 lB (fun g9 o9 q9 w4 r4 gr4 nn4 => ?_)
          have HD4 := hide (HD3.out.grown gr4 HB3.out.farD)
          have HA4 := hide (HA3.out.grown gr4 (.inr hne))
          have hne2 : (some g8 : Option Nat) ≠ some g9 := fun e => by
            rcases nn4 with h | h
            · exact hne (e.trans h.symm)
            · have := (HA3.out.lt g8 rfl).2; injection e with e; omega
          have HF4 := hide (HF3.out.grownO (off := o9) (n := kb.length + 1) (c := q9) gr4 nn4)
          refine hK.out _ _ ?_
          clear hK K
          try simp only [Act.put, List.setIfInBounds_toArray, List.set_cons_zero, List.set_cons_succ]
          have z0 := HD4.out.a
          have z1 := HD4.out.b
          have f0 := HD4.out.fz 0
          have f1 := HD4.out.fz 1
          refine wpAnyG_behind (i := 16) (v := ?v16_41) rfl (by kernel_rfl) (by kernel_rfl) (by kernel_rfl) (by kernel_rfl) (by kernel_rfl) (by kernel_rfl) (fun _ _ _ h => h) (Or.inl ⟨by rfl, ?hy16_41⟩) ?rest16_41
          case hy16_41 =>
            intro w _
            go_simp
            all_goals (with_reducible rfl)
          try simp only [Act.put, List.setIfInBounds_toArray, List.set_cons_zero, List.set_cons_succ]
          refine wpAnyG_behind (i := 17) (v := ?v17_42) rfl (by kernel_rfl) (by kernel_rfl) (by kernel_rfl) (by kernel_rfl) (by kernel_rfl) (by kernel_rfl) (fun _ _ _ h => h) (Or.inl ⟨by rfl, ?hy17_42⟩) ?rest17_42
          case hy17_42 =>
            intro w _
            go_simp
            all_goals (with_reducible rfl)
          try simp only [Act.put, List.setIfInBounds_toArray, List.set_cons_zero, List.set_cons_succ]
          refine wpAnyG_one (i := 18) rfl (by kernel_rfl) (by kernel_rfl) (fun K hK => ?_)
          go_simp
          refine hK.out _ _ ?_
          clear hK K
          try simp only [Act.put, List.setIfInBounds_toArray, List.set_cons_zero, List.set_cons_succ]
          refine wpAnyG_behind (i := 19) (v := ?v19_43) rfl (by kernel_rfl) (by kernel_rfl) (by kernel_rfl) (by kernel_rfl) (by kernel_rfl) (by kernel_rfl) (fun _ _ _ h => h) (Or.inl ⟨by rfl, ?hy19_43⟩) ?rest19_43
          case hy19_43 =>
            intro w _
            go_simp
            all_goals (with_reducible rfl)
          try simp only [Act.put, List.setIfInBounds_toArray, List.set_cons_zero, List.set_cons_succ]
          refine wpAnyG_behind (i := 20) (v := ?v20_44) rfl (by kernel_rfl) (by kernel_rfl) (by kernel_rfl) (by kernel_rfl) (by kernel_rfl) (by kernel_rfl) (fun _ _ _ h => h) (Or.inl ⟨by rfl, ?hy20_44⟩) ?rest20_44
          case hy20_44 =>
            intro w _
            go_simp
            all_goals (with_reducible rfl)
          try simp only [Act.put, List.setIfInBounds_toArray, List.set_cons_zero, List.set_cons_succ]
          refine wpAnyG_one (i := 21) rfl (by kernel_rfl) (by kernel_rfl) (fun K hK => ?_)
          go_simp
          refine hK.out _ _ ?_
          clear hK K
          try simp only [Act.put, List.setIfInBounds_toArray, List.set_cons_zero, List.set_cons_succ]
          refine wpAnyG_done (by kernel_rfl) ?_ _
          have HQ := hide (HD4.out.put HA4.out r4 (.inr hne2))
          have HG := hide (((HF4.out.setD (j := 0) (.slice (some ⟨g8, o8, none⟩) (ka.length + 1) q8)).setD (j := 1) (.slice (some ⟨g9, o9, none⟩) (kb.length + 1) q9)))
          rw [hlA, hlB] at HQ HG
          clear z0 z1 f0 f1
          go_wp2
          go_end0
          exact ⟨rfl, ⟨0, .slice (some ⟨g8, o8, none⟩) (0 + 1) q8, .slice (some ⟨g9, o9, none⟩) (0 + 1) q9, by omega, (fun y h => absurd h (by omega)), (fun j y a b => by have h7 := HA.out j y a b; intro h8; (try dsimp only at h8); omega), by rw [HKA.out, HKB.out]; exact HQ.out, by have h7 := HG.out; (try rw [hlA] at h7); (try rw [hlB] at h7); exact h7⟩⟩
        · go_simp
          have hb2 : Below ((V0.alloc (.cells #[.int .i64 k] 3))).heap.size ((V0.alloc (.cells #[.int .i64 k] 3))) (((V0.alloc (.cells #[.int .i64 k] 3))).alloc (.cells #[.int .i64 x] 3)) := (Below.refl _ _).alloc (Nat.le_refl _) _
          have HD2 := hide (HD1.out.below hb2)
          have HA2 := hide (HA1.out.below hb2)
          have HB2 := hide (HB1.out.below hb2)
          have HF2 := hide (HF1.out.below hb2)
          have s2 : D + 1 ≤ (((V0.alloc (.cells #[.int .i64 k] 3))).alloc (.cells #[.int .i64 x] 3)).heap.size := Nat.le_trans s1 hb2.size
          have cx2 : (((V0.alloc (.cells #[.int .i64 k] 3))).alloc (.cells #[.int .i64 x] 3)).cell? ⟨V0.heap.size + 1, 0, none⟩ = some (.int .i64 x) := news_new (by first | rfl | simp)
          have ck2 := (hb2.cell (World.block_lt_of_cell? _ _ ck1)).trans ck1
          refine hK.out _ _ ⟨HD2.out.a, HD2.out.b⟩ ?_
          clear hK K
          try simp only [Act.put, List.setIfInBounds_toArray, List.set_cons_zero, List.set_cons_succ]
          refine wpAnyG_oneF (i := 8) rfl (by kernel_rfl) (fun K hK => ?_)
          refine step_appendC rfl (.tmp 66) (.tmp 68) rfl (D + 1) va2 _ k rfl HA2.out s2 ⟨V0.heap.size, 0, none⟩ 1 (by first | rfl | simp) ck2 lA (fun g8 o8 q8 w3 r3 gr3 nn3 => ?_)
          have HD3 := hide (HD2.out.grown gr3 HA2.out.farD)
          have HB3 := hide (HB2.out.grown gr3 (by rcases HAp.out with h | h <;> first | exact .inr (fun e => h e.symm) | (rw [h]; cases hq : (vo2 : Value).ownBlock with | none => exact .inl rfl | some _ => exact .inr (by simp))))
          have hne := ap_new HAp.out nn3 (fun b e => (HB2.out.lt b e).2)
          have HA3 := hide r3
          have HF3 := hide (HF2.out.grownA (off := o8) (n := ka.length + 1) (c := q8) gr3 nn3)
          have s3 : D + 1 ≤ w3.heap.size := Nat.le_trans s2 gr3.size
          have cx3 := gr3.cell cx2 (fun e => by have h9 := (HA0.out.lt _ e.symm).2; (try dsimp only at h9); have := hb1.size; omega)
          refine hK.out _ _ ⟨HD3.out.a, HD3.out.b⟩ ?_
          clear hK K
          try simp only [Act.put, List.setIfInBounds_toArray, List.set_cons_zero, List.set_cons_succ]
          refine wpAnyG_one (i := 15) rfl (by kernel_rfl) (by kernel_rfl) (fun K hK => ?_)
          refine step_appendC rfl (.tmp 73) (.tmp 75) rfl (D + 1) vo2 _ x rfl HB3.out s3 ⟨V0.heap.size + 1, 0, none⟩ 1 (by first | rfl | simp) cx3 lB (fun g9 o9 q9 w4 r4 gr4 nn4 => ?_)
          have HD4 := hide (HD3.out.grown gr4 HB3.out.farD)
          have HA4 := hide (HA3.out.grown gr4 (.inr hne))
          have hne2 : (some g8 : Option Nat) ≠ some g9 := fun e => by
            rcases nn4 with h | h
            · exact hne (e.trans h.symm)
            · have := (HA3.out.lt g8 rfl).2; injection e with e; omega
          have HF4 := hide (HF3.out.grownO (off := o9) (n := kb.length + 1) (c := q9) gr4 nn4)
          refine hK.out _ _ ?_
          clear hK K
          try simp only [Act.put, List.setIfInBounds_toArray, List.set_cons_zero, List.set_cons_succ]
          have z0 := HD4.out.a
          have z1 := HD4.out.b
          have f0 := HD4.out.fz 0
          have f1 := HD4.out.fz 1
          refine wpAnyG_behind (i := 16) (v := ?v16_45) rfl (by kernel_rfl) (by kernel_rfl) (by kernel_rfl) (by kernel_rfl) (by kernel_rfl) (by kernel_rfl) (fun _ _ _ h => h) (Or.inl ⟨by rfl, ?hy16_45⟩) ?rest16_45
          case hy16_45 =>
            intro w _
            go_simp
            all_goals (with_reducible rfl)
          try simp only [Act.put, List.setIfInBounds_toArray, List.set_cons_zero, List.set_cons_succ]
          refine wpAnyG_behind (i := 17) (v := ?v17_46) rfl (by kernel_rfl) (by kernel_rfl) (by kernel_rfl) (by kernel_rfl) (by kernel_rfl) (by kernel_rfl) (fun _ _ _ h => h) (Or.inl ⟨by rfl, ?hy17_46⟩) ?rest17_46
          case hy17_46 =>
            intro w _
            go_simp
            all_goals (with_reducible rfl)
          try simp only [Act.put, List.setIfInBounds_toArray, List.set_cons_zero, List.set_cons_succ]
          refine wpAnyG_one (i := 18) rfl (by kernel_rfl) (by kernel_rfl) (fun K hK => ?_)
          go_simp
          refine hK.out _ _ ?_
          clear hK K
          try simp only [Act.put, List.setIfInBounds_toArray, List.set_cons_zero, List.set_cons_succ]
          refine wpAnyG_behind (i := 19) (v := ?v19_47) rfl (by kernel_rfl) (by kernel_rfl) (by kernel_rfl) (by kernel_rfl) (by kernel_rfl) (by kernel_rfl) (fun _ _ _ h => h) (Or.inl ⟨by rfl, ?hy19_47⟩) ?rest19_47
          case hy19_47 =>
            intro w _
            go_simp
            all_goals (with_reducible rfl)
          try simp only [Act.put, List.setIfInBounds_toArray, List.set_cons_zero, List.set_cons_succ]
          refine wpAnyG_behind (i := 20) (v := ?v20_48) rfl (by kernel_rfl) (by kernel_rfl) (by kernel_rfl) (by kernel_rfl) (by kernel_rfl) (by kernel_rfl) (fun _ _ _ h => h) (Or.inl ⟨by rfl, ?hy20_48⟩) ?rest20_48
          case hy20_48 =>
            intro w _
            go_simp
            all_goals (with_reducible rfl)
          try simp only [Act.put, List.setIfInBounds_toArray, List.set_cons_zero, List.set_cons_succ]
          refine wpAnyG_one (i := 21) rfl (by kernel_rfl) (by kernel_rfl) (fun K hK => ?_)
          go_simp
          refine hK.out _ _ ?_
          clear hK K
          try simp only [Act.put, List.setIfInBounds_toArray, List.set_cons_zero, List.set_cons_succ]
          refine wpAnyG_done (by kernel_rfl) ?_ _
          have HQ := hide (HD4.out.put HA4.out r4 (.inr hne2))
          have HG := hide (((HF4.out.setD (j := 0) (.slice (some ⟨g8, o8, none⟩) (ka.length + 1) q8)).setD (j := 1) (.slice (some ⟨g9, o9, none⟩) (kb.length + 1) q9)))
          rw [hlA, hlB] at HQ HG
          clear z0 z1 f0 f1
          go_wp2
          go_end0
          exact ⟨rfl, ⟨0, .slice (some ⟨g8, o8, none⟩) (0 + 1) q8, .slice (some ⟨g9, o9, none⟩) (0 + 1) q9, by omega, (fun y h => absurd h (by omega)), (fun j y a b => by have h7 := HA.out j y a b; intro h8; (try dsimp only at h8); omega), by rw [HKA.out, HKB.out]; exact HQ.out, by have h7 := HG.out; (try rw [hlA] at h7); (try rw [hlB] at h7); exact h7⟩⟩
      · go_simp
        have hb1 : Below (V0).heap.size (V0) ((V0).alloc (.cells #[.int .i64 x] 3)) := (Below.refl _ _).alloc (Nat.le_refl _) _
        have HD1 := hide (HD0.out.below hb1)
        have HA1 := hide (HA0.out.below hb1)
        have HB1 := hide (HB0.out.below hb1)
        have HF1 := hide (HF0.out.below hb1)
        have s1 : D + 1 ≤ ((V0).alloc (.cells #[.int .i64 x] 3)).heap.size := Nat.le_trans s0 hb1.size
        have cx1 : ((V0).alloc (.cells #[.int .i64 x] 3)).cell? ⟨V0.heap.size, 0, none⟩ = some (.int .i64 x) := news_new (by first | rfl | simp)
        refine hK.out _ _ ⟨HD1.out.a, HD1.out.b⟩ ?_
        clear hK K
        try simp only [Act.put, List.setIfInBounds_toArray, List.set_cons_zero, List.set_cons_succ]
        refine wpAnyG_oneF (i := 7) rfl (by kernel_rfl) (fun K hK => ?_)
        go_simp
        have hb2 : Below ((V0.alloc (.cells #[.int .i64 x] 3))).heap.size ((V0.alloc (.cells #[.int .i64 x] 3))) (((V0.alloc (.cells #[.int .i64 x] 3))).alloc (.cells #[.int .i64 k] 3)) := (Below.refl _ _).alloc (Nat.le_refl _) _
        have HD2 := hide (HD1.out.below hb2)
        have HA2 := hide (HA1.out.below hb2)
        have HB2 := hide (HB1.out.below hb2)
        have HF2 := hide (HF1.out.below hb2)
        have s2 : D + 1 ≤ (((V0.alloc (.cells #[.int .i64 x] 3))).alloc (.cells #[.int .i64 k] 3)).heap.size := Nat.le_trans s1 hb2.size
        have ck2 : (((V0.alloc (.cells #[.int .i64 x] 3))).alloc (.cells #[.int .i64 k] 3)).cell? ⟨V0.heap.size + 1, 0, none⟩ = some (.int .i64 k) := news_new (by first | rfl | simp)
        have cx2 := (hb2.cell (World.block_lt_of_cell? _ _ cx1)).trans cx1
        refine hK.out _ _ ⟨HD2.out.a, HD2.out.b⟩ ?_
        clear hK K
        try simp only [Act.put, List.setIfInBounds_toArray, List.set_cons_zero, List.set_cons_succ]
        refine wpAnyG_oneF (i := 8) rfl (by kernel_rfl) (fun K hK => ?_)
        refine step_appendC rfl (.tmp 66) (.tmp 68) rfl (D + 1) va2 _ k rfl HA2.out s2 ⟨V0.heap.size + 1, 0, none⟩ 1 (by first | rfl | simp) ck2 lA (fun g8 o8 q8 w3 r3 gr3 nn3 => ?_)
        have HD3 := hide (HD2.out.grown gr3 HA2.out.farD)
        have HB3 := hide (HB2.out.grown gr3 (by rcases HAp.out with h | h <;> first | exact .inr (fun e => h e.symm) | (rw [h]; cases hq : (vo2 : Value).ownBlock with | none => exact .inl rfl | some _ => exact .inr (by simp))))
        have hne := ap_new HAp.out nn3 (fun b e => (HB2.out.lt b e).2)
        have HA3 := hide r3
        have HF3 := hide (HF2.out.grownA (off := o8) (n := ka.length + 1) (c := q8) gr3 nn3)
        have s3 : D + 1 ≤ w3.heap.size := Nat.le_trans s2 gr3.size
        have cx3 := gr3.cell cx2 (fun e => by have h9 := (HA0.out.lt _ e.symm).2; (try dsimp only at h9); have := hb1.size; omega)
        refine hK.out _ _ ⟨HD3.out.a, HD3.out.b⟩ ?_
        clear hK K
        try simp only [Act.put, List.setIfInBounds_toArray, List.set_cons_zero, List.set_cons_succ]
        refine wpAnyG_one (i := 15) rfl (by kernel_rfl) (by kernel_rfl) (fun K hK => ?_)
        refine step_appendC rfl (.tmp 73) (.tmp 75) rfl (D + 1) vo2 _ x rfl HB3.out s3 ⟨V0.heap.size, 0, none⟩ 1 (by first | rfl | simp) cx3 lB (fun g9 o9 q9 w4 r4 gr4 nn4 => ?_)
        have HD4 := hide (HD3.out.grown gr4 HB3.out.farD)
        have HA4 := hide (HA3.out.grown gr4 (.inr hne))
        have hne2 : (some g8 : Option Nat) ≠ some g9 := fun e => by
          rcases nn4 with h | h
          · exact hne (e.trans h.symm)
          · have := (HA3.out.lt g8 rfl).2; injection e with e; omega
        have HF4 := hide (HF3.out.grownO (off := o9) (n := kb.length + 1) (c := q9) gr4 nn4)
        refine hK.out _ _ ?_
        clear hK K
        try simp only [Act.put, List.setIfInBounds_toArray, List.set_cons_zero, List.set_cons_succ]
        have z0 := HD4.out.a
        have z1 := HD4.out.b
        have f0 := HD4.out.fz 0
        have f1 := HD4.out.fz 1
        refine wpAnyG_behind (i := 16) (v := ?v16_49) rfl (by kernel_rfl) (by kernel_rfl) (by kernel_rfl) (by kernel_rfl) (by kernel_rfl) (by kernel_rfl) (fun _ _ _ h => h) (Or.inl ⟨by rfl, ?hy16_49⟩) ?rest16_49
        case hy16_49 =>
          intro w _
          go_simp
          all_goals (with_reducible rfl)
        try simp only [Act.put, List.setIfInBounds_toArray, List.set_cons_zero, List.set_cons_succ]
        refine wpAnyG_behind (i := 17) (v := ?v17_50) rfl (by kernel_rfl) (by kernel_rfl) (by kernel_rfl) (by kernel_rfl) (by kernel_rfl) (by kernel_rfl) (fun _ _ _ h => h) (Or.inl ⟨by rfl, ?hy17_50⟩) ?rest17_50
        case hy17_50 =>
          intro w _
          go_simp
          all_goals (with_reducible rfl)
        try simp only [Act.put, List.setIfInBounds_toArray, List.set_cons_zero, List.set_cons_succ]
        refine wpAnyG_one (i := 18) rfl (by kernel_rfl) (by kernel_rfl) (fun K hK => ?_)
        go_simp
        refine hK.out _ _ ?_
        clear hK K
        try simp only [Act.put, List.setIfInBounds_toArray, List.set_cons_zero, List.set_cons_succ]
        refine wpAnyG_behind (i := 19) (v := ?v19_51) rfl (by kernel_rfl) (by kernel_rfl) (by kernel_rfl) (by kernel_rfl) (by kernel_rfl) (by kernel_rfl) (fun _ _ _ h => h) (Or.inl ⟨by rfl, ?hy19_51⟩) ?rest19_51
        case hy19_51 =>
          intro w _
          go_simp
          all_goals (with_reducible rfl)
        try simp only [Act.put, List.setIfInBounds_toArray, List.set_cons_zero, List.set_cons_succ]
        refine wpAnyG_behind (i := 20) (v := ?v20_52) rfl (by kernel_rfl) (by kernel_rfl) (by kernel_rfl) (by kernel_rfl) (by kernel_rfl) (by kernel_rfl) (fun _ _ _ h => h) (Or.inl ⟨by rfl, ?hy20_52⟩) ?rest20_52
        case hy20_52 =>
          intro w _
          go_simp
          all_goals (with_reducible rfl)
        try simp only [Act.put, List.setIfInBounds_toArray, List.set_cons_zero, List.set_cons_succ]
        refine wpAnyG_one (i := 21) rfl (by kernel_rfl) (by kernel_rfl) (fun K hK => ?_)
        go_simp
        refine hK.out _ _ ?_
        clear hK K
        try simp only [Act.put, List.setIfInBounds_toArray, List.set_cons_zero, List.set_cons_succ]
        refine wpAnyG_done (by kernel_rfl) ?_ _
        have HQ := hide (HD4.out.put HA4.out r4 (.inr hne2))
        have HG := hide (((HF4.out.setD (j := 0) (.slice (some ⟨g8, o8, none⟩) (ka.length + 1) q8)).setD (j := 1) (.slice (some ⟨g9, o9, none⟩) (kb.length + 1) q9)))
        rw [hlA, hlB] at HQ HG
        clear z0 z1 f0 f1
        go_wp2
        go_end0
        exact ⟨rfl, ⟨0, .slice (some ⟨g8, o8, none⟩) (0 + 1) q8, .slice (some ⟨g9, o9, none⟩) (0 + 1) q9, by omega, (fun y h => absurd h (by omega)), (fun j y a b => by have h7 := HA.out j y a b; intro h8; (try dsimp only at h8); omega), by rw [HKA.out, HKB.out]; exact HQ.out, by have h7 := HG.out; (try rw [hlA] at h7); (try rw [hlB] at h7); exact h7⟩⟩
    · obtain ⟨m, rfl⟩ : ∃ m, gk = m + 1 := ⟨gk - 1, by omega⟩
      have hmn : m < vs.length := by omega
      have hym : vs[m]? = some vs[m] := List.getElem?_eq_getElem hmn
      obtain ⟨y, hy⟩ : ∃ y, vs[m] = y := ⟨_, rfl⟩
      rw [hy] at hym
      obtain ⟨g2, o2, c2', e, hcc, hcell⟩ := HD.out.rb.form (by rw [List.length_take]; omega)
      injection e with e1 e2 e3
      subst e1
      subst e3
      have hcy := hcell m y (by rw [List.getElem?_take, if_pos (by omega)]; exact hym)
      have g2lt := World.block_lt_of_cell? wr _ hcy
      have C3 : ∀ q : Beyond wr, q.w.cell? ⟨g2, o2 + m, none⟩ = some (.int .i64 y) := fun q => q.cell g2lt hcy
      have HY := hide hym
      have m0 : (0 : Int) ≤ (m : Int) := Int.natCast_nonneg _
      clear hcell hcy e2 hym hy h0
      by_cases hb : y < x
      · have hbb : decide (y < x) = true := by simpa using hb
        go_upto_region 0 with fail
        refine wp_region_beyond (by kernel_rfl) (by kernel_rfl) ?_
        repeat (first | go_big_quiet_step (first | (go_at_call 47; exact beyondSame (bestL _ _ _ hbb _))) | quiet_step (first | (go_at_call 47; exact beyondSame (bestL _ _ _ hbb _))))
        refine wpQuiet_nil ?_
        intro _ hw'
        obtain ⟨pq, hw''⟩ := hw'
        subst hw''
        clear C0 C1 C2
        go_upto_region 2 with fail
        obtain ⟨V, hV⟩ : ∃ V, pq.w = V := ⟨_, rfl⟩
        have hVB := pq.h
        rw [hV] at hVB ⊢
        clear hV
        have HDV := hide (HD.out.below (hVB.trans (Below.refl _ _).drew))
        have HFV := hide (HF.out.below (hVB.trans (Below.refl _ _).drew))
        clear HD HF HC hVB dlt g2lt hcc C3
        obtain ⟨va2, hva⟩ : ∃ v, Value.slice a1 (m + 1) c1 = v := ⟨_, rfl⟩
        obtain ⟨vo2, hvo⟩ : ∃ v, Value.slice (some ⟨g2, o2, none⟩) (m + 1) c2 = v := ⟨_, rfl⟩
        rw [hva, hvo] at HDV HFV
        clear hva hvo
        refine wp_region_G 15 (fun w' : World => w'.cell? ⟨D, 0, none⟩ = some va2 ∧ w'.cell? ⟨D, 1, none⟩ = some vo2) (by kernel_rfl) ?_
        obtain ⟨V0, hV0⟩ : ∃ V0, V.drew = V0 := ⟨_, rfl⟩
        rw [hV0] at HDV HFV ⊢
        clear hV0
        have hF := hide (show (fun w' : World => w'.cell? ⟨D, 0, none⟩ = some va2 ∧ w'.cell? ⟨D, 1, none⟩ = some vo2) V0 from ⟨HDV.out.a, HDV.out.b⟩)
        obtain ⟨ka, hka⟩ : ∃ l, ks.take (m + 1) = l := ⟨_, rfl⟩
        obtain ⟨kb, hkb⟩ : ∃ l, vs.take (m + 1) = l := ⟨_, rfl⟩
        have hlA : ka.length = m + 1 := by rw [← hka, List.length_take]; omega
        have hlB : kb.length = m + 1 := by rw [← hkb, List.length_take]; omega
        rw [hka, hkb] at HDV
        have HKA := hide hka
        have HKB := hide hkb
        have lA : ka.length < 17592186044416 := by omega
        have lB : kb.length < 17592186044416 := by omega
        clear hka hkb
        have HD0 := hide HDV.out.dc
        have HF0 := HFV
        have HA0 := hide HDV.out.ra
        have HB0 := hide HDV.out.rb
        have HAp := hide HDV.out.ap
        have s0 : D + 1 ≤ V0.heap.size := HDV.out.lt
        clear HDV
        refine wpAnyG_pure (i := 0) (v := ?v0_53) rfl (by kernel_rfl) (by kernel_rfl) (by kernel_rfl) (by kernel_rfl) (by kernel_rfl) (fun _ _ _ h => h) (fun _ => hF.out) (Or.inl ⟨by rfl, ?hy0_53⟩) ?rest0_53
        case hy0_53 =>
          intro w _
          go_simp
          all_goals (with_reducible rfl)
        try simp only [Act.put, List.setIfInBounds_toArray, List.set_cons_zero, List.set_cons_succ]
        refine wpAnyG_pure (i := 1) (v := ?v1_54) rfl (by kernel_rfl) (by kernel_rfl) (by kernel_rfl) (by kernel_rfl) (by kernel_rfl) (fun _ _ _ h => h) (fun _ => hF.out) (Or.inl ⟨by rfl, ?hy1_54⟩) ?rest1_54
        case hy1_54 =>
          intro w _
          go_simp
          all_goals (with_reducible rfl)
        try simp only [Act.put, List.setIfInBounds_toArray, List.set_cons_zero, List.set_cons_succ]
        refine wpAnyG_pure (i := 2) (v := ?v2_55) rfl (by kernel_rfl) (by kernel_rfl) (by kernel_rfl) (by kernel_rfl) (by kernel_rfl) (fun _ _ _ h => h) (fun _ => hF.out) (Or.inl ⟨by rfl, ?hy2_55⟩) ?rest2_55
        case hy2_55 =>
          intro w _
          go_simp
          all_goals (with_reducible rfl)
        try simp only [Act.put, List.setIfInBounds_toArray, List.set_cons_zero, List.set_cons_succ]
        refine wpAnyG_pure (i := 3) (v := ?v3_56) rfl (by kernel_rfl) (by kernel_rfl) (by kernel_rfl) (by kernel_rfl) (by kernel_rfl) (fun _ _ _ h => h) (fun _ => hF.out) (Or.inl ⟨by rfl, ?hy3_56⟩) ?rest3_56
        case hy3_56 =>
          intro w _
          go_simp
          all_goals (with_reducible rfl)
        try simp only [Act.put, List.setIfInBounds_toArray, List.set_cons_zero, List.set_cons_succ]
        refine wpAnyG_pure (i := 4) (v := ?v4_57) rfl (by kernel_rfl) (by kernel_rfl) (by kernel_rfl) (by kernel_rfl) (by kernel_rfl) (fun _ _ _ h => h) (fun _ => hF.out) (Or.inl ⟨by rfl, ?hy4_57⟩) ?rest4_57
        case hy4_57 =>
          intro w _
          go_simp
          all_goals (with_reducible rfl)
        try simp only [Act.put, List.setIfInBounds_toArray, List.set_cons_zero, List.set_cons_succ]
        refine wpAnyG_before (i := 5) (f := 4) (v := ?v5_58) rfl (by kernel_rfl) (by kernel_rfl) (by kernel_rfl) (by kernel_rfl) (by kernel_rfl) (by kernel_rfl) (fun _ _ _ h => h) hF.out (Or.inl ⟨by rfl, ?hy5_58⟩) ?rest5_58
        case hy5_58 =>
          intro w hSw
          (try dsimp only at hSw)
          go_split_ands
          go_simp
          all_goals (with_reducible rfl)
        try simp only [Act.put, List.setIfInBounds_toArray, List.set_cons_zero, List.set_cons_succ]
        refine wpAnyG_pure (i := 6) (v := ?v6_59) rfl (by kernel_rfl) (by kernel_rfl) (by kernel_rfl) (by kernel_rfl) (by kernel_rfl) (fun _ _ _ h => h) (fun _ => hF.out) (Or.inl ⟨by rfl, ?hy6_59⟩) ?rest6_59
        case hy6_59 =>
          intro w _
          go_simp
          all_goals (with_reducible rfl)
        try simp only [Act.put, List.setIfInBounds_toArray, List.set_cons_zero, List.set_cons_succ]
        refine wpAnyG_pure (i := 9) (v := ?v9_60) rfl (by kernel_rfl) (by kernel_rfl) (by kernel_rfl) (by kernel_rfl) (by kernel_rfl) (fun _ _ _ h => h) (fun _ => hF.out) (Or.inl ⟨by rfl, ?hy9_60⟩) ?rest9_60
        case hy9_60 =>
          intro w _
          go_simp
          all_goals (with_reducible rfl)
        try simp only [Act.put, List.setIfInBounds_toArray, List.set_cons_zero, List.set_cons_succ]
        refine wpAnyG_pure (i := 10) (v := ?v10_61) rfl (by kernel_rfl) (by kernel_rfl) (by kernel_rfl) (by kernel_rfl) (by kernel_rfl) (fun _ _ _ h => h) (fun _ => hF.out) (Or.inl ⟨by rfl, ?hy10_61⟩) ?rest10_61
        case hy10_61 =>
          intro w _
          go_simp
          all_goals (with_reducible rfl)
        try simp only [Act.put, List.setIfInBounds_toArray, List.set_cons_zero, List.set_cons_succ]
        refine wpAnyG_pure (i := 11) (v := ?v11_62) rfl (by kernel_rfl) (by kernel_rfl) (by kernel_rfl) (by kernel_rfl) (by kernel_rfl) (fun _ _ _ h => h) (fun _ => hF.out) (Or.inl ⟨by rfl, ?hy11_62⟩) ?rest11_62
        case hy11_62 =>
          intro w _
          go_simp
          all_goals (with_reducible rfl)
        try simp only [Act.put, List.setIfInBounds_toArray, List.set_cons_zero, List.set_cons_succ]
        refine wpAnyG_before (i := 12) (f := 4) (v := ?v12_63) rfl (by kernel_rfl) (by kernel_rfl) (by kernel_rfl) (by kernel_rfl) (by kernel_rfl) (by kernel_rfl) (fun _ _ _ h => h) hF.out (Or.inl ⟨by rfl, ?hy12_63⟩) ?rest12_63
        case hy12_63 =>
          intro w hSw
          (try dsimp only at hSw)
          go_split_ands
          go_simp
          all_goals (with_reducible rfl)
        try simp only [Act.put, List.setIfInBounds_toArray, List.set_cons_zero, List.set_cons_succ]
        refine wpAnyG_pure (i := 13) (v := ?v13_64) rfl (by kernel_rfl) (by kernel_rfl) (by kernel_rfl) (by kernel_rfl) (by kernel_rfl) (fun _ _ _ h => h) (fun _ => hF.out) (Or.inl ⟨by rfl, ?hy13_64⟩) ?rest13_64
        case hy13_64 =>
          intro w _
          go_simp
          all_goals (with_reducible rfl)
        try simp only [Act.put, List.setIfInBounds_toArray, List.set_cons_zero, List.set_cons_succ]
        clear hF
        refine wpAnyG_twoF (i := 7) (j := 14) rfl rfl (by kernel_rfl) (fun K hK => ?_) (fun K hK => ?_)
        · go_simp
          have hb1 : Below (V0).heap.size (V0) ((V0).alloc (.cells #[.int .i64 k] 3)) := (Below.refl _ _).alloc (Nat.le_refl _) _
          have HD1 := hide (HD0.out.below hb1)
          have HA1 := hide (HA0.out.below hb1)
          have HB1 := hide (HB0.out.below hb1)
          have HF1 := hide (HF0.out.below hb1)
          have s1 : D + 1 ≤ ((V0).alloc (.cells #[.int .i64 k] 3)).heap.size := Nat.le_trans s0 hb1.size
          have ck1 : ((V0).alloc (.cells #[.int .i64 k] 3)).cell? ⟨V0.heap.size, 0, none⟩ = some (.int .i64 k) := news_new (by first | rfl | simp)
          refine hK.out _ _ ⟨HD1.out.a, HD1.out.b⟩ ?_
          clear hK K
          try simp only [Act.put, List.setIfInBounds_toArray, List.set_cons_zero, List.set_cons_succ]
          refine wpAnyG_twoF (i := 8) (j := 14) rfl rfl (by kernel_rfl) (fun K hK => ?_) (fun K hK => ?_)
          · refine step_appendC rfl (.tmp 66) (.tmp 68) rfl (D + 1) va2 _ k rfl HA1.out s1 ⟨V0.heap.size, 0, none⟩ 1 (by first | rfl | simp) ck1 lA (fun g8 o8 q8 w2 r2 gr2 nn2 => ?_)
            have HD2 := hide (HD1.out.grown gr2 HA1.out.farD)
            have HB2 := hide (HB1.out.grown gr2 (by rcases HAp.out with h | h <;> first | exact .inr (fun e => h e.symm) | (rw [h]; cases hq : (vo2 : Value).ownBlock with | none => exact .inl rfl | some _ => exact .inr (by simp))))
            have hne := ap_new HAp.out nn2 (fun b e => (HB1.out.lt b e).2)
            have HA2 := hide r2
            have HF2 := hide (HF1.out.grownA (off := o8) (n := ka.length + 1) (c := q8) gr2 nn2)
            have s2 : D + 1 ≤ w2.heap.size := Nat.le_trans s1 gr2.size
            refine hK.out _ _ ⟨HD2.out.a, HD2.out.b⟩ ?_
            clear hK K
            try simp only [Act.put, List.setIfInBounds_toArray, List.set_cons_zero, List.set_cons_succ]
            refine wpAnyG_oneF (i := 14) rfl (by kernel_rfl) (fun K hK => ?_)
            go_simp
            have hb3 : Below (w2).heap.size (w2) ((w2).alloc (.cells #[.int .i64 x] 3)) := (Below.refl _ _).alloc (Nat.le_refl _) _
            have HD3 := hide (HD2.out.below hb3)
            have HA3 := hide (HA2.out.below hb3)
            have HB3 := hide (HB2.out.below hb3)
            have HF3 := hide (HF2.out.below hb3)
            have s3 : D + 1 ≤ ((w2).alloc (.cells #[.int .i64 x] 3)).heap.size := Nat.le_trans s2 hb3.size
            have cx3 : ((w2).alloc (.cells #[.int .i64 x] 3)).cell? ⟨w2.heap.size, 0, none⟩ = some (.int .i64 x) := news_new (by first | rfl | simp)
            refine hK.out _ _ ⟨HD3.out.a, HD3.out.b⟩ ?_
            clear hK K
            try simp only [Act.put, List.setIfInBounds_toArray, List.set_cons_zero, List.set_cons_succ]
            refine wpAnyG_one (i := 15) rfl (by kernel_rfl) (by kernel_rfl) (fun K hK => ?_)
            refine step_appendC rfl (.tmp 73) (.tmp 75) rfl (D + 1) vo2 _ x rfl HB3.out s3 ⟨w2.heap.size, 0, none⟩ 1 (by first | rfl | simp) cx3 lB (fun g9 o9 q9 w4 r4 gr4 nn4 => ?_)
            have HD4 := hide (HD3.out.grown gr4 HB3.out.farD)
            have HA4 := hide (HA3.out.grown gr4 (.inr hne))
            have hne2 : (some g8 : Option Nat) ≠ some g9 := fun e => by
              rcases nn4 with h | h
              · exact hne (e.trans h.symm)
              · have := (HA3.out.lt g8 rfl).2; injection e with e; omega
            have HF4 := hide (HF3.out.grownO (off := o9) (n := kb.length + 1) (c := q9) gr4 nn4)
            refine hK.out _ _ ?_
            clear hK K
            try simp only [Act.put, List.setIfInBounds_toArray, List.set_cons_zero, List.set_cons_succ]
            have z0 := HD4.out.a
            have z1 := HD4.out.b
            have f0 := HD4.out.fz 0
            have f1 := HD4.out.fz 1
            refine wpAnyG_behind (i := 16) (v := ?v16_65) rfl (by kernel_rfl) (by kernel_rfl) (by kernel_rfl) (by kernel_rfl) (by kernel_rfl) (by kernel_rfl) (fun _ _ _ h => h) (Or.inl ⟨by rfl, ?hy16_65⟩) ?rest16_65
            case hy16_65 =>
              intro w _
              go_simp
              all_goals (with_reducible rfl)
            try simp only [Act.put, List.setIfInBounds_toArray, List.set_cons_zero, List.set_cons_succ]
            refine wpAnyG_behind (i := 17) (v := ?v17_66) rfl (by kernel_rfl) (by kernel_rfl) (by kernel_rfl) (by kernel_rfl) (by kernel_rfl) (by kernel_rfl) (fun _ _ _ h => h) (Or.inl ⟨by rfl, ?hy17_66⟩) ?rest17_66
            case hy17_66 =>
              intro w _
              go_simp
              all_goals (with_reducible rfl)
            try simp only [Act.put, List.setIfInBounds_toArray, List.set_cons_zero, List.set_cons_succ]
            refine wpAnyG_one (i := 18) rfl (by kernel_rfl) (by kernel_rfl) (fun K hK => ?_)
            go_simp
            refine hK.out _ _ ?_
            clear hK K
            try simp only [Act.put, List.setIfInBounds_toArray, List.set_cons_zero, List.set_cons_succ]
            refine wpAnyG_behind (i := 19) (v := ?v19_67) rfl (by kernel_rfl) (by kernel_rfl) (by kernel_rfl) (by kernel_rfl) (by kernel_rfl) (by kernel_rfl) (fun _ _ _ h => h) (Or.inl ⟨by rfl, ?hy19_67⟩) ?rest19_67
            case hy19_67 =>
              intro w _
              go_simp
              all_goals (with_reducible rfl)
            try simp only [Act.put, List.setIfInBounds_toArray, List.set_cons_zero, List.set_cons_succ]
            refine wpAnyG_behind (i := 20) (v := ?v20_68) rfl (by kernel_rfl) (by kernel_rfl) (by kernel_rfl) (by kernel_rfl) (by kernel_rfl) (by kernel_rfl) (fun _ _ _ h => h) (Or.inl ⟨by rfl, ?hy20_68⟩) ?rest20_68
            case hy20_68 =>
              intro w _
              go_simp
              all_goals (with_reducible rfl)
            try simp only [Act.put, List.setIfInBounds_toArray, List.set_cons_zero, List.set_cons_succ]
            refine wpAnyG_one (i := 21) rfl (by kernel_rfl) (by kernel_rfl) (fun K hK => ?_)
            go_simp
            refine hK.out _ _ ?_
            clear hK K
            try simp only [Act.put, List.setIfInBounds_toArray, List.set_cons_zero, List.set_cons_succ]
            refine wpAnyG_done (by kernel_rfl) ?_ _
            have HQ := hide (HD4.out.put HA4.out r4 (.inr hne2))
            have HG := hide (((HF4.out.setD (j := 0) (.slice (some ⟨g8, o8, none⟩) (ka.length + 1) q8)).setD (j := 1) (.slice (some ⟨g9, o9, none⟩) (kb.length + 1) q9)))
            rw [hlA, hlB] at HQ HG
            clear z0 z1 f0 f1
            go_wp2
            go_end0
            exact ⟨rfl, ⟨m + 1, .slice (some ⟨g8, o8, none⟩) (m + 1 + 1) q8, .slice (some ⟨g9, o9, none⟩) (m + 1 + 1) q9, by omega, (fun z _ hz => by rw [Nat.add_sub_cancel, HY.out] at hz; injection hz with hz; subst hz; exact hb), (fun j y a b => by have h7 := HA.out j y a b; intro h8; (try dsimp only at h8); omega), by rw [HKA.out, HKB.out]; exact HQ.out, by have h7 := HG.out; (try rw [hlA] at h7); (try rw [hlB] at h7); exact h7⟩⟩
          · go_simp
            have hb2 : Below ((V0.alloc (.cells #[.int .i64 k] 3))).heap.size ((V0.alloc (.cells #[.int .i64 k] 3))) (((V0.alloc (.cells #[.int .i64 k] 3))).alloc (.cells #[.int .i64 x] 3)) := (Below.refl _ _).alloc (Nat.le_refl _) _
            have HD2 := hide (HD1.out.below hb2)
            have HA2 := hide (HA1.out.below hb2)
            have HB2 := hide (HB1.out.below hb2)
            have HF2 := hide (HF1.out.below hb2)
            have s2 : D + 1 ≤ (((V0.alloc (.cells #[.int .i64 k] 3))).alloc (.cells #[.int .i64 x] 3)).heap.size := Nat.le_trans s1 hb2.size
            have cx2 : (((V0.alloc (.cells #[.int .i64 k] 3))).alloc (.cells #[.int .i64 x] 3)).cell? ⟨V0.heap.size + 1, 0, none⟩ = some (.int .i64 x) := news_new (by first | rfl | simp)
            have ck2 := (hb2.cell (World.block_lt_of_cell? _ _ ck1)).trans ck1
            refine hK.out _ _ ⟨HD2.out.a, HD2.out.b⟩ ?_
            clear hK K
            try simp only [Act.put, List.setIfInBounds_toArray, List.set_cons_zero, List.set_cons_succ]
            refine wpAnyG_oneF (i := 8) rfl (by kernel_rfl) (fun K hK => ?_)
            refine step_appendC rfl (.tmp 66) (.tmp 68) rfl (D + 1) va2 _ k rfl HA2.out s2 ⟨V0.heap.size, 0, none⟩ 1 (by first | rfl | simp) ck2 lA (fun g8 o8 q8 w3 r3 gr3 nn3 => ?_)
            have HD3 := hide (HD2.out.grown gr3 HA2.out.farD)
            have HB3 := hide (HB2.out.grown gr3 (by rcases HAp.out with h | h <;> first | exact .inr (fun e => h e.symm) | (rw [h]; cases hq : (vo2 : Value).ownBlock with | none => exact .inl rfl | some _ => exact .inr (by simp))))
            have hne := ap_new HAp.out nn3 (fun b e => (HB2.out.lt b e).2)
            have HA3 := hide r3
            have HF3 := hide (HF2.out.grownA (off := o8) (n := ka.length + 1) (c := q8) gr3 nn3)
            have s3 : D + 1 ≤ w3.heap.size := Nat.le_trans s2 gr3.size
            have cx3 := gr3.cell cx2 (fun e => by have h9 := (HA0.out.lt _ e.symm).2; (try dsimp only at h9); have := hb1.size; omega)
            refine hK.out _ _ ⟨HD3.out.a, HD3.out.b⟩ ?_
            clear hK K
            try simp only [Act.put, List.setIfInBounds_toArray, List.set_cons_zero, List.set_cons_succ]
            refine wpAnyG_one (i := 15) rfl (by kernel_rfl) (by kernel_rfl) (fun K hK => ?_)
            refine step_appendC rfl (.tmp 73) (.tmp 75) rfl (D + 1) vo2 _ x rfl HB3.out s3 ⟨V0.heap.size + 1, 0, none⟩ 1 (by first | rfl | simp) cx3 lB (fun g9 o9 q9 w4 r4 gr4 nn4 => ?_)
            have HD4 := hide (HD3.out.grown gr4 HB3.out.farD)
            have HA4 := hide (HA3.out.grown gr4 (.inr hne))
            have hne2 : (some g8 : Option Nat) ≠ some g9 := fun e => by
              rcases nn4 with h | h
              · exact hne (e.trans h.symm)
              · have := (HA3.out.lt g8 rfl).2; injection e with e; omega
            have HF4 := hide (HF3.out.grownO (off := o9) (n := kb.length + 1) (c := q9) gr4 nn4)
            refine hK.out _ _ ?_
            clear hK K
            try simp only [Act.put, List.setIfInBounds_toArray, List.set_cons_zero, List.set_cons_succ]
            have z0 := HD4.out.a
            have z1 := HD4.out.b
            have f0 := HD4.out.fz 0
            have f1 := HD4.out.fz 1
            refine wpAnyG_behind (i := 16) (v := ?v16_69) rfl (by kernel_rfl) (by kernel_rfl) (by kernel_rfl) (by kernel_rfl) (by kernel_rfl) (by kernel_rfl) (fun _ _ _ h => h) (Or.inl ⟨by rfl, ?hy16_69⟩) ?rest16_69
            case hy16_69 =>
              intro w _
              go_simp
              all_goals (with_reducible rfl)
            try simp only [Act.put, List.setIfInBounds_toArray, List.set_cons_zero, List.set_cons_succ]
            refine wpAnyG_behind (i := 17) (v := ?v17_70) rfl (by kernel_rfl) (by kernel_rfl) (by kernel_rfl) (by kernel_rfl) (by kernel_rfl) (by kernel_rfl) (fun _ _ _ h => h) (Or.inl ⟨by rfl, ?hy17_70⟩) ?rest17_70
            case hy17_70 =>
              intro w _
              go_simp
              all_goals (with_reducible rfl)
            try simp only [Act.put, List.setIfInBounds_toArray, List.set_cons_zero, List.set_cons_succ]
            refine wpAnyG_one (i := 18) rfl (by kernel_rfl) (by kernel_rfl) (fun K hK => ?_)
            go_simp
            refine hK.out _ _ ?_
            clear hK K
            try simp only [Act.put, List.setIfInBounds_toArray, List.set_cons_zero, List.set_cons_succ]
            refine wpAnyG_behind (i := 19) (v := ?v19_71) rfl (by kernel_rfl) (by kernel_rfl) (by kernel_rfl) (by kernel_rfl) (by kernel_rfl) (by kernel_rfl) (fun _ _ _ h => h) (Or.inl ⟨by rfl, ?hy19_71⟩) ?rest19_71
            case hy19_71 =>
              intro w _
              go_simp
              all_goals (with_reducible rfl)
            try simp only [Act.put, List.setIfInBounds_toArray, List.set_cons_zero, List.set_cons_succ]
            refine wpAnyG_behind (i := 20) (v := ?v20_72) rfl (by kernel_rfl) (by kernel_rfl) (by kernel_rfl) (by kernel_rfl) (by kernel_rfl) (by kernel_rfl) (fun _ _ _ h => h) (Or.inl ⟨by rfl, ?hy20_72⟩) ?rest20_72
            case hy20_72 =>
              intro w _
              go_simp
              all_goals (with_reducible rfl)
            try simp only [Act.put, List.setIfInBounds_toArray, List.set_cons_zero, List.set_cons_succ]
            refine wpAnyG_one (i := 21) rfl (by kernel_rfl) (by kernel_rfl) (fun K hK => ?_)
            go_simp
            refine hK.out _ _ ?_
            clear hK K
            try simp only [Act.put, List.setIfInBounds_toArray, List.set_cons_zero, List.set_cons_succ]
            refine wpAnyG_done (by kernel_rfl) ?_ _
            have HQ := hide (HD4.out.put HA4.out r4 (.inr hne2))
            have HG := hide (((HF4.out.setD (j := 0) (.slice (some ⟨g8, o8, none⟩) (ka.length + 1) q8)).setD (j := 1) (.slice (some ⟨g9, o9, none⟩) (kb.length + 1) q9)))
            rw [hlA, hlB] at HQ HG
            clear z0 z1 f0 f1
            go_wp2
            go_end0
            exact ⟨rfl, ⟨m + 1, .slice (some ⟨g8, o8, none⟩) (m + 1 + 1) q8, .slice (some ⟨g9, o9, none⟩) (m + 1 + 1) q9, by omega, (fun z _ hz => by rw [Nat.add_sub_cancel, HY.out] at hz; injection hz with hz; subst hz; exact hb), (fun j y a b => by have h7 := HA.out j y a b; intro h8; (try dsimp only at h8); omega), by rw [HKA.out, HKB.out]; exact HQ.out, by have h7 := HG.out; (try rw [hlA] at h7); (try rw [hlB] at h7); exact h7⟩⟩
        · go_simp
          have hb1 : Below (V0).heap.size (V0) ((V0).alloc (.cells #[.int .i64 x] 3)) := (Below.refl _ _).alloc (Nat.le_refl _) _
          have HD1 := hide (HD0.out.below hb1)
          have HA1 := hide (HA0.out.below hb1)
          have HB1 := hide (HB0.out.below hb1)
          have HF1 := hide (HF0.out.below hb1)
          have s1 : D + 1 ≤ ((V0).alloc (.cells #[.int .i64 x] 3)).heap.size := Nat.le_trans s0 hb1.size
          have cx1 : ((V0).alloc (.cells #[.int .i64 x] 3)).cell? ⟨V0.heap.size, 0, none⟩ = some (.int .i64 x) := news_new (by first | rfl | simp)
          refine hK.out _ _ ⟨HD1.out.a, HD1.out.b⟩ ?_
          clear hK K
          try simp only [Act.put, List.setIfInBounds_toArray, List.set_cons_zero, List.set_cons_succ]
          refine wpAnyG_oneF (i := 7) rfl (by kernel_rfl) (fun K hK => ?_)
          go_simp
          have hb2 : Below ((V0.alloc (.cells #[.int .i64 x] 3))).heap.size ((V0.alloc (.cells #[.int .i64 x] 3))) (((V0.alloc (.cells #[.int .i64 x] 3))).alloc (.cells #[.int .i64 k] 3)) := (Below.refl _ _).alloc (Nat.le_refl _) _
          have HD2 := hide (HD1.out.below hb2)
          have HA2 := hide (HA1.out.below hb2)
          have HB2 := hide (HB1.out.below hb2)
          have HF2 := hide (HF1.out.below hb2)
          have s2 : D + 1 ≤ (((V0.alloc (.cells #[.int .i64 x] 3))).alloc (.cells #[.int .i64 k] 3)).heap.size := Nat.le_trans s1 hb2.size
          have ck2 : (((V0.alloc (.cells #[.int .i64 x] 3))).alloc (.cells #[.int .i64 k] 3)).cell? ⟨V0.heap.size + 1, 0, none⟩ = some (.int .i64 k) := news_new (by first | rfl | simp)
          have cx2 := (hb2.cell (World.block_lt_of_cell? _ _ cx1)).trans cx1
          refine hK.out _ _ ⟨HD2.out.a, HD2.out.b⟩ ?_
          clear hK K
          try simp only [Act.put, List.setIfInBounds_toArray, List.set_cons_zero, List.set_cons_succ]
          refine wpAnyG_oneF (i := 8) rfl (by kernel_rfl) (fun K hK => ?_)
          refine step_appendC rfl (.tmp 66) (.tmp 68) rfl (D + 1) va2 _ k rfl HA2.out s2 ⟨V0.heap.size + 1, 0, none⟩ 1 (by first | rfl | simp) ck2 lA (fun g8 o8 q8 w3 r3 gr3 nn3 => ?_)
          have HD3 := hide (HD2.out.grown gr3 HA2.out.farD)
          have HB3 := hide (HB2.out.grown gr3 (by rcases HAp.out with h | h <;> first | exact .inr (fun e => h e.symm) | (rw [h]; cases hq : (vo2 : Value).ownBlock with | none => exact .inl rfl | some _ => exact .inr (by simp))))
          have hne := ap_new HAp.out nn3 (fun b e => (HB2.out.lt b e).2)
          have HA3 := hide r3
          have HF3 := hide (HF2.out.grownA (off := o8) (n := ka.length + 1) (c := q8) gr3 nn3)
          have s3 : D + 1 ≤ w3.heap.size := Nat.le_trans s2 gr3.size
          have cx3 := gr3.cell cx2 (fun e => by have h9 := (HA0.out.lt _ e.symm).2; (try dsimp only at h9); have := hb1.size; omega)
          refine hK.out _ _ ⟨HD3.out.a, HD3.out.b⟩ ?_
          clear hK K
          try simp only [Act.put, List.setIfInBounds_toArray, List.set_cons_zero, List.set_cons_succ]
          refine wpAnyG_one (i := 15) rfl (by kernel_rfl) (by kernel_rfl) (fun K hK => ?_)
          refine step_appendC rfl (.tmp 73) (.tmp 75) rfl (D + 1) vo2 _ x rfl HB3.out s3 ⟨V0.heap.size, 0, none⟩ 1 (by first | rfl | simp) cx3 lB (fun g9 o9 q9 w4 r4 gr4 nn4 => ?_)
          have HD4 := hide (HD3.out.grown gr4 HB3.out.farD)
          have HA4 := hide (HA3.out.grown gr4 (.inr hne))
          have hne2 : (some g8 : Option Nat) ≠ some g9 := fun e => by
            rcases nn4 with h | h
            · exact hne (e.trans h.symm)
            · have := (HA3.out.lt g8 rfl).2; injection e with e; omega
          have HF4 := hide (HF3.out.grownO (off := o9) (n := kb.length + 1) (c := q9) gr4 nn4)
          refine hK.out _ _ ?_
          clear hK K
          try simp only [Act.put, List.setIfInBounds_toArray, List.set_cons_zero, List.set_cons_succ]
          have z0 := HD4.out.a
          have z1 := HD4.out.b
          have f0 := HD4.out.fz 0
          have f1 := HD4.out.fz 1
          refine wpAnyG_behind (i := 16) (v := ?v16_73) rfl (by kernel_rfl) (by kernel_rfl) (by kernel_rfl) (by kernel_rfl) (by kernel_rfl) (by kernel_rfl) (fun _ _ _ h => h) (Or.inl ⟨by rfl, ?hy16_73⟩) ?rest16_73
          case hy16_73 =>
            intro w _
            go_simp
            all_goals (with_reducible rfl)
          try simp only [Act.put, List.setIfInBounds_toArray, List.set_cons_zero, List.set_cons_succ]
          refine wpAnyG_behind (i := 17) (v := ?v17_74) rfl (by kernel_rfl) (by kernel_rfl) (by kernel_rfl) (by kernel_rfl) (by kernel_rfl) (by kernel_rfl) (fun _ _ _ h => h) (Or.inl ⟨by rfl, ?hy17_74⟩) ?rest17_74
          case hy17_74 =>
            intro w _
            go_simp
            all_goals (with_reducible rfl)
          try simp only [Act.put, List.setIfInBounds_toArray, List.set_cons_zero, List.set_cons_succ]
          refine wpAnyG_one (i := 18) rfl (by kernel_rfl) (by kernel_rfl) (fun K hK => ?_)
          go_simp
          refine hK.out _ _ ?_
          clear hK K
          try simp only [Act.put, List.setIfInBounds_toArray, List.set_cons_zero, List.set_cons_succ]
          refine wpAnyG_behind (i := 19) (v := ?v19_75) rfl (by kernel_rfl) (by kernel_rfl) (by kernel_rfl) (by kernel_rfl) (by kernel_rfl) (by kernel_rfl) (fun _ _ _ h => h) (Or.inl ⟨by rfl, ?hy19_75⟩) ?rest19_75
          case hy19_75 =>
            intro w _
            go_simp
            all_goals (with_reducible rfl)
          try simp only [Act.put, List.setIfInBounds_toArray, List.set_cons_zero, List.set_cons_succ]
          refine wpAnyG_behind (i := 20) (v := ?v20_76) rfl (by kernel_rfl) (by kernel_rfl) (by kernel_rfl) (by kernel_rfl) (by kernel_rfl) (by kernel_rfl) (fun _ _ _ h => h) (Or.inl ⟨by rfl, ?hy20_76⟩) ?rest20_76
          case hy20_76 =>
            intro w _
            go_simp
            all_goals (with_reducible rfl)
          try simp only [Act.put, List.setIfInBounds_toArray, List.set_cons_zero, List.set_cons_succ]
          refine wpAnyG_one (i := 21) rfl (by kernel_rfl) (by kernel_rfl) (fun K hK => ?_)
          go_simp
          refine hK.out _ _ ?_
          clear hK K
          try simp only [Act.put, List.setIfInBounds_toArray, List.set_cons_zero, List.set_cons_succ]
          refine wpAnyG_done (by kernel_rfl) ?_ _
          have HQ := hide (HD4.out.put HA4.out r4 (.inr hne2))
          have HG := hide (((HF4.out.setD (j := 0) (.slice (some ⟨g8, o8, none⟩) (ka.length + 1) q8)).setD (j := 1) (.slice (some ⟨g9, o9, none⟩) (kb.length + 1) q9)))
          rw [hlA, hlB] at HQ HG
          clear z0 z1 f0 f1
          go_wp2
          go_end0
          exact ⟨rfl, ⟨m + 1, .slice (some ⟨g8, o8, none⟩) (m + 1 + 1) q8, .slice (some ⟨g9, o9, none⟩) (m + 1 + 1) q9, by omega, (fun z _ hz => by rw [Nat.add_sub_cancel, HY.out] at hz; injection hz with hz; subst hz; exact hb), (fun j y a b => by have h7 := HA.out j y a b; intro h8; (try dsimp only at h8); omega), by rw [HKA.out, HKB.out]; exact HQ.out, by have h7 := HG.out; (try rw [hlA] at h7); (try rw [hlB] at h7); exact h7⟩⟩
      · have hbb : decide (y < x) = false := by simpa using hb
        go_upto_region 0 with fail
        refine wp_region_beyond (by kernel_rfl) (by kernel_rfl) ?_
        repeat (first | go_big_quiet_step (first | (go_at_call 47; exact beyondSame (bestL _ _ _ hbb _))) | quiet_step (first | (go_at_call 47; exact beyondSame (bestL _ _ _ hbb _))))
        refine wpQuiet_nil ?_
        intro _ hw'
        obtain ⟨pq, hw''⟩ := hw'
        subst hw''
        clear C0 C1 C2
        go_upto_region 1 with fail
        obtain ⟨V, hV⟩ : ∃ V, pq.w = V := ⟨_, rfl⟩
        have hVB := pq.h
        rw [hV] at hVB ⊢
        clear hV
        obtain ⟨g1, o1, c1', ee, hcc1, _⟩ := HD.out.ra.form (by rw [List.length_take]; omega)
        injection ee with ee1 ee2 ee3
        subst ee1
        subst ee3
        rw [List.length_take] at hcc hcc1
        have hc1 : m + 1 ≤ c1 := by omega
        have hc2 : m + 1 ≤ c2 := by omega
        have hwm : IntKind.i64.wrap (m : Int) = (m : Int) := by rw [IntKind.wrap_i64]; omega
        have hm1 : (m : Int) ≤ (c1 : Int) := by omega
        have hm2 : (m : Int) ≤ (c2 : Int) := by omega
        have hm3 : m ≤ c1 := by omega
        have hm4 : m ≤ c2 := by omega
        have HDV := hide (HD.out.below (hVB.trans (Below.refl _ _).drew))
        have HFV := hide (HF.out.below (hVB.trans (Below.refl _ _).drew))
        have hF := hide (show (fun w' : World => w'.cell? ⟨D, 0, none⟩ = some (.slice (some ⟨g1, o1, none⟩) (m + 1) c1) ∧ w'.cell? ⟨D, 1, none⟩ = some (.slice (some ⟨g2, o2, none⟩) (m + 1) c2)) V.drew from ⟨HDV.out.a, HDV.out.b⟩)
        have z0 : V.cell? ⟨D, 0, none⟩ = some (.slice (some ⟨g1, o1, none⟩) (m + 1) c1) := HDV.out.a
        have z1 : V.cell? ⟨D, 1, none⟩ = some (.slice (some ⟨g2, o2, none⟩) (m + 1) c2) := HDV.out.b
        have f0 : V.frozen? ⟨D, 0, none⟩ = false := HDV.out.fz 0
        have f1 : V.frozen? ⟨D, 1, none⟩ = false := HDV.out.fz 1
        clear HD HF HC hVB dlt g2lt ee2 hcc hcc1 C3
        refine wp_region_G 26 (fun w' => w'.cell? ⟨D, 0, none⟩ = some (.slice (some ⟨g1, o1, none⟩) (m + 1) c1) ∧ w'.cell? ⟨D, 1, none⟩ = some (.slice (some ⟨g2, o2, none⟩) (m + 1) c2)) (by kernel_rfl) ?_
        refine wpAnyG_pure (i := 0) (v := ?v0_1) rfl (by kernel_rfl) (by kernel_rfl) (by kernel_rfl) (by kernel_rfl) (by kernel_rfl) (fun _ _ _ h => h) (fun _ => hF.out) (Or.inl ⟨by rfl, ?hy0_1⟩) ?rest0_1
        case hy0_1 =>
          intro w _
          go_simp
          all_goals (with_reducible rfl)
        try simp only [Act.put, List.setIfInBounds_toArray, List.set_cons_zero, List.set_cons_succ]
        refine wpAnyG_pure (i := 1) (v := ?v1_2) rfl (by kernel_rfl) (by kernel_rfl) (by kernel_rfl) (by kernel_rfl) (by kernel_rfl) (fun _ _ _ h => h) (fun _ => hF.out) (Or.inl ⟨by rfl, ?hy1_2⟩) ?rest1_2
        case hy1_2 =>
          intro w _
          go_simp
          all_goals (with_reducible rfl)
        try simp only [Act.put, List.setIfInBounds_toArray, List.set_cons_zero, List.set_cons_succ]
        refine wpAnyG_pure (i := 2) (v := ?v2_3) rfl (by kernel_rfl) (by kernel_rfl) (by kernel_rfl) (by kernel_rfl) (by kernel_rfl) (fun _ _ _ h => h) (fun _ => hF.out) (Or.inl ⟨by rfl, ?hy2_3⟩) ?rest2_3
        case hy2_3 =>
          intro w _
          go_simp
          all_goals (with_reducible rfl)
        try simp only [Act.put, List.setIfInBounds_toArray, List.set_cons_zero, List.set_cons_succ]
        refine wpAnyG_pure (i := 3) (v := ?v3_4) rfl (by kernel_rfl) (by kernel_rfl) (by kernel_rfl) (by kernel_rfl) (by kernel_rfl) (fun _ _ _ h => h) (fun _ => hF.out) (Or.inl ⟨by rfl, ?hy3_4⟩) ?rest3_4
        case hy3_4 =>
          intro w _
          go_simp
          all_goals (with_reducible rfl)
        try simp only [Act.put, List.setIfInBounds_toArray, List.set_cons_zero, List.set_cons_succ]
        refine wpAnyG_pure (i := 4) (v := ?v4_5) rfl (by kernel_rfl) (by kernel_rfl) (by kernel_rfl) (by kernel_rfl) (by kernel_rfl) (fun _ _ _ h => h) (fun _ => hF.out) (Or.inl ⟨by rfl, ?hy4_5⟩) ?rest4_5
        case hy4_5 =>
          intro w _
          go_simp
          all_goals (with_reducible rfl)
        try simp only [Act.put, List.setIfInBounds_toArray, List.set_cons_zero, List.set_cons_succ]
        refine wpAnyG_before (i := 5) (f := 4) (v := ?v5_6) rfl (by kernel_rfl) (by kernel_rfl) (by kernel_rfl) (by kernel_rfl) (by kernel_rfl) (by kernel_rfl) (fun _ _ _ h => h) hF.out (Or.inl ⟨by rfl, ?hy5_6⟩) ?rest5_6
        case hy5_6 =>
          intro w hSw
          (try dsimp only at hSw)
          go_split_ands
          go_simp
          all_goals (with_reducible rfl)
        try simp only [Act.put, List.setIfInBounds_toArray, List.set_cons_zero, List.set_cons_succ]
        refine wpAnyG_pure (i := 6) (v := ?v6_7) rfl (by kernel_rfl) (by kernel_rfl) (by kernel_rfl) (by kernel_rfl) (by kernel_rfl) (fun _ _ _ h => h) (fun _ => hF.out) (Or.inl ⟨by rfl, ?hy6_7⟩) ?rest6_7
        case hy6_7 =>
          intro w _
          go_simp
          all_goals (with_reducible rfl)
        try simp only [Act.put, List.setIfInBounds_toArray, List.set_cons_zero, List.set_cons_succ]
        refine wpAnyG_pure (i := 7) (v := ?v7_8) rfl (by kernel_rfl) (by kernel_rfl) (by kernel_rfl) (by kernel_rfl) (by kernel_rfl) (fun _ _ _ h => h) (fun _ => hF.out) (Or.inl ⟨by rfl, ?hy7_8⟩) ?rest7_8
        case hy7_8 =>
          intro w _
          go_simp
          all_goals (with_reducible rfl)
        try simp only [Act.put, List.setIfInBounds_toArray, List.set_cons_zero, List.set_cons_succ]
        refine wpAnyG_pure (i := 8) (v := ?v8_9) rfl (by kernel_rfl) (by kernel_rfl) (by kernel_rfl) (by kernel_rfl) (by kernel_rfl) (fun _ _ _ h => h) (fun _ => hF.out) (Or.inl ⟨by rfl, ?hy8_9⟩) ?rest8_9
        case hy8_9 =>
          intro w _
          go_simp
          all_goals (with_reducible rfl)
        try simp only [Act.put, List.setIfInBounds_toArray, List.set_cons_zero, List.set_cons_succ]
        refine wpAnyG_before (i := 9) (f := 4) (v := ?v9_10) rfl (by kernel_rfl) (by kernel_rfl) (by kernel_rfl) (by kernel_rfl) (by kernel_rfl) (by kernel_rfl) (fun _ _ _ h => h) hF.out (Or.inl ⟨by rfl, ?hy9_10⟩) ?rest9_10
        case hy9_10 =>
          intro w hSw
          (try dsimp only at hSw)
          go_split_ands
          go_simp
          all_goals (with_reducible rfl)
        try simp only [Act.put, List.setIfInBounds_toArray, List.set_cons_zero, List.set_cons_succ]
        refine wpAnyG_pure (i := 10) (v := ?v10_11) rfl (by kernel_rfl) (by kernel_rfl) (by kernel_rfl) (by kernel_rfl) (by kernel_rfl) (fun _ _ _ h => h) (fun _ => hF.out) (Or.inl ⟨by rfl, ?hy10_11⟩) ?rest10_11
        case hy10_11 =>
          intro w _
          go_simp
          all_goals (with_reducible rfl)
        try simp only [Act.put, List.setIfInBounds_toArray, List.set_cons_zero, List.set_cons_succ]
        refine wpAnyG_pure (i := 11) (v := ?v11_12) rfl (by kernel_rfl) (by kernel_rfl) (by kernel_rfl) (by kernel_rfl) (by kernel_rfl) (fun _ _ _ h => h) (fun _ => hF.out) (Or.inl ⟨by rfl, ?hy11_12⟩) ?rest11_12
        case hy11_12 =>
          intro w _
          go_simp
          all_goals (with_reducible rfl)
        try simp only [Act.put, List.setIfInBounds_toArray, List.set_cons_zero, List.set_cons_succ]
        refine wpAnyG_pure (i := 12) (v := ?v12_13) rfl (by kernel_rfl) (by kernel_rfl) (by kernel_rfl) (by kernel_rfl) (by kernel_rfl) (fun _ _ _ h => h) (fun _ => hF.out) (Or.inl ⟨by rfl, ?hy12_13⟩) ?rest12_13
        case hy12_13 =>
          intro w _
          go_simp
          all_goals (with_reducible rfl)
        try simp only [Act.put, List.setIfInBounds_toArray, List.set_cons_zero, List.set_cons_succ]
        refine wpAnyG_pure (i := 13) (v := ?v13_14) rfl (by kernel_rfl) (by kernel_rfl) (by kernel_rfl) (by kernel_rfl) (by kernel_rfl) (fun _ _ _ h => h) (fun _ => hF.out) (Or.inl ⟨by rfl, ?hy13_14⟩) ?rest13_14
        case hy13_14 =>
          intro w _
          go_simp
          all_goals (with_reducible rfl)
        try simp only [Act.put, List.setIfInBounds_toArray, List.set_cons_zero, List.set_cons_succ]
        refine wpAnyG_pure (i := 14) (v := ?v14_15) rfl (by kernel_rfl) (by kernel_rfl) (by kernel_rfl) (by kernel_rfl) (by kernel_rfl) (fun _ _ _ h => h) (fun _ => hF.out) (Or.inl ⟨by rfl, ?hy14_15⟩) ?rest14_15
        case hy14_15 =>
          intro w _
          go_simp
          all_goals (with_reducible rfl)
        try simp only [Act.put, List.setIfInBounds_toArray, List.set_cons_zero, List.set_cons_succ]
        refine wpAnyG_pure (i := 15) (v := ?v15_16) rfl (by kernel_rfl) (by kernel_rfl) (by kernel_rfl) (by kernel_rfl) (by kernel_rfl) (fun _ _ _ h => h) (fun _ => hF.out) (Or.inl ⟨by rfl, ?hy15_16⟩) ?rest15_16
        case hy15_16 =>
          intro w _
          go_simp
          all_goals (with_reducible rfl)
        try simp only [Act.put, List.setIfInBounds_toArray, List.set_cons_zero, List.set_cons_succ]
        refine wpAnyG_before (i := 16) (f := 4) (v := ?v16_17) rfl (by kernel_rfl) (by kernel_rfl) (by kernel_rfl) (by kernel_rfl) (by kernel_rfl) (by kernel_rfl) (fun _ _ _ h => h) hF.out (Or.inl ⟨by rfl, ?hy16_17⟩) ?rest16_17
        case hy16_17 =>
          intro w hSw
          (try dsimp only at hSw)
          go_split_ands
          go_simp
          all_goals (with_reducible rfl)
        try simp only [Act.put, List.setIfInBounds_toArray, List.set_cons_zero, List.set_cons_succ]
        refine wpAnyG_pure (i := 17) (v := ?v17_18) rfl (by kernel_rfl) (by kernel_rfl) (by kernel_rfl) (by kernel_rfl) (by kernel_rfl) (fun _ _ _ h => h) (fun _ => hF.out) (Or.inl ⟨by rfl, ?hy17_18⟩) ?rest17_18
        case hy17_18 =>
          intro w _
          go_simp
          all_goals (with_reducible rfl)
        try simp only [Act.put, List.setIfInBounds_toArray, List.set_cons_zero, List.set_cons_succ]
        refine wpAnyG_pure (i := 18) (v := ?v18_19) rfl (by kernel_rfl) (by kernel_rfl) (by kernel_rfl) (by kernel_rfl) (by kernel_rfl) (fun _ _ _ h => h) (fun _ => hF.out) (Or.inl ⟨by rfl, ?hy18_19⟩) ?rest18_19
        case hy18_19 =>
          intro w _
          go_simp
          all_goals (with_reducible rfl)
        try simp only [Act.put, List.setIfInBounds_toArray, List.set_cons_zero, List.set_cons_succ]
        refine wpAnyG_pure (i := 19) (v := ?v19_20) rfl (by kernel_rfl) (by kernel_rfl) (by kernel_rfl) (by kernel_rfl) (by kernel_rfl) (fun _ _ _ h => h) (fun _ => hF.out) (Or.inl ⟨by rfl, ?hy19_20⟩) ?rest19_20
        case hy19_20 =>
          intro w _
          go_simp
          all_goals (with_reducible rfl)
        try simp only [Act.put, List.setIfInBounds_toArray, List.set_cons_zero, List.set_cons_succ]
        refine wpAnyG_before (i := 20) (f := 4) (v := ?v20_21) rfl (by kernel_rfl) (by kernel_rfl) (by kernel_rfl) (by kernel_rfl) (by kernel_rfl) (by kernel_rfl) (fun _ _ _ h => h) hF.out (Or.inl ⟨by rfl, ?hy20_21⟩) ?rest20_21
        case hy20_21 =>
          intro w hSw
          (try dsimp only at hSw)
          go_split_ands
          go_simp
          all_goals (with_reducible rfl)
        try simp only [Act.put, List.setIfInBounds_toArray, List.set_cons_zero, List.set_cons_succ]
        refine wpAnyG_pure (i := 21) (v := ?v21_22) rfl (by kernel_rfl) (by kernel_rfl) (by kernel_rfl) (by kernel_rfl) (by kernel_rfl) (fun _ _ _ h => h) (fun _ => hF.out) (Or.inl ⟨by rfl, ?hy21_22⟩) ?rest21_22
        case hy21_22 =>
          intro w _
          go_simp
          all_goals (with_reducible rfl)
        try simp only [Act.put, List.setIfInBounds_toArray, List.set_cons_zero, List.set_cons_succ]
        refine wpAnyG_pure (i := 22) (v := ?v22_23) rfl (by kernel_rfl) (by kernel_rfl) (by kernel_rfl) (by kernel_rfl) (by kernel_rfl) (fun _ _ _ h => h) (fun _ => hF.out) (Or.inl ⟨by rfl, ?hy22_23⟩) ?rest22_23
        case hy22_23 =>
          intro w _
          go_simp
          all_goals (with_reducible rfl)
        try simp only [Act.put, List.setIfInBounds_toArray, List.set_cons_zero, List.set_cons_succ]
        refine wpAnyG_pure (i := 23) (v := ?v23_24) rfl (by kernel_rfl) (by kernel_rfl) (by kernel_rfl) (by kernel_rfl) (by kernel_rfl) (fun _ _ _ h => h) (fun _ => hF.out) (Or.inl ⟨by rfl, ?hy23_24⟩) ?rest23_24
        case hy23_24 =>
          intro w _
          go_simp
          all_goals (with_reducible rfl)
        try simp only [Act.put, List.setIfInBounds_toArray, List.set_cons_zero, List.set_cons_succ]
        refine wpAnyG_pure (i := 24) (v := ?v24_25) rfl (by kernel_rfl) (by kernel_rfl) (by kernel_rfl) (by kernel_rfl) (by kernel_rfl) (fun _ _ _ h => h) (fun _ => hF.out) (Or.inl ⟨by rfl, ?hy24_25⟩) ?rest24_25
        case hy24_25 =>
          intro w _
          go_simp
          all_goals (with_reducible rfl)
        try simp only [Act.put, List.setIfInBounds_toArray, List.set_cons_zero, List.set_cons_succ]
        refine wpAnyG_pure (i := 25) (v := ?v25_26) rfl (by kernel_rfl) (by kernel_rfl) (by kernel_rfl) (by kernel_rfl) (by kernel_rfl) (fun _ _ _ h => h) (fun _ => hF.out) (Or.inl ⟨by rfl, ?hy25_26⟩) ?rest25_26
        case hy25_26 =>
          intro w _
          go_simp
          all_goals (with_reducible rfl)
        try simp only [Act.put, List.setIfInBounds_toArray, List.set_cons_zero, List.set_cons_succ]
        refine wpAnyG_one (i := 26) rfl (by kernel_rfl) (by kernel_rfl) (fun K hK => ?_)
        go_simp
        refine hK.out _ _ ?_
        clear hK K
        try simp only [Act.put, List.setIfInBounds_toArray, List.set_cons_zero, List.set_cons_succ]
        refine wpAnyG_behind (i := 27) (v := ?v27_27) rfl (by kernel_rfl) (by kernel_rfl) (by kernel_rfl) (by kernel_rfl) (by kernel_rfl) (by kernel_rfl) (fun _ _ _ h => h) (Or.inl ⟨by rfl, ?hy27_27⟩) ?rest27_27
        case hy27_27 =>
          intro w _
          go_simp
          all_goals (with_reducible rfl)
        try simp only [Act.put, List.setIfInBounds_toArray, List.set_cons_zero, List.set_cons_succ]
        refine wpAnyG_behind (i := 28) (v := ?v28_28) rfl (by kernel_rfl) (by kernel_rfl) (by kernel_rfl) (by kernel_rfl) (by kernel_rfl) (by kernel_rfl) (fun _ _ _ h => h) (Or.inl ⟨by rfl, ?hy28_28⟩) ?rest28_28
        case hy28_28 =>
          intro w _
          go_simp
          all_goals (with_reducible rfl)
        try simp only [Act.put, List.setIfInBounds_toArray, List.set_cons_zero, List.set_cons_succ]
        refine wpAnyG_one (i := 29) rfl (by kernel_rfl) (by kernel_rfl) (fun K hK => ?_)
        go_simp
        refine hK.out _ _ ?_
        clear hK K
        try simp only [Act.put, List.setIfInBounds_toArray, List.set_cons_zero, List.set_cons_succ]
        refine wpAnyG_done (by kernel_rfl) ?_ _
        have hra := (HDV.out.ra.take (k := m) (by omega))
        have hrb := (HDV.out.rb.take (k := m) (by omega))
        rw [List.take_take, Nat.min_eq_left (by omega)] at hra hrb
        have HQ := hide (HDV.out.dc.put hra hrb (by have := HDV.out.ap; exact this))
        have HG := hide ((((HFV.out.setD (j := 0) (.slice (some ⟨g1, o1, none⟩) m c1)).setD (j := 1) (.slice (some ⟨g2, o2, none⟩) m c2)).re (va2 := .slice (some ⟨g1, o1, none⟩) m c1) (vo2 := .slice (some ⟨g2, o2, none⟩) m c2) rfl rfl))
        have HA2 := hide (show ∀ j z, m ≤ j → vs[j]? = some z → ¬ (z < x) from fun j z hj hz => by
          rcases (show m + 1 ≤ j ∨ j = m by omega) with h | rfl
          · exact HA.out j z h hz
          · rw [HY.out] at hz; injection hz with hz; subst hz; exact hb)
        clear hra hrb HDV HFV HA hF z0 z1 f0 f1
        go_wp2
        go_roundg m
        case rel => exact ⟨_, _, by omega, HA2, HQ, HG⟩
        case measure => omega

end Go.Proofs.Ythjicnddfjpnjaa
