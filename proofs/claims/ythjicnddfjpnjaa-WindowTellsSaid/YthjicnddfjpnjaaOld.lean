/-
  WALKS: the deque's old.
-/
import Derived.Test.YthjicnddfjpnjaaPush
namespace Go.Proofs.Ythjicnddfjpnjaa
open Go.RowKit
set_option linter.unusedSimpArgs false
set_option linter.unusedVariables false

attribute [local go_sem] iteMin iteMax iteMinN iteMaxN

/-- what old has done -/
def Olded (w w' : World) (D : Nat) (k : Int) (fb va vo : Value) (ks vs : List Int) : Prop := ∃ r va' vo', r < ks.length ∧ (∀ j y, j < r → ks[j]? = some y → y < k) ∧ (∃ y, ks[r]? = some y ∧ k ≤ y) ∧ Dq w' D fb va' vo' (ks.drop r) (vs.drop r) ∧ Fr w w' D va vo va' vo'
set_option maxRecDepth 100000 in
set_option maxHeartbeats 8000000 in
theorem old_any (D : Nat) (k : Int) (fb va vo : Value) (ks vs : List Int) (w : World) (h : Dq w D fb va vo ks vs) (hl : ks.length = vs.length) (hn : vs.length < 17592186044416 + 1) (n : Nat) (hn1 : ks.length = n + 1) (yl : Int) (hyl : ks[n]? = some yl) (hkl : k ≤ yl) :
    Calls Try.prog 58 #[.pointer (some ⟨D, 0, none⟩), .int .i64 k] w fun e w' => e = .returned (.tuple #[]) ∧ Olded w w' D k fb va vo ks vs := by
  have HD0 := hide h
  have HYL := hide hyl
  clear h hyl
  go_enter Try.func58, Try.ntmps58
  go_wp2
  go_loopg [] (n + 1) (fun gk wr => ∃ r va1 vo1, gk + r = n + 1 ∧ 0 < gk ∧ Hid (∀ j y, j < r → ks[j]? = some y → y < k) ∧ Hid (Dq wr D fb va1 vo1 (ks.drop r) (vs.drop r)) ∧ Hid (Fr w wr D va vo va1 vo1))
  case atStart => exact ⟨0, va, vo, by omega, by omega, (fun j y hj => absurd hj (by omega)), by simpa using HD0, Fr.refl _ _ _ _⟩
  case round =>
    obtain ⟨r, va1, vo1, hgr, hg0, HA, HD, HF⟩ := hrel
    obtain ⟨m, rfl⟩ : ∃ m, gk = m + 1 := ⟨gk - 1, by omega⟩
    have hlr : (ks.drop r).length = m + 1 := by rw [List.length_drop]; omega
    have hlo : (vs.drop r).length = m + 1 := by rw [List.length_drop]; omega
    obtain ⟨g1, o1, c1, e1, hcc1, hcell⟩ := HD.out.ra.form (by omega)
    obtain ⟨g2, o2, c2, e2, hcc2, _⟩ := HD.out.rb.form (by omega)
    rw [hlr] at e1 hcc1
    rw [hlo] at e2 hcc2
    subst e1
    subst e2
    have hrn : r < ks.length := by omega
    have hy : ks[r]? = some ks[r] := List.getElem?_eq_getElem hrn
    obtain ⟨y, hyy⟩ : ∃ y, ks[r] = y := ⟨_, rfl⟩
    rw [hyy] at hy
    have HY := hide hy
    have hc0 := hcell 0 y (by rw [List.getElem?_drop]; simpa using hy)
    rw [Nat.add_zero] at hc0
    have z0 := HD.out.a
    have z1 := HD.out.b
    have m0 : (0 : Int) ≤ (m : Int) := Int.natCast_nonneg _
    have mp : (0 : Int) < (m : Int) + 1 := by omega
    clear hcell hy hyy
    by_cases hlt : y < k
    · have hm1 : 1 ≤ m := by
        rcases Nat.eq_zero_or_pos m with h0 | h0
        · exfalso
          have : r = n := by omega
          subst this
          have := HY.out.symm.trans HYL.out
          injection this with this; omega
        · exact h0
      have hc1 : ¬ (c1 = 1) := by omega
      have hc2 : ¬ (c2 = 1) := by omega
      have hc3 : (1 : Int) ≤ (m : Int) + 1 := by omega
      have hc4 : 1 ≤ m + 1 := by omega
      have hc5 : 1 ≤ c1 := by omega
      have hc6 : 1 ≤ c2 := by omega
      have hc7 : m + 1 ≤ c1 := by omega
      have hc8 : m + 1 ≤ c2 := by omega
      have hc9 : ¬ ((c1 : Int) = 1) := by omega
      have hc10 : ¬ ((c2 : Int) = 1) := by omega
      go_upto_region 1 with fail
      have HDV := hide (HD.out.below (Below.refl _ _).drew)
      have HFV := hide (HF.out.below (Below.refl _ _).drew)
      have hF := hide (show (fun w' : World => w'.cell? ⟨D, 0, none⟩ = some (.slice (some ⟨g1, o1, none⟩) (m + 1) c1) ∧ w'.cell? ⟨D, 1, none⟩ = some (.slice (some ⟨g2, o2, none⟩) (m + 1) c2)) wr.drew from ⟨HDV.out.a, HDV.out.b⟩)
      have f0 : wr.frozen? ⟨D, 0, none⟩ = false := HDV.out.fz 0
      have f1 : wr.frozen? ⟨D, 1, none⟩ = false := HDV.out.fz 1
      refine wp_region_G 14 (fun w' => w'.cell? ⟨D, 0, none⟩ = some (.slice (some ⟨g1, o1, none⟩) (m + 1) c1) ∧ w'.cell? ⟨D, 1, none⟩ = some (.slice (some ⟨g2, o2, none⟩) (m + 1) c2)) (by kernel_rfl) ?_
      refine wpAnyG_pure (i := 0) (v := ?v0_29) rfl (by kernel_rfl) (by kernel_rfl) (by kernel_rfl) (by kernel_rfl) (by kernel_rfl) (fun _ _ _ h => h) (fun _ => hF.out) (Or.inl ⟨by rfl, ?hy0_29⟩) ?rest0_29
      case hy0_29 =>
        intro w _
        go_simp
        all_goals (with_reducible rfl)
      try simp only [Act.put, List.setIfInBounds_toArray, List.set_cons_zero, List.set_cons_succ]
      refine wpAnyG_pure (i := 1) (v := ?v1_30) rfl (by kernel_rfl) (by kernel_rfl) (by kernel_rfl) (by kernel_rfl) (by kernel_rfl) (fun _ _ _ h => h) (fun _ => hF.out) (Or.inl ⟨by rfl, ?hy1_30⟩) ?rest1_30
      case hy1_30 =>
        intro w _
        go_simp
        all_goals (with_reducible rfl)
      try simp only [Act.put, List.setIfInBounds_toArray, List.set_cons_zero, List.set_cons_succ]
      refine wpAnyG_pure (i := 2) (v := ?v2_31) rfl (by kernel_rfl) (by kernel_rfl) (by kernel_rfl) (by kernel_rfl) (by kernel_rfl) (fun _ _ _ h => h) (fun _ => hF.out) (Or.inl ⟨by rfl, ?hy2_31⟩) ?rest2_31
      case hy2_31 =>
        intro w _
        go_simp
        all_goals (with_reducible rfl)
      try simp only [Act.put, List.setIfInBounds_toArray, List.set_cons_zero, List.set_cons_succ]
      refine wpAnyG_pure (i := 3) (v := ?v3_32) rfl (by kernel_rfl) (by kernel_rfl) (by kernel_rfl) (by kernel_rfl) (by kernel_rfl) (fun _ _ _ h => h) (fun _ => hF.out) (Or.inl ⟨by rfl, ?hy3_32⟩) ?rest3_32
      case hy3_32 =>
        intro w _
        go_simp
        all_goals (with_reducible rfl)
      try simp only [Act.put, List.setIfInBounds_toArray, List.set_cons_zero, List.set_cons_succ]
      refine wpAnyG_pure (i := 4) (v := ?v4_33) rfl (by kernel_rfl) (by kernel_rfl) (by kernel_rfl) (by kernel_rfl) (by kernel_rfl) (fun _ _ _ h => h) (fun _ => hF.out) (Or.inl ⟨by rfl, ?hy4_33⟩) ?rest4_33
      case hy4_33 =>
        intro w _
        go_simp
        all_goals (with_reducible rfl)
      try simp only [Act.put, List.setIfInBounds_toArray, List.set_cons_zero, List.set_cons_succ]
      refine wpAnyG_before (i := 5) (f := 4) (v := ?v5_34) rfl (by kernel_rfl) (by kernel_rfl) (by kernel_rfl) (by kernel_rfl) (by kernel_rfl) (by kernel_rfl) (fun _ _ _ h => h) hF.out (Or.inl ⟨by rfl, ?hy5_34⟩) ?rest5_34
      case hy5_34 =>
        intro w hSw
        (try dsimp only at hSw)
        go_split_ands
        go_simp
        all_goals (with_reducible rfl)
      try simp only [Act.put, List.setIfInBounds_toArray, List.set_cons_zero, List.set_cons_succ]
      refine wpAnyG_pure (i := 6) (v := ?v6_35) rfl (by kernel_rfl) (by kernel_rfl) (by kernel_rfl) (by kernel_rfl) (by kernel_rfl) (fun _ _ _ h => h) (fun _ => hF.out) (Or.inl ⟨by rfl, ?hy6_35⟩) ?rest6_35
      case hy6_35 =>
        intro w _
        go_simp
        all_goals (with_reducible rfl)
      try simp only [Act.put, List.setIfInBounds_toArray, List.set_cons_zero, List.set_cons_succ]
      refine wpAnyG_pure (i := 7) (v := ?v7_36) rfl (by kernel_rfl) (by kernel_rfl) (by kernel_rfl) (by kernel_rfl) (by kernel_rfl) (fun _ _ _ h => h) (fun _ => hF.out) (Or.inl ⟨by rfl, ?hy7_36⟩) ?rest7_36
      case hy7_36 =>
        intro w _
        go_simp
        all_goals (with_reducible rfl)
      try simp only [Act.put, List.setIfInBounds_toArray, List.set_cons_zero, List.set_cons_succ]
      refine wpAnyG_pure (i := 8) (v := ?v8_37) rfl (by kernel_rfl) (by kernel_rfl) (by kernel_rfl) (by kernel_rfl) (by kernel_rfl) (fun _ _ _ h => h) (fun _ => hF.out) (Or.inl ⟨by rfl, ?hy8_37⟩) ?rest8_37
      case hy8_37 =>
        intro w _
        go_simp
        all_goals (with_reducible rfl)
      try simp only [Act.put, List.setIfInBounds_toArray, List.set_cons_zero, List.set_cons_succ]
      refine wpAnyG_pure (i := 9) (v := ?v9_38) rfl (by kernel_rfl) (by kernel_rfl) (by kernel_rfl) (by kernel_rfl) (by kernel_rfl) (fun _ _ _ h => h) (fun _ => hF.out) (Or.inl ⟨by rfl, ?hy9_38⟩) ?rest9_38
      case hy9_38 =>
        intro w _
        go_simp
        all_goals (with_reducible rfl)
      try simp only [Act.put, List.setIfInBounds_toArray, List.set_cons_zero, List.set_cons_succ]
      refine wpAnyG_before (i := 10) (f := 4) (v := ?v10_39) rfl (by kernel_rfl) (by kernel_rfl) (by kernel_rfl) (by kernel_rfl) (by kernel_rfl) (by kernel_rfl) (fun _ _ _ h => h) hF.out (Or.inl ⟨by rfl, ?hy10_39⟩) ?rest10_39
      case hy10_39 =>
        intro w hSw
        (try dsimp only at hSw)
        go_split_ands
        go_simp
        all_goals (with_reducible rfl)
      try simp only [Act.put, List.setIfInBounds_toArray, List.set_cons_zero, List.set_cons_succ]
      refine wpAnyG_pure (i := 11) (v := ?v11_40) rfl (by kernel_rfl) (by kernel_rfl) (by kernel_rfl) (by kernel_rfl) (by kernel_rfl) (fun _ _ _ h => h) (fun _ => hF.out) (Or.inl ⟨by rfl, ?hy11_40⟩) ?rest11_40
      case hy11_40 =>
        intro w _
        go_simp
        all_goals (with_reducible rfl)
      try simp only [Act.put, List.setIfInBounds_toArray, List.set_cons_zero, List.set_cons_succ]
      refine wpAnyG_pure (i := 12) (v := ?v12_41) rfl (by kernel_rfl) (by kernel_rfl) (by kernel_rfl) (by kernel_rfl) (by kernel_rfl) (fun _ _ _ h => h) (fun _ => hF.out) (Or.inl ⟨by rfl, ?hy12_41⟩) ?rest12_41
      case hy12_41 =>
        intro w _
        go_simp
        all_goals (with_reducible rfl)
      try simp only [Act.put, List.setIfInBounds_toArray, List.set_cons_zero, List.set_cons_succ]
      refine wpAnyG_pure (i := 13) (v := ?v13_42) rfl (by kernel_rfl) (by kernel_rfl) (by kernel_rfl) (by kernel_rfl) (by kernel_rfl) (fun _ _ _ h => h) (fun _ => hF.out) (Or.inl ⟨by rfl, ?hy13_42⟩) ?rest13_42
      case hy13_42 =>
        intro w _
        go_simp
        all_goals (with_reducible rfl)
      try simp only [Act.put, List.setIfInBounds_toArray, List.set_cons_zero, List.set_cons_succ]
      refine wpAnyG_one (i := 14) rfl (by kernel_rfl) (by kernel_rfl) (fun K hK => ?_)
      go_simp
      refine hK.out _ _ ?_
      clear hK K
      try simp only [Act.put, List.setIfInBounds_toArray, List.set_cons_zero, List.set_cons_succ]
      refine wpAnyG_behind (i := 15) (v := ?v15_43) rfl (by kernel_rfl) (by kernel_rfl) (by kernel_rfl) (by kernel_rfl) (by kernel_rfl) (by kernel_rfl) (fun _ _ _ h => h) (Or.inl ⟨by rfl, ?hy15_43⟩) ?rest15_43
      case hy15_43 =>
        intro w _
        go_simp
        all_goals (with_reducible rfl)
      try simp only [Act.put, List.setIfInBounds_toArray, List.set_cons_zero, List.set_cons_succ]
      refine wpAnyG_behind (i := 16) (v := ?v16_44) rfl (by kernel_rfl) (by kernel_rfl) (by kernel_rfl) (by kernel_rfl) (by kernel_rfl) (by kernel_rfl) (fun _ _ _ h => h) (Or.inl ⟨by rfl, ?hy16_44⟩) ?rest16_44
      case hy16_44 =>
        intro w _
        go_simp
        all_goals (with_reducible rfl)
      try simp only [Act.put, List.setIfInBounds_toArray, List.set_cons_zero, List.set_cons_succ]
      refine wpAnyG_one (i := 17) rfl (by kernel_rfl) (by kernel_rfl) (fun K hK => ?_)
      go_simp
      refine hK.out _ _ ?_
      clear hK K
      try simp only [Act.put, List.setIfInBounds_toArray, List.set_cons_zero, List.set_cons_succ]
      refine wpAnyG_done (by kernel_rfl) ?_ _
      have hra := (HDV.out.ra.tail (by omega))
      have hrb := (HDV.out.rb.tail (by omega))
      rw [Nat.add_sub_cancel, List.drop_drop] at hra hrb
      have HQ := hide (HDV.out.dc.put hra hrb (by have := HDV.out.ap; exact this))
      have HG := hide ((((HFV.out.setD (j := 0) (.slice (some ⟨g1, o1 + 1, none⟩) m (c1 - 1))).setD (j := 1) (.slice (some ⟨g2, o2 + 1, none⟩) m (c2 - 1))).re (va2 := .slice (some ⟨g1, o1 + 1, none⟩) m (c1 - 1)) (vo2 := .slice (some ⟨g2, o2 + 1, none⟩) m (c2 - 1)) rfl rfl))
      have HA2 := hide (show ∀ j z, j < r + 1 → ks[j]? = some z → z < k from fun j z hj hz => by
        rcases (show j < r ∨ j = r by omega) with h | rfl
        · exact HA.out j z h hz
        · rw [HY.out] at hz; injection hz with hz; subst hz; exact hlt)
      clear hra hrb HDV HFV HA hF z0 z1 f0 f1 HD HF hc0
      go_wp2
      go_roundg m
      case rel => exact ⟨r + 1, _, _, by omega, by omega, HA2, HQ, HG⟩
      case measure => omega
    · have HP := hide (show Olded w wr D k fb va vo ks vs from ⟨r, _, _, hrn, HA.out, ⟨y, HY.out, by omega⟩, HD.out, HF.out⟩)
      clear HA HD HF
      go_wp2
      go_end0
      exact ⟨rfl, HP.out⟩

end Go.Proofs.Ythjicnddfjpnjaa
