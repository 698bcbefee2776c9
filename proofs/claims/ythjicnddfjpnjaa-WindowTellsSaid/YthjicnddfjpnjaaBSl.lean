/-
  WALKS: the reference's BSlide.
-/
import Derived.Test.YthjicnddfjpnjaaSrt
namespace Go.Proofs.Ythjicnddfjpnjaa
open Go.RowKit
set_option linter.unusedSimpArgs false
set_option linter.unusedVariables false

attribute [local go_sem] iteMin iteMax iteMinN iteMaxN

set_option maxRecDepth 100000 in
set_option maxHeartbeats 8000000 in
theorem bslide_no (low : Bool) (a : Option Addr) (n c : Nat) (xs : List Int) (win : Int) (w : World) (h : IntsAt w a n c xs) (hs : win < 1) :
    Calls Try.prog 24 #[.slice a n c, .int .i64 win, .bool low] w fun e w' => BackI (slideI xs win low) e w' ∧ Below w.heap.size w w' := by
  have HS := hide (slideI_no (xs := xs) (low := low) hs)
  have hlim := h.lim
  have HI := hide h
  clear h
  go_enter Try.func24, Try.ntmps24
  go_wp2
  go_loopw [7, 13] (fun v i wr => v = .slice none 0 0 ∧ i = .int .i64 0 ∧ wr = w) (fun _ _ _ => 0)
  case atStart => exact ⟨rfl, rfl, rfl⟩
  case round =>
    obtain ⟨rfl, rfl, hw⟩ := hrel
    have HW := hide hw
    clear hw
    by_cases hlt : 0 < n
    · have k1 : (0 : Int) < (n : Int) := by omega
      go_wp2
      go_ret
      exact ⟨⟨none, 0, 0, rfl, by rw [HS.out]; exact IntsAt.nil_ _⟩, by rw [HW.out]; exact Below.refl _ _⟩
    · obtain rfl : n = 0 := by omega
      go_wp2
      go_ret
      exact ⟨⟨none, 0, 0, rfl, by rw [HS.out]; exact IntsAt.nil_ _⟩, by rw [HW.out]; exact Below.refl _ _⟩
set_option maxRecDepth 100000 in
set_option maxHeartbeats 8000000 in
theorem bslide_ok (low : Bool) (a : Option Addr) (n c : Nat) (xs : List Int) (q : Nat) (w : World) (h : IntsAt w a n c xs) (hq : 0 < q) (hq' : (q : Int) ≤ 9223372036854775807) :
    Calls Try.prog 24 #[.slice a n c, .int .i64 (q : Int), .bool low] w fun e w' => BackI (slideI xs (q : Int) low) e w' ∧ Below w.heap.size w w' := by
  obtain ⟨i0, hi0, hz0, hz1, hz2⟩ := info_parts intInfoC
  have HS := hide (slideI_ok (xs := xs) (low := low) hq)
  have HL := hide h.len
  have hlim := h.lim
  have hcap := h.cap
  have HZ := hide (show (slideL xs q low).length = n by rw [slideL_len, h.len])
  have HI := hide h
  have g2 : ¬ ((q : Int) < 1) := by omega
  clear h
  go_enter Try.func24, Try.ntmps24
  go_wp2
  go_loopw [7, 13] (fun v i wr => ∃ k : Nat, k ≤ n ∧ i = .int .i64 k ∧ Hid (wr.ownsRow w.heap.size 3 1 v k (((slideL xs q low).take k).map (Value.int .i64))) ∧ Below w.heap.size w wr) (fun _ i _ => n - (intOf i).toNat)
  case atStart => exact ⟨0, Nat.zero_le _, rfl, own_start _ _ _ _, Below.refl _ _⟩
  case round =>
    obtain ⟨k, hk, rfl, HO, hB⟩ := hrel
    have k0 : (0 : Int) ≤ (k : Int) := Int.natCast_nonneg _
    by_cases hlt : k < n
    · obtain ⟨ad, x, rfl, hbd, hc, HX⟩ := HI.out.getB hB hlt
      have k1 : (k : Int) < (n : Int) := by omega
      have hBs := hB.size
      obtain ⟨F, hF⟩ : ∃ F, k + 1 - q = F := ⟨_, rfl⟩
      have hFk : F ≤ k := by omega
      have hxl : k < xs.length := by rw [HL.out]; exact hlt
      have HM0 := (HI.out.below hB).takeC (k := k + 1) (by omega)
      have HM := HM0.dropC F (by omega)
      obtain ⟨ys, hys⟩ : ∃ ys, (xs.take (k + 1)).drop F = ys := ⟨_, rfl⟩
      have hyl : ys.length = k + 1 - F := by rw [← hys]; simp; omega
      have HV := hide (show bst low (fun j => xs.getD j 0) F (k - F) = (slideL xs q low).getD k 0 by rw [slideL_get hxl, hF])
      have HV1 := hide (show (sorted ys).getD 0 0 = lo (fun j => xs.getD j 0) F (k - F) by rw [sorted_first (by omega), ← hys, minL_part xs F k hFk hxl])
      have HV2 := hide (show (sorted ys).getD (k - F) 0 = hi (fun j => xs.getD j 0) F (k - F) by
        have e := sorted_last (ys := ys) (by omega)
        rw [show ys.length - 1 = k - F by omega] at e
        rw [e, ← hys, hi_part xs F k hFk hxl])
      rw [hys] at HM
      have HYL := hide (sorted_len ys)
      clear hc HX HI
      by_cases hge : q ≤ k
      · have hge' : (q : Int) ≤ (k : Int) := by omega
        obtain ⟨D, hD⟩ : ∃ D, k - q = D := ⟨_, rfl⟩
        have hD1 : (k : Int) - (q : Int) = (D : Int) := by omega
        have hD2 : (D : Int) + 1 = (F : Int) := by omega
        have hw1 : IntKind.i64.wrap (D : Int) = (D : Int) := by rw [IntKind.wrap_i64]; omega
        have hw2 : IntKind.i64.wrap (F : Int) = (F : Int) := by rw [IntKind.wrap_i64]; omega
        have HN := hide HM
        obtain ⟨A1, hA1⟩ : ∃ A1, ad.add F = A1 := ⟨_, rfl⟩
        rw [hA1] at HN
        clear HM HM0 hys
        obtain ⟨m, hm⟩ : ∃ m, k - F = m := ⟨_, rfl⟩
        have hM : k + 1 - F = m + 1 := by omega
        rw [hM] at HN
        rw [hm] at HV HV2
        have hmk : m ≤ k := by omega
        have hcW : (wr.alloc (.cells #[.slice (some A1) (m + 1) (c - F)] 23)).cell? ⟨wr.heap.size, 0, none⟩ = some (.slice (some A1) (m + 1) (c - F)) := news_new rfl
        have hBa : Below wr.heap.size wr (wr.alloc (.cells #[.slice (some A1) (m + 1) (c - F)] 23)) := (Below.refl _ _).alloc (Nat.le_refl _) _
        have HSo := hide (sorted_any' wr.heap.size (m + 1) (c - F) (some A1) ys _ hcW (HN.out.below hBa) (by omega))
        have HBa := hide hBa
        have HmF := hide hm
        clear hcW hBa hm HN hD hF
        go_wp2_with fail
        (try rw [hM])
        refine (values_any _ _ _ wr).mono ?_
        rintro e w1 ⟨rfl, rfl⟩
        go_wp2_with fail
        refine HSo.out.mono ?_
        rintro e w2 ⟨⟨g, cp, rfl, hS2⟩, hB2⟩
        have hB2' : Below wr.heap.size wr w2 := HBa.out.trans (hB2.mono HBa.out.size)
        have hO2 := own1_below HO.out hB2'
        have hBw := hB.trans (hB2'.mono hBs)
        have hBs2 := hBw.size
        have hcell : ∀ j, j < m + 1 → w2.cell? ⟨g, j, none⟩ = some (.int .i64 ((sorted ys).getD j 0)) := fun j hj => by
          obtain ⟨ad', e1, _, h3⟩ := hS2.at_ hj
          injection e1 with e1
          subst e1
          rw [addr0] at h3
          exact h3
        have hc0 := hcell 0 (by omega)
        have hcm := hcell m (by omega)
        have HO2 := hide hO2
        have HBw := hide hBw
        obtain ⟨V, hV⟩ : ∃ V, (slideL xs q low).getD k 0 = V := ⟨_, rfl⟩
        have HE := hide hV.symm
        rw [hV] at HV
        clear hcell hS2 hB2 hB2' hO2 hBw HSo HBa hB HO hV
        cases low
        · rw [HV2.out, show hi (fun j => xs.getD j 0) F m = V from HV.out] at hcm
          clear HV HV1 HV2 hc0
          go_wp2_with (at_builtin; refine wpList_append_own _ rfl (.tmp 39) (.tmp 46) 23 rfl w.heap.size 3 i0 _ 1 8 Try.underlying23 hi0 hz0 hz1 hz2 rfl (by decide) u7 _ _ rfl (HO2.out.alloc _) _ 1 1 [.int .i64 V] rfl rfl (news_list (news_new (by first | rfl | simp))) (by simp [Value.oneCell']) (by unfold maxLen; omega) (by omega) (by simp; omega) ?_; intro v' w' hown' hgrow _)
          have FO := hide (own_next' (by rw [HZ.out]; exact hlt) HE.out hown')
          have FSs := hide ((HBw.out.alloc hBs2 (.cells #[.int .i64 V] 3)).grown hgrow (by simp; omega) (fun q hq => own_row HO2.out q hq))
          clear hown' hgrow HO2 HBw HE
          go_wp2
          go_roundw
          case rel => exact ⟨k + 1, by omega, by go_num, FO, FSs.out⟩
          case measure => (simp [intOf] <;> omega)
        · rw [HV1.out, HmF.out, show lo (fun j => xs.getD j 0) F m = V from HV.out] at hc0
          clear HV HV1 HV2 hcm
          go_wp2_with (at_builtin; refine wpList_append_own _ rfl (.tmp 33) (.tmp 37) 23 rfl w.heap.size 3 i0 _ 1 8 Try.underlying23 hi0 hz0 hz1 hz2 rfl (by decide) u7 _ _ rfl (HO2.out.alloc _) _ 1 1 [.int .i64 V] rfl rfl (news_list (news_new (by first | rfl | simp))) (by simp [Value.oneCell']) (by unfold maxLen; omega) (by omega) (by simp; omega) ?_; intro v' w' hown' hgrow _)
          have FO := hide (own_next' (by rw [HZ.out]; exact hlt) HE.out hown')
          have FSs := hide ((HBw.out.alloc hBs2 (.cells #[.int .i64 V] 3)).grown hgrow (by simp; omega) (fun q hq => own_row HO2.out q hq))
          clear hown' hgrow HO2 HBw HE
          go_wp2
          go_roundw
          case rel => exact ⟨k + 1, by omega, by go_num, FO, FSs.out⟩
          case measure => (simp [intOf] <;> omega)
      · have hge' : ¬ ((q : Int) ≤ (k : Int)) := by omega
        obtain rfl : F = 0 := by omega
        have e0 : ad.add 0 = ad := by unfold Addr.add; simp
        rw [e0] at HM
        have HN : Hid (IntsAt wr (some ad) (k + 1) c ys) := HM
        clear HM HM0 hys hF
        obtain ⟨m, hm⟩ : ∃ m, k - 0 = m := ⟨_, rfl⟩
        have hM : k + 1 = m + 1 := by omega
        rw [hM] at HN
        rw [hm] at HV HV2
        have hmk : m ≤ k := by omega
        have hcW : (wr.alloc (.cells #[.slice (some ad) (m + 1) c] 23)).cell? ⟨wr.heap.size, 0, none⟩ = some (.slice (some ad) (m + 1) c) := news_new rfl
        have hBa : Below wr.heap.size wr (wr.alloc (.cells #[.slice (some ad) (m + 1) c] 23)) := (Below.refl _ _).alloc (Nat.le_refl _) _
        have HSo := hide (sorted_any' wr.heap.size (m + 1) c (some ad) ys _ hcW (HN.out.below hBa) (by omega))
        have HBa := hide hBa
        have HmF := hide hm
        clear hcW hBa hm HN e0
        go_wp2_with fail
        (try rw [hM])
        refine (values_any _ _ _ wr).mono ?_
        rintro e w1 ⟨rfl, rfl⟩
        go_wp2_with fail
        refine HSo.out.mono ?_
        rintro e w2 ⟨⟨g, cp, rfl, hS2⟩, hB2⟩
        have hB2' : Below wr.heap.size wr w2 := HBa.out.trans (hB2.mono HBa.out.size)
        have hO2 := own1_below HO.out hB2'
        have hBw := hB.trans (hB2'.mono hBs)
        have hBs2 := hBw.size
        have hcell : ∀ j, j < m + 1 → w2.cell? ⟨g, j, none⟩ = some (.int .i64 ((sorted ys).getD j 0)) := fun j hj => by
          obtain ⟨ad', e1, _, h3⟩ := hS2.at_ hj
          injection e1 with e1
          subst e1
          rw [addr0] at h3
          exact h3
        have hc0 := hcell 0 (by omega)
        have hcm := hcell m (by omega)
        have HO2 := hide hO2
        have HBw := hide hBw
        obtain ⟨V, hV⟩ : ∃ V, (slideL xs q low).getD k 0 = V := ⟨_, rfl⟩
        have HE := hide hV.symm
        rw [hV] at HV
        clear hcell hS2 hB2 hB2' hO2 hBw HSo HBa hB HO hV
        cases low
        · rw [HV2.out, show hi (fun j => xs.getD j 0) 0 m = V from HV.out] at hcm
          clear HV HV1 HV2 hc0
          go_wp2_with (at_builtin; refine wpList_append_own _ rfl (.tmp 39) (.tmp 46) 23 rfl w.heap.size 3 i0 _ 1 8 Try.underlying23 hi0 hz0 hz1 hz2 rfl (by decide) u7 _ _ rfl (HO2.out.alloc _) _ 1 1 [.int .i64 V] rfl rfl (news_list (news_new (by first | rfl | simp))) (by simp [Value.oneCell']) (by unfold maxLen; omega) (by omega) (by simp; omega) ?_; intro v' w' hown' hgrow _)
          have FO := hide (own_next' (by rw [HZ.out]; exact hlt) HE.out hown')
          have FSs := hide ((HBw.out.alloc hBs2 (.cells #[.int .i64 V] 3)).grown hgrow (by simp; omega) (fun q hq => own_row HO2.out q hq))
          clear hown' hgrow HO2 HBw HE
          go_wp2
          go_roundw
          case rel => exact ⟨k + 1, by omega, by go_num, FO, FSs.out⟩
          case measure => (simp [intOf] <;> omega)
        · rw [HV1.out, HmF.out, show lo (fun j => xs.getD j 0) 0 m = V from HV.out] at hc0
          clear HV HV1 HV2 hcm
          go_wp2_with (at_builtin; refine wpList_append_own _ rfl (.tmp 33) (.tmp 37) 23 rfl w.heap.size 3 i0 _ 1 8 Try.underlying23 hi0 hz0 hz1 hz2 rfl (by decide) u7 _ _ rfl (HO2.out.alloc _) _ 1 1 [.int .i64 V] rfl rfl (news_list (news_new (by first | rfl | simp))) (by simp [Value.oneCell']) (by unfold maxLen; omega) (by omega) (by simp; omega) ?_; intro v' w' hown' hgrow _)
          have FO := hide (own_next' (by rw [HZ.out]; exact hlt) HE.out hown')
          have FSs := hide ((HBw.out.alloc hBs2 (.cells #[.int .i64 V] 3)).grown hgrow (by simp; omega) (fun q hq => own_row HO2.out q hq))
          clear hown' hgrow HO2 HBw HE
          go_wp2
          go_roundw
          case rel => exact ⟨k + 1, by omega, by go_num, FO, FSs.out⟩
          case measure => (simp [intOf] <;> omega)
    · obtain rfl : k = n := by omega
      obtain ⟨a', c', rfl, hI'⟩ := own_tail HO.out HZ.out (by omega)
      have HF := hide hI'
      clear HO hI' HI
      go_wp2
      go_ret
      exact ⟨⟨a', k, c', rfl, by rw [HS.out]; exact HF.out⟩, hB⟩

end Go.Proofs.Ythjicnddfjpnjaa
