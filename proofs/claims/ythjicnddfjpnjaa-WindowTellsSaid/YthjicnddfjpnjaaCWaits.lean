/-
  WALKS: clock.Waits and JWaits.
-/
import Derived.Test.YthjicnddfjpnjaaWBase2
namespace Go.Proofs.Ythjicnddfjpnjaa
open Go.RowKit
set_option linter.unusedSimpArgs false
set_option linter.unusedVariables false

attribute [local go_sem] iteMin iteMax iteMinN iteMaxN

theorem base_any (a : Option Addr) (n c : Nat) (xs : List Int) (part keep : Int) (w : World) (h : IntsAt w a n c xs) (hp : part ≤ 9223372036854775807) (hq : keep ≤ 9223372036854775807) :
    Calls Try.prog 26 #[.slice a n c, .int .i64 part, .int .i64 keep] w fun e w' => BackI (baseI xs part keep) e w' ∧ Below w.heap.size w w' := by
  by_cases hs : part < 1 ∨ keep < 1
  · exact base_no a n c xs part keep w hs
  · obtain ⟨p, rfl⟩ : ∃ p : Nat, part = (p : Int) := ⟨part.toNat, by omega⟩
    obtain ⟨q, rfl⟩ : ∃ q : Nat, keep = (q : Int) := ⟨keep.toNat, by omega⟩
    exact base_ok a n c xs p q w h (by omega) (by omega) hp hq
theorem bbase_any (a : Option Addr) (n c : Nat) (xs : List Int) (part keep : Int) (w : World) (h : IntsAt w a n c xs) (hp : part ≤ 9223372036854775807) (hq : keep ≤ 9223372036854775807) :
    Calls Try.prog 27 #[.slice a n c, .int .i64 part, .int .i64 keep] w fun e w' => BackI (baseI xs part keep) e w' ∧ Below w.heap.size w w' := by
  by_cases hs : part < 1 ∨ keep < 1
  · exact bbase_no a n c xs part keep w h hs
  · obtain ⟨p, rfl⟩ : ∃ p : Nat, part = (p : Int) := ⟨part.toNat, by omega⟩
    obtain ⟨q, rfl⟩ : ∃ q : Nat, keep = (q : Int) := ⟨keep.toNat, by omega⟩
    exact bbase_ok a n c xs p q w h (by omega) (by omega) hp hq
theorem baseI_len (xs : List Int) (part keep : Int) : (baseI xs part keep).length ≤ xs.length := by
  unfold baseI; split
  · simp
  · rw [baseL_len]; exact Nat.le_refl _
theorem baseI_sm {xs : List Int} (part keep : Int) (h : ∀ z ∈ xs, Sm z) : ∀ z ∈ baseI xs part keep, Sm z := by
  intro z hz
  unfold baseI at hz
  split at hz
  · cases hz
  · rename_i hs
    simp only [baseL, List.mem_map, List.mem_range] at hz
    obtain ⟨k, hk, rfl⟩ := hz
    obtain ⟨j, hj, e⟩ := base_mem xs (part := part.toNat) (keep := keep.toNat) (by omega) hk
    rw [e, List.getD_eq_getElem?_getD, List.getElem?_eq_getElem hj]
    exact h _ (List.getElem_mem hj)
theorem wayL_len_le (es : List P2) : (wayL es).length ≤ es.length := by
  by_cases h : AllPk es
  · rw [wayL_ok h, waysL_len]; exact Nat.le_refl _
  · rw [wayL_no h]; simp
def waitsL (xs bs : List Int) : List Int := (List.range bs.length).map fun k => xs.getD k 0 - bs.getD k 0
theorem waitsL_len (xs bs : List Int) : (waitsL xs bs).length = bs.length := by simp [waitsL]
theorem waitsL_get {xs bs : List Int} {k : Nat} {x b : Int} (hx : xs[k]? = some x) (hb : bs[k]? = some b) : x - b = (waitsL xs bs).getD k 0 := by
  have hk := (List.getElem?_eq_some_iff.1 hb).1
  have e1 := getD_of hx
  have e2 := getD_of hb
  simp only [waitsL, List.getD_eq_getElem?_getD, List.getElem?_map, List.getElem?_range hk, Option.map_some, Option.getD_some] at e1 e2 ⊢
  rw [e1, e2]
theorem own_tail2 {w : World} {S m n : Nat} {e : TypeId} {v : Value} {Z : List Int} (h : w.ownsRow S e 1 v m ((Z.take m).map (Value.int .i64))) (hm : m = n) (hn : Z.length = n) (hl : n ≤ 17592186044416) : ∃ a c, v = .slice a n c ∧ IntsAt w a n c Z := by
  subst hm; exact own_tail h hn hl

set_option maxRecDepth 100000 in
set_option maxHeartbeats 8000000 in
theorem waits_any (a : Option Addr) (n c : Nat) (es : List P2) (part keep : Int) (w : World) (h : PairsAt w a n c es) (hn : n ≤ 8796093022208) (hp : part ≤ 9223372036854775807) (hq : keep ≤ 9223372036854775807) :
    Calls Try.prog 11 #[.slice a n c, .int .i64 part, .int .i64 keep] w fun e w' => BackI (waitsL (wayL es) (baseI (wayL es) part keep)) e w' ∧ Below w.heap.size w w' := by
  obtain ⟨i0, hi0, hz0, hz1, hz2⟩ := info_parts intInfoC
  have H1 := hide (ways_any a n c es w h hn)
  have hZl := wayL_len_le es
  have hel := h.len
  obtain ⟨Z, hZ⟩ : ∃ Z, wayL es = Z := ⟨_, rfl⟩
  have HSZ := hide (show ∀ z ∈ Z, Sm z by rw [← hZ]; exact wayL_sm es)
  rw [hZ] at H1 hZl ⊢
  obtain ⟨B, hB⟩ : ∃ B, baseI Z part keep = B := ⟨_, rfl⟩
  have HSB := hide (show ∀ z ∈ B, Sm z by rw [← hB]; exact baseI_sm part keep HSZ.out)
  have hBl : B.length ≤ Z.length := by rw [← hB]; exact baseI_len _ _ _
  have HB := hide hB
  rw [hB]
  clear h hZ hB
  go_enter Try.func11, Try.ntmps11
  go_wp2_with fail
  refine H1.out.mono ?_
  rintro e w1 ⟨⟨b1, m1, d1, rfl, hI1⟩, hB1⟩
  have hm1 := hI1.len
  have HI1 := hide hI1
  have HB1 := hide hB1
  clear hI1 hB1 H1
  go_wp2_with fail
  refine (base_any b1 m1 d1 Z part keep w1 HI1.out hp hq).mono ?_
  rintro e w2 ⟨⟨b2, m2, d2, rfl, hI2⟩, hB2⟩
  rw [HB.out] at hI2
  have hm2 := hI2.len
  have hI1 := HI1.out.below hB2
  have hBw := HB1.out.trans (hB2.mono HB1.out.size)
  have HI1 := hide hI1
  have HI2 := hide hI2
  have HBw := hide hBw
  have hbw := hBw.size
  have HZ := hide (show (waitsL Z B).length = m2 by rw [waitsL_len, hm2])
  clear hI1 hI2 hBw hB2 HB1
  go_wp2
  go_loopw [8, 18] (fun v i wr => ∃ k : Nat, k ≤ m2 ∧ i = .int .i64 k ∧ Hid (wr.ownsRow w2.heap.size 3 1 v k (((waitsL Z B).take k).map (Value.int .i64))) ∧ Hid (Below w2.heap.size w2 wr) ∧ Below w.heap.size w wr) (fun _ i _ => m2 - (intOf i).toNat)
  case atStart => exact ⟨0, Nat.zero_le _, rfl, own_start _ _ _ _, Below.refl _ _, HBw.out⟩
  case round =>
    obtain ⟨k, hk, rfl, HO, HB2, hB⟩ := hrel
    have k0 : (0 : Int) ≤ (k : Int) := Int.natCast_nonneg _
    by_cases hlt : k < m2
    · obtain ⟨ad2, y, rfl, hbd2, hc2, HY⟩ := HI2.out.getB HB2.out hlt
      obtain ⟨ad1, x, rfl, hbd1, hc1, HX⟩ := HI1.out.getB HB2.out (show k < m1 by omega)
      have k1 : (k : Int) < (m2 : Int) := by omega
      have k2 : (k : Int) < (m1 : Int) := by omega
      have hBs := hB.size
      have hB2s := HB2.out.size
      have s1 := HSZ.out x (List.mem_of_getElem? HX.out)
      have s2 := HSB.out y (List.mem_of_getElem? HY.out)
      unfold Sm at s1 s2
      have hw : IntKind.i64.wrap (x - y) = x - y := by rw [IntKind.wrap_i64]; omega
      have HE := hide (waitsL_get HX.out HY.out)
      go_wp2_with (at_builtin; refine wpList_append_own _ rfl (.tmp 23) (.tmp 30) 23 rfl w2.heap.size 3 i0 _ 1 8 Try.underlying23 hi0 hz0 hz1 hz2 rfl (by decide) u8 _ _ rfl (HO.out.alloc _) _ 1 1 [.int .i64 (x - y)] rfl rfl (news_list (news_new (by first | rfl | simp))) (by simp [Value.oneCell']) (by unfold maxLen; omega) (by omega) (by simp; omega) ?_; intro v' w' hown' hgrow _)
      have FO := hide (own_next' (by rw [HZ.out]; exact hlt) HE.out hown')
      have FSs := hide ((hB.alloc hBs (.cells #[.int .i64 (x - y)] 3)).grown hgrow (by simp; omega) (fun q hq => by have := own_row HO.out q hq; omega))
      have F2 := hide ((HB2.out.alloc HB2.out.size (.cells #[.int .i64 (x - y)] 3)).grown hgrow (by have := HB2.out.size; simp; omega) (fun q hq => own_row HO.out q hq))
      clear hown' hgrow HO hB
      go_wp2
      go_roundw
      case rel => exact ⟨k + 1, by omega, by go_num, FO, F2, FSs.out⟩
      case measure => (simp [intOf] <;> omega)
    · obtain rfl : k = m2 := by omega
      obtain ⟨a', c', rfl, hI'⟩ := own_tail HO.out HZ.out (by omega)
      have HF := hide hI'
      clear HO hI'
      go_wp2
      go_ret
      exact ⟨⟨a', k, c', rfl, HF.out⟩, hB⟩

set_option maxRecDepth 100000 in
set_option maxHeartbeats 8000000 in
theorem jwaits_any (a : Option Addr) (n c : Nat) (es : List P2) (part keep : Int) (w : World) (h : PairsAt w a n c es) (hn : n ≤ 8796093022208) (hp : part ≤ 9223372036854775807) (hq : keep ≤ 9223372036854775807) :
    Calls Try.prog 12 #[.slice a n c, .int .i64 part, .int .i64 keep] w fun e w' => BackI (waitsL (wayL es) (baseI (wayL es) part keep)) e w' ∧ Below w.heap.size w w' := by
  obtain ⟨i0, hi0, hz0, hz1, hz2⟩ := info_parts intInfoC
  have HH := hide h
  have H1 := hide (fun (w' : World) (hw : Below w.heap.size w w') => jways_any a n c es w' (h.below hw) hn)
  have hZl := wayL_len_le es
  have hel := h.len
  obtain ⟨Z, hZ⟩ : ∃ Z, wayL es = Z := ⟨_, rfl⟩
  have HSZ := hide (show ∀ z ∈ Z, Sm z by rw [← hZ]; exact wayL_sm es)
  rw [hZ] at H1 hZl ⊢
  obtain ⟨B, hB⟩ : ∃ B, baseI Z part keep = B := ⟨_, rfl⟩
  have HSB := hide (show ∀ z ∈ B, Sm z by rw [← hB]; exact baseI_sm part keep HSZ.out)
  have hBl : B.length ≤ Z.length := by rw [← hB]; exact baseI_len _ _ _
  have HB := hide hB
  rw [hB]
  clear h hZ hB
  go_enter Try.func12, Try.ntmps12
  go_wp2_with fail
  refine (H1.out w (Below.refl _ _)).mono ?_
  rintro e w1 ⟨⟨b1, m1, d1, rfl, hI1⟩, hB1⟩
  have HI1 := hide hI1
  have HB1 := hide hB1
  clear hI1 hB1
  go_wp2_with fail
  refine (bbase_any b1 m1 d1 Z part keep w1 HI1.out hp hq).mono ?_
  rintro e w2 ⟨⟨b2, m2, d2, rfl, hI2⟩, hB2⟩
  rw [HB.out] at hI2
  have hm2 := hI2.len
  have hBw := HB1.out.trans (hB2.mono HB1.out.size)
  have HI2 := hide hI2
  have HBw := hide hBw
  clear hI2 hBw hB2 HB1 HI1
  go_wp2_with fail
  refine (H1.out w2 HBw.out).mono ?_
  rintro e w3 ⟨⟨b3, m3, d3, rfl, hI3⟩, hB3⟩
  have hm3 := hI3.len
  have HI3 := hide hI3
  have HI2 := hide (HI2.out.below hB3)
  have HBw := hide (HBw.out.trans (hB3.mono HBw.out.size))
  have hbw := HBw.out.size
  have HZ := hide (show (waitsL Z B).length = m2 by rw [waitsL_len, hm2])
  clear hI3 hB3 H1 HH
  go_wp2
  go_loopw [7, 19] (fun v i wr => ∃ k m : Nat, k ≤ m3 ∧ i = .int .i64 k ∧ m = min k m2 ∧ Hid (wr.ownsRow w3.heap.size 3 1 v m (((waitsL Z B).take m).map (Value.int .i64))) ∧ Hid (Below w3.heap.size w3 wr) ∧ Below w.heap.size w wr) (fun _ i _ => m3 - (intOf i).toNat)
  case atStart => exact ⟨0, 0, Nat.zero_le _, rfl, by omega, own_start _ _ _ _, Below.refl _ _, HBw.out⟩
  case round =>
    obtain ⟨k, m, hk, rfl, hm, HO, HB2, hB⟩ := hrel
    have k0 : (0 : Int) ≤ (k : Int) := Int.natCast_nonneg _
    have hBs := hB.size
    have hB2s := HB2.out.size
    by_cases hlt : k < m3
    · have k1 : (k : Int) < (m3 : Int) := by omega
      obtain ⟨ad1, x, rfl, hbd1, hc1, HX⟩ := HI3.out.getB HB2.out hlt
      by_cases hlt2 : k < m2
      · obtain ⟨ad2, y, rfl, hbd2, hc2, HY⟩ := HI2.out.getB HB2.out hlt2
        obtain rfl : m = k := by omega
        have k2 : (m : Int) < (m2 : Int) := by omega
        have s1 := HSZ.out x (List.mem_of_getElem? HX.out)
        have s2 := HSB.out y (List.mem_of_getElem? HY.out)
        unfold Sm at s1 s2
        have hw : IntKind.i64.wrap (x - y) = x - y := by rw [IntKind.wrap_i64]; omega
        have HE := hide (waitsL_get HX.out HY.out)
        have hm' : m + 1 = min (m + 1) m2 := by omega
        have HM := hide hm'
        clear hm hm'
        go_wp2_with (at_builtin; refine wpList_append_own _ rfl (.tmp 28) (.tmp 35) 23 rfl w3.heap.size 3 i0 _ 1 8 Try.underlying23 hi0 hz0 hz1 hz2 rfl (by decide) u7 _ _ rfl (HO.out.alloc _) _ 1 1 [.int .i64 (x - y)] rfl rfl (news_list (news_new (by first | rfl | simp))) (by simp [Value.oneCell']) (by unfold maxLen; omega) (by omega) (by simp; omega) ?_; intro v' w' hown' hgrow _)
        have FO := hide (own_next' (by rw [HZ.out]; exact hlt2) HE.out hown')
        have FSs := hide ((hB.alloc hBs (.cells #[.int .i64 (x - y)] 3)).grown hgrow (by simp; omega) (fun q hq => by have := own_row HO.out q hq; omega))
        have F2 := hide ((HB2.out.alloc HB2.out.size (.cells #[.int .i64 (x - y)] 3)).grown hgrow (by have := HB2.out.size; simp; omega) (fun q hq => own_row HO.out q hq))
        clear hown' hgrow HO hB
        go_wp2
        go_roundw
        case rel => exact ⟨m + 1, m + 1, by omega, by go_num, HM.out, FO, F2, FSs.out⟩
        case measure => (simp [intOf] <;> omega)
      · have k2 : ¬ ((k : Int) < (m2 : Int)) := by omega
        have hm' : m = min (k + 1) m2 := by omega
        have HM := hide hm'
        clear hm hm'
        go_wp2
        go_roundw
        case rel => exact ⟨k + 1, m, by omega, by go_num, HM.out, HO, HB2, hB⟩
        case measure => (simp [intOf] <;> omega)
    · obtain rfl : k = m3 := by omega
      obtain ⟨a', c', rfl, hI'⟩ := own_tail2 HO.out (show m = m2 by omega) HZ.out (by omega)
      have HF := hide hI'
      clear HO hI' hm
      go_wp2
      go_ret
      exact ⟨⟨a', m2, c', rfl, HF.out⟩, hB⟩

end Go.Proofs.Ythjicnddfjpnjaa
