/-
  WALKS: window.slide, Min, Max.
-/
import Derived.Test.YthjicnddfjpnjaaSlideL
import Derived.Test.YthjicnddfjpnjaaPushH
namespace Go.Proofs.Ythjicnddfjpnjaa
open Go.RowKit
set_option linter.unusedSimpArgs false
set_option linter.unusedVariables false

attribute [local go_sem] iteMin iteMax iteMinN iteMaxN

set_option maxRecDepth 100000 in
set_option maxHeartbeats 8000000 in
theorem slide_no (fi : Nat) (a : Option Addr) (n c : Nat) (xs : List Int) (low : Bool) (win : Int) (w : World) (hs : win < 1) :
    Calls Try.prog 46 #[.slice a n c, .int .i64 win, .func (.func fi) #[] #[]] w fun e w' => BackI (slideI xs win low) e w' ∧ Below w.heap.size w w' := by
  have HS := hide (slideI_no (xs := xs) (low := low) hs)
  go_enter Try.func46, Try.ntmps46
  go_wp2
  go_ret
  exact ⟨⟨none, 0, 0, rfl, by rw [HS.out]; exact IntsAt.nil_ _⟩, Below.refl _ _⟩
set_option maxRecDepth 100000 in
set_option maxHeartbeats 8000000 in
theorem slide_ok (fi : Nat) (bt : Int → Int → Prop) (g : Int → Int) (hbt : ∀ a b, bt a b ↔ g a < g b) (low : Bool)
    (hpush : ∀ (D : Nat) (k x : Int) (va vo : Value) (ks vs : List Int) (w : World), Dq w D (.func (.func fi) #[] #[]) va vo ks vs → ks.length = vs.length → vs.length < 17592186044416 →
      Calls Try.prog 57 #[.pointer (some ⟨D, 0, none⟩), .int .i64 k, .int .i64 x] w fun e w' => e = .returned (.tuple #[]) ∧ Pushed bt w w' D k x (.func (.func fi) #[] #[]) va vo ks vs)
    (a : Option Addr) (n c : Nat) (xs : List Int) (q : Nat) (w : World) (h : IntsAt w a n c xs) (hq : 0 < q) (hq' : (q : Int) ≤ 9223372036854775807)
    (hV : ∀ (k : Nat) (b : Int), k < xs.length → ((∃ t : Nat, k + 1 - q ≤ t ∧ t ≤ k ∧ b = xs.getD t 0) ∧ ∀ t : Nat, k + 1 - q ≤ t → t ≤ k → g b ≤ g (xs.getD t 0)) → b = (slideL xs q low).getD k 0) :
    Calls Try.prog 46 #[.slice a n c, .int .i64 (q : Int), .func (.func fi) #[] #[]] w fun e w' => BackI (slideI xs (q : Int) low) e w' ∧ Below w.heap.size w w' := by
  obtain ⟨i0, hi0, hz0, hz1, hz2⟩ := info_parts intInfoC
  have HS := hide (slideI_ok (xs := xs) (low := low) hq)
  have HL := hide h.len
  have hlim := h.lim
  have HZ := hide (show (slideL xs q low).length = n by rw [slideL_len, h.len])
  have HI := hide h
  have HP := hide hpush
  have HBT := hide hbt
  have HVV := hide hV
  have g2 : ¬ ((q : Int) < 1) := by omega
  clear h hpush hbt hV
  go_enter Try.func46, Try.ntmps46
  go_wp2
  go_loopw [8, 18] (fun v i wr => ∃ (k : Nat) (va vo : Value) (ks vs : List Int), k ≤ n ∧ i = .int .i64 k ∧ Hid (wr.ownsRow (w.heap.size + 1) 3 1 v k (((slideL xs q low).take k).map (Value.int .i64))) ∧ Hid (Dq wr w.heap.size (.func (.func fi) #[] #[]) va vo ks vs) ∧ Hid (DI bt (fun j => xs.getD j 0) q k ks vs) ∧ Hid (vs.length ≤ k) ∧ Hid (Apart v va ∧ Apart v vo) ∧ Hid (Below w.heap.size w wr)) (fun _ i _ => n - (intOf i).toNat)
  case atStart => exact ⟨0, .slice none 0 0, .slice none 0 0, [], [], Nat.zero_le _, rfl, own_start _ _ _ _, DqStart _ _, DI.start _ _ _, Nat.le_refl _, ⟨.inl rfl, .inl rfl⟩, (Below.refl _ _).alloc (Nat.le_refl _) _⟩
  case round =>
    obtain ⟨k, va, vo, ks, vs, hk, rfl, HO, HD, HDI, HVL, HA, HB⟩ := hrel
    have k0 : (0 : Int) ≤ (k : Int) := Int.natCast_nonneg _
    by_cases hlt : k < n
    · obtain ⟨ad, x, rfl, hbd, hc, HX⟩ := HI.out.getB HB.out hlt
      have k1 : (k : Int) < (n : Int) := by omega
      obtain ⟨e1, he1⟩ : ∃ e1 : Int, (k : Int) - (q : Int) = e1 := ⟨_, rfl⟩
      obtain ⟨e2, he2⟩ : ∃ e2 : Int, e1 + 1 = e2 := ⟨_, rfl⟩
      have hw1 : IntKind.i64.wrap e1 = e1 := by rw [IntKind.wrap_i64]; omega
      have hw2 : IntKind.i64.wrap e2 = e2 := by rw [IntKind.wrap_i64]; omega
      have HPC := hide (HP.out w.heap.size (k : Int) x va vo ks vs wr HD.out HDI.out.len (by have := HVL.out; omega))
      have HXX := hide (show xs.getD k 0 = x from getD_of HX.out)
      have HE := hide (show e2 = (k : Int) - (q : Int) + 1 by omega)
      clear HX
      go_wp2_with fail
      refine HPC.out.mono ?_
      rintro e w1 ⟨rfl, hP⟩
      obtain ⟨m, va1, vo1, hm, hp1, hp2, hD1, hF1⟩ := hP
      have hxx := HXX.out
      have hI1 : DI bt (fun j => xs.getD j 0) (q + 1) (k + 1) (ks.take m ++ [(k : Int)]) (vs.take m ++ [x]) := by
        have := HDI.out.push HBT.out hq hm (by rw [hxx]; exact hp1) (by rw [hxx]; exact hp2)
        rw [hxx] at this; exact this
      obtain ⟨ks1, hks1⟩ : ∃ ks1, ks.take m ++ [(k : Int)] = ks1 := ⟨_, rfl⟩
      obtain ⟨vs1, hvs1⟩ : ∃ vs1, vs.take m ++ [x] = vs1 := ⟨_, rfl⟩
      have HVL1 := hide (show vs1.length ≤ k + 1 by rw [← hvs1]; simp; have := HVL.out; omega)
      rw [hks1, hvs1] at hI1 hD1
      obtain ⟨n1, hn1, hyl⟩ := hI1.last (by omega)
      have HOC := hide (old_any w.heap.size e2 (.func (.func fi) #[] #[]) va1 vo1 ks1 vs1 w1 hD1 hI1.len (by have := HVL1.out; omega) n1 hn1 _ hyl (by have := HE.out; omega))
      have HO1 := hide (own_fr HO.out hF1 HA.out.1 HA.out.2)
      have HA1 := hide (Apart.fr (own_lt HO.out) hF1 HA.out.1 HA.out.2)
      have HB1 := hide (hF1.base HB.out (Nat.le_refl _) (Nat.le_refl _) HD.out.ra HD.out.rb)
      have HI1 := hide hI1
      have HD1 := hide hD1
      clear HPC HO HA HB HD HDI HVL hm hp1 hp2 hD1 hF1 hxx hI1 hks1 hvs1 hn1 hyl HXX
      go_wp2_with fail
      refine HOC.out.mono ?_
      rintro e w2 ⟨rfl, hP⟩
      obtain ⟨r, va2, vo2, hr, hr1, ⟨y, hy, hey⟩, hD2, hF2⟩ := hP
      have hI2 := HI1.out.old hr (fun j y hj hyy => by have := hr1 j y hj hyy; have := HE.out; omega)
      have hl2 := hI2.len
      have hk2 : (ks1.drop r).length = ks1.length - r := List.length_drop
      have hy0 : (ks1.drop r)[0]? = some y := by rw [List.getElem?_drop]; simpa using hy
      have h0l : 0 < (vs1.drop r).length := by omega
      obtain ⟨b, hb⟩ : ∃ b, (vs1.drop r)[0]? = some b := ⟨_, List.getElem?_eq_getElem h0l⟩
      have hbv := HVV.out k b (by rw [HL.out]; exact hlt) (hI2.first HBT.out hy0 hb (by have := HE.out; omega))
      obtain ⟨ks2, hks2⟩ : ∃ ks2, ks1.drop r = ks2 := ⟨_, rfl⟩
      obtain ⟨vs2, hvs2⟩ : ∃ vs2, vs1.drop r = vs2 := ⟨_, rfl⟩
      have HVL2 := hide (show vs2.length ≤ k + 1 by rw [← hvs2, List.length_drop]; have := HVL1.out; omega)
      have HO2 := hide (own_fr HO1.out hF2 HA1.out.1 HA1.out.2)
      have HA2 := hide (Apart.fr (own_lt HO1.out) hF2 HA1.out.1 HA1.out.2)
      have HB2 := hide (hF2.base HB1.out (Nat.le_refl _) (Nat.le_refl _) HD1.out.ra HD1.out.rb)
      rw [hks2] at hI2 hD2
      rw [hvs2] at hI2 hD2 hb h0l
      obtain ⟨g2, o2, c2, e2', hcc2, hcell⟩ := hD2.rb.form h0l
      obtain ⟨m2, hm2⟩ : ∃ m2, vs2.length = m2 + 1 := ⟨vs2.length - 1, by omega⟩
      rw [hm2] at e2'
      have hvo2 := hD2.b
      rw [e2'] at hvo2
      have hc0 := hcell 0 b hb
      rw [Nat.add_zero] at hc0
      have mp : (0 : Int) < (m2 : Int) + 1 := by omega
      have HI2 := hide hI2
      have HD2 := hide hD2
      have HBV := hide hbv
      have hBs2 : w.heap.size + 1 ≤ w2.heap.size := by have := HD2.out.lt; omega
      clear HOC HO1 HA1 HB1 HI1 HD1 HVL1 hr hr1 hy hey hD2 hF2 hl2 hk2 hy0 h0l hb hbv hks2 hvs2 hI2 hcell hcc2 hm2
      go_wp2_with (at_builtin; go_loud (refine wpList_append_own_at _ rfl (.tmp 33) (.tmp 40) 23 rfl (w.heap.size + 1) 3 i0 _ 1 8 Try.underlying23 hi0 hz0 hz1 hz2 rfl (by decide) u8 _ _ rfl (HO2.out.alloc _) _ 1 1 [.int .i64 b] rfl rfl (news_list (news_new (by first | rfl | simp))) (by simp [Value.oneCell']) (by unfold maxLen; omega) (by omega) (by simp; omega) ?_; intro v' w' hown' hgrow _ hat))
      have FO := hide (own_next' (by rw [HZ.out]; exact hlt) HBV.out hown')
      have HDA := hide (HD2.out.below ((Below.refl _ _).alloc (Nat.le_refl _) (.cells #[.int .i64 b] 3)))
      have FD := hide (HDA.out.grown hgrow (own_row HO2.out) HA2.out.1 HA2.out.2)
      have FA := hide (⟨HA2.out.1.put HDA.out.ra hat, HA2.out.2.put HDA.out.rb hat⟩ : Apart v' va2 ∧ Apart v' vo2)
      have FSs := hide ((HB2.out.alloc (by omega) (.cells #[.int .i64 b] 3)).grown hgrow (by simp; omega) (fun q hq => by have := own_row HO2.out q hq; omega))
      have FL := hide (show vs2.length ≤ k + 1 from HVL2.out)
      clear hown' hgrow hat HO2 HA2 HB2 HD2 HDA HBV HVL2 hvo2 hc0 e2'
      go_wp2
      go_roundw
      case rel => exact ⟨k + 1, va2, vo2, ks2, vs2, by omega, by go_num, FO, FD, HI2, FL, FA, FSs⟩
      case measure => (simp [intOf] <;> omega)
    · obtain rfl : k = n := by omega
      obtain ⟨a', c', rfl, hI'⟩ := own_tail HO.out HZ.out (by omega)
      have HF := hide hI'
      clear HO hI' HI
      go_wp2
      go_ret
      exact ⟨⟨a', k, c', rfl, by rw [HS.out]; exact HF.out⟩, HB.out⟩
theorem vLow {xs : List Int} {q : Nat} (hq : 0 < q) (k : Nat) (b : Int) (hk : k < xs.length) (h : (∃ t : Nat, k + 1 - q ≤ t ∧ t ≤ k ∧ b = xs.getD t 0) ∧ ∀ t : Nat, k + 1 - q ≤ t → t ≤ k → b ≤ xs.getD t 0) : b = (slideL xs q true).getD k 0 := by
  rw [slideL_get hk]
  obtain ⟨⟨t, h1, h2, h3⟩, h4⟩ := h
  exact lo_is (f := fun j => xs.getD j 0) (fun j hj hj2 => h4 j hj (by omega)) ⟨t, h1, by omega, h3⟩
theorem vHigh {xs : List Int} {q : Nat} (hq : 0 < q) (k : Nat) (b : Int) (hk : k < xs.length) (h : (∃ t : Nat, k + 1 - q ≤ t ∧ t ≤ k ∧ b = xs.getD t 0) ∧ ∀ t : Nat, k + 1 - q ≤ t → t ≤ k → - b ≤ - xs.getD t 0) : b = (slideL xs q false).getD k 0 := by
  rw [slideL_get hk]
  obtain ⟨⟨t, h1, h2, h3⟩, h4⟩ := h
  exact hi_is (f := fun j => xs.getD j 0) (fun j hj hj2 => by have := h4 j hj (by omega); omega) ⟨t, h1, by omega, h3⟩
/-- window.Min and window.Max -/
theorem slide_low (a : Option Addr) (n c : Nat) (xs : List Int) (win : Int) (w : World) (h : IntsAt w a n c xs) (hw : win ≤ 9223372036854775807) :
    Calls Try.prog 46 #[.slice a n c, .int .i64 win, .func (.func 47) #[] #[]] w fun e w' => BackI (slideI xs win true) e w' ∧ Below w.heap.size w w' := by
  by_cases hs : win < 1
  · exact slide_no _ a n c xs true win w hs
  · obtain ⟨q, rfl⟩ : ∃ q : Nat, win = (q : Int) := ⟨win.toNat, by omega⟩
    exact slide_ok _ (fun y z => y < z) (fun y => y) (fun _ _ => Iff.rfl) true (fun D k x va vo ks vs w h hl hn => pushL D k x va vo ks vs w h hl hn) a n c xs q w h (by omega) hw (vLow (by omega))
theorem slide_high (a : Option Addr) (n c : Nat) (xs : List Int) (win : Int) (w : World) (h : IntsAt w a n c xs) (hw : win ≤ 9223372036854775807) :
    Calls Try.prog 46 #[.slice a n c, .int .i64 win, .func (.func 50) #[] #[]] w fun e w' => BackI (slideI xs win false) e w' ∧ Below w.heap.size w w' := by
  by_cases hs : win < 1
  · exact slide_no _ a n c xs false win w hs
  · obtain ⟨q, rfl⟩ : ∃ q : Nat, win = (q : Int) := ⟨win.toNat, by omega⟩
    exact slide_ok _ (fun y z => z < y) (fun y => - y) (fun _ _ => by constructor <;> intro h <;> omega) false (fun D k x va vo ks vs w h hl hn => pushH D k x va vo ks vs w h hl hn) a n c xs q w h (by omega) hw (vHigh (by omega))
theorem min_any (a : Option Addr) (n c : Nat) (xs : List Int) (win : Int) (w : World) (h : IntsAt w a n c xs) (hw : win ≤ 9223372036854775807) :
    Calls Try.prog 23 #[.slice a n c, .int .i64 win] w fun e w' => BackI (slideI xs win true) e w' ∧ Below w.heap.size w w' := by
  have H := hide (slide_low a n c xs win w h hw)
  clear h hw
  go_enter Try.func23, Try.ntmps23
  go_wp2_with fail
  refine H.out.mono ?_
  rintro e w1 ⟨⟨b, m, d, rfl, hr⟩, hB⟩
  go_wp2
  go_ret
  exact ⟨⟨b, m, d, rfl, hr⟩, hB⟩
theorem max_any (a : Option Addr) (n c : Nat) (xs : List Int) (win : Int) (w : World) (h : IntsAt w a n c xs) (hw : win ≤ 9223372036854775807) :
    Calls Try.prog 25 #[.slice a n c, .int .i64 win] w fun e w' => BackI (slideI xs win false) e w' ∧ Below w.heap.size w w' := by
  have H := hide (slide_high a n c xs win w h hw)
  clear h hw
  go_enter Try.func25, Try.ntmps25
  go_wp2_with fail
  refine H.out.mono ?_
  rintro e w1 ⟨⟨b, m, d, rfl, hr⟩, hB⟩
  go_wp2
  go_ret
  exact ⟨⟨b, m, d, rfl, hr⟩, hB⟩

end Go.Proofs.Ythjicnddfjpnjaa
