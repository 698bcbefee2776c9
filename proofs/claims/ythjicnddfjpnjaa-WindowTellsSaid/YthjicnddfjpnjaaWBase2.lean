/-
  WALKS: window.Base.
-/
import Derived.Test.YthjicnddfjpnjaaWBase
import Derived.Deep.AppendLies
namespace Go.Proofs.Ythjicnddfjpnjaa
open Go.RowKit
set_option linter.unusedSimpArgs false
set_option linter.unusedVariables false

attribute [local go_sem] iteMin iteMax iteMinN iteMaxN

theorem own_cells1 {w : World} {B g cap n : Nat} {e : TypeId} {xs : List Value} (h : w.ownsRow B e 1 (.slice (some ⟨g, 0, none⟩) n cap) n xs) :
    B ≤ g ∧ g < w.heap.size ∧ n ≤ cap ∧ (∀ j u, xs[j]? = some u → w.cell? ⟨g, j, none⟩ = some u) ∧ (∀ j, w.frozen? ⟨g, j, none⟩ = false) := by
  obtain ⟨hl, h⟩ := h
  rcases h with ⟨h, _⟩ | ⟨g', cap', cur, he, hg, hh, hn, _, hs, hx⟩
  · cases h
  · injection he with e1 e2 e3
    injection e1 with e1
    injection e1 with e1
    subst e1; subst e3
    refine ⟨hg, ?_, hn, fun j u hj => ?_, fun j => by simp [World.frozen?, hh]⟩
    · rcases Nat.lt_or_ge g w.heap.size with h1 | h1
      · exact h1
      · rw [Array.getElem?_eq_none h1] at hh; cases hh
    · rw [← hx, List.getElem?_take] at hj
      split at hj
      · simp [World.cell?, hh]; simpa using hj
      · cases hj
theorem snocAt {l : List Int} {L : Nat} (h : l.length = L) (x : Int) : (l.map (Value.int .i64) ++ [Value.int .i64 x])[L]? = some (.int .i64 x) := by
  subst h; rw [List.getElem?_append_right (by simp)]; simp
theorem snocSet {l : List Int} {L : Nat} (h : l.length = L) (x : Int) : (l.map (Value.int .i64) ++ [Value.int .i64 x]).set L (.int .i64 x) = (l ++ [x]).map (Value.int .i64) := by
  subst h; rw [List.set_append, if_neg (by simp)]; simp
theorem mapAt {l : List Int} {L : Nat} (h : l.length = L + 1) : (l.map (Value.int .i64))[L]? = some (.int .i64 (l.getD L 0)) := by
  rw [List.getElem?_map, List.getD_eq_getElem?_getD, List.getElem?_eq_getElem (by omega)]; rfl
theorem addr0 (g d : Nat) : (⟨g, 0, none⟩ : Addr).add d = ⟨g, d, none⟩ := by unfold Addr.add; split <;> simp_all
theorem pk_len_le (f : Nat → Int) (part : Nat) : ∀ k, (pk f part k).length ≤ k
  | 0 => Nat.le_refl _
  | k + 1 => by
    have := pk_len_le f part k
    rw [pk]; split <;> simp <;> omega
theorem pk_new (f : Nat → Int) {part k : Nat} (h : k % part = 0) : pk f part (k + 1) = pk f part k ++ [f k] := by rw [pk, if_pos h]
theorem pk_old (f : Nat → Int) {part k : Nat} (h : k % part ≠ 0) : pk f part (k + 1) = (pk f part k).set ((pk f part k).length - 1) (min ((pk f part k).getD ((pk f part k).length - 1) 0) (f k)) := by rw [pk, if_neg h]
theorem own_ints {w : World} {B g cap n : Nat} {e : TypeId} {zs : List Int} (h : w.ownsRow B e 1 (.slice (some ⟨g, 0, none⟩) n cap) n (zs.map (Value.int .i64))) (hl : n ≤ 17592186044416) : IntsAt w (some ⟨g, 0, none⟩) n cap zs := by
  obtain ⟨h1, h2, h3, h4, h5⟩ := own_cells1 h
  have hz : zs.length = n := by have := h.1; simpa using this
  refine ⟨hz, h3, hl, fun h0 => ⟨_, rfl, h2, fun j x hj => ?_⟩⟩
  have e1 : (⟨g, 0, none⟩ : Addr).add j = ⟨g, j, none⟩ := by unfold Addr.add; split <;> simp_all
  rw [e1]
  exact h4 j _ (by rw [List.getElem?_map, hj]; rfl)

set_option maxRecDepth 100000 in
set_option maxHeartbeats 8000000 in
theorem base_no (a : Option Addr) (n c : Nat) (xs : List Int) (part keep : Int) (w : World) (hs : part < 1 ∨ keep < 1) :
    Calls Try.prog 26 #[.slice a n c, .int .i64 part, .int .i64 keep] w fun e w' => BackI (baseI xs part keep) e w' ∧ Below w.heap.size w w' := by
  have HS := hide (baseI_no (xs := xs) hs)
  by_cases h1 : part < 1
  · clear hs
    go_enter Try.func26, Try.ntmps26
    go_wp2
    go_ret
    exact ⟨⟨none, 0, 0, rfl, by rw [HS.out]; exact IntsAt.nil_ _⟩, Below.refl _ _⟩
  · have h2 : keep < 1 := by omega
    clear hs
    go_enter Try.func26, Try.ntmps26
    go_wp2
    go_ret
    exact ⟨⟨none, 0, 0, rfl, by rw [HS.out]; exact IntsAt.nil_ _⟩, Below.refl _ _⟩
set_option maxRecDepth 100000 in
set_option maxHeartbeats 8000000 in
theorem base_ok (a : Option Addr) (n c : Nat) (xs : List Int) (p q : Nat) (w : World) (h : IntsAt w a n c xs) (hp : 0 < p) (hq : 0 < q) (hp' : (p : Int) ≤ 9223372036854775807) (hq' : (q : Int) ≤ 9223372036854775807) :
    Calls Try.prog 26 #[.slice a n c, .int .i64 (p : Int), .int .i64 (q : Int)] w fun e w' => BackI (baseI xs (p : Int) (q : Int)) e w' ∧ Below w.heap.size w w' := by
  obtain ⟨i0, hi0, hz0, hz1, hz2⟩ := info_parts intInfoC
  have HS := hide (baseI_ok (xs := xs) hp hq)
  have HL := hide h.len
  have hlim := h.lim
  have HZ := hide (show (baseL xs p q).length = n by rw [baseL_len, h.len])
  have HI := hide h
  obtain ⟨f, hf⟩ : ∃ f : Nat → Int, f = fun j => xs.getD j 0 := ⟨_, rfl⟩
  have HFF := hide hf
  have g1 : ¬ ((p : Int) < 1) := by omega
  have g2 : ¬ ((q : Int) < 1) := by omega
  have g3 : ((p : Int) == 0) = false := by simp; omega
  have g4 : ¬ ((p : Int) = 0) := by omega
  clear h hf
  go_enter Try.func26, Try.ntmps26
  go_wp2
  go_loopw [7, 8, 20] (fun v u i wr => ∃ k : Nat, k ≤ n ∧ i = .int .i64 k ∧ Hid (wr.ownsRow w.heap.size 3 1 v k (((baseL xs p q).take k).map (Value.int .i64))) ∧ Hid (wr.ownsRow w.heap.size 3 1 u (pk f p k).length ((pk f p k).map (Value.int .i64))) ∧ Hid (Ap v u) ∧ Below w.heap.size w wr) (fun _ _ i _ => n - (intOf i).toNat)
  case atStart => exact ⟨0, Nat.zero_le _, rfl, own_start _ _ _ _, ⟨rfl, .inl ⟨rfl, rfl⟩⟩, Ap.nil _, Below.refl _ _⟩
  case round =>
    obtain ⟨k, hk, rfl, HO, HP, HAp, hB⟩ := hrel
    have k0 : (0 : Int) ≤ (k : Int) := Int.natCast_nonneg _
    by_cases hlt : k < n
    · obtain ⟨ad, x, rfl, hbd, hc, HX⟩ := HI.out.getB hB hlt
      have k1 : (k : Int) < (n : Int) := by omega
      have hBs := hB.size
      obtain ⟨r, hr⟩ : ∃ r, k % p = r := ⟨_, rfl⟩
      have hrem : Int.tmod (k : Int) (p : Int) = (r : Int) := by rw [← hr]; exact (Int.ofNat_tmod k p).symm
      have HfX := hide (show f k = x by rw [HFF.out]; exact getD_of HX.out)
      have HM := hide (pk_len f hp k)
      have HB := hide (base_parts f hp hq k)
      have HV := hide (show (baseL xs p q).getD k 0 = baseV f p q k by rw [HFF.out]; exact baseL_get (show k < xs.length by rw [HL.out]; exact hlt))
      have HLk := hide (pk_len_le f p k)
      obtain ⟨M, hM⟩ : ∃ M, k / p + 1 = M := ⟨_, rfl⟩
      have HMk := hide (show M ≤ k + 1 by rw [← hM]; have := Nat.div_le_self k p; omega)
      rw [hM] at HM HB
      obtain ⟨d, hd⟩ : ∃ d, M - q = d := ⟨_, rfl⟩
      rw [hd] at HB
      have hM1 : 1 ≤ M := by rw [← hM]; exact Nat.le_add_left 1 _
      have hdM : d < M := by omega
      have hmax : max 0 ((M : Int) - (q : Int)) = (d : Int) := by omega
      obtain ⟨V, hV⟩ : ∃ V, minL ((pk f p (k + 1)).drop d) = V := ⟨_, rfl⟩
      have HE := hide (show V = (baseL xs p q).getD k 0 by rw [← hV, HB.out, HV.out])
      have HVV := hide hV
      obtain ⟨L, hL⟩ : ∃ L, (pk f p k).length = L := ⟨_, rfl⟩
      have HLL := hide hL
      rw [hL] at HP HLk
      have hLL : (pk f p k).length = L := hL
      have HMM := hide hM
      clear hV hM hL HI HB HV
      by_cases hr0 : r = 0
      · subst hr0
        have HN := hide (pk_new f hr)
        obtain rfl : M = L + 1 := by rw [← HM.out, HN.out]; simp [hLL]
        have HLk' := HLk.out
        have hmax' : max 0 ((L : Int) + 1 - (q : Int)) = (d : Int) := by have := hmax; omega
        clear hr
        by_cases hd0 : d = 0
        · subst hd0
          have hmx : (L : Int) + 1 - (q : Int) ≤ 0 := by omega
          go_wp2_with (at_builtin; refine wpList_append_lies _ (by rfl) (.tmp 29) (.tmp 31) _ (by rfl) w.heap.size 3 i0 (.int .i64 0) 1 8 Try.underlying23 hi0 hz0 hz1 hz2 rfl (by decide) u8 _ _ (by rfl) (HP.out.alloc _) _ 1 1 [.int .i64 x] (by rfl) rfl (news_list (news_new (by first | rfl | simp))) (by simp [Value.oneCell']) (by decide) (by unfold maxLen; omega) (by omega) (by simp; omega) _ rfl ?_; intro g cap wa ho hgA hat hlt1; obtain ⟨hg1, hg2, hg3, hg4, hg5⟩ := own_cells1 ho; have cL : wa.cell? ⟨g, L, none⟩ = some (.int .i64 x) := hg4 L _ (snocAt hLL x); have fL := hg5 L; clear hg4 hg5)
          have hbS : Below w.heap.size w (wa.setCell ⟨g, L, none⟩ (.int .i64 x)) := ((hB.alloc hBs (.cells #[.int .i64 x] 3)).grown hgA (by simp; omega) (fun q hq => own_row HP.out q hq)).setCell (p := ⟨g, L, none⟩) (by simp only; omega) _
          have oP : (wa.setCell ⟨g, L, none⟩ (.int .i64 x)).ownsRow w.heap.size 3 1 (.slice (some ⟨g, 0, none⟩) (L + 1) cap) (L + 1) ((pk f p (k + 1)).map (Value.int .i64)) := by
            have := own1_set ho (j := L) (by omega) (.int .i64 x)
            rw [snocSet hLL x] at this
            rw [HN.out, HfX.out]; exact this
          have hap : Ap u7 (.slice (some ⟨g, 0, none⟩) (L + 1) cap) := HAp.out.new hat (fun b hb => Nat.lt_of_lt_of_le (HO.out.lt b hb).2 (by simp))
          have hfar : some g ≠ (u7 : Value).ownBlock := by
            rcases hap with h | h
            · rw [h]; simp
            · exact fun e => h e.symm
          have oO : (wa.setCell ⟨g, L, none⟩ (.int .i64 x)).ownsRow w.heap.size 3 1 u7 k (((baseL xs p q).take k).map (Value.int .i64)) := own1_far ((HO.out.alloc _).kept hgA HAp.out) hfar _
          obtain ⟨Y, hY⟩ : ∃ Y, Y = wa.setCell ⟨g, L, none⟩ (.int .i64 x) := ⟨_, rfl⟩
          rw [← hY] at hbS oP oO
          have hcP := own_ints oP (by omega)
          have HC : ∀ b m e, b = ⟨g, 0, none⟩ → m = L + 1 → e = cap → Hid (Calls Try.prog 51 #[.slice (some b) m e] Y fun e w' => e = .returned (.int .i64 V) ∧ Y = w') := fun b m e hb hm he => by
            have := smin_any _ _ _ _ _ (hcP.dropC 0 (by omega)) (by omega)
            rw [HVV.out, addr0] at this; subst hb; subst hm; subst he; exact this
          have hbs := hbS.size
          have HbS := hide hbS; have HoP := hide oP; have HoO := hide oO; have Hap := hide hap
          have hlP := (oP.lt g rfl).2
          clear hbS oP oO hap hfar hcP ho hgA hat cL fL
          rw [← hY]
          clear hY
          go_wp2_with (first | (go_at_call 51; refine (HC _ _ _ rfl (by omega) (by omega)).out.mono ?_; rintro e w1 ⟨rfl, rfl⟩) | (at_builtin; refine wpList_append_lies _ (by rfl) (.tmp 45) (.tmp 54) _ (by rfl) w.heap.size 3 i0 (.int .i64 0) 1 8 Try.underlying23 hi0 hz0 hz1 hz2 rfl (by decide) u7 _ _ (by rfl) (HoO.out.alloc _) _ 1 1 [.int .i64 V] (by rfl) rfl (news_list (news_new (by first | rfl | simp))) (by simp [Value.oneCell']) (by decide) (by unfold maxLen; omega) (by omega) (by simp; omega) _ rfl ?_; intro g2 cap2 w2 ho2 hgB hat2 hlt2))
          have FO := hide (own_next' (by rw [HZ.out]; exact hlt) HE.out ho2)
          have FP := hide ((HoP.out.alloc (.cells #[.int .i64 V] 3)).kept hgB Hap.out.symm)
          have FA := hide ((Hap.out.symm.new (n := k + 1) (cap := cap2) hat2 (fun b hb => Nat.lt_of_lt_of_le (HoP.out.lt b hb).2 (by simp))).symm)
          have FSs := hide ((HbS.out.alloc hbs (.cells #[.int .i64 V] 3)).grown hgB (by simp; omega) (fun q hq => own_row HoO.out q hq))
          clear ho2 hgB hat2 HoP HoO HbS HC HE HO HP hB
          go_wp2
          go_roundw
          case rel => exact ⟨k + 1, by omega, by go_num, FO, by rw [show (pk f p (k + 1)).length = L + 1 by rw [HN.out]; simp [hLL]]; exact FP, FA, FSs.out⟩
          case measure => (simp [intOf] <;> omega)
        · have hmx : ¬ ((L : Int) + 1 - (q : Int) ≤ 0) := by omega
          go_wp2_with (at_builtin; refine wpList_append_lies _ (by rfl) (.tmp 29) (.tmp 31) _ (by rfl) w.heap.size 3 i0 (.int .i64 0) 1 8 Try.underlying23 hi0 hz0 hz1 hz2 rfl (by decide) u8 _ _ (by rfl) (HP.out.alloc _) _ 1 1 [.int .i64 x] (by rfl) rfl (news_list (news_new (by first | rfl | simp))) (by simp [Value.oneCell']) (by decide) (by unfold maxLen; omega) (by omega) (by simp; omega) _ rfl ?_; intro g cap wa ho hgA hat hlt1; obtain ⟨hg1, hg2, hg3, hg4, hg5⟩ := own_cells1 ho; have cL : wa.cell? ⟨g, L, none⟩ = some (.int .i64 x) := hg4 L _ (snocAt hLL x); have fL := hg5 L; clear hg4 hg5)
          have hbS : Below w.heap.size w (wa.setCell ⟨g, L, none⟩ (.int .i64 x)) := ((hB.alloc hBs (.cells #[.int .i64 x] 3)).grown hgA (by simp; omega) (fun q hq => own_row HP.out q hq)).setCell (p := ⟨g, L, none⟩) (by simp only; omega) _
          have oP : (wa.setCell ⟨g, L, none⟩ (.int .i64 x)).ownsRow w.heap.size 3 1 (.slice (some ⟨g, 0, none⟩) (L + 1) cap) (L + 1) ((pk f p (k + 1)).map (Value.int .i64)) := by
            have := own1_set ho (j := L) (by omega) (.int .i64 x)
            rw [snocSet hLL x] at this
            rw [HN.out, HfX.out]; exact this
          have hap : Ap u7 (.slice (some ⟨g, 0, none⟩) (L + 1) cap) := HAp.out.new hat (fun b hb => Nat.lt_of_lt_of_le (HO.out.lt b hb).2 (by simp))
          have hfar : some g ≠ (u7 : Value).ownBlock := by
            rcases hap with h | h
            · rw [h]; simp
            · exact fun e => h e.symm
          have oO : (wa.setCell ⟨g, L, none⟩ (.int .i64 x)).ownsRow w.heap.size 3 1 u7 k (((baseL xs p q).take k).map (Value.int .i64)) := own1_far ((HO.out.alloc _).kept hgA HAp.out) hfar _
          obtain ⟨Y, hY⟩ : ∃ Y, Y = wa.setCell ⟨g, L, none⟩ (.int .i64 x) := ⟨_, rfl⟩
          rw [← hY] at hbS oP oO
          have hcP := own_ints oP (by omega)
          have HC : ∀ b m e, b = ⟨g, d, none⟩ → m = L + 1 - d → e = cap - d → Hid (Calls Try.prog 51 #[.slice (some b) m e] Y fun e w' => e = .returned (.int .i64 V) ∧ Y = w') := fun b m e hb hm he => by
            have := smin_any _ _ _ _ _ (hcP.dropC d (by omega)) (by omega)
            rw [HVV.out, addr0] at this; subst hb; subst hm; subst he; exact this
          have hbs := hbS.size
          have HbS := hide hbS; have HoP := hide oP; have HoO := hide oO; have Hap := hide hap
          have hlP := (oP.lt g rfl).2
          clear hbS oP oO hap hfar hcP ho hgA hat cL fL
          rw [← hY]
          clear hY
          go_wp2_with (first | (go_at_call 51; refine (HC _ _ _ rfl (by omega) (by omega)).out.mono ?_; rintro e w1 ⟨rfl, rfl⟩) | (at_builtin; refine wpList_append_lies _ (by rfl) (.tmp 45) (.tmp 54) _ (by rfl) w.heap.size 3 i0 (.int .i64 0) 1 8 Try.underlying23 hi0 hz0 hz1 hz2 rfl (by decide) u7 _ _ (by rfl) (HoO.out.alloc _) _ 1 1 [.int .i64 V] (by rfl) rfl (news_list (news_new (by first | rfl | simp))) (by simp [Value.oneCell']) (by decide) (by unfold maxLen; omega) (by omega) (by simp; omega) _ rfl ?_; intro g2 cap2 w2 ho2 hgB hat2 hlt2))
          have FO := hide (own_next' (by rw [HZ.out]; exact hlt) HE.out ho2)
          have FP := hide ((HoP.out.alloc (.cells #[.int .i64 V] 3)).kept hgB Hap.out.symm)
          have FA := hide ((Hap.out.symm.new (n := k + 1) (cap := cap2) hat2 (fun b hb => Nat.lt_of_lt_of_le (HoP.out.lt b hb).2 (by simp))).symm)
          have FSs := hide ((HbS.out.alloc hbs (.cells #[.int .i64 V] 3)).grown hgB (by simp; omega) (fun q hq => own_row HoO.out q hq))
          clear ho2 hgB hat2 HoP HoO HbS HC HE HO HP hB
          go_wp2
          go_roundw
          case rel => exact ⟨k + 1, by omega, by go_num, FO, by rw [show (pk f p (k + 1)).length = L + 1 by rw [HN.out]; simp [hLL]]; exact FP, FA, FSs.out⟩
          case measure => (simp [intOf] <;> omega)
      · have HN := hide (pk_old f (by rw [hr]; exact hr0))
        have hrI : ((r : Int) == 0) = false := by simp; omega
        have hr1 : ¬ ((r : Int) = 0) := by omega
        obtain rfl : M = L := by rw [← HM.out, HN.out]; simp [hLL]
        obtain ⟨L, rfl⟩ : ∃ L', M = L' + 1 := ⟨M - 1, by omega⟩
        have hmax' : max 0 ((L : Int) + 1 - (q : Int)) = (d : Int) := by have := hmax; omega
        have HLk' := HLk.out
        obtain ⟨g, cap, rfl, hg1, hg2, hg3, hg4, hg5⟩ := own_form HP.out
        obtain ⟨z, hz⟩ : ∃ z, (pk f p k).getD L 0 = z := ⟨_, rfl⟩
        have HZz := hide hz
        have cL : wr.cell? ⟨g, L, none⟩ = some (.int .i64 z) := by rw [hg4 L _ (mapAt hLL), hz]
        have fL := hg5 L
        clear hr hz hg4 hg5
        by_cases hd0 : d = 0
        · subst hd0
          have hmx : (L : Int) + 1 - (q : Int) ≤ 0 := by omega
          go_wp2_with fail
          have hbS : Below w.heap.size w (wr.setCell ⟨g, L, none⟩ (.int .i64 (min z x))) := hB.setCell (p := ⟨g, L, none⟩) (by simp only; omega) _
          have oP : (wr.setCell ⟨g, L, none⟩ (.int .i64 (min z x))).ownsRow w.heap.size 3 1 (.slice (some ⟨g, 0, none⟩) (L + 1) cap) (L + 1) ((pk f p (k + 1)).map (Value.int .i64)) := by
            have := own1_set HP.out (j := L) (by omega) (.int .i64 (min z x))
            rw [← List.map_set] at this
            have e : pk f p (k + 1) = (pk f p k).set L (min z x) := by rw [HN.out, hLL, Nat.add_sub_cancel, HfX.out, HZz.out]
            rw [e]; exact this
          have hap : Ap u7 (.slice (some ⟨g, 0, none⟩) (L + 1) cap) := HAp.out
          have hfar : some g ≠ (u7 : Value).ownBlock := by
            rcases hap with h | h
            · rw [h]; simp
            · exact fun e => h e.symm
          have oO : (wr.setCell ⟨g, L, none⟩ (.int .i64 (min z x))).ownsRow w.heap.size 3 1 u7 k (((baseL xs p q).take k).map (Value.int .i64)) := own1_far (HO.out) hfar _
          obtain ⟨Y, hY⟩ : ∃ Y, Y = wr.setCell ⟨g, L, none⟩ (.int .i64 (min z x)) := ⟨_, rfl⟩
          rw [← hY] at hbS oP oO
          have hcP := own_ints oP (by omega)
          have HC : ∀ b m e, b = ⟨g, 0, none⟩ → m = L + 1 → e = cap → Hid (Calls Try.prog 51 #[.slice (some b) m e] Y fun e w' => e = .returned (.int .i64 V) ∧ Y = w') := fun b m e hb hm he => by
            have := smin_any _ _ _ _ _ (hcP.dropC 0 (by omega)) (by omega)
            rw [HVV.out, addr0] at this; subst hb; subst hm; subst he; exact this
          have hbs := hbS.size
          have HbS := hide hbS; have HoP := hide oP; have HoO := hide oO; have Hap := hide hap
          have hlP := (oP.lt g rfl).2
          clear hbS oP oO hap hfar hcP cL fL
          rw [← hY]
          clear hY
          go_wp2_with (first | (go_at_call 51; refine (HC _ _ _ rfl (by omega) (by omega)).out.mono ?_; rintro e w1 ⟨rfl, rfl⟩) | (at_builtin; refine wpList_append_lies _ (by rfl) (.tmp 45) (.tmp 54) _ (by rfl) w.heap.size 3 i0 (.int .i64 0) 1 8 Try.underlying23 hi0 hz0 hz1 hz2 rfl (by decide) u7 _ _ (by rfl) (HoO.out.alloc _) _ 1 1 [.int .i64 V] (by rfl) rfl (news_list (news_new (by first | rfl | simp))) (by simp [Value.oneCell']) (by decide) (by unfold maxLen; omega) (by omega) (by simp; omega) _ rfl ?_; intro g2 cap2 w2 ho2 hgB hat2 hlt2))
          have FO := hide (own_next' (by rw [HZ.out]; exact hlt) HE.out ho2)
          have FP := hide ((HoP.out.alloc (.cells #[.int .i64 V] 3)).kept hgB Hap.out.symm)
          have FA := hide ((Hap.out.symm.new (n := k + 1) (cap := cap2) hat2 (fun b hb => Nat.lt_of_lt_of_le (HoP.out.lt b hb).2 (by simp))).symm)
          have FSs := hide ((HbS.out.alloc hbs (.cells #[.int .i64 V] 3)).grown hgB (by simp; omega) (fun q hq => own_row HoO.out q hq))
          clear ho2 hgB hat2 HoP HoO HbS HC HE HO HP hB
          go_wp2
          go_roundw
          case rel => exact ⟨k + 1, by omega, by go_num, FO, by rw [show (pk f p (k + 1)).length = L + 1 by rw [HN.out]; simp [hLL]]; exact FP, FA, FSs.out⟩
          case measure => (simp [intOf] <;> omega)
        · have hmx : ¬ ((L : Int) + 1 - (q : Int) ≤ 0) := by omega
          go_wp2_with fail
          have hbS : Below w.heap.size w (wr.setCell ⟨g, L, none⟩ (.int .i64 (min z x))) := hB.setCell (p := ⟨g, L, none⟩) (by simp only; omega) _
          have oP : (wr.setCell ⟨g, L, none⟩ (.int .i64 (min z x))).ownsRow w.heap.size 3 1 (.slice (some ⟨g, 0, none⟩) (L + 1) cap) (L + 1) ((pk f p (k + 1)).map (Value.int .i64)) := by
            have := own1_set HP.out (j := L) (by omega) (.int .i64 (min z x))
            rw [← List.map_set] at this
            have e : pk f p (k + 1) = (pk f p k).set L (min z x) := by rw [HN.out, hLL, Nat.add_sub_cancel, HfX.out, HZz.out]
            rw [e]; exact this
          have hap : Ap u7 (.slice (some ⟨g, 0, none⟩) (L + 1) cap) := HAp.out
          have hfar : some g ≠ (u7 : Value).ownBlock := by
            rcases hap with h | h
            · rw [h]; simp
            · exact fun e => h e.symm
          have oO : (wr.setCell ⟨g, L, none⟩ (.int .i64 (min z x))).ownsRow w.heap.size 3 1 u7 k (((baseL xs p q).take k).map (Value.int .i64)) := own1_far (HO.out) hfar _
          obtain ⟨Y, hY⟩ : ∃ Y, Y = wr.setCell ⟨g, L, none⟩ (.int .i64 (min z x)) := ⟨_, rfl⟩
          rw [← hY] at hbS oP oO
          have hcP := own_ints oP (by omega)
          have HC : ∀ b m e, b = ⟨g, d, none⟩ → m = L + 1 - d → e = cap - d → Hid (Calls Try.prog 51 #[.slice (some b) m e] Y fun e w' => e = .returned (.int .i64 V) ∧ Y = w') := fun b m e hb hm he => by
            have := smin_any _ _ _ _ _ (hcP.dropC d (by omega)) (by omega)
            rw [HVV.out, addr0] at this; subst hb; subst hm; subst he; exact this
          have hbs := hbS.size
          have HbS := hide hbS; have HoP := hide oP; have HoO := hide oO; have Hap := hide hap
          have hlP := (oP.lt g rfl).2
          clear hbS oP oO hap hfar hcP cL fL
          rw [← hY]
          clear hY
          go_wp2_with (first | (go_at_call 51; refine (HC _ _ _ rfl (by omega) (by omega)).out.mono ?_; rintro e w1 ⟨rfl, rfl⟩) | (at_builtin; refine wpList_append_lies _ (by rfl) (.tmp 45) (.tmp 54) _ (by rfl) w.heap.size 3 i0 (.int .i64 0) 1 8 Try.underlying23 hi0 hz0 hz1 hz2 rfl (by decide) u7 _ _ (by rfl) (HoO.out.alloc _) _ 1 1 [.int .i64 V] (by rfl) rfl (news_list (news_new (by first | rfl | simp))) (by simp [Value.oneCell']) (by decide) (by unfold maxLen; omega) (by omega) (by simp; omega) _ rfl ?_; intro g2 cap2 w2 ho2 hgB hat2 hlt2))
          have FO := hide (own_next' (by rw [HZ.out]; exact hlt) HE.out ho2)
          have FP := hide ((HoP.out.alloc (.cells #[.int .i64 V] 3)).kept hgB Hap.out.symm)
          have FA := hide ((Hap.out.symm.new (n := k + 1) (cap := cap2) hat2 (fun b hb => Nat.lt_of_lt_of_le (HoP.out.lt b hb).2 (by simp))).symm)
          have FSs := hide ((HbS.out.alloc hbs (.cells #[.int .i64 V] 3)).grown hgB (by simp; omega) (fun q hq => own_row HoO.out q hq))
          clear ho2 hgB hat2 HoP HoO HbS HC HE HO HP hB
          go_wp2
          go_roundw
          case rel => exact ⟨k + 1, by omega, by go_num, FO, by rw [show (pk f p (k + 1)).length = L + 1 by rw [HN.out]; simp [hLL]]; exact FP, FA, FSs.out⟩
          case measure => (simp [intOf] <;> omega)
    · obtain rfl : k = n := by omega
      obtain ⟨a', c', rfl, hI'⟩ := own_tail HO.out HZ.out (by omega)
      have HF := hide hI'
      clear HO hI' HI HP HAp
      go_wp2
      go_ret
      exact ⟨⟨a', k, c', rfl, by rw [HS.out]; exact HF.out⟩, hB⟩

end Go.Proofs.Ythjicnddfjpnjaa
