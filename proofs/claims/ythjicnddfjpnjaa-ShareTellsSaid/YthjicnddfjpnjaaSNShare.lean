/-
  WALKS: the reference's NShare.
-/
import Derived.Test.YthjicnddfjpnjaaSShare
import Derived.Test.YthjicnddfjpnjaaPMin
namespace Go.Proofs.Ythjicnddfjpnjaa
open Go.RowKit
set_option linter.unusedSimpArgs false
set_option linter.unusedVariables false

attribute [local go_sem] iteMin iteMax iteMinN iteMaxN

theorem cn_mono {f : Nat → Int} {L : Int} : ∀ n k, k ≤ n → cn f L k ≤ cn f L n
  | 0, k, h => by obtain rfl : k = 0 := by omega
                  exact Int.le_refl _
  | n + 1, k, h => by
    by_cases e : k = n + 1
    · subst e; exact Int.le_refl _
    · have := cn_mono (f := f) (L := L) n k (by omega)
      simp only [cn]; split <;> omega
def IsRef (xs : List Int) (A : Int) (Z : List Int) : Prop := ∃ L : Int, 0 ≤ L ∧ L ≤ 1048576 ∧ fl (fun j => xs.getD j 0) L xs.length ≤ A ∧ (cn (fun j => xs.getD j 0) L xs.length = 0 ∨ fl (fun j => xs.getD j 0) L xs.length = A ∨ A < fl (fun j => xs.getD j 0) (L + 1) xs.length) ∧ Z = shL (fun j => xs.getD j 0) L (A - fl (fun j => xs.getD j 0) L xs.length) xs.length
theorem share_same {xs : List Int} {A : Int} {Z Z' : List Int} (hs : SmS xs) (hA : 0 ≤ A) (h : IsShare xs A Z) (h' : IsRef xs A Z') : Z = Z' := by
  obtain ⟨M, m0, m1, m2, m3, rfl⟩ := h
  obtain ⟨L, l0, l1, l2, l3, rfl⟩ := h'
  unfold shL
  refine List.map_congr_left fun k hk => ?_
  exact same_share (right_f hs) hA m0 m2 m1 m3 l0 l1 l2 l3 k (List.mem_range.1 hk)
/-- where the whole rounds stand: all that is left, and what each has -/
def NSt (f : Nat → Int) (n : Nat) (A A' : Int) (p : Nat → Int) : Prop :=
  0 ≤ A' ∧ A' ≤ A ∧ ((∃ L, 0 ≤ L ∧ L ≤ 1048576 ∧ A' = A - fl f L n ∧ ∀ j, j < n → p j = min (f j) L) ∨
  (A' = 0 ∧ ∃ L, 0 ≤ L ∧ L ≤ 1048576 ∧ fl f L n ≤ A ∧ A < fl f (L + 1) n ∧ ∀ j, j < n → p j = so f L (A - fl f L n) j))
theorem shL_tab {f p : Nat → Int} {L r : Int} {n : Nat} (h : ∀ j, j < n → p j = so f L r j) : tabI n p = shL f L r n := by
  unfold tabI shL
  exact List.map_congr_left fun j hj => h j (List.mem_range.1 hj)
/-- the first k are q, the others p -/
def mixP (p q : Nat → Int) (k : Nat) : Nat → Int := fun j => if j < k then q j else p j
theorem mixP_at (p q : Nat → Int) (k : Nat) : mixP p q k k = p k := by unfold mixP; rw [if_neg (by omega)]
theorem mixP_next (p q : Nat → Int) (k : Nat) : mixP p q (k + 1) k = q k := by unfold mixP; rw [if_pos (by omega)]
theorem mixP_other (p q : Nat → Int) {k t : Nat} (h : t ≠ k) : mixP p q (k + 1) t = mixP p q k t := by
  unfold mixP
  by_cases e : t < k
  · rw [if_pos e, if_pos (by omega)]
  · rw [if_neg e, if_neg (by omega)]
theorem mixP_end (p q : Nat → Int) {n t : Nat} (h : t < n) : mixP p q n t = q t := by unfold mixP; rw [if_pos h]

set_option maxRecDepth 100000 in
set_option maxHeartbeats 4000000 in
theorem nshare_no (all : Int) (a : Option Addr) (n c : Nat) (xs : List Int) (w : World) (h : IntsAt w a n c xs) (hs : ¬ RightS xs) :
    Calls Try.prog 18 #[.int .i64 all, .slice a n c] w fun e w' => BackS [] e w' ∧ Below w.heap.size w w' := by
  have HI := hide (nRight_any a n c xs w h)
  have HS := hide hs
  clear h hs
  go_enter Try.func18, Try.ntmps18
  go_wp2_with (go_at_call 16; refine (callF HI.out HS.out).mono ?_; rintro e w1 ⟨rfl, rfl⟩)
  go_ret
  exact ⟨⟨none, 0, 0, rfl, IntsAt.nil_ _⟩, Below.refl _ _⟩
set_option maxRecDepth 100000 in
set_option maxHeartbeats 8000000 in
theorem nshare_ok (all : Int) (a : Option Addr) (n c : Nat) (xs : List Int) (w : World) (h : IntsAt w a n c xs) (hs : RightS xs) :
    Calls Try.prog 18 #[.int .i64 all, .slice a n c] w fun e w' => (∃ Z, IsRef xs (fitI all) Z ∧ BackS Z e w') ∧ Below w.heap.size w w' := by
  obtain ⟨i0, hi0, hz0, hz1, hz2⟩ := info_parts intInfoS
  have HR := hide (nRight_any a n c xs w h)
  have HS := hide hs
  have hl := h.len
  have hn3 : n ≤ 300 := by rw [← hl]; exact hs.1
  have HI := hide h
  obtain ⟨f, hf⟩ : ∃ f : Nat → Int, f = fun j => xs.getD j 0 := ⟨_, rfl⟩
  have HFF := hide hf
  have HRf := hide (show ∀ j, j < n → 0 ≤ f j ∧ f j ≤ 1048576 by rw [hf, ← hl]; exact right_f hs.2)
  obtain ⟨A, hA⟩ : ∃ A, fitI all = A := ⟨_, rfl⟩
  have A0 : 0 ≤ A := by rw [← hA]; exact fit_ge all
  have A1 : A ≤ 1152921504606846976 := by rw [← hA]; exact fit_le all
  have HFT := hide (fun (w' : World) => show Calls Try.prog 37 #[.int .i64 all] w' (fun e w'' => e = .returned (.int .i64 A) ∧ w' = w'') by rw [← hA]; exact rfit_any all w')
  have HF0 := hide (fl_zero (f := f) n (fun j hj => (HRf.out j hj).1))
  have hNz : Value.int .i64 (n : Int) = .int .i64 (n : Int) := rfl
  rw [hA]
  clear h hs hf hA
  obtain ⟨G, hG⟩ : ∃ G, w.heap.size = G := ⟨_, rfl⟩
  have HG := hide hG
  go_enter Try.func18, Try.ntmps18
  go_wp2_with (first | (go_at_call 16; refine (callT HR.out HS.out).mono ?_; rintro e w1 ⟨rfl, rfl⟩) | (at_make; refine wpList_make_full _ rfl _ _ 23 rfl w.heap.size 3 i0 (.int .i64 0) 1 Try.underlying23 hi0 hz0 hz1 .i64 .i64 _ _ n rfl rfl rfl rfl (by rw [hz2]; omega) (by unfold maxLen; omega) (Nat.le_refl _) ?_; intro w1 hown hgrow) | (go_at_call 37; refine (HFT.out _).mono ?_; rintro e w2 ⟨rfl, rfl⟩))
  have hT := OwnTab.made hown
  have hBw : Below w.heap.size w w1 := (Below.refl _ _).grown hgrow (Nat.le_refl _) (fun k hk => by cases hk)
  rw [hG] at hT hBw
  have HT := hide hT
  have HBw := hide hBw
  have HN0 := hide (show NSt f n A A (fun _ => 0) from ⟨A0, Int.le_refl _, .inl ⟨0, by omega, by omega, by rw [HF0.out]; omega, fun j hj => by have := (HRf.out j hj).1; show (0 : Int) = min (f j) 0; omega⟩⟩)
  clear hown hgrow hT hBw HR HFT HF0 hG
  go_wp2
  go_loopw [0] (fun al wr => ∃ (A' : Int) (p : Nat → Int), al = .int .i64 A' ∧ Hid (NSt f n A A' p) ∧ Hid (OwnTab wr G 3 G n p) ∧ Hid (Below G w wr)) (fun al _ => (intOf al).toNat)
  case atStart => exact ⟨A, _, rfl, HN0, HT, HBw⟩
  case round =>
    clear HN0 HT HBw
    obtain ⟨A', p, rfl, HN, HT, HB⟩ := hrel
    have a0 := HN.out.1
    have a1 := HN.out.2.1
    by_cases hpos : 0 < A'
    · obtain ⟨L, L0, L1, hL, hp⟩ : ∃ L, 0 ≤ L ∧ L ≤ 1048576 ∧ A' = A - fl f L n ∧ ∀ j, j < n → p j = min (f j) L := by
        rcases HN.out.2.2 with h | ⟨h, _⟩
        · exact h
        · omega
      have HP := hide hp
      have hA'' := hide hL
      clear hp hL HN
      go_wp2
      go_loop [6, 7, 25] (fun h l i => ∃ k : Nat, k ≤ n ∧ i = .int .i64 k ∧ h = .int .i64 (cn f L k) ∧ l = .int .i64 (ls f L k)) (fun _ _ i => n - (intOf i).toNat)
      case atStart => exact ⟨0, Nat.zero_le _, rfl, rfl, rfl⟩
      case round =>
        obtain ⟨k, hk, rfl, rfl, rfl⟩ := hrel
        have k0 : (0 : Int) ≤ (k : Int) := Int.natCast_nonneg _
        have c0 := cn_ge (f := f) (L := L) k
        have c1 := cn_le (f := f) (L := L) k
        have c2 := ls_pos (f := f) (L := L) k
        by_cases hlt : k < n
        · obtain ⟨ad, x, rfl, hbd, hc, HX⟩ := HI.out.getB (by rw [HG.out]; exact HB.out) hlt
          have k1 : (k : Int) < (n : Int) := by omega
          have e : f k = x := by rw [HFF.out]; exact getD_of HX.out
          obtain ⟨x0, x1⟩ := HRf.out k hlt
          rw [e] at x0 x1
          have cT : wr.cell? ⟨G, k, none⟩ = some (.int .i64 (min x L)) := by rw [HT.out.cell hlt, HP.out k hlt, e]
          obtain ⟨H, hH⟩ : ∃ H, cn f L k = H := ⟨_, rfl⟩
          obtain ⟨l, hls⟩ : ∃ l, ls f L k = l := ⟨_, rfl⟩
          rw [hH] at c0 c1 ⊢
          rw [hls] at c2 ⊢
          by_cases hwant : L < x
          · have hm : min x L = L := by omega
            rw [hm] at cT
            have E1 := hide (show cn f L (k + 1) = H + 1 by simp only [cn]; rw [e, if_pos hwant, hH])
            have E2 := hide (show ls f L (k + 1) = min l (x - L) by simp only [ls]; rw [e, if_pos hwant, hls])
            have hw1 : IntKind.i64.wrap (H + 1) = H + 1 := by rw [IntKind.wrap_i64]; omega
            have hw2 : IntKind.i64.wrap (x - L) = x - L := by rw [IntKind.wrap_i64]; omega
            clear hH hls hm HX e
            go_wp2
            go_round
            case rel => exact ⟨k + 1, by omega, by go_num, by rw [E1.out], by rw [E2.out]⟩
            case measure => (simp [intOf] <;> omega)
          · have hm : min x L = x := by omega
            rw [hm] at cT
            have E1 := hide (show cn f L (k + 1) = H by simp only [cn]; rw [e, if_neg hwant, hH])
            have E2 := hide (show ls f L (k + 1) = l by simp only [ls]; rw [e, if_neg hwant, hls])
            clear hH hls hm HX e hwant
            go_wp2
            go_round
            case rel => exact ⟨k + 1, by omega, by go_num, by rw [E1.out], by rw [E2.out]⟩
            case measure => (simp [intOf] <;> omega)
        · obtain rfl : n = k := by omega
          obtain ⟨H, hH⟩ : ∃ H, cn f L n = H := ⟨_, rfl⟩
          obtain ⟨l, hls⟩ : ∃ l, ls f L n = l := ⟨_, rfl⟩
          have HHn := hide hH
          have hle := fun j hj hw => ls_le (f := f) (L := L) n j hj hw
          have hsome := cn_some (f := f) (L := L) n
          rw [hls] at hle c2
          rw [hH] at c0 c1 hsome
          by_cases h0 : H = 0
          · subst h0
            have HF := hide (show IsRef xs A (tabI n p) from ⟨L, L0, L1, by rw [← HFF.out, hl]; have := hA''.out; omega, .inl (by rw [← HFF.out, hl]; exact HHn.out), by
              rw [← HFF.out, hl]
              exact shL_tab fun j hj => by
                rw [HP.out j hj]
                have := cn_none n HHn.out j hj
                unfold so; rw [if_neg (fun e => by omega)]⟩)
            rw [hls, hH]
            clear hle hsome hls hH c0 c1 c2
            go_wp2
            go_ret
            exact ⟨⟨_, HF.out, _, _, _, rfl, HT.out.ints (by omega)⟩, by rw [HG.out]; exact HB.out⟩
          · have hH1 : 1 ≤ H := by omega
            have hHn : ¬ H = 0 := by omega
            have hHb : (H == 0) = false := by simp; omega
            obtain ⟨q, hq⟩ : ∃ q, A' / H = q := ⟨_, rfl⟩
            have hquo : Int.tdiv A' H = q := by rw [Int.tdiv_eq_ediv_of_nonneg a0]; exact hq
            have q1 : q * H ≤ A' := by rw [← hq]; exact Int.ediv_mul_le _ (by omega)
            have q2 : A' < (q + 1) * H := by rw [← hq]; exact Int.lt_ediv_add_one_mul_self _ (by omega)
            have q0 : 0 ≤ q := by rw [← hq]; exact Int.ediv_nonneg a0 (by omega)
            obtain ⟨r, hr⟩ : ∃ r, min l q = r := ⟨_, rfl⟩
            have r0 : 0 ≤ r := by omega
            have hqA : q ≤ A' := by
              have : q * 1 ≤ q * H := Int.mul_le_mul_of_nonneg_left hH1 q0
              omega
            have hwq : IntKind.i64.wrap q = q := by rw [IntKind.wrap_i64]; omega
            have r1 : L + r ≤ 1048576 := by
              obtain ⟨j, hj, hw⟩ := hsome (by omega)
              have := hle j hj hw
              have := (HRf.out j hj).2
              omega
            have HLE := hide (show ∀ j, j < n → L < f j → r ≤ f j - L from fun j hj hw => by have := hle j hj hw; omega)
            have hrH : r * H ≤ A' := Int.le_trans (Int.mul_le_mul_of_nonneg_right (by omega) (by omega)) q1
            rw [hls, hH]
            by_cases hrp : 0 < r
            · have HRH := hide (show 1 ≤ r * H ∧ r * H ≤ A' from ⟨by have : 1 * 1 ≤ r * H := Int.mul_le_mul (by omega) hH1 (by omega) (by omega); omega, hrH⟩)
              have hm1 : max r 1 = r := by omega
              clear hle hsome hls hH q1 q2 hq
              go_wp2
              go_loopw [0, 56] (fun al i wr' => ∃ k : Nat, k ≤ n ∧ i = .int .i64 k ∧ al = .int .i64 (A' - r * cn f L k) ∧ Hid (OwnTab wr' G 3 G n (mixP p (fun j => min (f j) (L + r)) k)) ∧ Hid (Below G w wr')) (fun _ i _ => n - (intOf i).toNat)
              case atStart => exact ⟨0, Nat.zero_le _, rfl, by rw [show cn f L 0 = 0 from rfl]; simp, HT.out.eq (fun t _ => by unfold mixP; rw [if_neg (by omega)]), HB⟩
              case round =>
                clear HT HB
                obtain ⟨k, hk, rfl, rfl, HT, HB⟩ := hrel
                have k0 : (0 : Int) ≤ (k : Int) := Int.natCast_nonneg _
                by_cases hlt : k < n
                · obtain ⟨ad, x, rfl, hbd, hc, HX⟩ := HI.out.getB (by rw [HG.out]; exact HB.out) hlt
                  have k1 : (k : Int) < (n : Int) := by omega
                  have e : f k = x := by rw [HFF.out]; exact getD_of HX.out
                  obtain ⟨x0, x1⟩ := HRf.out k hlt
                  rw [e] at x0 x1
                  have cT : wr.cell? ⟨G, k, none⟩ = some (.int .i64 (min x L)) := by rw [HT.out.cell hlt, mixP_at, HP.out k hlt, e]
                  have fT := HT.out.free k
                  have hmul : r * cn f L k ≤ r * H := by rw [← HHn.out]; exact Int.mul_le_mul_of_nonneg_left (cn_mono n k hk) r0
                  have hmul0 : 0 ≤ r * cn f L k := Int.mul_nonneg r0 (cn_ge k)
                  obtain ⟨a2, ha2⟩ : ∃ a2, A' - r * cn f L k = a2 := ⟨_, rfl⟩
                  have b0 : 0 ≤ a2 ∧ a2 ≤ A := by omega
                  rw [ha2]
                  by_cases hwant : L < x
                  · have hm : min x L = L := by omega
                    rw [hm] at cT
                    have E1 := hide (show A' - r * cn f L (k + 1) = a2 - r by simp only [cn]; rw [e, if_pos hwant, Int.mul_add]; omega)
                    have hw1 : IntKind.i64.wrap (L + r) = L + r := by rw [IntKind.wrap_i64]; omega
                    have hw2 : IntKind.i64.wrap (a2 - r) = a2 - r := by rw [IntKind.wrap_i64]; omega
                    have hwr : r ≤ x - L := by have := HLE.out k hlt (by rw [e]; exact hwant); rw [e] at this; omega
                    have FT := hide (HT.out.set (q := mixP p (fun j => min (f j) (L + r)) (k + 1)) hlt (v := L + r) (by rw [mixP_next]; rw [e]; omega) (fun t _ ht => mixP_other p _ ht))
                    have FB := hide (HB.out.setCell (p := ⟨G, k, none⟩) (Nat.le_refl G) (.int .i64 (L + r)))
                    clear hm ha2 hmul hmul0 hwr HT HB HX e
                    go_wp2
                    go_roundw
                    case rel => exact ⟨k + 1, by omega, by go_num, by rw [E1.out], FT, FB⟩
                    case measure => (simp [intOf] <;> omega)
                  · have hm : min x L = x := by omega
                    rw [hm] at cT
                    have E1 := hide (show A' - r * cn f L (k + 1) = a2 by simp only [cn]; rw [e, if_neg hwant]; exact ha2)
                    have FT := hide (HT.out.eq (q := mixP p (fun j => min (f j) (L + r)) (k + 1)) (fun t _ => by
                      by_cases ht : t = k
                      · subst ht; rw [mixP_next, mixP_at, HP.out t hlt, e]; omega
                      · exact mixP_other p _ ht))
                    clear hm ha2 hmul hmul0 HT HX e
                    go_wp2
                    go_roundw
                    case rel => exact ⟨k + 1, by omega, by go_num, by rw [E1.out], FT, HB⟩
                    case measure => (simp [intOf] <;> omega)
                · obtain rfl : k = n := by omega
                  obtain ⟨t, ht⟩ : ∃ t, r * cn f L k = t := ⟨_, rfl⟩
                  have ht1 : 1 ≤ t ∧ t ≤ A' := by rw [← ht, HHn.out]; exact HRH.out
                  have FE := hide (show NSt f k A (A' - t) (mixP p (fun j => min (f j) (L + r)) k) from by
                    have hfl := fl_add (f := f) (L := L) (r := r) r0 k (fun j hj hw => HLE.out j hj hw)
                    refine ⟨by omega, by omega, .inl ⟨L + r, by omega, by omega, ?_, fun j hj => mixP_end p _ hj⟩⟩
                    rw [hfl, ht, hA''.out]; omega)
                  rw [ht]
                  have ha2 : 0 ≤ A' - t := by omega
                  clear ht
                  go_wp2
                  go_roundw
                  case rel => exact ⟨_, _, rfl, FE, HT, HB⟩
                  case measure => (simp [intOf] <;> omega)
            · have hq00 : q = 0 := by omega
              have hAH : A' < H := by rw [hq00] at q2; omega
              obtain rfl : r = 0 := by omega
              clear hle hsome hls hH q1 q2 hq hrH
              go_wp2
              go_loopw [0, 56] (fun al i wr' => ∃ k : Nat, k ≤ n ∧ i = .int .i64 k ∧ al = .int .i64 (rs f L A' k) ∧ Hid (OwnTab wr' G 3 G n (mixP p (so f L A') k)) ∧ Hid (Below G w wr')) (fun _ i _ => n - (intOf i).toNat)
              case atStart => exact ⟨0, Nat.zero_le _, rfl, by rfl, HT.out.eq (fun t _ => by unfold mixP; rw [if_neg (by omega)]), HB⟩
              case round =>
                clear HT HB
                obtain ⟨k, hk, rfl, rfl, HT, HB⟩ := hrel
                have k0 : (0 : Int) ≤ (k : Int) := Int.natCast_nonneg _
                by_cases hlt : k < n
                · obtain ⟨ad, x, rfl, hbd, hc, HX⟩ := HI.out.getB (by rw [HG.out]; exact HB.out) hlt
                  have k1 : (k : Int) < (n : Int) := by omega
                  have e : f k = x := by rw [HFF.out]; exact getD_of HX.out
                  obtain ⟨x0, x1⟩ := HRf.out k hlt
                  rw [e] at x0 x1
                  have cT : wr.cell? ⟨G, k, none⟩ = some (.int .i64 (min x L)) := by rw [HT.out.cell hlt, mixP_at, HP.out k hlt, e]
                  have fT := HT.out.free k
                  have hrg := rs_give (f := f) (L := L) a0 k
                  have hcg := cn_ge (f := f) (L := L) k
                  obtain ⟨a2, ha2⟩ : ∃ a2, rs f L A' k = a2 := ⟨_, rfl⟩
                  have b0 : 0 ≤ a2 ∧ a2 ≤ A := by omega
                  rw [ha2]
                  by_cases hwant : L < x
                  · have hm : min x L = L := by omega
                    rw [hm] at cT
                    by_cases hpa : 0 < a2
                    · have E1 := hide (show rs f L A' (k + 1) = a2 - 1 by simp only [rs]; rw [e, ha2, if_pos ⟨hpa, hwant⟩])
                      have hw1 : IntKind.i64.wrap (L + 1) = L + 1 := by rw [IntKind.wrap_i64]; omega
                      have hw2 : IntKind.i64.wrap (a2 - 1) = a2 - 1 := by rw [IntKind.wrap_i64]; omega
                      have FT := hide (HT.out.set (q := mixP p (so f L A') (k + 1)) hlt (v := L + 1) (by rw [mixP_next]; unfold so; rw [ha2, e, if_pos ⟨hpa, hwant⟩, hm]) (fun t _ ht => mixP_other p _ ht))
                      have FB := hide (HB.out.setCell (p := ⟨G, k, none⟩) (Nat.le_refl G) (.int .i64 (L + 1)))
                      clear hm ha2 hrg hcg HT HB HX e
                      go_wp2
                      go_roundw
                      case rel => exact ⟨k + 1, by omega, by go_num, by rw [E1.out], FT, FB⟩
                      case measure => (simp [intOf] <;> omega)
                    · have E1 := hide (show rs f L A' (k + 1) = a2 by simp only [rs]; rw [e, ha2, if_neg (fun h => hpa h.1)])
                      have FT := hide (HT.out.eq (q := mixP p (so f L A') (k + 1)) (fun t _ => by
                        by_cases ht : t = k
                        · subst ht; rw [mixP_next, mixP_at, HP.out t hlt, e]; unfold so; rw [ha2, e, if_neg (fun h => hpa h.1)]
                        · exact mixP_other p _ ht))
                      clear hm ha2 hrg hcg HT HX e
                      go_wp2
                      go_roundw
                      case rel => exact ⟨k + 1, by omega, by go_num, by rw [E1.out], FT, HB⟩
                      case measure => (simp [intOf] <;> omega)
                  · have hm : min x L = x := by omega
                    rw [hm] at cT
                    have E1 := hide (show rs f L A' (k + 1) = a2 by simp only [rs]; rw [e, ha2, if_neg (fun h => hwant h.2)])
                    have FT := hide (HT.out.eq (q := mixP p (so f L A') (k + 1)) (fun t _ => by
                      by_cases ht : t = k
                      · subst ht; rw [mixP_next, mixP_at, HP.out t hlt, e]; unfold so; rw [ha2, e, if_neg (fun h => hwant h.2)]
                      · exact mixP_other p _ ht))
                    clear hm ha2 hrg hcg HT HX e
                    go_wp2
                    go_roundw
                    case rel => exact ⟨k + 1, by omega, by go_num, by rw [E1.out], FT, HB⟩
                    case measure => (simp [intOf] <;> omega)
                · obtain rfl : k = n := by omega
                  have hrg := rs_give (f := f) (L := L) a0 k
                  have hz : rs f L A' k = 0 := by rw [hrg, HHn.out]; omega
                  rw [hz]
                  have FE := hide (show NSt f k A 0 (mixP p (so f L A') k) from by
                    have hs := fl_step (f := f) (L := L) k
                    rw [HHn.out] at hs
                    have hAA := hA''.out
                    refine ⟨by omega, A0, .inr ⟨rfl, L, L0, L1, by omega, by omega, fun j hj => ?_⟩⟩
                    rw [mixP_end p _ hj, ← hAA])
                  clear hrg hz
                  go_wp2
                  go_roundw
                  case rel => exact ⟨_, _, rfl, FE, HT, HB⟩
                  case measure => (simp [intOf] <;> omega)
    · have HF := hide (show IsRef xs A (tabI n p) from by
        obtain rfl : A' = 0 := by omega
        rcases HN.out.2.2 with ⟨L, L0, L1, hL, hp⟩ | ⟨_, L, L0, L1, h1, h2, hp⟩
        · refine ⟨L, L0, L1, by rw [← HFF.out, hl]; omega, .inr (.inl (by rw [← HFF.out, hl]; omega)), ?_⟩
          rw [← HFF.out, hl]
          exact shL_tab fun j hj => by rw [hp j hj, so_neg (by omega)]
        · refine ⟨L, L0, L1, by rw [← HFF.out, hl]; exact h1, .inr (.inr (by rw [← HFF.out, hl]; exact h2)), ?_⟩
          rw [← HFF.out, hl]
          exact shL_tab hp)
      clear HN
      go_wp2
      go_ret
      exact ⟨⟨_, HF.out, _, _, _, rfl, HT.out.ints (by omega)⟩, by rw [HG.out]; exact HB.out⟩

end Go.Proofs.Ythjicnddfjpnjaa
