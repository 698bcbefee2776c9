/-
  WALKS: share.Share.
-/
import Derived.Test.YthjicnddfjpnjaaSRight
import Derived.Test.YthjicnddfjpnjaaNum
import Derived.Test.YthjicnddfjpnjaaR3
namespace Go.Proofs.Ythjicnddfjpnjaa
open Go.RowKit
set_option linter.unusedSimpArgs false
set_option linter.unusedVariables false

attribute [local go_sem] iteMin iteMax iteMinN iteMaxN

theorem intInfoS : (Try.prog.info? 3).map (fun i => (i.zero, i.size, i.bytes)) = some (some (.int .i64 0), 1, 8) := by kernel_rfl
def BackS (Z : List Int) (e : Ending) (w : World) : Prop := ∃ b m d, e = .returned (.slice b m d) ∧ IntsAt w b m d Z
theorem own_tailS {w : World} {S n : Nat} {e : TypeId} {v : Value} {Z : List Int} (h : w.ownsRow S e 1 v n ((Z.take n).map (Value.int .i64))) (hn : Z.length = n) (hl : n ≤ 17592186044416) : ∃ a c, v = .slice a n c ∧ IntsAt w a n c Z := by
  have h' := own_all hn.symm h
  obtain ⟨a, c, h1, h2⟩ := IntsAt.of_own h' (by omega)
  rw [hn] at h1 h2
  exact ⟨a, c, h1, h2⟩
/-- the share of each -/
def shL (f : Nat → Int) (L r : Int) (n : Nat) : List Int := (List.range n).map (so f L r)
theorem shL_len (f : Nat → Int) (L r : Int) (n : Nat) : (shL f L r n).length = n := by simp [shL]
theorem shL_get {f : Nat → Int} {L r : Int} {n k : Nat} (h : k < n) : (shL f L r n).getD k 0 = so f L r k := by
  simp [shL, List.getD_eq_getElem?_getD, h]
/-- where the search for the level stands: the next bit is b -/
def Lev (f : Nat → Int) (n : Nat) (A L : Int) (b : Nat) : Prop := 0 ≤ L ∧ L ≤ 1048576 ∧ fl f L n ≤ A ∧ (b = 0 ∨ ∃ e, b = 2 ^ e) ∧ b ≤ 1048576 ∧ ((b = 0 ∧ (A < fl f (L + 1) n ∨ 1048576 < L + 1)) ∨ (0 < b ∧ (A < fl f (L + 2 * b) n ∨ 1048576 < L + 2 * b)))
theorem half {b : Nat} (h : ∃ e, b = 2 ^ e) : (b / 2 = 0 ∧ b = 1) ∨ ((∃ e, b / 2 = 2 ^ e) ∧ b = 2 * (b / 2) ∧ 0 < b / 2) := by
  obtain ⟨e, rfl⟩ := h
  cases e with
  | zero => exact .inl ⟨rfl, rfl⟩
  | succ e =>
    right
    have h1 : 2 ^ (e + 1) = 2 * 2 ^ e := by rw [Nat.pow_succ, Nat.mul_comm]
    have h2 : 0 < 2 ^ e := Nat.pow_pos (by omega)
    have h3 : 2 ^ (e + 1) / 2 = 2 ^ e := by omega
    rw [h3]
    exact ⟨⟨e, rfl⟩, by omega, h2⟩
theorem Lev.up {f : Nat → Int} {n b : Nat} {A L : Int} (h : Lev f n A L b) (hb : 0 < b) (h1 : L + b ≤ 1048576) (h2 : fl f (L + b) n ≤ A) : Lev f n A (L + b) (b / 2) := by
  obtain ⟨a1, a2, a3, a4, a5, a6⟩ := h
  obtain ⟨e, he⟩ : ∃ e, b = 2 ^ e := a4.resolve_left (by omega)
  have h6 : A < fl f (L + 2 * b) n ∨ 1048576 < L + 2 * b := by
    rcases a6 with ⟨h, _⟩ | ⟨_, h⟩
    · omega
    · exact h
  rcases half ⟨e, he⟩ with ⟨c1, c2⟩ | ⟨c1, c2, c3⟩
  · rw [c1]
    refine ⟨by omega, h1, h2, .inl rfl, by omega, .inl ⟨rfl, ?_⟩⟩
    have e1 : L + 2 * (b : Int) = L + b + 1 := by omega
    rw [e1] at h6; exact h6
  · refine ⟨by omega, h1, h2, .inr c1, by omega, .inr ⟨c3, ?_⟩⟩
    have e1 : L + 2 * (b : Int) = L + b + 2 * ((b / 2 : Nat) : Int) := by omega
    rw [e1] at h6; exact h6
theorem Lev.stay {f : Nat → Int} {n b : Nat} {A L : Int} (h : Lev f n A L b) (hb : 0 < b) (h1 : 1048576 < L + b ∨ A < fl f (L + b) n) : Lev f n A L (b / 2) := by
  obtain ⟨a1, a2, a3, a4, a5, a6⟩ := h
  obtain ⟨e, he⟩ : ∃ e, b = 2 ^ e := a4.resolve_left (by omega)
  rcases half ⟨e, he⟩ with ⟨c1, c2⟩ | ⟨c1, c2, c3⟩
  · rw [c1]
    refine ⟨a1, a2, a3, .inl rfl, by omega, .inl ⟨rfl, ?_⟩⟩
    rw [c2] at h1; exact h1.symm
  · refine ⟨a1, a2, a3, .inr c1, by omega, .inr ⟨c3, ?_⟩⟩
    have e1 : 2 * ((b / 2 : Nat) : Int) = b := by omega
    rw [e1]; exact h1.symm
/-- what Share hands back: by a highest level -/
def IsShare (xs : List Int) (A : Int) (Z : List Int) : Prop := ∃ M : Int, 0 ≤ M ∧ M ≤ 1048576 ∧ fl (fun j => xs.getD j 0) M xs.length ≤ A ∧ (M = 1048576 ∨ A < fl (fun j => xs.getD j 0) (M + 1) xs.length) ∧ Z = shL (fun j => xs.getD j 0) M (A - fl (fun j => xs.getD j 0) M xs.length) xs.length

set_option maxRecDepth 100000 in
set_option maxHeartbeats 4000000 in
theorem share_no (all : Int) (a : Option Addr) (n c : Nat) (xs : List Int) (w : World) (h : IntsAt w a n c xs) (hs : ¬ RightS xs) :
    Calls Try.prog 17 #[.int .i64 all, .slice a n c] w fun e w' => BackS [] e w' ∧ Below w.heap.size w w' := by
  have HI := hide (sRight_any a n c xs w h)
  have HS := hide hs
  clear h hs
  go_enter Try.func17, Try.ntmps17
  go_wp2_with (go_at_call 15; refine (callF HI.out HS.out).mono ?_; rintro e w1 ⟨rfl, rfl⟩)
  go_ret
  exact ⟨⟨none, 0, 0, rfl, IntsAt.nil_ _⟩, Below.refl _ _⟩
set_option maxRecDepth 100000 in
set_option maxHeartbeats 8000000 in
theorem share_ok (all : Int) (a : Option Addr) (n c : Nat) (xs : List Int) (w : World) (h : IntsAt w a n c xs) (hs : RightS xs) :
    Calls Try.prog 17 #[.int .i64 all, .slice a n c] w fun e w' => (∃ Z, IsShare xs (fitI all) Z ∧ BackS Z e w') ∧ Below w.heap.size w w' := by
  obtain ⟨i0, hi0, hz0, hz1, hz2⟩ := info_parts intInfoS
  have HR := hide (sRight_any a n c xs w h)
  have HS := hide hs
  have hl := h.len
  have hn3 : n ≤ 300 := by rw [← hl]; exact hs.1
  have HI := hide h
  obtain ⟨f, hf⟩ : ∃ f : Nat → Int, f = fun j => xs.getD j 0 := ⟨_, rfl⟩
  have HFF := hide hf
  have HRf := hide (show ∀ j, j < n → 0 ≤ f j ∧ f j ≤ 1048576 by rw [hf, ← hl]; exact right_f hs.2)
  have HFL := hide (fun (L : Int) (h0 : 0 ≤ L) (h1 : L ≤ 2097152) => show Calls Try.prog 36 #[.slice a n c, .int .i64 L] w (fun e w' => e = .returned (.int .i64 (fl f L n)) ∧ w = w') by rw [hf]; exact filled_any a n c xs L w h hs h0 h1)
  obtain ⟨A, hA⟩ : ∃ A, fitI all = A := ⟨_, rfl⟩
  have HA := hide hA
  have A0 : 0 ≤ A := by rw [← hA]; exact fit_ge all
  have A1 : A ≤ 1152921504606846976 := by rw [← hA]; exact fit_le all
  have HFT := hide (show Calls Try.prog 35 #[.int .i64 all] w (fun e w' => e = .returned (.int .i64 A) ∧ w = w') by rw [← hA]; exact fit_any all w)
  have HL0 := hide (show Lev f n A 0 1048576 from ⟨by omega, by omega, by rw [fl_zero n (fun j hj => (HRf.out j hj).1)]; exact A0, .inr ⟨20, rfl⟩, by omega, .inr ⟨by omega, .inr (by omega)⟩⟩)
  rw [hA]
  clear h hs hf hA
  go_enter Try.func17, Try.ntmps17
  go_wp2_with (first | (go_at_call 15; refine (callT HR.out HS.out).mono ?_; rintro e w1 ⟨rfl, rfl⟩) | (go_at_call 35; refine HFT.out.mono ?_; rintro e w1 ⟨rfl, rfl⟩))
  clear HR HFT
  go_loopw [5, 6] (fun l b wr => ∃ (L : Int) (q : Nat), l = .int .i64 L ∧ b = .int .i64 q ∧ Hid (Lev f n A L q) ∧ wr = w) (fun _ b _ => (intOf b).toNat)
  case atStart => exact ⟨0, 1048576, rfl, rfl, HL0, rfl⟩
  case round =>
    clear HL0
    obtain ⟨L, q, rfl, rfl, HV, hwr⟩ := hrel
    have hwr2 := hwr.symm
    subst hwr2
    have L0 := HV.out.1
    have L1 := HV.out.2.1
    have q0 : (0 : Int) ≤ (q : Int) := Int.natCast_nonneg _
    have q2 := HV.out.2.2.2.2.1
    by_cases hq : 0 < q
    · have q1 : (0 : Int) < (q : Int) := by omega
      have hw : IntKind.i64.wrap (L + (q : Int)) = L + (q : Int) := by rw [IntKind.wrap_i64]; omega
      have hdiv : Int.tdiv (q : Int) 2 = ((q / 2 : Nat) : Int) := by rw [show ((2 : Int)) = ((2 : Nat) : Int) from rfl]; exact (Int.ofNat_tdiv q 2).symm
      obtain ⟨h2, hh2⟩ : ∃ h2, q / 2 = h2 := ⟨_, rfl⟩
      rw [hh2] at hdiv
      have hlt2 : h2 < q := by omega
      by_cases hfit : L + (q : Int) ≤ 1048576
      · obtain ⟨X, hX⟩ : ∃ X, fl f (L + q) n = X := ⟨_, rfl⟩
        have HC : Hid (Calls Try.prog 36 #[.slice a n c, .int .i64 (L + (q : Int))] w (fun e w' => e = .returned (.int .i64 X) ∧ w = w')) := by rw [← hX]; exact HFL.out (L + q) (by omega) (by omega)
        by_cases hle : X ≤ A
        · have HN : Hid (Lev f n A (L + q) h2) := by rw [← hh2]; exact HV.out.up hq hfit (by rw [hX]; exact hle)
          clear hX hh2
          go_wp2_with (go_at_call 36; refine HC.out.mono ?_; rintro e w1 ⟨rfl, rfl⟩)
          go_roundw
          case rel => exact ⟨L + q, h2, rfl, rfl, HN, by first | rfl | trivial⟩
          case measure => (simp [intOf] <;> omega)
        · have HN : Hid (Lev f n A L h2) := by rw [← hh2]; exact HV.out.stay hq (.inr (by rw [hX]; omega))
          clear hX hh2
          go_wp2_with (go_at_call 36; refine HC.out.mono ?_; rintro e w1 ⟨rfl, rfl⟩)
          go_roundw
          case rel => exact ⟨L, h2, rfl, rfl, HN, by first | rfl | trivial⟩
          case measure => (simp [intOf] <;> omega)
      · have HN : Hid (Lev f n A L h2) := by rw [← hh2]; exact HV.out.stay hq (.inl (by omega))
        clear hh2
        go_wp2
        go_roundw
        case rel => exact ⟨L, h2, rfl, rfl, HN, by first | rfl | trivial⟩
        case measure => (simp [intOf] <;> omega)
    · obtain rfl : q = 0 := by omega
      have hV := HV.out
      obtain ⟨_, _, hfA, _, _, h6⟩ := hV
      have hmax : L = 1048576 ∨ A < fl f (L + 1) n := by
        rcases h6 with ⟨_, h⟩ | ⟨h, _⟩
        · rcases h with h | h
          · exact .inr h
          · exact .inl (by omega)
        · omega
      have hF0 := fl_ge (f := f) L0 n (fun j hj => (HRf.out j hj).1)
      obtain ⟨X, hX⟩ : ∃ X, fl f L n = X := ⟨_, rfl⟩
      have HC : Hid (Calls Try.prog 36 #[.slice a n c, .int .i64 L] w (fun e w' => e = .returned (.int .i64 X) ∧ w = w')) := by rw [← hX]; exact HFL.out L (by omega) (by omega)
      have HIS := hide (show IsShare xs A (shL f L (A - X) n) from ⟨L, L0, L1, by rw [← HFF.out, hl]; exact hfA, by rw [← HFF.out, hl]; exact hmax, by rw [← HFF.out, hl, hX]⟩)
      have hw : IntKind.i64.wrap (A - X) = A - X := by rw [IntKind.wrap_i64]; omega
      rw [hX] at hF0 hfA
      obtain ⟨R, hR⟩ : ∃ R, A - X = R := ⟨_, rfl⟩
      have hR0 : 0 ≤ R := by omega
      have hR1 : R ≤ A := by omega
      rw [hR] at HIS hw
      have HZ := hide (shL_len f L R n)
      clear hmax h6 HV HFL hX
      go_wp2_with (go_at_call 36; refine HC.out.mono ?_; rintro e w1 ⟨rfl, rfl⟩)
      clear HC hR hw
      go_loopw [7, 8, 44] (fun r v i wr' => ∃ k : Nat, k ≤ n ∧ i = .int .i64 k ∧ r = .int .i64 (rs f L R k) ∧ Hid (wr'.ownsRow w.heap.size 3 1 v k (((shL f L R n).take k).map (Value.int .i64))) ∧ Below w.heap.size w wr') (fun _ _ i _ => n - (intOf i).toNat)
      case atStart => exact ⟨0, Nat.zero_le _, rfl, rfl, own_start _ _ _ _, Below.refl _ _⟩
      case round =>
        obtain ⟨k, hk, rfl, rfl, HO, hB⟩ := hrel
        have k0 : (0 : Int) ≤ (k : Int) := Int.natCast_nonneg _
        have hrg := rs_give (f := f) (L := L) hR0 k
        have hcg := cn_ge (f := f) (L := L) k
        by_cases hlt : k < n
        · obtain ⟨ad, x, rfl, hbd, hc, HX⟩ := HI.out.getB hB hlt
          have k1 : (k : Int) < (n : Int) := by omega
          have hBs := hB.size
          have e : f k = x := by rw [HFF.out]; exact getD_of HX.out
          obtain ⟨x0, x1⟩ := HRf.out k hlt
          rw [e] at x0 x1
          have HG := hide (shL_get (f := f) (L := L) (r := R) hlt)
          obtain ⟨ρ, hρ⟩ : ∃ ρ, rs f L R k = ρ := ⟨_, rfl⟩
          have ρ0 : 0 ≤ ρ := by omega
          have ρ1 : ρ ≤ R := by omega
          rw [hρ]
          by_cases hgive : 0 < ρ ∧ L < x
          · obtain ⟨hg1, hg2⟩ := hgive
            have hmn : min x L = L := by omega
            have HS1 := hide (show rs f L R (k + 1) = ρ - 1 by simp only [rs]; rw [hρ, e, if_pos ⟨hg1, hg2⟩])
            have HE := hide (show L + 1 = (shL f L R n).getD k 0 by rw [HG.out]; unfold so; rw [hρ, e, if_pos ⟨hg1, hg2⟩, hmn])
            have hw1 : IntKind.i64.wrap (L + 1) = L + 1 := by rw [IntKind.wrap_i64]; omega
            have hw2 : IntKind.i64.wrap (ρ - 1) = ρ - 1 := by rw [IntKind.wrap_i64]; omega
            clear hρ HX e HG hrg hcg
            go_wp2_with (at_builtin; refine wpList_append_own _ rfl (.tmp 62) (.tmp 64) 23 rfl w.heap.size 3 i0 _ 1 8 Try.underlying23 hi0 hz0 hz1 hz2 rfl (by decide) u8 _ _ rfl (HO.out.alloc _) _ 1 1 [.int .i64 (L + 1)] rfl rfl (news_list (news_new (by first | rfl | simp))) (by simp [Value.oneCell']) (by unfold maxLen; omega) (by omega) (by simp; omega) ?_; intro v' w' hown' hgrow _)
            have FO := hide (own_next (by rw [HZ.out]; exact hlt) HE.out hown')
            have FSs := hide ((hB.alloc hBs (.cells #[.int .i64 (L + 1)] 3)).grown hgrow (by simp; omega) (fun q hq => own_row HO.out q hq))
            clear hown' hgrow HO hB
            go_wp2
            go_roundw
            case rel => exact ⟨k + 1, by omega, by go_num, by rw [HS1.out], FO, FSs.out⟩
            case measure => (simp [intOf] <;> omega)
          · have HS1 := hide (show rs f L R (k + 1) = ρ by simp only [rs]; rw [hρ, e, if_neg hgive])
            have HE := hide (show min x L = (shL f L R n).getD k 0 by rw [HG.out]; unfold so; rw [hρ, e, if_neg hgive])
            have hgv : ρ ≤ 0 ∨ x ≤ min x L := by omega
            obtain ⟨m, hm⟩ : ∃ m, min x L = m := ⟨_, rfl⟩
            rw [hm] at HE hgv
            clear hρ HX e HG hrg hcg hgive
            rcases (show ρ ≤ 0 ∨ (0 < ρ ∧ x ≤ m) by omega) with hh | ⟨hh, hh'⟩
            · have hh2 : ¬ 0 < ρ := by omega
              go_wp2_with (at_builtin; refine wpList_append_own _ rfl (.tmp 62) (.tmp 64) 23 rfl w.heap.size 3 i0 _ 1 8 Try.underlying23 hi0 hz0 hz1 hz2 rfl (by decide) u8 _ _ rfl (HO.out.alloc _) _ 1 1 [.int .i64 m] rfl rfl (news_list (news_new (by first | rfl | simp))) (by simp [Value.oneCell']) (by unfold maxLen; omega) (by omega) (by simp; omega) ?_; intro v' w' hown' hgrow _)
              have FO := hide (own_next (by rw [HZ.out]; exact hlt) HE.out hown')
              have FSs := hide ((hB.alloc hBs (.cells #[.int .i64 m] 3)).grown hgrow (by simp; omega) (fun q hq => own_row HO.out q hq))
              clear hown' hgrow HO hB
              go_wp2
              go_roundw
              case rel => exact ⟨k + 1, by omega, by go_num, by rw [HS1.out], FO, FSs.out⟩
              case measure => (simp [intOf] <;> omega)
            · obtain rfl : m = x := by omega
              clear hh'
              have hmL : m ≤ L := by omega
              clear hm
              go_wp2_with (at_builtin; refine wpList_append_own _ rfl (.tmp 62) (.tmp 64) 23 rfl w.heap.size 3 i0 _ 1 8 Try.underlying23 hi0 hz0 hz1 hz2 rfl (by decide) u8 _ _ rfl (HO.out.alloc _) _ 1 1 [.int .i64 m] rfl rfl (news_list (news_new (by first | rfl | simp))) (by simp [Value.oneCell']) (by unfold maxLen; omega) (by omega) (by simp; omega) ?_; intro v' w' hown' hgrow _)
              have FO := hide (own_next (by rw [HZ.out]; exact hlt) HE.out hown')
              have FSs := hide ((hB.alloc hBs (.cells #[.int .i64 m] 3)).grown hgrow (by simp; omega) (fun q hq => own_row HO.out q hq))
              clear hown' hgrow HO hB
              go_wp2
              go_roundw
              case rel => exact ⟨k + 1, by omega, by go_num, by rw [HS1.out], FO, FSs.out⟩
              case measure => (simp [intOf] <;> omega)
        · obtain rfl : k = n := by omega
          obtain ⟨a', c', rfl, hI'⟩ := own_tailS HO.out HZ.out (by omega)
          have HF := hide hI'
          clear HO hI' hrg hcg
          go_wp2
          go_ret
          exact ⟨⟨_, HIS.out, a', k, c', rfl, HF.out⟩, hB⟩

end Go.Proofs.Ythjicnddfjpnjaa
