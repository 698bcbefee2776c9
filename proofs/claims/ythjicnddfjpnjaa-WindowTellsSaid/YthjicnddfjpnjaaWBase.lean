/-
  WALKS: window.Base and BBase.
-/
import Derived.Test.YthjicnddfjpnjaaCWays
namespace Go.Proofs.Ythjicnddfjpnjaa
open Go.RowKit
set_option linter.unusedSimpArgs false
set_option linter.unusedVariables false

attribute [local go_sem] iteMin iteMax iteMinN iteMaxN

def baseI (xs : List Int) (part keep : Int) : List Int := if part < 1 ∨ keep < 1 then [] else baseL xs part.toNat keep.toNat
theorem baseI_no {xs : List Int} {part keep : Int} (h : part < 1 ∨ keep < 1) : baseI xs part keep = [] := if_pos h
theorem baseI_ok {xs : List Int} {p q : Nat} (hp : 0 < p) (hq : 0 < q) : baseI xs (p : Int) (q : Int) = baseL xs p q := by
  unfold baseI; rw [if_neg (by omega)]; simp
theorem own_next' {w : World} {B e : Nat} {v : Value} {ys : List Int} {k : Nat} {x : Int} (hk : k < ys.length) (hx : x = ys.getD k 0)
    (h : w.ownsRow B e 1 v (k + 1) ((ys.take k).map (Value.int .i64) ++ [.int .i64 x])) : w.ownsRow B e 1 v (k + 1) ((ys.take (k + 1)).map (Value.int .i64)) := own_next hk hx h

set_option maxRecDepth 100000 in
set_option maxHeartbeats 8000000 in
theorem bbase_no (a : Option Addr) (n c : Nat) (xs : List Int) (part keep : Int) (w : World) (h : IntsAt w a n c xs) (hs : part < 1 ∨ keep < 1) :
    Calls Try.prog 27 #[.slice a n c, .int .i64 part, .int .i64 keep] w fun e w' => BackI (baseI xs part keep) e w' ∧ Below w.heap.size w w' := by
  have HS := hide (baseI_no (xs := xs) hs)
  have hlim := h.lim
  have HI := hide h
  clear h
  go_enter Try.func27, Try.ntmps27
  go_wp2
  go_loopw [7, 13] (fun v i wr => v = .slice none 0 0 ∧ i = .int .i64 0 ∧ wr = w) (fun _ _ _ => 0)
  case atStart => exact ⟨rfl, rfl, rfl⟩
  case round =>
    obtain ⟨rfl, rfl, hw⟩ := hrel
    have HW := hide hw
    clear hw
    by_cases hlt : 0 < n
    · have k1 : (0 : Int) < (n : Int) := by omega
      by_cases h1 : part < 1
      · clear hs
        go_wp2
        go_ret
        exact ⟨⟨none, 0, 0, rfl, by rw [HS.out]; exact IntsAt.nil_ _⟩, by rw [HW.out]; exact Below.refl _ _⟩
      · have h2 : keep < 1 := by omega
        clear hs
        go_wp2
        go_ret
        exact ⟨⟨none, 0, 0, rfl, by rw [HS.out]; exact IntsAt.nil_ _⟩, by rw [HW.out]; exact Below.refl _ _⟩
    · obtain rfl : n = 0 := by omega
      clear hs
      go_wp2
      go_ret
      exact ⟨⟨none, 0, 0, rfl, by rw [HS.out]; exact IntsAt.nil_ _⟩, by rw [HW.out]; exact Below.refl _ _⟩
set_option maxRecDepth 100000 in
set_option maxHeartbeats 8000000 in
theorem bbase_ok (a : Option Addr) (n c : Nat) (xs : List Int) (p q : Nat) (w : World) (h : IntsAt w a n c xs) (hp : 0 < p) (hq : 0 < q) (hp' : (p : Int) ≤ 9223372036854775807) (hq' : (q : Int) ≤ 9223372036854775807) :
    Calls Try.prog 27 #[.slice a n c, .int .i64 (p : Int), .int .i64 (q : Int)] w fun e w' => BackI (baseI xs (p : Int) (q : Int)) e w' ∧ Below w.heap.size w w' := by
  obtain ⟨i0, hi0, hz0, hz1, hz2⟩ := info_parts intInfoC
  have HS := hide (baseI_ok (xs := xs) hp hq)
  have HL := hide h.len
  have hlim := h.lim
  have hcap := h.cap
  have HZ := hide (show (baseL xs p q).length = n by rw [baseL_len, h.len])
  have HI := hide h
  have g1 : ¬ ((p : Int) < 1) := by omega
  have g2 : ¬ ((q : Int) < 1) := by omega
  have g3 : ((p : Int) == 0) = false := by simp; omega
  have g4 : ¬ ((p : Int) = 0) := by omega
  clear h
  go_enter Try.func27, Try.ntmps27
  go_wp2
  go_loopw [7, 13] (fun v i wr => ∃ k : Nat, k ≤ n ∧ i = .int .i64 k ∧ Hid (wr.ownsRow w.heap.size 3 1 v k (((baseL xs p q).take k).map (Value.int .i64))) ∧ Below w.heap.size w wr) (fun _ i _ => n - (intOf i).toNat)
  case atStart => exact ⟨0, Nat.zero_le _, rfl, own_start _ _ _ _, Below.refl _ _⟩
  case round =>
    obtain ⟨k, hk, rfl, HO, hB⟩ := hrel
    have k0 : (0 : Int) ≤ (k : Int) := Int.natCast_nonneg _
    by_cases hlt : k < n
    · obtain ⟨ad, x, rfl, hbd, hc, HX⟩ := HI.out.getB hB hlt
      have k1 : (k : Int) < (n : Int) := by omega
      have hBs := hB.size
      obtain ⟨Q, hQ⟩ : ∃ Q, k / p = Q := ⟨_, rfl⟩
      have hquo : Int.tdiv (k : Int) (p : Int) = (Q : Int) := by rw [← hQ]; exact (Int.ofNat_tdiv k p).symm
      obtain ⟨F, hF⟩ : ∃ F, (Q + 1 - q) * p = F := ⟨_, rfl⟩
      have hFk : F ≤ k := by rw [← hF, ← hQ]; exact from_le hq
      have HB := hide (base_direct xs (part := p) hq (show k < xs.length by rw [HL.out]; exact hlt))
      rw [hQ, hF] at HB
      have HV := hide (baseL_get (xs := xs) (part := p) (keep := q) (show k < xs.length by rw [HL.out]; exact hlt))
      have HM0 := (HI.out.below hB).takeC (k := k + 1) (by omega)
      have HM := hide (HM0.dropC F (by omega))
      obtain ⟨V, hV⟩ : ∃ V, minL ((xs.take (k + 1)).drop F) = V := ⟨_, rfl⟩
      have HE := hide (show V = (baseL xs p q).getD k 0 by rw [← hV, HB.out, HV.out])
      have hQk : Q ≤ k := by rw [← hQ]; exact Nat.div_le_self _ _
      clear hc HX HI
      by_cases hge : q ≤ Q
      · obtain ⟨D, hD⟩ : ∃ D, Q - q = D := ⟨_, rfl⟩
        have hD1 : (Q : Int) - (q : Int) = (D : Int) := by omega
        have hge' : (q : Int) ≤ (Q : Int) := by omega
        have hD2 : ((D : Int) + 1) * (p : Int) = (F : Int) := by
          rw [← hF, show Q + 1 - q = D + 1 by omega]; simp
        have hw1 : IntKind.i64.wrap (D : Int) = (D : Int) := by rw [IntKind.wrap_i64]; omega
        have hw2 : IntKind.i64.wrap ((D : Int) + 1) = (D : Int) + 1 := by rw [IntKind.wrap_i64]; omega
        have hw3 : IntKind.i64.wrap (F : Int) = (F : Int) := by rw [IntKind.wrap_i64]; omega
        have HC : Hid (Calls Try.prog 51 #[.slice (some (ad.add F)) (k + 1 - F) (c - F)] wr fun e w' => e = .returned (.int .i64 V) ∧ wr = w') := by
          have := smin_any _ _ _ _ _ HM.out (by omega)
          rw [hV] at this; exact this
        clear HM HM0 hV hQ hF
        go_wp2_with (first | (go_at_call 51; refine HC.out.mono ?_; rintro e w1 ⟨rfl, rfl⟩) | (at_builtin; refine wpList_append_own _ rfl (.tmp 34) (.tmp 41) 23 rfl w.heap.size 3 i0 _ 1 8 Try.underlying23 hi0 hz0 hz1 hz2 rfl (by decide) u7 _ _ rfl (HO.out.alloc _) _ 1 1 [.int .i64 V] rfl rfl (news_list (news_new (by first | rfl | simp))) (by simp [Value.oneCell']) (by unfold maxLen; omega) (by omega) (by simp; omega) ?_; intro v' w' hown' hgrow _))
        have FO := hide (own_next' (by rw [HZ.out]; exact hlt) HE.out hown')
        have FSs := hide ((hB.alloc hBs (.cells #[.int .i64 V] 3)).grown hgrow (by simp; omega) (fun q hq => own_row HO.out q hq))
        clear hown' hgrow HO hB HC HB HV HE
        go_wp2
        go_roundw
        case rel => exact ⟨k + 1, by omega, by go_num, FO, FSs.out⟩
        case measure => (simp [intOf] <;> omega)
      · have hF0 : F = 0 := by rw [← hF, show Q + 1 - q = 0 by omega]; simp
        have hge' : ¬ ((q : Int) ≤ (Q : Int)) := by omega
        have HC : Hid (Calls Try.prog 51 #[.slice (some ad) (k + 1) c] wr fun e w' => e = .returned (.int .i64 V) ∧ wr = w') := by
          have := smin_any _ _ _ _ _ HM0 (by omega)
          rw [hF0, List.drop_zero] at hV
          rw [hV] at this; exact this
        clear HM HM0 hV hQ hF HB hFk hF0
        go_wp2_with (first | (go_at_call 51; refine HC.out.mono ?_; rintro e w1 ⟨rfl, rfl⟩) | (at_builtin; refine wpList_append_own _ rfl (.tmp 34) (.tmp 41) 23 rfl w.heap.size 3 i0 _ 1 8 Try.underlying23 hi0 hz0 hz1 hz2 rfl (by decide) u7 _ _ rfl (HO.out.alloc _) _ 1 1 [.int .i64 V] rfl rfl (news_list (news_new (by first | rfl | simp))) (by simp [Value.oneCell']) (by unfold maxLen; omega) (by omega) (by simp; omega) ?_; intro v' w' hown' hgrow _))
        have FO := hide (own_next' (by rw [HZ.out]; exact hlt) HE.out hown')
        have FSs := hide ((hB.alloc hBs (.cells #[.int .i64 V] 3)).grown hgrow (by simp; omega) (fun q hq => own_row HO.out q hq))
        clear hown' hgrow HO hB HC HV HE
        go_wp2
        go_roundw
        case rel => exact ⟨k + 1, by omega, by go_num, FO, FSs.out⟩
        case measure => (simp [intOf] <;> omega)
    · obtain rfl : k = n := by omega
      obtain ⟨a', c', rfl, hI'⟩ := own_tail HO.out HZ.out (by omega)
      have HF := hide hI'
      clear HO hI' HI
      go_wp2
      go_ret
      exact ⟨⟨a', k, c', rfl, by rw [HS.out]; exact HF.out⟩, hB⟩

end Go.Proofs.Ythjicnddfjpnjaa
