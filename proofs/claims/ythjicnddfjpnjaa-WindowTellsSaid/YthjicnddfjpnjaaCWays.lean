/-
  WALKS: clock.Ways and JWays.
-/
import Derived.Test.YthjicnddfjpnjaaCRight
import Derived.Test.YthjicnddfjpnjaaClkSl
namespace Go.Proofs.Ythjicnddfjpnjaa
open Go.RowKit
set_option linter.unusedSimpArgs false
set_option linter.unusedVariables false

attribute [local go_sem] iteMin iteMax iteMinN iteMaxN

theorem intInfoC : (Try.prog.info? 3).map (fun i => (i.zero, i.size, i.bytes)) = some (some (.int .i64 0), 1, 8) := by kernel_rfl
/-- such ints are handed back -/
def BackI (Z : List Int) (e : Ending) (w : World) : Prop := ∃ b m d, e = .returned (.slice b m d) ∧ IntsAt w b m d Z
def waysL (es : List P2) : List Int := es.map fun p => p.y - p.x
open Classical in
noncomputable def wayL (es : List P2) : List Int := if AllPk es then waysL es else []
theorem wayL_ok {es : List P2} (h : AllPk es) : wayL es = waysL es := if_pos h
theorem wayL_no {es : List P2} (h : ¬ AllPk es) : wayL es = [] := if_neg h
theorem waysL_len (es : List P2) : (waysL es).length = es.length := by simp [waysL]
theorem waysL_get {es : List P2} {k : Nat} {x y : Int} (h : es[k]? = some ⟨x, y⟩) : y - x = (waysL es).getD k 0 := by
  simp [waysL, List.getD_eq_getElem?_getD, h]
def Sm (x : Int) : Prop := -2199023255552 ≤ x ∧ x ≤ 2199023255552
theorem wayL_sm (es : List P2) : ∀ z ∈ wayL es, Sm z := by
  by_cases h : AllPk es
  · rw [wayL_ok h]
    intro z hz
    simp only [waysL, List.mem_map] at hz
    obtain ⟨p, hp, rfl⟩ := hz
    obtain ⟨h1, h2, h3, h4⟩ := h p hp
    unfold Sm; omega
  · rw [wayL_no h]; intro z hz; cases hz
theorem own_tail {w : World} {S n : Nat} {e : TypeId} {v : Value} {Z : List Int} (h : w.ownsRow S e 1 v n ((Z.take n).map (Value.int .i64))) (hn : Z.length = n) (hl : n ≤ 17592186044416) : ∃ a c, v = .slice a n c ∧ IntsAt w a n c Z := by
  have h' := own_all hn.symm h
  obtain ⟨a, c, h1, h2⟩ := IntsAt.of_own h' (by omega)
  rw [hn] at h1 h2
  exact ⟨a, c, h1, h2⟩

set_option maxRecDepth 100000 in
set_option maxHeartbeats 4000000 in
theorem ways_no (a : Option Addr) (n c : Nat) (es : List P2) (w : World) (h : PairsAt w a n c es) (hs : ¬ AllPk es) :
    Calls Try.prog 10 #[.slice a n c] w fun e w' => BackI (wayL es) e w' ∧ Below w.heap.size w w' := by
  have HI := hide (cRight_any a n c es w h)
  have HS := hide hs
  clear h hs
  go_enter Try.func10, Try.ntmps10
  go_wp2_with (go_at_call 8; refine (callF HI.out HS.out).mono ?_; rintro e w1 ⟨rfl, hB1⟩)
  go_ret
  exact ⟨⟨none, 0, 0, rfl, by rw [wayL_no HS.out]; exact IntsAt.nil_ _⟩, hB1⟩
set_option maxRecDepth 100000 in
set_option maxHeartbeats 4000000 in
theorem ways_ok (a : Option Addr) (n c : Nat) (es : List P2) (w : World) (h : PairsAt w a n c es) (hn : n ≤ 8796093022208) (hs : AllPk es) :
    Calls Try.prog 10 #[.slice a n c] w fun e w' => BackI (wayL es) e w' ∧ Below w.heap.size w w' := by
  obtain ⟨i0, hi0, hz0, hz1, hz2⟩ := info_parts intInfoC
  have HR := hide (cRight_any a n c es w h)
  have HS := hide hs
  have HL := hide h.len
  have HZ := hide (show (waysL es).length = n by rw [waysL_len, h.len])
  have HI := hide h
  clear h hs
  go_enter Try.func10, Try.ntmps10
  go_wp2_with fail
  refine (callT HR.out HS.out).mono ?_
  rintro e w1 ⟨rfl, hB1⟩
  have HB1 := hide hB1
  clear hB1 HR
  go_wp2
  go_loopw [3, 11] (fun v i wr => ∃ k : Nat, k ≤ n ∧ i = .int .i64 k ∧ Hid (wr.ownsRow w.heap.size 3 1 v k (((waysL es).take k).map (Value.int .i64))) ∧ Below w.heap.size w wr) (fun _ i _ => n - (intOf i).toNat)
  case atStart => exact ⟨0, Nat.zero_le _, rfl, own_start _ _ _ _, HB1.out⟩
  case round =>
    clear HB1
    obtain ⟨k, hk, rfl, HO, hB⟩ := hrel
    have k0 : (0 : Int) ≤ (k : Int) := Int.natCast_nonneg _
    by_cases hlt : k < n
    · obtain ⟨ad, x, y, rfl, hbd, HX, f0, f1⟩ := HI.out.getB hB hlt
      have k1 : (k : Int) < (n : Int) := by omega
      obtain ⟨q1, q2, q3, q4⟩ := pk_at_ HS.out HX.out
      simp only at q1 q2 q3 q4
      have hw : IntKind.i64.wrap (y - x) = y - x := by rw [IntKind.wrap_i64]; omega
      have HE := hide (waysL_get HX.out)
      have hBs := hB.size
      go_wp2_with (at_builtin; refine wpList_append_own _ rfl (.tmp 15) (.tmp 21) 23 rfl w.heap.size 3 i0 _ 1 8 Try.underlying23 hi0 hz0 hz1 hz2 rfl (by decide) u3 _ _ rfl ((HO.out.alloc _).alloc _) _ 1 1 [.int .i64 (y - x)] rfl rfl (news_list (news_new (by first | rfl | simp))) (by simp [Value.oneCell']) (by unfold maxLen; omega) (by omega) (by simp; omega) ?_; intro v' w' hown' hgrow _)
      have FO := hide (own_next (by rw [HZ.out]; exact hlt) HE.out hown')
      have FSs := hide (((hB.alloc hBs (.cells #[.int .i64 x, .int .i64 y] 53)).alloc (by simp; omega) (.cells #[.int .i64 (y - x)] 3)).grown hgrow (by simp; omega) (fun q hq => own_row HO.out q hq))
      clear hown' hgrow HO hB
      go_wp2
      go_roundw
      case rel => exact ⟨k + 1, by omega, by go_num, FO, FSs.out⟩
      case measure => (simp [intOf] <;> omega)
    · obtain rfl : k = n := by omega
      obtain ⟨a', c', rfl, hI'⟩ := own_tail HO.out HZ.out (by omega)
      have HF := hide hI'
      clear HO hI'
      go_wp2
      go_ret
      exact ⟨⟨a', k, c', rfl, by rw [wayL_ok HS.out]; exact HF.out⟩, hB⟩
theorem ways_any (a : Option Addr) (n c : Nat) (es : List P2) (w : World) (h : PairsAt w a n c es) (hn : n ≤ 8796093022208) :
    Calls Try.prog 10 #[.slice a n c] w fun e w' => BackI (wayL es) e w' ∧ Below w.heap.size w w' := by
  by_cases hs : AllPk es
  · exact ways_ok a n c es w h hn hs
  · exact ways_no a n c es w h hs
set_option maxRecDepth 100000 in
set_option maxHeartbeats 4000000 in
theorem jways_any (a : Option Addr) (n c : Nat) (es : List P2) (w : World) (h : PairsAt w a n c es) (hn : n ≤ 8796093022208) :
    Calls Try.prog 7 #[.slice a n c] w fun e w' => BackI (wayL es) e w' ∧ Below w.heap.size w w' := by
  obtain ⟨i0, hi0, hz0, hz1, hz2⟩ := info_parts intInfoC
  have HL := hide h.len
  have HZ := hide (show (waysL es).length = n by rw [waysL_len, h.len])
  have HI := hide h
  clear h
  go_enter Try.func7, Try.ntmps7
  go_wp2
  go_loopw [3, 8] (fun v i wr => ∃ k : Nat, k ≤ n ∧ i = .int .i64 k ∧ Hid (∀ (j : Nat) (p : P2), j < k → es[j]? = some p → PkOk p) ∧ Hid (wr.ownsRow w.heap.size 3 1 v k (((waysL es).take k).map (Value.int .i64))) ∧ Below w.heap.size w wr) (fun _ i _ => n - (intOf i).toNat)
  case atStart => exact ⟨0, Nat.zero_le _, rfl, (fun j x hj => absurd hj (by omega)), own_start _ _ _ _, Below.refl _ _⟩
  case round =>
    obtain ⟨k, hk, rfl, HA, HO, hB⟩ := hrel
    have k0 : (0 : Int) ≤ (k : Int) := Int.natCast_nonneg _
    by_cases hlt : k < n
    · obtain ⟨ad, x, y, rfl, hbd, HX, f0, f1⟩ := HI.out.getB hB hlt
      have k1 : (k : Int) < (n : Int) := by omega
      have hBs := hB.size
      rcases (show min x y < -1099511627776 ∨ (-1099511627776 ≤ min x y ∧ 1099511627776 < max x y) ∨ (-1099511627776 ≤ min x y ∧ max x y ≤ 1099511627776) by omega) with q | ⟨q0, q⟩ | ⟨q0, q⟩
      · have HN := hide (show ¬ AllPk es from fun hs => by have := pk_at_ hs HX.out; unfold PkOk at this; simp only at this; omega)
        go_wp2
        go_ret
        exact ⟨⟨none, 0, 0, rfl, by rw [wayL_no HN.out]; exact IntsAt.nil_ _⟩, hB.alloc hBs _⟩
      · have HN := hide (show ¬ AllPk es from fun hs => by have := pk_at_ hs HX.out; unfold PkOk at this; simp only at this; omega)
        go_wp2
        go_ret
        exact ⟨⟨none, 0, 0, rfl, by rw [wayL_no HN.out]; exact IntsAt.nil_ _⟩, hB.alloc hBs _⟩
      · have hw : IntKind.i64.wrap (y - x) = y - x := by rw [IntKind.wrap_i64]; omega
        have HE := hide (waysL_get HX.out)
        have HQ := hide (show PkOk ⟨x, y⟩ by unfold PkOk; simp only; omega)
        go_wp2_with (at_builtin; refine wpList_append_own _ rfl (.tmp 26) (.tmp 32) 23 rfl w.heap.size 3 i0 _ 1 8 Try.underlying23 hi0 hz0 hz1 hz2 rfl (by decide) u3 _ _ rfl ((HO.out.alloc _).alloc _) _ 1 1 [.int .i64 (y - x)] rfl rfl (news_list (news_new (by first | rfl | simp))) (by simp [Value.oneCell']) (by unfold maxLen; omega) (by omega) (by simp; omega) ?_; intro v' w' hown' hgrow _)
        have FO := hide (own_next (by rw [HZ.out]; exact hlt) HE.out hown')
        have FSs := hide (((hB.alloc hBs (.cells #[.int .i64 x, .int .i64 y] 53)).alloc (by simp; omega) (.cells #[.int .i64 (y - x)] 3)).grown hgrow (by simp; omega) (fun q hq => own_row HO.out q hq))
        clear hown' hgrow HO hB
        go_wp2
        go_roundw
        case rel => exact ⟨k + 1, by omega, by go_num, (fun j z hj hz => by
          rcases (show j < k ∨ j = k by omega) with h3 | rfl
          · exact HA.out j z h3 hz
          · rw [HX.out] at hz; injection hz with hz; subst hz; exact HQ.out), FO, FSs.out⟩
        case measure => (simp [intOf] <;> omega)
    · obtain rfl : k = n := by omega
      obtain ⟨a', c', rfl, hI'⟩ := own_tail HO.out HZ.out (by omega)
      have HN := hide (show AllPk es from pk_of fun j x hx => HA.out j x (by have := (List.getElem?_eq_some_iff.1 hx).1; rw [HL.out] at this; omega) hx)
      have HF := hide hI'
      clear HO hI'
      go_wp2
      go_ret
      exact ⟨⟨a', k, c', rfl, by rw [wayL_ok HN.out]; exact HF.out⟩, hB⟩

end Go.Proofs.Ythjicnddfjpnjaa
