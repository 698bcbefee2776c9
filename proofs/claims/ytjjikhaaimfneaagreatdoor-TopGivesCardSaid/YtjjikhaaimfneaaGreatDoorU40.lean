/-
  Lemmas and walks for the statement: Sorted, JRight, JPass, JDel.
-/
import Derived.Test.YtjjikhaaimfneaaGreatDoorU01
import Derived.Test.YtjjikhaaimfneaaGreatDoorProg
import Derived.IntWalk
import Derived.Test.YtjjikhaaimfneaaGreatDoorU39
import Derived.Test.YtjjikhaaimfneaaGreatDoorU38
import Derived.Test.YtjjikhaaimfneaaGreatDoorU02
namespace Go.Proofs.YtjjikhaaimfneaaGreatDoor
open Go.RowKit
set_option linter.unusedSimpArgs false
set_option linter.unusedVariables false
set_option maxHeartbeats 1000000 in
theorem isNaN_any (a : Int) (w : World) : Calls Tryz.prog 71 #[.int .i64 a] w fun e w' => e = .returned (.bool false) ∧ w = w' := by
 go_enter Tryz.func71, Tryz.ntmps71
 go_wp2
 go_ret
 exact ⟨by simp, rfl⟩
set_option maxHeartbeats 1000000 in
theorem cless_any (a b : Int) (w : World) : Calls Tryz.prog 51 #[.int .i64 a, .int .i64 b] w fun e w' => e = .returned (.bool (decide (a < b))) ∧ w = w' := by
 go_enter Tryz.func51, Tryz.ntmps51
 go_wp2_with (go_at_call 71; refine (isNaN_any _ _).mono ?_; rintro e w1 ⟨rfl, rfl⟩)
 go_ret
 exact ⟨rfl, rfl⟩
def Rises (xs : List Int) : Prop := ∀ (k : Nat) (x y : Int), xs[k]? = some x → xs[k + 1]? = some y → x ≤ y
theorem cless_t (a b : Int) (w : World) (h : a < b) : Calls Tryz.prog 51 #[.int .i64 a, .int .i64 b] w fun e w' => e = .returned (.bool true) ∧ w = w' :=
 (cless_any a b w).mono fun _ _ ⟨x, y⟩ => ⟨by rw [x]; exact retB (by simpa using h), y⟩
theorem cless_f (a b : Int) (w : World) (h : b ≤ a) : Calls Tryz.prog 51 #[.int .i64 a, .int .i64 b] w fun e w' => e = .returned (.bool false) ∧ w = w' :=
 (cless_any a b w).mono fun _ _ ⟨x, y⟩ => ⟨by rw [x]; exact retB (by simp; omega), y⟩
set_option maxHeartbeats 2000000 in
theorem sorted_any (a : Option Addr) (n c : Nat) (xs : List Int) (w : World) (h : IntsAt w a n c xs) :
 Calls Tryz.prog 32 #[.slice a n c] w fun e w' => (∃ r : Bool, (r = true ↔ Rises xs) ∧ e = .returned (.bool r)) ∧ Below w.heap.size w w' := by
 have HL := hide h.len
 have hlim := h.lim
 rcases Nat.eq_zero_or_pos n with h0 | h0
 · subst h0
   have HF := hide (show Rises xs from fun k x y h1 _ => by have := (List.getElem?_eq_some_iff.1 h1).1; rw [HL.out] at this; omega)
   go_enter Tryz.func32, Tryz.ntmps32
   go_wp2
   refine wp_loop_rounds 1 ?_
   rw [rounds_succ]
   go_wp2
   go_ret
   exact ⟨⟨true, by simp [HF.out], rfl⟩, Below.refl _ _⟩
 · obtain ⟨m, rfl⟩ : ∃ m, n = m + 1 := ⟨n - 1, by omega⟩
   go_enter Tryz.func32, Tryz.ntmps32
   go_wp2
   go_loopw [3] (fun i wr => ∃ k : Nat, k ≤ m ∧ i = .int .i64 k ∧ (∀ (j : Nat) (x y : Int), k ≤ j → xs[j]? = some x → xs[j + 1]? = some y → x ≤ y) ∧ Below w.heap.size w wr) (fun i _ => (intOf i).toNat)
   case atStart => exact ⟨m, Nat.le_refl _, by go_num, fun j x y hj _ h2 => by have := (List.getElem?_eq_some_iff.1 h2).1; rw [HL.out] at this; omega, Below.refl _ _⟩
   case round =>
    obtain ⟨k, hk, rfl, hall, hB⟩ := hrel
    have HA := hide hall
    clear hall
    rcases Nat.eq_zero_or_pos k with hk0 | hk0
    · subst hk0
      have HF := hide (show Rises xs from fun j x y h1 h2 => HA.out j x y (Nat.zero_le _) h1 h2)
      clear h
      go_wp2
      go_ret
      exact ⟨⟨true, by simp [HF.out], rfl⟩, hB⟩
    · obtain ⟨j, rfl⟩ : ∃ j, k = j + 1 := ⟨k - 1, by omega⟩
      obtain ⟨ad, y, rfl, hbd, hc, HY⟩ := h.getS hB (show j + 1 < m + 1 by omega)
      obtain ⟨ad2, x, he2, hbd', hc', HX⟩ := h.getB hB (show j < m + 1 by omega)
      injection he2 with he2
      subst he2
      have j0 : (0 : Int) ≤ (j : Int) := Int.natCast_nonneg _
      have j1 : (j : Int) + 1 < (m : Int) + 1 := by omega
      have j2 : (j : Int) < (m : Int) + 1 := by omega
      clear h
      by_cases hxy : x ≤ y
      · go_wp2
        have hw1 : IntKind.i64.wrap ((j : Int) + 1 - 1) = (j : Int) := by rw [show (j : Int) + 1 - 1 = j by omega]; exact IntWalk.i64_in _ (by omega)
        have hw2 : IntKind.i64.wrap (j : Int) = (j : Int) := IntWalk.i64_in _ (by omega)
        have hw3 : ((j : Int) + 1).toNat = j + 1 := by omega
        go_quiet ((go_at_call 51; exact quietL (cless_f _ _ _ hxy)))
        clear hw1 hw2 hw3
        go_wp2
        go_roundw
        case rel => exact ⟨j, by omega, by go_num, fun i u v hi h1 h2 => by
         rcases (show j + 1 ≤ i ∨ i = j by omega) with h3 | rfl
         · exact HA.out i u v h3 h1 h2
         · have e1 := HX.out; have e2 := HY.out; rw [h1] at e1; rw [h2] at e2; injection e1 with e1; injection e2 with e2; omega, Go.below_drewN hB _⟩
        case measure => first | (simp [intOf]; done) | (simp [intOf]; omega)
      · have hxy' : y < x := by omega
        have HF := hide (show ¬ Rises xs from fun hr => hxy (hr j x y HX.out HY.out))
        clear hxy
        go_wp2
        have hw1 : IntKind.i64.wrap ((j : Int) + 1 - 1) = (j : Int) := by rw [show (j : Int) + 1 - 1 = j by omega]; exact IntWalk.i64_in _ (by omega)
        have hw2 : IntKind.i64.wrap (j : Int) = (j : Int) := IntWalk.i64_in _ (by omega)
        have hw3 : ((j : Int) + 1).toNat = j + 1 := by omega
        go_quiet ((go_at_call 51; exact quietL (cless_t _ _ _ hxy')))
        clear hw1 hw2 hw3
        go_wp2
        go_ret
        exact ⟨⟨false, by simp [HF.out], rfl⟩, Go.below_drewN hB _⟩
end Go.Proofs.YtjjikhaaimfneaaGreatDoor
namespace Go.Proofs.YtjjikhaaimfneaaGreatDoor
open Go.RowKit
set_option linter.unusedSimpArgs false
set_option linter.unusedVariables false
def SmallZ (xs : List Int) : Prop := ∀ x ∈ xs, 0 ≤ x ∧ x ≤ 1099511627776
theorem small_atZ {xs : List Int} (h : SmallZ xs) {k : Nat} {x : Int} (hx : xs[k]? = some x) : 0 ≤ x ∧ x ≤ 1099511627776 := h x (List.mem_of_getElem? hx)
theorem small_ofZ {xs : List Int} (h : ∀ (k : Nat) (x : Int), xs[k]? = some x → 0 ≤ x ∧ x ≤ 1099511627776) : SmallZ xs := fun x hx => by
 obtain ⟨k, hk⟩ := List.mem_iff_getElem?.1 hx
 exact h k x hk
def IdxPZ (P : Prop) (e : Ending) : Prop := (P ∧ ∃ r : Int, 0 ≤ r ∧ r ≤ 17592186044416 ∧ e = .returned (.int .i64 r)) ∨ (¬ P ∧ e = .returned (.int .i64 (-1)))
set_option maxHeartbeats 1000000 in
theorem jBadZ (x : Int) (w : World) : Calls Tryz.prog 31 #[.int .i64 x] w fun e w' => IsB (x < 0 ∨ 1099511627776 < x) e ∧ w = w' := by
 rcases (show x < 0 ∨ 1099511627776 < x ∨ (0 ≤ x ∧ x ≤ 1099511627776) by omega) with h | h | ⟨h, h'⟩
 · have HF := hide (show x < 0 ∨ 1099511627776 < x from .inl h)
   go_enter Tryz.func31, Tryz.ntmps31
   go_wp2
   go_ret
   exact ⟨IsB.t HF.out, rfl⟩
 · have HF := hide (show x < 0 ∨ 1099511627776 < x from .inr h)
   go_enter Tryz.func31, Tryz.ntmps31
   go_wp2
   go_ret
   exact ⟨IsB.t HF.out, rfl⟩
 · have HF := hide (show ¬ (x < 0 ∨ 1099511627776 < x) by omega)
   go_enter Tryz.func31, Tryz.ntmps31
   go_wp2
   go_ret
   exact ⟨IsB.d (by first | (simp; done) | (simp; omega)), rfl⟩
set_option maxHeartbeats 2000000 in
theorem jIdxZ (a : Option Addr) (n c : Nat) (xs : List Int) (w : World) (h : IntsAt w a n c xs) :
 Calls Tryz.prog 49 #[.slice a n c, .func (.func 31) #[] #[]] w fun e w' => IdxPZ (¬ SmallZ xs) e ∧ w = w' := by
 have HL := hide h.len
 have hlim := h.lim
 go_enter Tryz.func49, Tryz.ntmps49
 go_wp2
 go_loop [8] (fun i => ∃ k : Nat, k ≤ n ∧ i = .int .i64 k ∧ ∀ (j : Nat) (x : Int), j < k → xs[j]? = some x → 0 ≤ x ∧ x ≤ 1099511627776) (fun i => n - (intOf i).toNat)
 case atStart => exact ⟨0, Nat.zero_le _, rfl, fun j x hj => absurd hj (by omega)⟩
 case round =>
  obtain ⟨k, hk, rfl, hall⟩ := hrel
  have HA := hide hall
  clear hall
  by_cases hlt : k < n
  · obtain ⟨ad, x, rfl, hbd, hc, HX⟩ := h.getB (Below.refl _ _) hlt
    have k0 : (0 : Int) ≤ (k : Int) := Int.natCast_nonneg _
    have k1 : (k : Int) < (n : Int) := by omega
    clear h
    by_cases hx : x < 0 ∨ 1099511627776 < x
    · have HN := hide (show ¬ SmallZ xs from fun hs => by have := small_atZ hs HX.out; omega)
      have HB := hide hx
      clear hx
      go_wp2_with (go_at_call 31; refine (callT (jBadZ _ _) HB.out).mono ?_; rintro e w1 ⟨rfl, rfl⟩)
      go_ret
      exact ⟨.inl ⟨HN.out, (k : Int), k0, by omega, rfl⟩, rfl⟩
    · have HB := hide hx
      have hx' : 0 ≤ x ∧ x ≤ 1099511627776 := by omega
      have HX' := hide hx'
      clear hx hx'
      go_wp2_with (go_at_call 31; refine (callF (jBadZ _ _) HB.out).mono ?_; rintro e w1 ⟨rfl, rfl⟩)
      go_round
      case rel => exact ⟨k + 1, by omega, by go_num, fun j z hj hz => by
       rcases (show j < k ∨ j = k by omega) with h3 | rfl
       · exact HA.out j z h3 hz
       · rw [HX.out] at hz; injection hz with hz; subst hz; exact HX'.out⟩
      case measure => simp [intOf]; omega
  · have HN := hide (show ¬ ¬ SmallZ xs from fun hn => hn (small_ofZ fun j x hx => HA.out j x (by have := (List.getElem?_eq_some_iff.1 hx).1; rw [HL.out] at this; omega) hx))
    clear h
    go_wp2
    go_ret
    exact ⟨.inr ⟨HN.out, rfl⟩, rfl⟩
set_option maxHeartbeats 1000000 in
theorem jHasZ (a : Option Addr) (n c : Nat) (xs : List Int) (w : World) (h : IntsAt w a n c xs) :
 Calls Tryz.prog 26 #[.slice a n c, .func (.func 31) #[] #[]] w fun e w' => IsB (¬ SmallZ xs) e ∧ w = w' := by
 have HI := hide (jIdxZ a n c xs w h)
 clear h
 go_enter Tryz.func26, Tryz.ntmps26
 go_wp2_with fail
 refine HI.out.mono ?_
 rintro e w1 ⟨⟨hn, r, r0, r1, rfl⟩ | ⟨hn, rfl⟩, rfl⟩
 · have HN := hide hn
   clear hn
   go_wp2
   go_ret
   exact ⟨IsB.t HN.out, rfl⟩
 · have HN := hide hn
   clear hn
   go_wp2
   go_ret
   exact ⟨IsB.f HN.out, rfl⟩
set_option maxHeartbeats 1000000 in
theorem jSmallZ (a : Option Addr) (n c : Nat) (xs : List Int) (w : World) (h : IntsAt w a n c xs) :
 Calls Tryz.prog 30 #[.slice a n c] w fun e w' => IsB (SmallZ xs) e ∧ w = w' := by
 have HI := hide (jHasZ a n c xs w h)
 clear h
 by_cases hs : SmallZ xs
 · have HS := hide hs
   have HN := hide (show ¬ ¬ SmallZ xs from fun h => h hs)
   clear hs
   go_enter Tryz.func30, Tryz.ntmps30
   go_wp2_with (go_at_call 26; refine (callF HI.out HN.out).mono ?_; rintro e w1 ⟨rfl, rfl⟩)
   go_ret
   exact ⟨IsB.t HS.out, rfl⟩
 · have HS := hide hs
   clear hs
   go_enter Tryz.func30, Tryz.ntmps30
   go_wp2_with (go_at_call 26; refine (callT HI.out HS.out).mono ?_; rintro e w1 ⟨rfl, rfl⟩)
   go_ret
   exact ⟨IsB.f HS.out, rfl⟩
def RightJZ (ts ls : List Int) : Prop := ts.length = ls.length ∧ SmallZ ts ∧ SmallZ ls ∧ Rises ts
theorem sortedBZ (a : Option Addr) (n c : Nat) (xs : List Int) (w : World) (h : IntsAt w a n c xs) : Calls Tryz.prog 32 #[.slice a n c] w fun e w' => IsB (Rises xs) e ∧ Below w.heap.size w w' :=
 (sorted_any a n c xs w h).mono fun _ _ ⟨h1, h2⟩ => ⟨h1, h2⟩
set_option maxHeartbeats 2000000 in
theorem jRight_anyZ (a a' : Option Addr) (n n' c c' : Nat) (xs ys : List Int) (w : World) (h : IntsAt w a n c xs) (h' : IntsAt w a' n' c' ys) :
 Calls Tryz.prog 15 #[.slice a n c, .slice a' n' c'] w fun e w' => IsB (RightJZ xs ys) e ∧ Below w.heap.size w w' := by
 have h1 := jSmallZ a n c xs w h
 have h2 := jSmallZ a' n' c' ys w h'
 have h3 := sortedBZ a n c xs w h
 have hl := h.len
 have hl' := h'.len
 have hlim := h.lim
 have hlim' := h'.lim
 clear h h'
 by_cases hn : n = n'
 · subst hn
   have H1 := hide h1
   have H2 := hide h2
   have H3 := hide h3
   clear h1 h2 h3
   by_cases g1 : SmallZ xs
   · by_cases g2 : SmallZ ys
     · by_cases g3 : Rises xs
       · have HF := hide (show RightJZ xs ys from ⟨by rw [hl, hl'], g1, g2, g3⟩)
         have G1 := hide g1
         have G2 := hide g2
         have G3 := hide g3
         clear g1 g2 g3 hl hl'
         go_enter Tryz.func15, Tryz.ntmps15
         go_wp2_with fail
         refine (callT H1.out G1.out).mono ?_
         rintro e w1 ⟨rfl, rfl⟩
         go_wp2_with fail
         refine (callT H2.out G2.out).mono ?_
         rintro e w1 ⟨rfl, rfl⟩
         go_wp2_with fail
         refine (callT H3.out G3.out).mono ?_
         rintro e w1 ⟨rfl, hB⟩
         go_wp2
         go_ret
         exact ⟨IsB.t HF.out, hB⟩
       · have HF := hide (show ¬ RightJZ xs ys from fun hr => g3 hr.2.2.2)
         have G1 := hide g1
         have G2 := hide g2
         have G3 := hide g3
         clear g1 g2 g3 hl hl'
         go_enter Tryz.func15, Tryz.ntmps15
         go_wp2_with fail
         refine (callT H1.out G1.out).mono ?_
         rintro e w1 ⟨rfl, rfl⟩
         go_wp2_with fail
         refine (callT H2.out G2.out).mono ?_
         rintro e w1 ⟨rfl, rfl⟩
         go_wp2_with fail
         refine (callF H3.out G3.out).mono ?_
         rintro e w1 ⟨rfl, hB⟩
         go_wp2
         go_ret
         exact ⟨IsB.f HF.out, hB⟩
     · have HF := hide (show ¬ RightJZ xs ys from fun hr => g2 hr.2.2.1)
       have G1 := hide g1
       have G2 := hide g2
       clear g1 g2 hl hl'
       go_enter Tryz.func15, Tryz.ntmps15
       go_wp2_with fail
       refine (callT H1.out G1.out).mono ?_
       rintro e w1 ⟨rfl, rfl⟩
       go_wp2_with fail
       refine (callF H2.out G2.out).mono ?_
       rintro e w1 ⟨rfl, rfl⟩
       go_wp2
       go_ret
       exact ⟨IsB.f HF.out, Below.refl _ _⟩
   · have HF := hide (show ¬ RightJZ xs ys from fun hr => g1 hr.2.1)
     have G1 := hide g1
     clear g1 hl hl'
     go_enter Tryz.func15, Tryz.ntmps15
     go_wp2_with fail
     refine (callF H1.out G1.out).mono ?_
     rintro e w1 ⟨rfl, rfl⟩
     go_wp2
     go_ret
     exact ⟨IsB.f HF.out, Below.refl _ _⟩
 · have HF := hide (show ¬ RightJZ xs ys from fun hr => hn (by rw [← hl, ← hl', hr.1]))
   have hb : ((n : Int) == (n' : Int)) = false := by simp; omega
   clear hn hl hl' h1 h2 h3
   go_enter Tryz.func15, Tryz.ntmps15
   go_wp2
   go_ret
   exact ⟨IsB.f HF.out, Below.refl _ _⟩
end Go.Proofs.YtjjikhaaimfneaaGreatDoor
namespace Go.Proofs.YtjjikhaaimfneaaGreatDoor
open Go.RowKit
set_option linter.unusedSimpArgs false
set_option linter.unusedVariables false
theorem intInfoJZ : (Tryz.prog.info? 3).map (fun i => (i.zero, i.size, i.bytes)) = some (some (.int .i64 0), 1, 8) := by kernel_rfl
def lastJZ (ts ls : List Int) : Nat → Int
 | 0 => 0
 | k + 1 => if lastJZ ts ls k < ts.getD k 0 + ls.getD k 0 then ts.getD k 0 + ls.getD k 0 else lastJZ ts ls k
def passJZ (ts ls : List Int) : List Int := (List.range ts.length).map fun k => lastJZ ts ls (k + 1)
theorem pass_lenZ (ts ls : List Int) : (passJZ ts ls).length = ts.length := by simp [passJZ]
theorem pass_getZ (ts ls : List Int) (k : Nat) (h : k < ts.length) : lastJZ ts ls (k + 1) = (passJZ ts ls).getD k 0 := by
 rw [List.getD_eq_getElem?_getD]; simp [passJZ, List.getElem?_range, h]
theorem last_bdZ {ts ls : List Int} (h : SmallZ ts) (h' : SmallZ ls) : ∀ k, 0 ≤ lastJZ ts ls k ∧ lastJZ ts ls k ≤ 2199023255552 := by
 have g : ∀ {xs : List Int}, SmallZ xs → ∀ k, 0 ≤ xs.getD k 0 ∧ xs.getD k 0 ≤ 1099511627776 := fun {xs} hx k => by
  rw [List.getD_eq_getElem?_getD]
  cases hk : xs[k]? with
  | none => simp
  | some x => exact small_atZ hx hk
 intro k
 induction k with
 | zero => simp [lastJZ]
 | succ k ih => have := g h k; have := g h' k; unfold lastJZ; split <;> omega
set_option maxHeartbeats 1000000 in
theorem jPass_badZ (a a' : Option Addr) (n n' c c' : Nat) (xs ys : List Int) (w : World) (h : IntsAt w a n c xs) (h' : IntsAt w a' n' c' ys) (hr : ¬ RightJZ xs ys) :
 Calls Tryz.prog 13 #[.slice a n c, .slice a' n' c'] w fun e w' => e = .returned (.slice none 0 0) ∧ Below w.heap.size w w' := by
 have H := hide (jRight_anyZ a a' n n' c c' xs ys w h h')
 have HR := hide hr
 clear h h' hr
 go_enter Tryz.func13, Tryz.ntmps13
 go_wp2_with fail
 refine (callF H.out HR.out).mono ?_
 rintro e w1 ⟨rfl, hB⟩
 go_wp2
 go_ret
 exact ⟨rfl, hB⟩
set_option maxRecDepth 100000 in
set_option maxHeartbeats 4000000 in
theorem jPass_okZ (a a' : Option Addr) (n n' c c' : Nat) (xs ys : List Int) (w : World) (h : IntsAt w a n c xs) (h' : IntsAt w a' n' c' ys) (hr : RightJZ xs ys) :
 Calls Tryz.prog 13 #[.slice a n c, .slice a' n' c'] w fun e w' => ∃ b m d, e = .returned (.slice b m d) ∧ IntsAt w' b m d (passJZ xs ys) ∧ Below w.heap.size w w' := by
 obtain ⟨i0, hi0, hz0, hz1, hz2⟩ := info_parts intInfoJZ
 have H := hide (jRight_anyZ a a' n n' c c' xs ys w h h')
 have HQ := hide (show (passJZ xs ys).length = n by rw [pass_lenZ, h.len])
 have HL := hide h.len
 have HBD := hide (last_bdZ hr.2.1 hr.2.2.1)
 have HS1 := hide hr.2.1
 have HS2 := hide hr.2.2.1
 have hlim := h.lim
 have hnn : n' = n := by rw [← h.len, ← h'.len, hr.1]
 subst hnn
 have HR := hide hr
 clear hr
 go_enter Tryz.func13, Tryz.ntmps13
 go_wp2_with fail
 refine (callT H.out HR.out).mono ?_
 rintro e w1 ⟨rfl, B1⟩
 go_wp2
 go_loopw [5, 6, 15] (fun v s i wr => ∃ k : Nat, k ≤ n' ∧ i = .int .i64 k ∧ s = .int .i64 (lastJZ xs ys k) ∧ wr.ownsRow w.heap.size 3 1 v k (((passJZ xs ys).take k).map (Value.int .i64)) ∧ Below w.heap.size w wr) (fun _ _ i _ => n' - (intOf i).toNat)
 case atStart => exact ⟨0, Nat.zero_le _, rfl, rfl, own_start _ _ _ _, B1⟩
 case round =>
  obtain ⟨k, hk, rfl, rfl, hown, hB⟩ := hrel
  by_cases hlt : k < n'
  · obtain ⟨ad, x, rfl, hbd, hc, HX⟩ := h.getB hB hlt
    obtain ⟨ad', y, rfl, hbd', hc', HY⟩ := h'.getB hB hlt
    have k0 : (0 : Int) ≤ (k : Int) := Int.natCast_nonneg _
    have k1 : (k : Int) < (n' : Int) := by omega
    obtain ⟨x0, x1⟩ := small_atZ HS1.out HX.out
    obtain ⟨y0, y1⟩ := small_atZ HS2.out HY.out
    obtain ⟨l0, l1⟩ := HBD.out k
    have HN := hide (show lastJZ xs ys (k + 1) = if lastJZ xs ys k < x + y then x + y else lastJZ xs ys k by rw [lastJZ, getD_of HX.out, getD_of HY.out])
    have HZ := hide (pass_getZ xs ys k (by rw [HL.out]; exact hlt))
    obtain ⟨l, hl⟩ : ∃ l, lastJZ xs ys k = l := ⟨_, rfl⟩
    rw [hl] at l0 l1
    have HLK := hide hl
    rw [hl]
    have hBs := hB.size
    clear h h' hl
    by_cases hxy : l < x + y
    · have HV := hide (show x + y = (passJZ xs ys).getD k 0 by rw [← HZ.out, HN.out, HLK.out, if_pos hxy])
      go_wp2_with (at_builtin; refine wpList_append_own _ rfl _ _ 24 rfl w.heap.size 3 i0 (.int .i64 0) 1 8 Tryz.underlying24 hi0 hz0 hz1 hz2 rfl (by decide) _ _ _ rfl (hown.alloc _) ⟨wr.heap.size, 0, none⟩ 1 1 [.int .i64 (x + y)] rfl rfl (cell_one_new _ _ _) (by simp [Value.oneCell']) (by unfold maxLen; omega) (by omega) (by simp; omega) ?_; intro v' w1 hown1 hgrow _)
      go_wp2
      go_roundw
      case rel => exact ⟨k + 1, by omega, by go_num, by rw [HN.out, HLK.out, if_pos hxy], own_next (by rw [HQ.out]; omega) HV.out hown1, (hB.alloc hBs _).grown hgrow (by simp; omega) (own_row hown)⟩
      case measure => simp [intOf]; omega
    · have HV := hide (show l = (passJZ xs ys).getD k 0 by rw [← HZ.out, HN.out, HLK.out, if_neg hxy])
      have hxy' : x + y ≤ l := by omega
      go_wp2_with (at_builtin; refine wpList_append_own _ rfl _ _ 24 rfl w.heap.size 3 i0 (.int .i64 0) 1 8 Tryz.underlying24 hi0 hz0 hz1 hz2 rfl (by decide) _ _ _ rfl (hown.alloc _) ⟨wr.heap.size, 0, none⟩ 1 1 [.int .i64 (l)] rfl rfl (cell_one_new _ _ _) (by simp [Value.oneCell']) (by unfold maxLen; omega) (by omega) (by simp; omega) ?_; intro v' w1 hown1 hgrow _)
      go_wp2
      go_roundw
      case rel => exact ⟨k + 1, by omega, by go_num, by rw [HN.out, HLK.out, if_neg hxy], own_next (by rw [HQ.out]; omega) HV.out hown1, (hB.alloc hBs _).grown hgrow (by simp; omega) (own_row hown)⟩
      case measure => simp [intOf]; omega
  · obtain ⟨b, d, hv, hI⟩ := IntsAt.of_own (own_all (by rw [HQ.out]; omega) hown) (by rw [HQ.out]; omega)
    subst hv
    clear h h' hown
    go_wp2
    go_ret
    exact ⟨b, _, d, rfl, hI, hB⟩
end Go.Proofs.YtjjikhaaimfneaaGreatDoor
namespace Go.Proofs.YtjjikhaaimfneaaGreatDoor
open Go.RowKit
set_option linter.unusedSimpArgs false
set_option linter.unusedVariables false
theorem intInfoZ : (Tryz.prog.info? 3).map (fun i => (i.zero, i.size, i.bytes)) = some (some (.int .i64 0), 1, 8) := by kernel_rfl
def delJZ : List Int → List Int → List Int
 | x :: xs, y :: ys => IntKind.i64.wrap (y - x) :: delJZ xs ys
 | _, _ => []
theorem del_lenZ : ∀ xs ys : List Int, (delJZ xs ys).length = min xs.length ys.length := by
 intro xs
 induction xs with
 | nil => intro ys; simp [delJZ]
 | cons x xs ih =>
   intro ys
   cases ys with
   | nil => simp [delJZ]
   | cons y ys => simp [delJZ, ih]
theorem del_getZ : ∀ (xs ys : List Int) (k : Nat) (x y : Int), xs[k]? = some x → ys[k]? = some y → IntKind.i64.wrap (y - x) = (delJZ xs ys).getD k 0 := by
 intro xs
 induction xs with
 | nil => intro ys k x y h; simp at h
 | cons a xs ih =>
   intro ys k x y h h'
   cases ys with
   | nil => simp at h'
   | cons b ys =>
     cases k with
     | zero => simp at h h'; subst h; subst h'; rfl
     | succ k => simpa [delJZ] using ih ys k x y (by simpa using h) (by simpa using h')
set_option maxRecDepth 100000 in
set_option maxHeartbeats 4000000 in
theorem delays_anyZ (a a' : Option Addr) (n n' c c' : Nat) (xs ys : List Int) (w : World) (h : IntsAt w a n c xs) (h' : IntsAt w a' n' c' ys) :
 Calls Tryz.prog 14 #[.slice a n c, .slice a' n' c'] w fun e w' => ∃ b m d, e = .returned (.slice b m d) ∧ IntsAt w' b m d (delJZ xs ys) ∧ Below w.heap.size w w' := by
 obtain ⟨i0, hi0, hz0, hz1, hz2⟩ := info_parts intInfoZ
 have hn := h.lim
 have hn' := h'.lim
 have hl := h.len
 have hl' := h'.len
 have hlen := del_lenZ xs ys
 rcases Nat.lt_or_ge n' n with hle | hle
 · have hq : (delJZ xs ys).length = n' := by rw [hlen, hl, hl']; omega
   have HQ := hide hq
   clear hlen hl hl' hq
   go_enter Tryz.func14, Tryz.ntmps14
   go_wp2
   go_loopw [5, 12] (fun v i wr => ∃ k : Nat, k ≤ n' ∧ i = .int .i64 k ∧ wr.ownsRow w.heap.size 3 1 v k (((delJZ xs ys).take k).map (Value.int .i64)) ∧ Below w.heap.size w wr) (fun _ i _ => n' - (intOf i).toNat)
   case atStart => exact ⟨0, Nat.zero_le _, rfl, own_start _ _ _ _, Below.refl _ _⟩
   case round =>
    obtain ⟨k, hk, rfl, hown, hB⟩ := hrel
    by_cases hlt : k < n'
    · obtain ⟨ad, x, rfl, hbd, hc, HX⟩ := h.getB hB (show k < n by omega)
      obtain ⟨ad', y, rfl, hbd', hc', HY⟩ := h'.getB hB (show k < n' by omega)
      have HZ := hide (del_getZ xs ys k x y HX.out HY.out)
      have k0 : (0 : Int) ≤ (k : Int) := Int.natCast_nonneg _
      have k1 : (k : Int) < (n : Int) := by omega
      have k2 : (k : Int) < (n' : Int) := by omega
      have hBs := hB.size
      clear h h'
      go_wp2
      go_region_held3 (fun w' => w'.cell? (ad.add k) = some (.int .i64 x) ∧ w'.cell? (ad'.add k) = some (.int .i64 y)) (first | ((try dsimp only); go_split_ands; refine ⟨grown_cell hgrow hown hbd (by simp; omega) (by assumption), grown_cell hgrow hown hbd' (by simp; omega) (by assumption)⟩) | (go_keep; done))
       (first | (refine step_append_lies _ (by rfl) _ _ _ (by rfl) w.heap.size 3 i0 (.int .i64 0) 1 8 Tryz.underlying24 hi0 hz0 hz1 hz2 rfl (by decide) _ k _ (by rfl) ((hown.alloc _).drew) ⟨wr.heap.size, 0, none⟩ 1 1 [.int .i64 (IntKind.i64.wrap (y - x))] (by rfl) (by rfl) (World.news_of_block (cs := #[.int .i64 (IntKind.i64.wrap (y - x))]) (t := 3) (fr := (0, 0)) (heap_alloc_new wr _)) (by simp [Value.oneCell']) (by decide) (by unfold maxLen; omega) (by omega) (by simp; omega) (wr.heap.size + 1) (by simp) ?_; intro gg cap w1 hown1 hgrow hat hglt))
      go_wp2
      go_roundw
      case rel => exact ⟨k + 1, by omega, by go_num, own_next (by rw [HQ.out]; omega) HZ.out hown1, ((hB.alloc hBs _).drew).grown hgrow (by simp; omega) (own_row hown)⟩
      case measure => simp [intOf]; omega
    · obtain ⟨b, d, hv, hI⟩ := IntsAt.of_own (own_all (by rw [HQ.out]; omega) hown) (by rw [HQ.out]; omega)
      subst hv
      clear hown
      clear h h'
      go_wp2
      go_ret
      exact ⟨b, _, d, rfl, hI, hB⟩
 · have hq : (delJZ xs ys).length = n := by rw [hlen, hl, hl']; omega
   have HQ := hide hq
   clear hlen hl hl' hq
   go_enter Tryz.func14, Tryz.ntmps14
   go_wp2
   go_loopw [5, 12] (fun v i wr => ∃ k : Nat, k ≤ n ∧ i = .int .i64 k ∧ wr.ownsRow w.heap.size 3 1 v k (((delJZ xs ys).take k).map (Value.int .i64)) ∧ Below w.heap.size w wr) (fun _ i _ => n - (intOf i).toNat)
   case atStart => exact ⟨0, Nat.zero_le _, rfl, own_start _ _ _ _, Below.refl _ _⟩
   case round =>
    obtain ⟨k, hk, rfl, hown, hB⟩ := hrel
    by_cases hlt : k < n
    · obtain ⟨ad, x, rfl, hbd, hc, HX⟩ := h.getB hB (show k < n by omega)
      obtain ⟨ad', y, rfl, hbd', hc', HY⟩ := h'.getB hB (show k < n' by omega)
      have HZ := hide (del_getZ xs ys k x y HX.out HY.out)
      have k0 : (0 : Int) ≤ (k : Int) := Int.natCast_nonneg _
      have k1 : (k : Int) < (n : Int) := by omega
      have k2 : (k : Int) < (n' : Int) := by omega
      have hBs := hB.size
      clear h h'
      go_wp2
      go_region_held3 (fun w' => w'.cell? (ad.add k) = some (.int .i64 x) ∧ w'.cell? (ad'.add k) = some (.int .i64 y)) (first | ((try dsimp only); go_split_ands; refine ⟨grown_cell hgrow hown hbd (by simp; omega) (by assumption), grown_cell hgrow hown hbd' (by simp; omega) (by assumption)⟩) | (go_keep; done))
       (first | (refine step_append_lies _ (by rfl) _ _ _ (by rfl) w.heap.size 3 i0 (.int .i64 0) 1 8 Tryz.underlying24 hi0 hz0 hz1 hz2 rfl (by decide) _ k _ (by rfl) ((hown.alloc _).drew) ⟨wr.heap.size, 0, none⟩ 1 1 [.int .i64 (IntKind.i64.wrap (y - x))] (by rfl) (by rfl) (World.news_of_block (cs := #[.int .i64 (IntKind.i64.wrap (y - x))]) (t := 3) (fr := (0, 0)) (heap_alloc_new wr _)) (by simp [Value.oneCell']) (by decide) (by unfold maxLen; omega) (by omega) (by simp; omega) (wr.heap.size + 1) (by simp) ?_; intro gg cap w1 hown1 hgrow hat hglt))
      go_wp2
      go_roundw
      case rel => exact ⟨k + 1, by omega, by go_num, own_next (by rw [HQ.out]; omega) HZ.out hown1, ((hB.alloc hBs _).drew).grown hgrow (by simp; omega) (own_row hown)⟩
      case measure => simp [intOf]; omega
    · obtain ⟨b, d, hv, hI⟩ := IntsAt.of_own (own_all (by rw [HQ.out]; omega) hown) (by rw [HQ.out]; omega)
      subst hv
      clear hown
      clear h h'
      go_wp2
      go_ret
      exact ⟨b, _, d, rfl, hI, hB⟩
end Go.Proofs.YtjjikhaaimfneaaGreatDoor
