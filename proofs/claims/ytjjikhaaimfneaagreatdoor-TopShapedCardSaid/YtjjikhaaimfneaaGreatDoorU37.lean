/-
  Lemmas and walks for the statement: Same, QMost, Alv, BRight, PBucket.
-/
import Derived.Test.YtjjikhaaimfneaaGreatDoorU01
import Derived.Test.YtjjikhaaimfneaaGreatDoorProg
import Derived.Test.YtjjikhaaimfneaaGreatDoorU30
import Derived.Test.YtjjikhaaimfneaaGreatDoorU31
import Derived.Test.YtjjikhaaimfneaaGreatDoorU02
import Derived.OwnWalk
import Derived.BigRegion
import Derived.Test.YtjjikhaaimfneaaGreatDoorU28
import Derived.Test.YtjjikhaaimfneaaGreatDoorU14
import Derived.Test.YtjjikhaaimfneaaGreatDoorU06
namespace Go.Proofs.YtjjikhaaimfneaaGreatDoor
open Go.RowKit
set_option linter.unusedSimpArgs false
set_option linter.unusedVariables false
end Go.Proofs.YtjjikhaaimfneaaGreatDoor
namespace Go.Proofs.YtjjikhaaimfneaaGreatDoor
open Go.RowKit
set_option linter.unusedSimpArgs false
set_option linter.unusedVariables false
attribute [local go_sem] iteMin iteMax iteMinN iteMaxN
end Go.Proofs.YtjjikhaaimfneaaGreatDoor
namespace Go.Proofs.YtjjikhaaimfneaaGreatDoor
open Go.RowKit
set_option linter.unusedSimpArgs false
set_option linter.unusedVariables false
theorem calls_one {P : Program} {f : FuncId} {args : Array Value} {w : World} {v v' : Value} {R R' : World → Prop} (hi : P.inits.idxOf? f = none)
 (h : Calls P f args w fun e w' => e = .returned v ∧ R w') (h' : Calls P f args w fun e w' => e = .returned v' ∧ R' w') : v = v' := by
 obtain ⟨n, x, w1, h1, rfl⟩ := Calls.done (R := fun x _ => x = v) (h.mono fun e w' ⟨he, _⟩ => by subst he; rfl) hi
 obtain ⟨n', x', w2, h2, rfl⟩ := Calls.done (R := fun x _ => x = v') (h'.mono fun e w' ⟨he, _⟩ => by subst he; rfl) hi
 rcases Nat.le_total n n' with hle | hle
 · obtain ⟨d, rfl⟩ := Nat.exists_eq_add_of_le hle
   rw [runN_add, h1] at h2
   injection h2 with h3 h4; injection h3
 · obtain ⟨d, rfl⟩ := Nat.exists_eq_add_of_le hle
   rw [runN_add, h2] at h1
   injection h1 with h3 h4; injection h3 with h3; exact h3.symm
theorem map_int_inj : ∀ {a b : List Int}, a.map (Value.int .i64) = b.map (Value.int .i64) → a = b
 | [], [], _ => rfl
 | [], y :: b, h => by simp at h
 | x :: a, [], h => by simp at h
 | x :: a, y :: b, h => by
   simp only [List.map_cons, List.cons.injEq] at h
   obtain ⟨h1, h2⟩ := h
   injection h1 with _ h1
   rw [h1, map_int_inj h2]
theorem stp_of {k0 k1 R Q : Int} {q : Nat} {a0 a1 a2 a3 a4 a5 b0 b1 b2 b3 b4 b5 x y l0 l1 : Int} {ss us : List Int} (w : World)
 (h : Calls Tryz.prog 68 #[.agg #[.int .i64 k0, .int .i64 k1, .int .i64 R, .int .i64 Q, .int .i64 (q : Int)], .agg #[.int .i64 a0, .int .i64 a1, .int .i64 a2, .int .i64 a3, .int .i64 a4, .int .i64 a5, .int .i64 b0, .int .i64 b1, .int .i64 b2, .int .i64 b3, .int .i64 b4, .int .i64 b5, .int .i64 x, .int .i64 y], .agg #[.int .i64 l0, .int .i64 l1]] w fun e w' => e = .returned (.tuple #[.agg (ss.map (Value.int .i64)).toArray, .agg (us.map (Value.int .i64)).toArray, .int .i64 0]) ∧ Below w.heap.size w w') :
 stp k0 k1 R Q q [a0, a1, a2, a3, a4, a5, b0, b1, b2, b3, b4, b5, x, y] ⟨l0, l1⟩ = (ss, us) := by
 obtain ⟨_, _, _, _, h1, _⟩ := stepR_is k0 k1 R Q (q : Int) a0 a1 a2 a3 a4 a5 b0 b1 b2 b3 b4 b5 x y l0 l1
 have e := calls_one (by kernel_rfl) h (h1 w)
 injection e with e
 have e1 := congrArg Array.toList e
 simp only [List.cons.injEq, Value.agg.injEq, Array.mk.injEq, and_true] at e1
 obtain ⟨e2, e3, _⟩ := e1
 have e2 := map_int_inj e2
 have e3 := map_int_inj e3
 unfold stp
 rw [e2, e3]
theorem tl_000 : Tally 2 2 (rowB 0 0 1 1) false 1 0 0 ∧ Tally 2 2 (rowB 0 0 1 1) true 1 0 0 := by unfold Tally; decide
theorem tl_022 : Tally 2 2 (rowB 0 0 2 2) false 1 1 0 ∧ Tally 2 2 (rowB 0 0 2 2) true 1 1 0 := by unfold Tally; decide
theorem tl_133 : Tally 2 2 (rowB 1 1 3 3) false 1 1 2 ∧ Tally 2 2 (rowB 1 1 3 3) true 1 1 2 := by unfold Tally; decide
theorem vv_up {n b x : Nat} {bb : Int} {p q r D : Nat} (w : World) (hn : 1 ≤ n ∧ n ≤ 3) (hx : x ≤ 1) (hbb : -1 ≤ bb ∧ bb ≤ 0) (hD : ((x : Int) + (x : Int)) / 2 = (D : Int)) (hc : (n : Int) * ((D : Int) - lowBase bb D) < 1 + D)
 (t : Tally 2 2 (rowB x x n n) false p q r ∧ Tally 2 2 (rowB x x n n) true p q r) :
 stp 1 1 2 2 0 ([1, (n : Int), bb, 0, 0, 0, 1, (n : Int), bb, 0, 0, 0, (x : Int), (x : Int)] : List Int) ⟨0, 0⟩ = (([1, clipW (n + 1), lowBase bb D, 0, 0, 0, 1, clipW (n + 1), lowBase bb D, 0, 0, 0, (q : Int), (q : Int)] : List Int), ([(n : Int), (n : Int), (p : Int), (p : Int), (r : Int), (r : Int)] : List Int)) := by
 have hD2 : (0 : Int) ≤ D ∧ (D : Int) ≤ 1 := by omega
 have hv : vegRight ⟨1, n, bb, 0, 0, 0⟩ = true := decide_eq_true (show (1 : Int) = 1 ∧ 1 ≤ (n : Int) ∧ (n : Int) ≤ 12 ∧ -1 ≤ bb ∧ bb ≤ 1099511627776 ∧ (0 : Int) = 0 ∧ (0 : Int) = 0 ∧ (0 : Int) = 0 by omega)
 have hok : LinkOk ((2 : Nat) : Int) ((2 : Nat) : Int) (x : Int) (x : Int) (n : Int) (n : Int) := by unfold LinkOk; omega
 have hst : StRight 1 1 2 2 ((0 : Nat) : Int) 1 n bb 0 0 0 1 n bb 0 0 0 x x := by
  refine ⟨by unfold kindsOk; omega, by unfold rangeOk; omega, ?_, ?_, by omega, by omega, by omega⟩ <;> (unfold rightK; rw [if_pos rfl]; exact hv)
 refine stp_of w ?_
 exact step_ok 1 1 2 2 ((0 : Nat) : Int) 1 n bb 0 0 0 1 n bb 0 0 0 x x 0 0 w (by unfold kindsOk; omega) (by unfold rangeOk; omega) hst (by omega) (by omega) (by omega) (by omega)
  _ _ _ _ _ _ D D D n n p p r r q q 1 (clipW (n + 1)) (lowBase bb D) 0 0 0 1 (clipW (n + 1)) (lowBase bb D) 0 0 0 hD (by omega) (by omega) (by omega)
  (hide of_1) (hide of_1) (hide kindIs_1.2.2.1) (hide kindIs_1.2.2.1)
  (hide fun w => vegNext_up 1 n bb 0 0 0 D hv (by omega) (by omega) hc w) (hide fun w => vegNext_up 1 n bb 0 0 0 D hv (by omega) (by omega) hc w)
  (hide fun w => (lpass_ok 2 2 x x n n w hok).mono fun e w' ⟨h, hB⟩ => ⟨pass_detF t.1 t.2 h, hB⟩)
theorem vv_stay {n x : Nat} {p q r : Nat} (w : World) (hn : 1 ≤ n ∧ n ≤ 3) (hx : x = 1) (hc : 2 ≤ n)
 (t : Tally 2 2 (rowB x x n n) false p q r ∧ Tally 2 2 (rowB x x n n) true p q r) :
 stp 1 1 2 2 0 ([1, (n : Int), 0, 0, 0, 0, 1, (n : Int), 0, 0, 0, 0, (x : Int), (x : Int)] : List Int) ⟨0, 0⟩ = (([1, (n : Int), 0, 0, 0, 0, 1, (n : Int), 0, 0, 0, 0, (q : Int), (q : Int)] : List Int), ([(n : Int), (n : Int), (p : Int), (p : Int), (r : Int), (r : Int)] : List Int)) := by
 have hv : vegRight ⟨1, n, 0, 0, 0, 0⟩ = true := decide_eq_true (show (1 : Int) = 1 ∧ 1 ≤ (n : Int) ∧ (n : Int) ≤ 12 ∧ (-1 : Int) ≤ 0 ∧ (0 : Int) ≤ 1099511627776 ∧ (0 : Int) = 0 ∧ (0 : Int) = 0 ∧ (0 : Int) = 0 by omega)
 have hok : LinkOk ((2 : Nat) : Int) ((2 : Nat) : Int) (x : Int) (x : Int) (n : Int) (n : Int) := by unfold LinkOk; omega
 have hst : StRight 1 1 2 2 ((0 : Nat) : Int) 1 n 0 0 0 0 1 n 0 0 0 0 x x := by
  refine ⟨by unfold kindsOk; omega, by unfold rangeOk; omega, ?_, ?_, by omega, by omega, by omega⟩ <;> (unfold rightK; rw [if_pos rfl]; exact hv)
 have hl : lowBase 0 1 = 0 := rfl
 have nx : ∀ w : World, Calls Tryz.prog 114 #[.agg #[.int .i64 1, .int .i64 n, .int .i64 0, .int .i64 0, .int .i64 0, .int .i64 0], .int .i64 1] w fun e w' => e = .returned (.tuple #[.agg #[.int .i64 1, .int .i64 n, .int .i64 0, .int .i64 0, .int .i64 0, .int .i64 0], .int .i64 0]) ∧ Below w.heap.size w w' := fun w => by
  have := vegNext_mid 1 n 0 0 0 0 1 hv (by omega) (by omega) (by rw [hl]; omega) w
  have e : clipW n = n := by unfold clipW; rw [if_neg (by omega), if_neg (by omega)]
  simpa [hl, e] using this
 refine stp_of w ?_
 exact step_ok 1 1 2 2 ((0 : Nat) : Int) 1 n 0 0 0 0 1 n 0 0 0 0 x x 0 0 w (by unfold kindsOk; omega) (by unfold rangeOk; omega) hst (by omega) (by omega) (by omega) (by omega)
  _ _ _ _ _ _ 1 1 1 n n p p r r q q 1 n 0 0 0 0 1 n 0 0 0 0 (by omega) (by omega) (by omega) (by omega)
  (hide of_1) (hide of_1) (hide kindIs_1.2.2.1) (hide kindIs_1.2.2.1)
  (hide nx) (hide nx)
  (hide fun w => (lpass_ok 2 2 x x n n w hok).mono fun e w' ⟨h, hB⟩ => ⟨pass_detF t.1 t.2 h, hB⟩)
def sA : List Int := [1, 1, -1, 0, 0, 0, 1, 1, -1, 0, 0, 0, 0, 0]
def sB2 : List Int := [1, 2, 0, 0, 0, 0, 1, 2, 0, 0, 0, 0, 0, 0]
def sC : List Int := [1, 3, 0, 0, 0, 0, 1, 3, 0, 0, 0, 0, 1, 1]
theorem st_A (w : World) : stp 1 1 2 2 0 sA ⟨0, 0⟩ = (sB2, [1, 1, 1, 1, 0, 0]) := vv_up (n := 1) (b := 0) (x := 0) (bb := -1) (D := 0) w (by omega) (by omega) (by omega) (by omega) (by decide) tl_000
theorem st_B (w : World) : stp 1 1 2 2 0 sB2 ⟨0, 0⟩ = (sC, [2, 2, 1, 1, 0, 0]) := vv_up (n := 2) (b := 0) (x := 0) (bb := 0) (D := 0) w (by omega) (by omega) (by omega) (by omega) (by decide) tl_022
theorem st_C (w : World) : stp 1 1 2 2 0 sC ⟨0, 0⟩ = (sC, [3, 3, 1, 1, 2, 2]) := vv_stay (n := 3) (x := 1) w (by omega) rfl (by omega) tl_133
theorem rn_0 : rnds 1 1 2 2 0 0 = ⟨[sA], [-1], [⟨0, 0⟩], [], false⟩ := rfl
theorem rn_succ (k : Nat) : rnds 1 1 2 2 0 (k + 1) = (rnds 1 1 2 2 0 k).go (stp 1 1 2 2 0) k ⟨0, 0⟩ := rfl
theorem rn_1 (w : World) : rnds 1 1 2 2 0 1 = ⟨[sA, sB2], [-1, 0], [⟨0, 0⟩, ⟨0, 0⟩], [⟨0, 1, ⟨0, 0⟩, [1, 1, 1, 1, 0, 0]⟩], false⟩ := by
 rw [rn_succ, rn_0]
 exact Sx.go_new rfl rfl (st_A w) (by decide) (by decide)
theorem rn_2 (w : World) : rnds 1 1 2 2 0 2 = ⟨[sA, sB2, sC], [-1, 0, 1], [⟨0, 0⟩, ⟨0, 0⟩, ⟨0, 0⟩], [⟨0, 1, ⟨0, 0⟩, [1, 1, 1, 1, 0, 0]⟩, ⟨1, 2, ⟨0, 0⟩, [2, 2, 1, 1, 0, 0]⟩], false⟩ := by
 rw [rn_succ, rn_1 w]
 exact Sx.go_new rfl rfl (st_B w) (by decide) (by decide)
theorem rn_3 (w : World) : (rnds 1 1 2 2 0 3).states = [sA, sB2, sC] ∧ (rnds 1 1 2 2 0 3).full = false := by
 rw [rn_succ, rn_2 w]
 rw [Sx.go_old (i := 2) rfl rfl (st_C w) rfl (by decide)]
 exact ⟨rfl, rfl⟩
theorem vv_ends (w : World) : SxEnds (step := stp 1 1 2 2 0) (startI 1 1) (0 + 1) 3 := by
 have h0 : (rnds 1 1 2 2 0 0).full = false ∧ 0 < (rnds 1 1 2 2 0 0).states.length := by rw [rn_0]; exact ⟨rfl, by decide⟩
 have h1 : (rnds 1 1 2 2 0 1).full = false ∧ 1 < (rnds 1 1 2 2 0 1).states.length := by rw [rn_1 w]; exact ⟨rfl, by decide⟩
 have h2 : (rnds 1 1 2 2 0 2).full = false ∧ 2 < (rnds 1 1 2 2 0 2).states.length := by rw [rn_2 w]; exact ⟨rfl, by decide⟩
 obtain ⟨h3, h4⟩ := rn_3 w
 refine ⟨fun j hj => ?_, .inr ?_⟩
 · rcases (show j = 0 ∨ j = 1 ∨ j = 2 by omega) with rfl | rfl | rfl
   · exact h0
   · exact h1
   · exact h2
 · show ¬ 3 < (rnds 1 1 2 2 0 3).states.length
   rw [h3]; decide
theorem vv_srch (w : World) {r : Int} {X : Sx} (h : Srch 1 1 2 2 0 r X) : r = 0 := by
 rcases h with ⟨_, _, _, hno⟩ | ⟨q, kk, hq, _, _, hE, h⟩
 · exact absurd ⟨by unfold kindsOk; omega, by unfold rangeOk; omega⟩ hno
 · obtain rfl : q = 0 := by omega
   obtain rfl := hE.one (vv_ends w)
   rcases h with ⟨hf, _⟩ | ⟨_, h, _⟩
   · have := (rn_3 w).2; rw [hf] at this; cases this
   · exact h
end Go.Proofs.YtjjikhaaimfneaaGreatDoor
namespace Go.Proofs.YtjjikhaaimfneaaGreatDoor
open Go.RowKit
set_option linter.unusedSimpArgs false
set_option linter.unusedVariables false
def Small (xs : List Int) : Prop := ∀ x ∈ xs, 0 ≤ x ∧ x ≤ 1099511627776
theorem small_at {xs : List Int} (h : Small xs) {k : Nat} {x : Int} (hx : xs[k]? = some x) : 0 ≤ x ∧ x ≤ 1099511627776 := h x (List.mem_of_getElem? hx)
theorem small_of {xs : List Int} (h : ∀ (k : Nat) (x : Int), xs[k]? = some x → 0 ≤ x ∧ x ≤ 1099511627776) : Small xs := fun x hx => by
 obtain ⟨k, hk⟩ := List.mem_iff_getElem?.1 hx
 exact h k x hk
def IdxP (P : Prop) (e : Ending) : Prop := (P ∧ ∃ r : Int, 0 ≤ r ∧ r ≤ 17592186044416 ∧ e = .returned (.int .i64 r)) ∨ (¬ P ∧ e = .returned (.int .i64 (-1)))
set_option maxHeartbeats 1000000 in
theorem bsmall_any (x : Int) (w : World) : Calls Tryz.prog 25 #[.int .i64 x] w fun e w' => IsB (0 ≤ x ∧ x ≤ 1099511627776) e ∧ w = w' := by
 rcases (show x < 0 ∨ 0 ≤ x by omega) with h | h
 · have HF := hide (show ¬ (0 ≤ x ∧ x ≤ 1099511627776) by omega)
   have hd : decide (0 ≤ x) = false := by simp; omega
   go_enter Tryz.func25, Tryz.ntmps25
   go_wp2
   go_ret
   exact ⟨IsB.f HF.out, rfl⟩
 · go_enter Tryz.func25, Tryz.ntmps25
   go_wp2
   go_ret
   exact ⟨IsB.d (by first | (simp; done) | (simp; omega)), rfl⟩
set_option maxHeartbeats 1000000 in
theorem bBad (x : Int) (w : World) : Calls Tryz.prog 27 #[.int .i64 x] w fun e w' => IsB (x < 0 ∨ 1099511627776 < x) e ∧ w = w' := by
 by_cases h : 0 ≤ x ∧ x ≤ 1099511627776
 · have H := hide h
   have HF := hide (show ¬ (x < 0 ∨ 1099511627776 < x) by omega)
   clear h
   go_enter Tryz.func27, Tryz.ntmps27
   go_wp2_with (go_at_call 25; refine (callT (bsmall_any _ _) H.out).mono ?_; rintro e w1 ⟨rfl, rfl⟩)
   go_ret
   exact ⟨IsB.f HF.out, rfl⟩
 · have H := hide h
   have HF := hide (show x < 0 ∨ 1099511627776 < x by omega)
   clear h
   go_enter Tryz.func27, Tryz.ntmps27
   go_wp2_with (go_at_call 25; refine (callF (bsmall_any _ _) H.out).mono ?_; rintro e w1 ⟨rfl, rfl⟩)
   go_ret
   exact ⟨IsB.t HF.out, rfl⟩
set_option maxHeartbeats 2000000 in
theorem bIdx (a : Option Addr) (n c : Nat) (xs : List Int) (w : World) (h : IntsAt w a n c xs) :
 Calls Tryz.prog 49 #[.slice a n c, .func (.func 27) #[] #[]] w fun e w' => IdxP (¬ Small xs) e ∧ w = w' := by
 have HL := hide h.len
 have hlim := h.lim
 go_enter Tryz.func49, Tryz.ntmps49
 go_wp2
 go_loop [8] (fun i => ∃ k : Nat, k ≤ n ∧ i = .int .i64 k ∧ ∀ (j : Nat) (x : Int), j < k → xs[j]? = some x → 0 ≤ x ∧ x ≤ 1099511627776) (fun i => n - (intOf i).toNat)
 case atStart => exact ⟨0, Nat.zero_le _, rfl, fun j x hj => absurd hj (by omega)⟩
 case round =>
  obtain ⟨k, hk, rfl, hall⟩ := hrel
  have HA := hide hall
  clear hall
  by_cases hlt : k < n
  · obtain ⟨ad, x, rfl, hbd, hc, HX⟩ := h.getB (Below.refl _ _) hlt
    have k0 : (0 : Int) ≤ (k : Int) := Int.natCast_nonneg _
    have k1 : (k : Int) < (n : Int) := by omega
    clear h
    by_cases hx : x < 0 ∨ 1099511627776 < x
    · have HN := hide (show ¬ Small xs from fun hs => by have := small_at hs HX.out; omega)
      have HB := hide hx
      clear hx
      go_wp2_with (go_at_call 27; refine (callT (bBad _ _) HB.out).mono ?_; rintro e w1 ⟨rfl, rfl⟩)
      go_ret
      exact ⟨.inl ⟨HN.out, (k : Int), k0, by omega, rfl⟩, rfl⟩
    · have HB := hide hx
      have hx' : 0 ≤ x ∧ x ≤ 1099511627776 := by omega
      have HX' := hide hx'
      clear hx hx'
      go_wp2_with (go_at_call 27; refine (callF (bBad _ _) HB.out).mono ?_; rintro e w1 ⟨rfl, rfl⟩)
      go_round
      case rel => exact ⟨k + 1, by omega, by go_num, fun j z hj hz => by
       rcases (show j < k ∨ j = k by omega) with h3 | rfl
       · exact HA.out j z h3 hz
       · rw [HX.out] at hz; injection hz with hz; subst hz; exact HX'.out⟩
      case measure => simp [intOf]; omega
  · have HN := hide (show ¬ ¬ Small xs from fun hn => hn (small_of fun j x hx => HA.out j x (by have := (List.getElem?_eq_some_iff.1 hx).1; rw [HL.out] at this; omega) hx))
    clear h
    go_wp2
    go_ret
    exact ⟨.inr ⟨HN.out, rfl⟩, rfl⟩
set_option maxHeartbeats 1000000 in
theorem bHas (a : Option Addr) (n c : Nat) (xs : List Int) (w : World) (h : IntsAt w a n c xs) :
 Calls Tryz.prog 26 #[.slice a n c, .func (.func 27) #[] #[]] w fun e w' => IsB (¬ Small xs) e ∧ w = w' := by
 have HI := hide (bIdx a n c xs w h)
 clear h
 go_enter Tryz.func26, Tryz.ntmps26
 go_wp2_with fail
 refine HI.out.mono ?_
 rintro e w1 ⟨⟨hn, r, r0, r1, rfl⟩ | ⟨hn, rfl⟩, rfl⟩
 · have HN := hide hn
   clear hn
   go_wp2
   go_ret
   exact ⟨IsB.t HN.out, rfl⟩
 · have HN := hide hn
   clear hn
   go_wp2
   go_ret
   exact ⟨IsB.f HN.out, rfl⟩
def RightB (R B : Int) (xs : List Int) : Prop := (0 ≤ R ∧ R ≤ 1099511627776) ∧ (0 ≤ B ∧ B ≤ 1099511627776) ∧ xs.length < 300 ∧ Small xs
set_option maxRecDepth 100000 in
set_option maxHeartbeats 2000000 in
theorem bRight_any (R B : Int) (a : Option Addr) (n c : Nat) (xs : List Int) (w : World) (h : IntsAt w a n c xs) :
 Calls Tryz.prog 9 #[.agg #[.int .i64 R, .int .i64 B], .slice a n c] w fun e w' => IsB (RightB R B xs) e ∧ Below w.heap.size w w' := by
 have HL := hide h.len
 have hlim := h.lim
 have H := hide (fun W (hb : Below w.heap.size w W) => bHas a n c xs W (h.below hb))
 clear h
 by_cases g1 : 0 ≤ R ∧ R ≤ 1099511627776
 · by_cases g2 : 0 ≤ B ∧ B ≤ 1099511627776
   · by_cases g3 : n < 300
     · by_cases g4 : Small xs
       · have HF := hide (show RightB R B xs from ⟨g1, g2, by rw [HL.out]; exact g3, g4⟩)
         have G1 := hide g1
         have G2 := hide g2
         have G4 := hide (show ¬ ¬ Small xs from fun h => h g4)
         clear g1 g2 g4
         go_enter Tryz.func9, Tryz.ntmps9
         go_wp2_with fail
         refine (callT (bsmall_any _ _) G1.out).mono ?_
         rintro e w1 ⟨rfl, rfl⟩
         go_wp2_with fail
         refine (callT (bsmall_any _ _) G2.out).mono ?_
         rintro e w1 ⟨rfl, rfl⟩
         go_wp2_with fail
         refine (callF (H.out _ ((Below.refl _ _).alloc (Nat.le_refl _) _)) G4.out).mono ?_
         rintro e w1 ⟨rfl, rfl⟩
         go_wp2
         go_ret
         exact ⟨IsB.t HF.out, (Below.refl _ _).alloc (Nat.le_refl _) _⟩
       · have HF := hide (show ¬ RightB R B xs from fun h => g4 h.2.2.2)
         have G1 := hide g1
         have G2 := hide g2
         have G4 := hide g4
         clear g1 g2 g4
         go_enter Tryz.func9, Tryz.ntmps9
         go_wp2_with fail
         refine (callT (bsmall_any _ _) G1.out).mono ?_
         rintro e w1 ⟨rfl, rfl⟩
         go_wp2_with fail
         refine (callT (bsmall_any _ _) G2.out).mono ?_
         rintro e w1 ⟨rfl, rfl⟩
         go_wp2_with fail
         refine (callT (H.out _ ((Below.refl _ _).alloc (Nat.le_refl _) _)) G4.out).mono ?_
         rintro e w1 ⟨rfl, rfl⟩
         go_wp2
         go_ret
         exact ⟨IsB.f HF.out, (Below.refl _ _).alloc (Nat.le_refl _) _⟩
     · have HF := hide (show ¬ RightB R B xs from fun h => g3 (by rw [← HL.out]; exact h.2.2.1))
       have G1 := hide g1
       have G2 := hide g2
       have g4 : (300 : Int) ≤ (n : Int) := by omega
       have g5 : decide ((n : Int) < 300) = false := by simp; omega
       clear g1 g2 g3
       go_enter Tryz.func9, Tryz.ntmps9
       go_wp2_with fail
       refine (callT (bsmall_any _ _) G1.out).mono ?_
       rintro e w1 ⟨rfl, rfl⟩
       go_wp2_with fail
       refine (callT (bsmall_any _ _) G2.out).mono ?_
       rintro e w1 ⟨rfl, rfl⟩
       go_wp2
       go_ret
       exact ⟨IsB.f HF.out, (Below.refl _ _).alloc (Nat.le_refl _) _⟩
   · have HF := hide (show ¬ RightB R B xs from fun h => g2 h.2.1)
     have G1 := hide g1
     have G2 := hide g2
     clear g1 g2
     go_enter Tryz.func9, Tryz.ntmps9
     go_wp2_with fail
     refine (callT (bsmall_any _ _) G1.out).mono ?_
     rintro e w1 ⟨rfl, rfl⟩
     go_wp2_with fail
     refine (callF (bsmall_any _ _) G2.out).mono ?_
     rintro e w1 ⟨rfl, rfl⟩
     go_wp2
     go_ret
     exact ⟨IsB.f HF.out, (Below.refl _ _).alloc (Nat.le_refl _) _⟩
 · have HF := hide (show ¬ RightB R B xs from fun h => g1 h.1)
   have G1 := hide g1
   clear g1
   go_enter Tryz.func9, Tryz.ntmps9
   go_wp2_with fail
   refine (callF (bsmall_any _ _) G1.out).mono ?_
   rintro e w1 ⟨rfl, rfl⟩
   go_wp2
   go_ret
   exact ⟨IsB.f HF.out, (Below.refl _ _).alloc (Nat.le_refl _) _⟩
end Go.Proofs.YtjjikhaaimfneaaGreatDoor
namespace Go.Proofs.YtjjikhaaimfneaaGreatDoor
open Go.RowKit
set_option linter.unusedSimpArgs false
set_option linter.unusedVariables false
def minB (a b : Int) : Int := if a ≤ b then a else b
theorem minB_l {a b : Int} (h : a ≤ b) : minB a b = a := if_pos h
theorem minB_r {a b : Int} (h : b < a) : minB a b = b := if_neg (by omega)
def stB (R B : Int) (xs : List Int) : Nat → Int × Int
 | 0 => (B, 0)
 | k + 1 => (minB ((stB R B xs k).1 - minB ((stB R B xs k).2 + xs.getD k 0) (stB R B xs k).1 + R) B, (stB R B xs k).2 + xs.getD k 0 - minB ((stB R B xs k).2 + xs.getD k 0) (stB R B xs k).1)
def nowB (R B : Int) (xs : List Int) (k : Nat) : Int := minB ((stB R B xs k).2 + xs.getD k 0) (stB R B xs k).1
def passB (R B : Int) (xs : List Int) : List Int := (List.range xs.length).map (nowB R B xs)
theorem passB_len (R B : Int) (xs : List Int) : (passB R B xs).length = xs.length := by simp [passB]
theorem passB_get {R B : Int} {xs : List Int} {k : Nat} (h : k < xs.length) : nowB R B xs k = (passB R B xs).getD k 0 := by
 rw [List.getD_eq_getElem?_getD]; simp [passB, List.getElem?_range, h]
theorem st_succ1 (R B : Int) (xs : List Int) (k : Nat) : (stB R B xs (k + 1)).1 = minB ((stB R B xs k).1 - nowB R B xs k + R) B := rfl
theorem st_succ2 (R B : Int) (xs : List Int) (k : Nat) : (stB R B xs (k + 1)).2 = (stB R B xs k).2 + xs.getD k 0 - nowB R B xs k := rfl
theorem small_getD {xs : List Int} (h : Small xs) (k : Nat) : 0 ≤ xs.getD k 0 ∧ xs.getD k 0 ≤ 1099511627776 := by
 rcases Nat.lt_or_ge k xs.length with hk | hk
 · rw [List.getD_eq_getElem?_getD, List.getElem?_eq_getElem hk]
   exact h _ (List.getElem_mem hk)
 · rw [List.getD_eq_getElem?_getD, List.getElem?_eq_none hk]; simp
theorem st_bounds {R B : Int} {xs : List Int} (hr : RightB R B xs) : ∀ k, 0 ≤ (stB R B xs k).1 ∧ (stB R B xs k).1 ≤ B ∧ 0 ≤ (stB R B xs k).2 ∧ (stB R B xs k).2 ≤ k * 1099511627776
 | 0 => by have := hr.2.1; simp [stB]; omega
 | k + 1 => by
   obtain ⟨h1, h2, h3, h4⟩ := st_bounds hr k
   have hx := small_getD hr.2.2.2 k
   have hR := hr.1
   have hB := hr.2.1
   rw [st_succ1, st_succ2]
   unfold nowB minB
   refine ⟨?_, ?_, ?_, ?_⟩ <;> (repeat' split) <;> omega
theorem now_bounds {R B : Int} {xs : List Int} (hr : RightB R B xs) (k : Nat) : 0 ≤ nowB R B xs k ∧ nowB R B xs k ≤ (stB R B xs k).1 ∧ nowB R B xs k ≤ B := by
 obtain ⟨h1, h2, h3, h4⟩ := st_bounds hr k
 have hx := small_getD hr.2.2.2 k
 unfold nowB minB
 refine ⟨?_, ?_, ?_⟩ <;> split <;> omega
def sB (R B : Int) (xs : List Int) (k : Nat) : Nat → Int
 | 0 => 0
 | j + 1 => sB R B xs k j + nowB R B xs (k - 1 - j)
def lB (R B : Int) (xs : List Int) (k j : Nat) : Int := B + j * minB R B - sB R B xs k j
def hkB (R B : Int) (xs : List Int) (k : Nat) (w : Int) : Nat → Int
 | 0 => w
 | j + 1 => minB (hkB R B xs k w j) (lB R B xs k j)
end Go.Proofs.YtjjikhaaimfneaaGreatDoor
