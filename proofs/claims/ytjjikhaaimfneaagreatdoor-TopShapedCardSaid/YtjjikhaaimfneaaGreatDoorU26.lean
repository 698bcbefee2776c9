/-
  Lemmas and walks for the statement: StLd1, StLeadP, Rev2P, Rev2, StLead, StRow, RegM3, StTell.
-/
import Derived.Test.YtjjikhaaimfneaaGreatDoorU25
import Derived.Test.YtjjikhaaimfneaaGreatDoorU18
import Derived.Test.YtjjikhaaimfneaaGreatDoorU20
import Derived.Test.YtjjikhaaimfneaaGreatDoorU24
import Derived.Laws.OwnMore
import Derived.LoopN
import Derived.Test.YtjjikhaaimfneaaGreatDoorU02
namespace Go.Proofs.YtjjikhaaimfneaaGreatDoor
open Go.RowKit
set_option linter.unusedSimpArgs false
set_option linter.unusedVariables false
def TN (es : List Edg) (F : Nat → Prop) (w : World) : Prop := ∀ b, ¬ F b
theorem lead1_call (k t : Nat) (x0 x1 x2 x3 x4 x5 : Int) (w : World) : Calls Tryz.prog 63 #[.int .i64 k, .int .i64 t, .agg #[.int .i64 x0, .int .i64 x1, .int .i64 x2, .int .i64 x3, .int .i64 x4, .int .i64 x5]] w fun e w' => (∃ v, e = .returned v) ∧ Below w.heap.size w w' := by
 go_enter Tryz.func63, Tryz.ntmps63
 go_wp2
 go_end0
 exact ⟨⟨_, rfl⟩, (Below.refl _ _).alloc (Nat.le_refl _) _⟩
theorem lead1_tell : TellOk 63 #[] TN where
 enters := enters_of Tryz.func63 (by kernel_rfl) rfl
 lt h b hb := (h b hb).elim
 kept h _ := h
 det h h' b := ⟨fun hb => (h b hb).elim, fun hb => (h' b hb).elim⟩
 run k t l x0 x1 x2 x3 x4 x5 h _ _ _ _ := (lead1_call k t x0 x1 x2 x3 x4 x5 _).mono fun e w' ⟨hv, hb⟩ => ⟨hv, fun _ => False, fun b hb => hb, Chg.of_below hb, fun b hb => hb.elim⟩
set_option maxRecDepth 100000 in
set_option maxHeartbeats 4000000 in
theorem each_wrong (K : Nat) (caps : Array Value) (k0 k1 R Q J r : Int) (w : World) (hw : WrongSays k0 k1 R Q J r) (h0 : r ≠ 0) :
 Calls Tryz.prog 43 #[.agg #[.int .i64 k0, .int .i64 k1, .int .i64 R, .int .i64 Q, .int .i64 J], .func (.func K) #[] caps] w fun e w' => e = .returned (.tuple #[.pointer none, .int .i64 r]) ∧ Below w.heap.size w w' := by
 have h1 : ∀ w : World, Calls Tryz.prog 65 #[.agg #[.int .i64 k0, .int .i64 k1, .int .i64 R, .int .i64 Q, .int .i64 J]] w fun e w' => e = .returned (.tuple #[.agg #[.int .i64 0, .int .i64 0, .int .i64 0, .int .i64 0, .int .i64 0, .int .i64 0, .int .i64 0, .int .i64 0, .int .i64 0, .int .i64 0, .int .i64 0, .int .i64 0, .int .i64 0, .int .i64 0], .int .i64 r]) ∧ Below w.heap.size w w' := fun w => start_bad k0 k1 R Q J r w hw h0
 have H1 := hide h1
 have h0' : ((r : Int) != 0) = true := by simpa using h0
 clear h1 h0 hw
 obtain ⟨S, hS⟩ : ∃ S, w.heap.size = S := ⟨_, rfl⟩
 go_enter Tryz.func43, Tryz.ntmps43
 go_wp2_with fail
 obtain ⟨W, hW⟩ : ∃ W, W = (((w.alloc (.cells #[.int .i64 k0, .int .i64 k1, .int .i64 R, .int .i64 Q, .int .i64 J] 49)).alloc (.cells #[.func (.func K) #[] caps] 93)).alloc (.cells #[.pointer none] 88)).alloc (.cells #[.int .i64 0] 38) := ⟨_, rfl⟩
 rw [← hW]
 have hWB : Below S w W := by rw [hW, ← hS]; exact ((((Below.refl _ _).alloc (Nat.le_refl _) _).alloc (by simp) _).alloc (by simp; omega) _).alloc (by simp; omega) _
 have hWs : W.heap.size = S + 4 := by rw [hW, ← hS]; simp
 have b2 : Blk W (S + 1 + 1) [.pointer none] := by
  have := (Blk.new ((w.alloc (.cells #[.int .i64 k0, .int .i64 k1, .int .i64 R, .int .i64 Q, .int .i64 J] 49)).alloc (.cells #[.func (.func K) #[] caps] 93)) [.pointer none] 88).alloc (.cells #[.int .i64 0] 38)
  rw [hW]; simpa [hS] using this
 have b3 : Blk W (S + 1 + 1 + 1) [.int .i64 0] := by
  have := Blk.new (((w.alloc (.cells #[.int .i64 k0, .int .i64 k1, .int .i64 R, .int .i64 Q, .int .i64 J] 49)).alloc (.cells #[.func (.func K) #[] caps] 93)).alloc (.cells #[.pointer none] 88)) [.int .i64 0] 38
  rw [hW]; simpa [hS] using this
 refine (H1.out W).mono ?_
 rintro e w1 ⟨rfl, hA⟩
 have hs1 := hA.size
 obtain ⟨X, hX⟩ : ∃ X, X = w1.alloc (.cells #[.int .i64 0, .int .i64 0, .int .i64 0, .int .i64 0, .int .i64 0, .int .i64 0, .int .i64 0, .int .i64 0, .int .i64 0, .int .i64 0, .int .i64 0, .int .i64 0, .int .i64 0, .int .i64 0] 133) := ⟨_, rfl⟩
 have hB := hide (show Below S w X by rw [hX]; exact (hWB.trans (hA.mono (by omega))).alloc (by omega) _)
 have b2 := (b2.below hA b2.lt).alloc (.cells #[.int .i64 0, .int .i64 0, .int .i64 0, .int .i64 0, .int .i64 0, .int .i64 0, .int .i64 0, .int .i64 0, .int .i64 0, .int .i64 0, .int .i64 0, .int .i64 0, .int .i64 0, .int .i64 0] 133)
 have b3 := (b3.below hA b3.lt).alloc (.cells #[.int .i64 0, .int .i64 0, .int .i64 0, .int .i64 0, .int .i64 0, .int .i64 0, .int .i64 0, .int .i64 0, .int .i64 0, .int .i64 0, .int .i64 0, .int .i64 0, .int .i64 0, .int .i64 0] 133)
 rw [← hX] at b2 b3
 have HX := hide hX
 have B2 := hide b2
 have B3 := hide b3
 clear hW hA H1 hX b2 b3 hs1 hWs hWB
 go_upto_region 3 with fail
 rw [← HX.out]
 clear HX
 have e4 := (B2.out 0 _ rfl).1
 have e5 := (B3.out 0 _ rfl).1
 have f4 := (B2.out 0 _ rfl).2
 have f5 := (B3.out 0 _ rfl).2
 go_wp2
 have z2 : Blk ((X.setCell ⟨S + 1 + 1, 0, none⟩ (.pointer none)).setCell ⟨S + 1 + 1 + 1, 0, none⟩ (.int .i64 r)) (S + 1 + 1) [.pointer none] := (B2.out.set (j := 0) (by simp) _).other _ _ (by simp only; omega)
 have z3 : Blk ((X.setCell ⟨S + 1 + 1, 0, none⟩ (.pointer none)).setCell ⟨S + 1 + 1 + 1, 0, none⟩ (.int .i64 r)) (S + 1 + 1 + 1) [.int .i64 r] := (B3.out.other ⟨S + 1 + 1, 0, none⟩ (.pointer none) (by simp only; omega)).set (j := 0) (by simp) _
 have y2 := (z2 0 _ rfl).1
 have y3 := (z3 0 _ rfl).1
 refine bodyPost_ret (v := .tuple #[.pointer none, .int .i64 r]) ?_ rfl ⟨rfl, ?_⟩
 · simp [results, Tryz.f43, go_sem, y2, y3]
 · rw [hS]
   exact (hB.out.setCell (by simp only; omega) _).setCell (by simp only; omega) _
end Go.Proofs.YtjjikhaaimfneaaGreatDoor
namespace Go.Proofs.YtjjikhaaimfneaaGreatDoor
open Go.RowKit
set_option linter.unusedSimpArgs false
set_option linter.unusedVariables false
attribute [local go_sem] iteMin iteMax iteMinN iteMaxN
def wayB (fr : List Int) (bys : List P2) : Nat → Nat → List P2
 | 0, _ => []
 | f + 1, n => if n = 0 then [] else bys.getD n ⟨0, 0⟩ :: wayB fr bys f (fr.getD n 0).toNat
def BackOk (fr : List Int) (n : Nat) : Prop := ∀ i, 1 ≤ i → i < n → ∃ j : Nat, fr[i]? = some (j : Int) ∧ j < i
theorem wayB_fuel {fr : List Int} {bys : List P2} {N : Nat} (h : BackOk fr N) : ∀ f g n, n ≤ f → n ≤ g → n < N → wayB fr bys f n = wayB fr bys g n
 | 0, g, n, h1, _, _ => by
   obtain rfl : n = 0 := by omega
   cases g <;> simp [wayB]
 | f + 1, 0, n, _, h2, _ => by
   obtain rfl : n = 0 := by omega
   simp [wayB]
 | f + 1, g + 1, n, h1, h2, h3 => by
   simp only [wayB]
   by_cases hn : n = 0
   · rw [if_pos hn, if_pos hn]
   · rw [if_neg hn, if_neg hn]
     obtain ⟨j, hj, hjn⟩ := h n (by omega) h3
     have e : (fr.getD n 0).toNat = j := by rw [List.getD_eq_getElem?_getD, hj]; simp
     rw [e, wayB_fuel h f g j (by omega) (by omega) (by omega)]
theorem wayB_step {fr : List Int} {bys : List P2} {N n j : Nat} {p : P2} (h : BackOk fr N) (hn : 0 < n) (hN : n < N) (hj : fr[n]? = some (j : Int)) (hjn : j < n) (hp : bys[n]? = some p) : wayB fr bys n n = p :: wayB fr bys j j := by
 obtain ⟨f, rfl⟩ : ∃ f, n = f + 1 := ⟨n - 1, by omega⟩
 have e : (fr.getD (f + 1) 0).toNat = j := by rw [List.getD_eq_getElem?_getD, hj]; simp
 have e2 : bys.getD (f + 1) ⟨0, 0⟩ = p := by rw [List.getD_eq_getElem?_getD, hp]; rfl
 show (if f + 1 = 0 then [] else _) = _
 rw [if_neg (by omega), e, e2, wayB_fuel h f j j (by omega) (Nat.le_refl _) (by omega)]
theorem SxOk.back {G U : List Int → Prop} {B : Sx} (h : SxOk G U B) : BackOk B.fr B.states.length := fun i h1 h2 => by
 obtain ⟨e, E, _, _, h3, _, _, h4⟩ := h.born i h1 h2
 exact ⟨E.f, h3, h4⟩
def LeadEnds (k0 k1 R Q : Int) (q : Nat) (n : Int) (e : Ending) (w' : World) : Prop :=
 ∃ kk, SxEnds (step := stp k0 k1 R Q q) (startI k0 k1) (q + 1) kk ∧
  (((rnds k0 k1 R Q q kk).full = false ∧ ∃ m : Nat, n = m ∧ m < (rnds k0 k1 R Q q kk).states.length ∧ ∃ v B, e = .returned (.tuple #[v, .int .i64 0]) ∧ w'.ownsRow B 47 2 v (wayB (rnds k0 k1 R Q q kk).fr (rnds k0 k1 R Q q kk).bys m m).reverse.length (flat2 (wayB (rnds k0 k1 R Q q kk).fr (rnds k0 k1 R Q q kk).bys m m).reverse)) ∨
   ((rnds k0 k1 R Q q kk).full = false ∧ (n < 0 ∨ ((rnds k0 k1 R Q q kk).states.length : Int) ≤ n) ∧ e = .returned (.tuple #[.slice none 0 0, .int .i64 3])) ∨
   ((rnds k0 k1 R Q q kk).full = true ∧ e = .returned (.tuple #[.slice none 0 0, .int .i64 4])))
set_option maxRecDepth 100000 in
set_option maxHeartbeats 4000000 in
theorem lead_wrong (k0 k1 R Q J n r : Int) (w : World) (hw : WrongSays k0 k1 R Q J r) (h0 : r ≠ 0) :
 Calls Tryz.prog 41 #[.agg #[.int .i64 k0, .int .i64 k1, .int .i64 R, .int .i64 Q, .int .i64 J], .int .i64 n] w fun e w' => e = .returned (.tuple #[.slice none 0 0, .int .i64 r]) ∧ Below w.heap.size w w' := by
 have h0' : ((r : Int) != 0) = true := by simpa using h0
 have HW := hide hw
 have H0 := hide h0
 clear hw h0
 go_enter Tryz.func41, Tryz.ntmps41
 go_wp2_with fail
 refine (each_wrong _ _ k0 k1 R Q J r _ HW.out H0.out).mono ?_
 rintro e w1 ⟨rfl, hA⟩
 have HA := hide hA
 clear hA
 go_wp2
 go_ret2
 exact ⟨rfl, ((Below.refl _ _).alloc (Nat.le_refl _) _).trans (HA.out.mono (by simp))⟩
theorem sx_end {k0 k1 R Q : Int} {q kk : Nat} (hk : kindsOk k0 k1) (hr : rangeOk R Q (q : Int)) (h : SxEnds (step := stp k0 k1 R Q q) (startI k0 k1) (q + 1) kk) : SxOk (GG k0 k1 R Q q) UU (rnds k0 k1 R Q q kk) := by
 have key : ∀ j, j ≤ kk → SxOk (GG k0 k1 R Q q) UU (rnds k0 k1 R Q q j) := by
  intro j
  induction j with
  | zero => intro _; exact start_good hk hr
  | succ j ih =>
    intro hj
    have h1 := ih (by omega)
    have h2 := (h.1 j (by omega)).2
    rw [rnds_succ]
    refine h1.walk h2 (fun l hl s hs => ?_)
    refine stp_good ?_ hs
    simp only [latesP, List.mem_map, List.mem_range] at hl
    obtain ⟨e, he, rfl⟩ := hl
    have h3 : e / (q + 1) < q + 1 := (Nat.div_lt_iff_lt_mul (Nat.succ_pos q)).2 he
    have h4 : e % (q + 1) < q + 1 := Nat.mod_lt e (Nat.succ_pos q)
    generalize e / (q + 1) = a at *
    generalize e % (q + 1) = b at *
    dsimp only
    omega
 exact key kk (Nat.le_refl _)
end Go.Proofs.YtjjikhaaimfneaaGreatDoor
namespace Go.Proofs.YtjjikhaaimfneaaGreatDoor
open Go.RowKit
set_option linter.unusedSimpArgs false
set_option linter.unusedVariables false
def revTo (l : List P2) (x : Nat) : List P2 := (List.range l.length).map fun y => if y < x ∨ l.length - x ≤ y then l.getD (l.length - 1 - y) ⟨0, 0⟩ else l.getD y ⟨0, 0⟩
theorem revTo_len (l : List P2) (x : Nat) : (revTo l x).length = l.length := by simp [revTo]
theorem revTo_get {l : List P2} {x y : Nat} (h : y < l.length) : (revTo l x)[y]? = some (if y < x ∨ l.length - x ≤ y then l.getD (l.length - 1 - y) ⟨0, 0⟩ else l.getD y ⟨0, 0⟩) := by
 simp [revTo, h]
theorem revTo_zero (l : List P2) : revTo l 0 = l := by
 apply List.ext_getElem?
 intro y
 by_cases h : y < l.length
 · rw [revTo_get h, if_neg (by omega), List.getD_eq_getElem?_getD, List.getElem?_eq_getElem h]; rfl
 · rw [List.getElem?_eq_none (by rw [revTo_len]; omega), List.getElem?_eq_none (by omega)]
theorem revTo_done {l : List P2} {x : Nat} (h1 : 2 * x ≤ l.length) (h2 : l.length ≤ 2 * x + 1) : revTo l x = l.reverse := by
 apply List.ext_getElem?
 intro y
 by_cases h : y < l.length
 · rw [revTo_get h, List.getElem?_reverse h]
   have e : l.getD (l.length - 1 - y) ⟨0, 0⟩ = l[l.length - 1 - y]'(by omega) := by rw [List.getD_eq_getElem?_getD, List.getElem?_eq_getElem (by omega)]; rfl
   rw [List.getElem?_eq_getElem (by omega)]
   by_cases hc : y < x ∨ l.length - x ≤ y
   · rw [if_pos hc, e]
   · rw [if_neg hc, ← e]
     congr 2; omega
 · rw [List.getElem?_eq_none (by rw [revTo_len]; omega), List.getElem?_eq_none (by simp; omega)]
theorem revTo_step {l : List P2} {x m : Nat} (hm : m + x + 1 = l.length) (hx : x < m) {p q : P2} (hp : (revTo l x)[m]? = some p) (hq : (revTo l x)[x]? = some q) : ((revTo l x).set x p).set m q = revTo l (x + 1) := by
 rw [revTo_get (by omega), if_neg (by omega)] at hp
 rw [revTo_get (by omega), if_neg (by omega)] at hq
 injection hp with hp
 injection hq with hq
 apply List.ext_getElem?
 intro y
 by_cases h : y < l.length
 · rw [revTo_get h]
   by_cases hy : y = m
   · subst hy
     rw [List.getElem?_set_self (by simp [revTo_len]; omega), if_pos (by omega), ← hq]
     congr 2; omega
   · rw [List.getElem?_set_ne (fun e => hy e.symm)]
     by_cases hy2 : y = x
     · subst hy2
       rw [List.getElem?_set_self (by simp [revTo_len]; omega), if_pos (by omega), ← hp]
       congr 2; omega
     · rw [List.getElem?_set_ne (fun e => hy2 e.symm), revTo_get h]
       by_cases hc : y < x ∨ l.length - x ≤ y
       · rw [if_pos hc, if_pos (by omega)]
       · rw [if_neg hc, if_neg (by omega)]
 · rw [List.getElem?_eq_none (by simp [revTo_len]; omega), List.getElem?_eq_none (by rw [revTo_len]; omega)]
theorem flat2_get {l : List P2} {k : Nat} {p : P2} (h : l[k]? = some p) : (flat2 l)[k * 2]? = some (.int .i64 p.x) ∧ (flat2 l)[k * 2 + 1]? = some (.int .i64 p.y) := by
 induction l generalizing k with
 | nil => simp at h
 | cons q l ih =>
   have e : flat2 (q :: l) = [.int .i64 q.x, .int .i64 q.y] ++ flat2 l := rfl
   rw [e]
   cases k with
   | zero => obtain rfl : q = p := by simpa using h
             exact ⟨rfl, rfl⟩
   | succ k =>
     have := ih (k := k) (by simpa using h)
     rw [List.getElem?_append_right (by simp; omega), List.getElem?_append_right (by simp; omega)]
     rw [show (k + 1) * 2 - [Value.int .i64 q.x, Value.int .i64 q.y].length = k * 2 by simp; omega, show (k + 1) * 2 + 1 - [Value.int .i64 q.x, Value.int .i64 q.y].length = k * 2 + 1 by simp; omega]
     exact this
theorem flat2_set {l : List P2} {k : Nat} (p : P2) (h : k < l.length) : ((flat2 l).set (k * 2) (.int .i64 p.x)).set (k * 2 + 1) (.int .i64 p.y) = flat2 (l.set k p) := by
 induction l generalizing k with
 | nil => simp at h
 | cons q l ih =>
   have e : ∀ q (l : List P2), flat2 (q :: l) = .int .i64 q.x :: .int .i64 q.y :: flat2 l := fun q l => rfl
   cases k with
   | zero => rw [List.set_cons_zero, e, e]; rfl
   | succ k =>
     rw [List.set_cons_succ, e, e, ← ih (by simpa using h)]
     rw [show (k + 1) * 2 = k * 2 + 1 + 1 by omega, show k * 2 + 1 + 1 + 1 = (k * 2 + 1) + 1 + 1 by omega]
     rfl
end Go.Proofs.YtjjikhaaimfneaaGreatDoor
namespace Go.Proofs.YtjjikhaaimfneaaGreatDoor
open Go.RowKit
set_option linter.unusedSimpArgs false
set_option linter.unusedVariables false
attribute [local go_sem] iteMin iteMax iteMinN iteMaxN
theorem own2_at {w : World} {B n cap g k : Nat} {t : TypeId} {l : List P2} {p : P2} (h : w.ownsRow B t 2 (.slice (some ⟨g, 0, none⟩) n cap) n (flat2 l)) (hp : l[k]? = some p) : w.cell? ⟨g, k * 2, none⟩ = some (.int .i64 p.x) ∧ w.cell? ⟨g, k * 2 + 1, none⟩ = some (.int .i64 p.y) := by
 have h2 := flat2_get hp
 rcases h.2 with ⟨h', _⟩ | ⟨g', cap', cur, h', hb, hg, hnc, hcm, hcs, htake⟩
 · simp at h'
 · simp only [Value.slice.injEq, Option.some.injEq, Addr.mk.injEq, and_true, true_and] at h'
   obtain ⟨rfl, rfl⟩ := h'
   rw [← htake] at h2
   rw [List.getElem?_take, List.getElem?_take] at h2
   obtain ⟨h3, h4⟩ := h2
   split at h3
   · split at h4
     · constructor
       · simp [World.cell?, hg]; simpa using h3
       · simp [World.cell?, hg]; simpa using h4
     · cases h4
   · cases h3
set_option maxRecDepth 100000 in
set_option maxHeartbeats 4000000 in
theorem rev2 (g n cap B : Nat) (l : List P2) (w : World) (h : w.ownsRow B 47 2 (.slice (some ⟨g, 0, none⟩) n cap) n (flat2 l)) (hn : l.length = n) (hn3 : n ≤ 1000000) :
 Calls Tryz.prog 64 #[.slice (some ⟨g, 0, none⟩) n cap] w fun e w' => (∃ v, e = .returned v) ∧ w'.ownsRow B 47 2 (.slice (some ⟨g, 0, none⟩) n cap) n (flat2 l.reverse) ∧ Chg w w' (fun b => b = g) := by
 have hcap : n ≤ cap ∧ cap ≤ maxLen := by
  rcases h.2 with ⟨h', _⟩ | ⟨g', cap', cur, h', hb, hg, hnc, hcm, hcs, htake⟩
  · simp at h'
  · simp only [Value.slice.injEq, Option.some.injEq, Addr.mk.injEq, and_true, true_and] at h'
    obtain ⟨rfl, rfl⟩ := h'
    exact ⟨hnc, hcm⟩
 unfold maxLen at hcap
 have H := hide h
 have HN := hide hn
 clear h hn
 have n0 : (0 : Int) ≤ (n : Int) := Int.natCast_nonneg _
 go_enter Tryz.func64, Tryz.ntmps64
 go_wp2
 go_loopw [2, 3] (fun i j wr => ∃ (x : Nat) (y : Int), i = .int .i64 x ∧ j = .int .i64 y ∧ Hid (y = (n : Int) - 1 - x) ∧ 2 * x ≤ n ∧ Hid (wr.ownsRow B 47 2 (.slice (some ⟨g, 0, none⟩) n cap) n (flat2 (revTo l x))) ∧ Hid (Chg w wr (fun b => b = g))) (fun i _ _ => n - (intOf i).toNat)
 case atStart => exact ⟨0, _, rfl, rfl, hide (by omega), by omega, by rw [revTo_zero]; exact H, hide (Chg.refl _ _)⟩
 case round =>
  obtain ⟨x, y, rfl, rfl, hy, hx, hR, hC⟩ := hrel
  have x0 : (0 : Int) ≤ (x : Int) := Int.natCast_nonneg _
  by_cases hlt : (x : Int) < y
  · obtain ⟨m, rfl⟩ : ∃ m : Nat, y = (m : Int) := ⟨y.toNat, by omega⟩
    have hm : m + x + 1 = n := by have := hy.out; omega
    have hxm : x < m := by omega
    have hl : (revTo l x).length = n := by rw [revTo_len, HN.out]
    obtain ⟨p, hp⟩ : ∃ p, (revTo l x)[m]? = some p := ⟨_, List.getElem?_eq_getElem (by omega)⟩
    obtain ⟨q, hq⟩ : ∃ q, (revTo l x)[x]? = some q := ⟨_, List.getElem?_eq_getElem (by omega)⟩
    obtain ⟨c1, c2⟩ := own2_at hR.out hp
    obtain ⟨c3, c4⟩ := own2_at hR.out hq
    have f1 := hR.out.frozenAt (m * 2)
    have f2 := hR.out.frozenAt (m * 2 + 1)
    have f3 := hR.out.frozenAt (x * 2)
    have f4 := hR.out.frozenAt (x * 2 + 1)
    have m1 : (m : Int) < (n : Int) := by omega
    have x1 : (x : Int) < (n : Int) := by omega
    have HS := hide (revTo_step (by rw [HN.out]; exact hm) hxm hp hq)
    have HL := hide hl
    have m0 : (0 : Int) ≤ (m : Int) := Int.natCast_nonneg _
    have d1 : ¬ x * 2 = m * 2 := by omega
    have d2 : ¬ x * 2 = m * 2 + 1 := by omega
    have d3 : ¬ x * 2 + 1 = m * 2 := by omega
    have d4 : ¬ x * 2 + 1 = m * 2 + 1 := by omega
    have d5 : ¬ m * 2 = x * 2 := by omega
    have d6 : ¬ m * 2 = x * 2 + 1 := by omega
    have d7 : ¬ m * 2 + 1 = x * 2 := by omega
    have d8 : ¬ m * 2 + 1 = x * 2 + 1 := by omega
    have hm' := hide hm
    clear hp hq hl hy hm
    go_wp2
    go_region
    have hR1 := (((((hR.out.stored (x * 2) (.int .i64 p.x)).1.stored (x * 2 + 1) (.int .i64 p.y)).1.stored (m * 2) (.int .i64 q.x)).1.stored (m * 2 + 1) (.int .i64 q.y)).1)
    rw [flat2_set p (by rw [HL.out]; omega), flat2_set q (by rw [List.length_set, HL.out]; omega), HS.out] at hR1
    obtain ⟨Z, hZ⟩ : ∃ Z, Z = ((((wr.setCell ⟨g, x * 2, none⟩ (.int .i64 p.x)).setCell ⟨g, x * 2 + 1, none⟩ (.int .i64 p.y)).setCell ⟨g, m * 2, none⟩ (.int .i64 q.x)).setCell ⟨g, m * 2 + 1, none⟩ (.int .i64 q.y)).drew := ⟨_, rfl⟩
    have HR1 : Hid (Z.ownsRow B 47 2 (.slice (some ⟨g, 0, none⟩) n cap) n (flat2 (revTo l (x + 1)))) := by rw [hZ]; exact hR1
    have HC1 : Hid (Chg w Z (fun b => b = g)) := by
     rw [hZ]
     have h1 := (((hC.out.set (p := ⟨g, x * 2, none⟩) rfl (.int .i64 p.x)).set (p := ⟨g, x * 2 + 1, none⟩) rfl (.int .i64 p.y)).set (p := ⟨g, m * 2, none⟩) rfl (.int .i64 q.x)).set (p := ⟨g, m * 2 + 1, none⟩) rfl (.int .i64 q.y)
     exact ⟨h1.os, h1.tape, h1.output, h1.size, h1.block⟩
    rw [← hZ]
    have hY2 : Hid ((m : Int) - 1 = (n : Int) - 1 - ((x + 1 : Nat) : Int)) := hide (by have := hm'.out; omega)
    have hX2 : 2 * (x + 1) ≤ n := by have := hm'.out; omega
    clear hR1 hZ c1 c2 c3 c4 f1 f2 f3 f4 hR hC HS HL hm'
    go_wp2
    go_roundw
    case rel => exact ⟨x + 1, (m : Int) - 1, by go_num, rfl, hY2, hX2, HR1, HC1⟩
    case measure => (simp [intOf] <;> omega)
  · clear H
    go_wp2
    go_end0
    exact ⟨⟨_, rfl⟩, by rw [← revTo_done (x := x) (by rw [HN.out]; omega) (by rw [HN.out]; have := hy.out; omega)]; exact hR.out, hC.out⟩
set_option maxRecDepth 100000 in
theorem rev2_nil (w : World) : Calls Tryz.prog 64 #[.slice none 0 0] w fun e w' => (∃ v, e = .returned v) ∧ w' = w := by
 go_enter Tryz.func64, Tryz.ntmps64
 go_wp2
 refine wp_loop_rounds 1 ?_
 rw [rounds_succ]
 go_wp2
 go_end0
 exact ⟨⟨_, rfl⟩, rfl⟩
theorem rev2_any (v : Value) (n B : Nat) (l : List P2) (w : World) (h : w.ownsRow B 47 2 v n (flat2 l)) (hn : l.length = n) (hn3 : n ≤ 1000000) :
 Calls Tryz.prog 64 #[v] w fun e w' => (∃ x, e = .returned x) ∧ w'.ownsRow B 47 2 v n (flat2 l.reverse) ∧ Chg w w' (fun b => v.ownBlock = some b) := by
 rcases id h.2 with ⟨rfl, h0⟩ | ⟨g, cap, cur, rfl, _⟩
 · obtain rfl : l = [] := List.eq_nil_of_length_eq_zero (by omega)
   exact (rev2_nil w).mono fun e w' ⟨h1, h2⟩ => ⟨h1, by subst h2; exact h, by subst h2; exact Chg.refl _ _⟩
 · exact (rev2 g n cap B l w h hn hn3).mono fun e w' ⟨h1, h2, h3⟩ => ⟨h1, h2, h3.mono fun x hx => by subst hx; rfl⟩
end Go.Proofs.YtjjikhaaimfneaaGreatDoor
namespace Go.Proofs.YtjjikhaaimfneaaGreatDoor
open Go.RowKit
set_option linter.unusedSimpArgs false
set_option linter.unusedVariables false
attribute [local go_sem] iteMin iteMax iteMinN iteMaxN
theorem own1_at {w : World} {B n cap g k : Nat} {t : TypeId} {xs : List Int} {x : Int} (h : w.ownsRow B t 1 (.slice (some ⟨g, 0, none⟩) n cap) n (xs.map (Value.int .i64))) (hp : xs[k]? = some x) : w.cell? ⟨g, k, none⟩ = some (.int .i64 x) := by
 have hl := (List.getElem?_eq_some_iff.1 hp).1
 have h1 := h.1
 simp only [List.length_map, Nat.mul_one] at h1
 rw [h.cellAt k (by omega)]
 simp [hp]
theorem slice_some {w : World} {B n size : Nat} {e : TypeId} {v : Value} {xs : List Value} (h : w.ownsRow B e size v n xs) (hn : 0 < n) : ∃ g cap, v = .slice (some ⟨g, 0, none⟩) n cap ∧ n ≤ cap ∧ cap ≤ 9223372036854775807 ∧ B ≤ g ∧ g < w.heap.size := by
 rcases h.2 with ⟨_, h0⟩ | ⟨g', cap', cur, h', hb, hg, hnc, hcm, hcs, htake⟩
 · omega
 · unfold maxLen at hcm
   exact ⟨g', cap', h', hnc, hcm, hb, (Array.getElem?_eq_some_iff.1 hg).1⟩
theorem news2' (w : World) (vs : List Value) (t : TypeId) : ∀ (j : Nat) (u : Value), vs[j]? = some u → (w.alloc (.cells vs.toArray t)).cell? ((⟨w.heap.size, 0, none⟩ : Addr).add j) = some u := fun j u hj => by
 have e1 : (⟨w.heap.size, 0, none⟩ : Addr).add j = ⟨w.heap.size, j, none⟩ := by unfold Addr.add; split <;> simp_all
 rw [e1]; exact (Blk.new w vs t j u hj).1
def LdR (fr : List Int) (bys : List P2) (m BB : Nat) (w1 : World) (nv ov : Value) (wr : World) : Prop :=
 ∃ (k : Nat) (acc : List P2), nv = .int .i64 k ∧ k ≤ m ∧ acc.length + k ≤ m ∧ Hid (acc ++ wayB fr bys k k = wayB fr bys m m) ∧ Hid (wr.ownsRow BB 47 2 ov acc.length (flat2 acc)) ∧ Hid (Below BB w1 wr)
set_option maxRecDepth 100000 in
set_option maxHeartbeats 8000000 in
theorem lead_run (k0 k1 R Q : Int) (q : Nat) (n : Int) (w : World) (hk : kindsOk k0 k1) (hr : rangeOk R Q (q : Int)) :
 Calls Tryz.prog 41 #[.agg #[.int .i64 k0, .int .i64 k1, .int .i64 R, .int .i64 Q, .int .i64 (q : Int)], .int .i64 n] w fun e w' => LeadEnds k0 k1 R Q q n e w' ∧ Below w.heap.size w w' := by
 have HK := hide hk
 have HR := hide hr
 clear hk hr
 obtain ⟨i3, hi3, hy3, hz3, hu3⟩ := info_parts infoPair
 go_enter Tryz.func41, Tryz.ntmps41
 go_wp2_with fail
 refine (each_run 63 #[] TN lead1_tell k0 k1 R Q q _ (fun _ => False) (fun b hb => hb) HK.out HR.out).mono ?_
 rintro e w1 ⟨kk, hends, ⟨PB, MB, B, v1, v2, v3, F, hf, rfl, hE⟩ | ⟨hf, rfl, hc⟩⟩
 · have hok := sx_end HK.out HR.out hends
   have hone := hok.one
   have hmost := hok.most
   have HB1 : Hid (Below w.heap.size w w1) := hide (((Below.refl _ _).alloc (Nat.le_refl _) _).trans ((hE.chg.below).mono (by simp)))
   have hsp := hE.sp
   obtain ⟨ln, hln⟩ : ∃ ln, (rnds k0 k1 R Q q kk).states.length = ln := ⟨_, rfl⟩
   obtain ⟨g1, d1, e1, _, _, _, _⟩ := slice_some hsp.r1 (by omega)
   obtain ⟨g2, d2, e2, b2, b2', _, q2⟩ := slice_some hsp.r2 (by omega)
   obtain ⟨g3, d3, e3, b3, b3', _, q3⟩ := slice_some hsp.r3 (by omega)
   have p1 := hsp.c1
   have p2 := hsp.c2
   have p3 := hsp.c3
   have r2 := hsp.r2
   have r3 := hsp.r3
   rw [e1] at p1
   rw [e2] at p2 r2
   rw [e3] at p3 r3
   rw [hln] at p1 p2 p3 r2 r3 b2 b3 hone hmost
   have HN := hide hends
   have HF := hide hf
   have HOK := hide hok
   have HLN := hide hln
   have HR2 := hide r2
   have HR3 := hide r3
   have hPB : PB < w1.heap.size := hsp.lt
   clear hends hf hok hE hsp e1 e2 e3 hln r2 r3
   rcases (show n < 0 ∨ (0 ≤ n ∧ (ln : Int) ≤ n) ∨ (0 ≤ n ∧ n < (ln : Int)) by omega) with hn | ⟨hn, hn'⟩ | ⟨hn, hn'⟩
   · go_wp2
     go_ret2
     exact ⟨⟨kk, HN.out, .inr (.inl ⟨HF.out, .inl hn, rfl⟩)⟩, HB1.out⟩
   · go_wp2
     go_ret2
     exact ⟨⟨kk, HN.out, .inr (.inl ⟨HF.out, .inr (by rw [HLN.out]; exact hn'), rfl⟩)⟩, HB1.out⟩
   · obtain ⟨m, rfl⟩ : ∃ m : Nat, n = (m : Int) := ⟨n.toNat, by omega⟩
     have hm : m < ln := by omega
     obtain ⟨BB, hBB⟩ : ∃ BB, w1.heap.size = BB := ⟨_, rfl⟩
     go_wp2
     go_loopw [1, 8] (fun nv ov wr => LdR (rnds k0 k1 R Q q kk).fr (rnds k0 k1 R Q q kk).bys m BB w1 nv ov wr) (fun nv _ _ => (intOf nv).toNat)
     case atStart => exact ⟨m, [], rfl, Nat.le_refl _, by simp, hide rfl, hide ⟨by simp [flat2], .inl ⟨rfl, rfl⟩⟩, hide (Below.refl _ _)⟩
     case round =>
      obtain ⟨k, acc, rfl, hk, hak, hw, hrow, hbel⟩ := hrel
      have k0' : (0 : Int) ≤ (k : Int) := Int.natCast_nonneg _
      have kc : ∀ {b j : Nat} {v : Value}, b < BB → w1.cell? ⟨b, j, none⟩ = some v → wr.cell? ⟨b, j, none⟩ = some v := fun {b j v} hb h => (hbel.out.cell (p := ⟨b, j, none⟩) hb).trans h
      by_cases hlt : 0 < k
      · have hlt' : (0 : Int) < (k : Int) := by omega
        have hkl : (k : Int) < (ln : Int) := by omega
        obtain ⟨j, hj, hjk⟩ := HOK.out.back k hlt (by rw [HLN.out]; omega)
        obtain ⟨⟨px, py⟩, hp⟩ : ∃ p, (rnds k0 k1 R Q q kk).bys[k]? = some p := ⟨_, List.getElem?_eq_getElem (by rw [HOK.out.blen, HLN.out]; omega)⟩
        have HST := hide (wayB_step HOK.out.back hlt (by rw [HLN.out]; omega) hj hjk hp)
        have c2 := kc (by omega) (own1_at HR2.out hj)
        obtain ⟨c3, c4⟩ := own2_at HR3.out hp
        have c3 := kc (by omega) c3
        have c4 := kc (by omega) c4
        have p2' := kc (by omega) p2
        have p3' := kc (by omega) p3
        have hbs := hbel.out.size
        have o1 : ∀ b, b < BB → some b ≠ (u8 : Value).ownBlock := fun b hb e => by have := rows_lt hrow.out b e.symm; omega
        go_wp2_with (at_builtin; refine wpList_append_own _ rfl (.tmp 37) (.tmp 45) 50 rfl BB 47 i3 _ 2 16 Tryz.underlying50 hi3 hy3 hz3 hu3 rfl (by decide) u8 acc.length _ rfl (hrow.out.alloc (.cells #[.int .i64 px, .int .i64 py] 47)) _ 1 1 [.int .i64 px, .int .i64 py] rfl rfl (news2' _ _ _) (by simp [Value.oneCell']) (by unfold maxLen; omega) (by omega) (by first | omega | (simp; omega)) ?_; intro v' w2 hown' hgrow _; have hb2 : Below BB wr w2 := ((Below.refl BB wr).alloc (by omega) (.cells #[.int .i64 px, .int .i64 py] 47)).grown hgrow (by simp; omega) (fun q hq => by have := rows_lt hrow.out q hq; omega); have p2'' := (hb2.cell (p := ⟨PB, 2, none⟩) (by simp only; omega)).trans p2'; have c2'' := (hb2.cell (p := ⟨g2, k, none⟩) (by simp only; omega)).trans c2; have HOWN := hide hown'; have HB2 := hide hb2; clear hown' hb2 hgrow)
        go_roundw
        case rel => exact ⟨j, acc ++ [⟨px, py⟩], rfl, by omega, by simp; omega, hide (by rw [List.append_assoc, ← hw.out, HST.out]; rfl), hide (by rw [flat2_snoc, List.length_append]; exact HOWN.out), hide (hbel.out.trans HB2.out)⟩
        case measure => (simp [intOf] <;> omega)
      · obtain rfl : k = 0 := by omega
        have hw0 : Hid (acc = wayB (rnds k0 k1 R Q q kk).fr (rnds k0 k1 R Q q kk).bys m m) := hide (by have := hw.out; simpa [wayB] using this)
        go_wp2_with fail
        refine (rev2_any u8 acc.length BB acc wr hrow.out rfl (by omega)).mono ?_
        rintro e w2 ⟨⟨x, rfl⟩, hrv, hcv⟩
        have HRV := hide hrv
        have HCV : Hid (Below BB wr w2) := hide ⟨hcv.os, hcv.tape, hcv.output, hcv.size, fun b hb => hcv.block b (by have := hbel.out.size; omega) (fun e => by have := rows_lt hrow.out b e; omega)⟩
        clear hrv hcv
        go_wp2
        go_ret2
        exact ⟨⟨kk, HN.out, .inl ⟨HF.out, m, rfl, by rw [HLN.out]; exact hm, u8, BB, rfl, by rw [← hw0.out, List.length_reverse]; exact HRV.out⟩⟩, HB1.out.trans ((hbel.out.trans HCV.out).mono (by have := HB1.out.size; omega))⟩
 · have HN := hide hends
   have HF := hide hf
   have HC := hide hc
   clear hends hf hc
   go_wp2
   go_ret2
   exact ⟨⟨kk, HN.out, .inr (.inr ⟨HF.out, rfl⟩)⟩, ((Below.refl _ _).alloc (Nat.le_refl _) _).trans ((HC.out.below).mono (by simp))⟩
end Go.Proofs.YtjjikhaaimfneaaGreatDoor
namespace Go.Proofs.YtjjikhaaimfneaaGreatDoor
open Go.RowKit
set_option linter.unusedSimpArgs false
set_option linter.unusedVariables false
theorem flatS_get {sz : Nat} {L : List (List Int)} (h : ∀ t ∈ L, t.length = sz) : ∀ {k j : Nat} {s : List Int} {x : Int}, L[k]? = some s → s[j]? = some x → (flatS L)[k * sz + j]? = some (.int .i64 x) := by
 induction L with
 | nil => intro k j s x hk; simp at hk
 | cons t ss ih =>
   intro k j s x hk hj
   have ht : t.length = sz := h t (by simp)
   show (t.map (Value.int .i64) ++ flatS ss)[k * sz + j]? = _
   cases k with
   | zero =>
     obtain rfl : t = s := by simpa using hk
     have hl := (List.getElem?_eq_some_iff.1 hj).1
     rw [List.getElem?_append_left (by simp; omega)]
     simp [hj]
   | succ k =>
     have hm : (k + 1) * sz = k * sz + sz := Nat.succ_mul k sz
     rw [List.getElem?_append_right (by simp; omega), List.length_map, ht, show (k + 1) * sz + j - sz = k * sz + j by omega]
     exact ih (fun t ht => h t (by simp [ht])) (by simpa using hk) hj
end Go.Proofs.YtjjikhaaimfneaaGreatDoor
namespace Go.Proofs.YtjjikhaaimfneaaGreatDoor
open Go Go.RowKit
set_option linter.unusedSimpArgs false
set_option linter.unusedVariables false
section
variable {P : Program} {ops : Array Oper} {Q : Exit → Act → World → Prop} {md : Region.Mode} {F : World → Prop} {c : Nat}
theorem wpAnyG_appends1 {c1 : Ch} {w0 : World} {a0 : Act} {B : Nat} {L0 : Array Bool} {f fuel : Nat} (hfu : fuel = f + 2) (hchk : chk md ops (ixs [c1]) L0 = true) (hnd : (slots (ixs [c1])).Nodup) (hsl : ∀ d ∈ slots (ixs [c1]), d < a0.tmps.size)
 (hF : ∀ w, Frm w0 [c1] w → F w) (k1 : ChOk P ops a0 [c1] c1) (hB : B ≤ w0.heap.size) (r1 : w0.ownsRow B c1.e c1.size c1.v c1.n c1.xs)
 (he : ∀ (u1 : Value) (x1 : Option Addr) (m1 : Nat) (W : World), Frm w0 [c1] W → W.ownsRow B c1.e c1.size (.slice x1 (c1.n + 1) m1) (c1.n + 1) (c1.xs ++ c1.x) → ((Value.slice x1 (c1.n + 1) m1).ownBlock = c1.v.ownBlock ∨ ∃ g, (Value.slice x1 (c1.n + 1) m1).ownBlock = some g ∧ w0.heap.size ≤ g) →
  wpAnyG P md ops Q c F f ((L0.setIfInBounds c1.b true).setIfInBounds c1.p true) ((a0.put (some c1.db) u1).put (some c1.dp) (.slice x1 (c1.n + 1) m1)) W) :
 wpAnyG P md ops Q c F fuel L0 a0 w0 := by
 subst hfu
 have all1 : ∀ {C : Ch → Prop}, C c1 → ∀ (i : Nat) (d : Ch), [c1][i]? = some d → C d := fun {C} h0 i d h => by
  match i, h with
  | 0, h => obtain rfl : c1 = d := by simpa using h
            exact h0
  | i + 1, h => simp at h
 refine wpAnyG_appends (cs := [c1]) hchk hnd hsl hF (all1 k1) hB (all1 (C := fun d => w0.ownsRow B d.e d.size d.v d.n d.xs) r1) (fun i j d d' hij hd hd' => ?_) ?_
 · have h1 : i = 0 := by have := (List.getElem?_eq_some_iff.1 hd).1; simp at this; exact this
   have h2 : j = 0 := by have := (List.getElem?_eq_some_iff.1 hd').1; simp at this; exact this
   exact (hij (h1.trans h2.symm)).elim
 · intro vs W hvl hR
   obtain ⟨⟨u1, t1⟩, rfl⟩ : ∃ x, vs = [x] := by
    match vs, hvl with
    | [x], _ => exact ⟨x, rfl⟩
   have q1 := hR.row 0 _ 2 u1 t1 rfl rfl rfl
   simp only [cur, curN, curX, if_true] at q1
   obtain ⟨x1, m1, rfl⟩ := row_shape q1.1
   have h := he u1 x1 m1 W hR.frm q1.1 q1.2
   clear he
   simp [ixs, lst, puts, List.replicate_succ]
   exact h
end
end Go.Proofs.YtjjikhaaimfneaaGreatDoor
namespace Go.Proofs.YtjjikhaaimfneaaGreatDoor
open Go.RowKit
set_option linter.unusedSimpArgs false
set_option linter.unusedVariables false
theorem infoEdge : (Tryz.prog.info? 86).map (fun i => (i.zero, i.size, i.bytes)) = some (some (.agg #[.int .i64 0, .int .i64 0, .int .i64 0]), 3, 24) := by kernel_rfl
theorem laysEdge (x y z : Int) (w : World) : (Instr.buildSlice 55 1 #[(0, .agg #[.int .i64 x, .int .i64 y, .int .i64 z])]).run Tryz.prog w = .ok (.slice (some ⟨w.heap.size, 0, none⟩) 1 1) (w.alloc (.cells #[.int .i64 x, .int .i64 y, .int .i64 z] 86)) := by kernel_rfl
def wtE (who ratio : Int) (us : List Int) : Int := us.getD (2 + who.toNat) 0 - ratio * us.getD (2 + (1 - who).toNat) 0
def flatE (who ratio : Int) (es : List Edg) : List Value := es.flatMap fun E => [.int .i64 E.f, .int .i64 E.t, .int .i64 (wtE who ratio E.us)]
theorem flatE_snoc (who ratio : Int) (es : List Edg) (E : Edg) : flatE who ratio (es ++ [E]) = flatE who ratio es ++ [.int .i64 E.f, .int .i64 E.t, .int .i64 (wtE who ratio E.us)] := by simp [flatE]
structure GrAt (who ratio : Int) (GB HB QB : Nat) (v : Value) (es : List Edg) (w : World) : Prop where
 c0 : w.cell? ⟨GB, 0, none⟩ = some (.int .i64 0)
 c1 : w.cell? ⟨GB, 1, none⟩ = some v
 fz : ∀ j, w.frozen? ⟨GB, j, none⟩ = false
 h : w.cell? ⟨HB, 0, none⟩ = some (.int .i64 who)
 q : w.cell? ⟨QB, 0, none⟩ = some (.int .i64 ratio)
 row : w.ownsRow (GB + 1) 86 3 v es.length (flatE who ratio es)
 gh : HB < GB
 gq : QB < GB
def GFoot (GB HB QB : Nat) (v : Value) (b : Nat) : Prop := b = GB ∨ b = HB ∨ b = QB ∨ v.ownBlock = some b
def TG (who ratio : Int) (GB HB QB : Nat) (es : List Edg) (F : Nat → Prop) (w : World) : Prop := ∃ v, GrAt who ratio GB HB QB v es w ∧ F = GFoot GB HB QB v
theorem cell_cells {w : World} {a : Addr} {v : Value} (h : w.cell? a = some v) {o : Obj} (ho : w.heap[a.block]? = some o) : o.isCells = true := by
 unfold World.cell? at h
 rw [ho] at h
 cases o <;> first | rfl | (simp at h)
theorem GrAt.foot {who ratio : Int} {GB HB QB : Nat} {v : Value} {es : List Edg} {w : World} (g : GrAt who ratio GB HB QB v es w) {b : Nat} (hb : GFoot GB HB QB v b) : b < w.heap.size ∧ ∀ o, w.heap[b]? = some o → o.isCells = true := by
 rcases hb with rfl | rfl | rfl | hb
 · exact ⟨World.block_lt_of_cell? w _ g.c0, fun o ho => cell_cells g.c0 ho⟩
 · exact ⟨World.block_lt_of_cell? w _ g.h, fun o ho => cell_cells g.h ho⟩
 · exact ⟨World.block_lt_of_cell? w _ g.q, fun o ho => cell_cells g.q ho⟩
 · exact ⟨(rows_lt g.row b hb).2, fun o ho => own_cells g.row hb ho⟩
theorem GrAt.kept {who ratio : Int} {GB HB QB : Nat} {v : Value} {es : List Edg} {w w' : World} (g : GrAt who ratio GB HB QB v es w) (hk : ∀ b, GFoot GB HB QB v b → w'.heap[b]? = w.heap[b]?) : GrAt who ratio GB HB QB v es w' := by
 have kc : ∀ b j, GFoot GB HB QB v b → w'.cell? ⟨b, j, none⟩ = w.cell? ⟨b, j, none⟩ := fun b j hb => World.cell?_of_block (w := w) (a := ⟨b, j, none⟩) (hk b hb)
 exact ⟨(kc GB 0 (.inl rfl)).trans g.c0, (kc GB 1 (.inl rfl)).trans g.c1, fun j => (World.frozen?_of_block (w := w) (a := ⟨GB, j, none⟩) (hk GB (.inl rfl))).trans (g.fz j), (kc HB 0 (.inr (.inl rfl))).trans g.h, (kc QB 0 (.inr (.inr (.inl rfl)))).trans g.q,
  rows_kept g.row (fun b hb => hk b (.inr (.inr (.inr hb)))), g.gh, g.gq⟩
end Go.Proofs.YtjjikhaaimfneaaGreatDoor
