/-
  Lemmas and walks for the statement: StLeadP, Rev2P, Rev2.
-/
import Derived.Test.YtkmodnggncadeaaQ23
import Derived.Test.YtkmodnggncadeaaQ19
import Derived.Laws.OwnMore
import Derived.LoopN
namespace Go.Proofs.Ytkmodnggncadeaa
open Go.RowKit
set_option linter.unusedSimpArgs false
set_option linter.unusedVariables false
attribute [local go_sem] iteMin iteMax iteMinN iteMaxN
def wayB (fr : List Int) (bys : List P2) : Nat → Nat → List P2
 | 0, _ => []
 | f + 1, n => if n = 0 then [] else bys.getD n ⟨0, 0⟩ :: wayB fr bys f (fr.getD n 0).toNat
def BackOk (fr : List Int) (n : Nat) : Prop := ∀ i, 1 ≤ i → i < n → ∃ j : Nat, fr[i]? = some (j : Int) ∧ j < i
theorem wayB_fuel {fr : List Int} {bys : List P2} {N : Nat} (h : BackOk fr N) : ∀ f g n, n ≤ f → n ≤ g → n < N → wayB fr bys f n = wayB fr bys g n
 | 0, g, n, h1, _, _ => by
   obtain rfl : n = 0 := by omega
   cases g <;> simp [wayB]
 | f + 1, 0, n, _, h2, _ => by
   obtain rfl : n = 0 := by omega
   simp [wayB]
 | f + 1, g + 1, n, h1, h2, h3 => by
   simp only [wayB]
   by_cases hn : n = 0
   · rw [if_pos hn, if_pos hn]
   · rw [if_neg hn, if_neg hn]
     obtain ⟨j, hj, hjn⟩ := h n (by omega) h3
     have e : (fr.getD n 0).toNat = j := by rw [List.getD_eq_getElem?_getD, hj]; simp
     rw [e, wayB_fuel h f g j (by omega) (by omega) (by omega)]
theorem wayB_step {fr : List Int} {bys : List P2} {N n j : Nat} {p : P2} (h : BackOk fr N) (hn : 0 < n) (hN : n < N) (hj : fr[n]? = some (j : Int)) (hjn : j < n) (hp : bys[n]? = some p) : wayB fr bys n n = p :: wayB fr bys j j := by
 obtain ⟨f, rfl⟩ : ∃ f, n = f + 1 := ⟨n - 1, by omega⟩
 have e : (fr.getD (f + 1) 0).toNat = j := by rw [List.getD_eq_getElem?_getD, hj]; simp
 have e2 : bys.getD (f + 1) ⟨0, 0⟩ = p := by rw [List.getD_eq_getElem?_getD, hp]; rfl
 show (if f + 1 = 0 then [] else _) = _
 rw [if_neg (by omega), e, e2, wayB_fuel h f j j (by omega) (Nat.le_refl _) (by omega)]
theorem SxOk.back {G U : List Int → Prop} {B : Sx} (h : SxOk G U B) : BackOk B.fr B.states.length := fun i h1 h2 => by
 obtain ⟨e, E, _, _, h3, _, _, h4⟩ := h.born i h1 h2
 exact ⟨E.f, h3, h4⟩
def LeadEnds (k0 k1 R Q : Int) (q : Nat) (n : Int) (e : Ending) (w' : World) : Prop :=
 ∃ kk, SxEnds (step := stp k0 k1 R Q q) (startI k0 k1) (q + 1) kk ∧
  (((rnds k0 k1 R Q q kk).full = false ∧ ∃ m : Nat, n = m ∧ m < (rnds k0 k1 R Q q kk).states.length ∧ ∃ v B, e = .returned (.tuple #[v, .int .i64 0]) ∧ w'.ownsRow B 22 2 v (wayB (rnds k0 k1 R Q q kk).fr (rnds k0 k1 R Q q kk).bys m m).reverse.length (flat2 (wayB (rnds k0 k1 R Q q kk).fr (rnds k0 k1 R Q q kk).bys m m).reverse)) ∨
   ((rnds k0 k1 R Q q kk).full = false ∧ (n < 0 ∨ ((rnds k0 k1 R Q q kk).states.length : Int) ≤ n) ∧ e = .returned (.tuple #[.slice none 0 0, .int .i64 3])) ∨
   ((rnds k0 k1 R Q q kk).full = true ∧ e = .returned (.tuple #[.slice none 0 0, .int .i64 4])))
set_option maxRecDepth 100000 in
set_option maxHeartbeats 4000000 in
theorem lead_wrong (k0 k1 R Q J n r : Int) (w : World) (hw : WrongSays k0 k1 R Q J r) (h0 : r ≠ 0) :
 Calls Try.prog 18 #[.agg #[.int .i64 k0, .int .i64 k1, .int .i64 R, .int .i64 Q, .int .i64 J], .int .i64 n] w fun e w' => e = .returned (.tuple #[.slice none 0 0, .int .i64 r]) ∧ Below w.heap.size w w' := by
 have h0' : ((r : Int) != 0) = true := by simpa using h0
 have HW := hide hw
 have H0 := hide h0
 clear hw h0
 go_enter Try.func18, Try.ntmps18
 go_wp2_with fail
 refine (each_wrong _ _ k0 k1 R Q J r _ HW.out H0.out).mono ?_
 rintro e w1 ⟨rfl, hA⟩
 have HA := hide hA
 clear hA
 go_wp2
 go_ret2
 exact ⟨rfl, ((Below.refl _ _).alloc (Nat.le_refl _) _).trans (HA.out.mono (by simp))⟩
theorem sx_end {k0 k1 R Q : Int} {q kk : Nat} (hk : kindsOk k0 k1) (hr : rangeOk R Q (q : Int)) (h : SxEnds (step := stp k0 k1 R Q q) (startI k0 k1) (q + 1) kk) : SxOk (GG k0 k1 R Q q) UU (rnds k0 k1 R Q q kk) := by
 have key : ∀ j, j ≤ kk → SxOk (GG k0 k1 R Q q) UU (rnds k0 k1 R Q q j) := by
  intro j
  induction j with
  | zero => intro _; exact start_good hk hr
  | succ j ih =>
    intro hj
    have h1 := ih (by omega)
    have h2 := (h.1 j (by omega)).2
    rw [rnds_succ]
    refine h1.walk h2 (fun l hl s hs => ?_)
    refine stp_good ?_ hs
    simp only [latesP, List.mem_map, List.mem_range] at hl
    obtain ⟨e, he, rfl⟩ := hl
    have h3 : e / (q + 1) < q + 1 := (Nat.div_lt_iff_lt_mul (Nat.succ_pos q)).2 he
    have h4 : e % (q + 1) < q + 1 := Nat.mod_lt e (Nat.succ_pos q)
    generalize e / (q + 1) = a at *
    generalize e % (q + 1) = b at *
    dsimp only
    omega
 exact key kk (Nat.le_refl _)
end Go.Proofs.Ytkmodnggncadeaa
namespace Go.Proofs.Ytkmodnggncadeaa
open Go.RowKit
set_option linter.unusedSimpArgs false
set_option linter.unusedVariables false
def revTo (l : List P2) (x : Nat) : List P2 := (List.range l.length).map fun y => if y < x ∨ l.length - x ≤ y then l.getD (l.length - 1 - y) ⟨0, 0⟩ else l.getD y ⟨0, 0⟩
theorem revTo_len (l : List P2) (x : Nat) : (revTo l x).length = l.length := by simp [revTo]
theorem revTo_get {l : List P2} {x y : Nat} (h : y < l.length) : (revTo l x)[y]? = some (if y < x ∨ l.length - x ≤ y then l.getD (l.length - 1 - y) ⟨0, 0⟩ else l.getD y ⟨0, 0⟩) := by
 simp [revTo, h]
theorem revTo_zero (l : List P2) : revTo l 0 = l := by
 apply List.ext_getElem?
 intro y
 by_cases h : y < l.length
 · rw [revTo_get h, if_neg (by omega), List.getD_eq_getElem?_getD, List.getElem?_eq_getElem h]; rfl
 · rw [List.getElem?_eq_none (by rw [revTo_len]; omega), List.getElem?_eq_none (by omega)]
theorem revTo_done {l : List P2} {x : Nat} (h1 : 2 * x ≤ l.length) (h2 : l.length ≤ 2 * x + 1) : revTo l x = l.reverse := by
 apply List.ext_getElem?
 intro y
 by_cases h : y < l.length
 · rw [revTo_get h, List.getElem?_reverse h]
   have e : l.getD (l.length - 1 - y) ⟨0, 0⟩ = l[l.length - 1 - y]'(by omega) := by rw [List.getD_eq_getElem?_getD, List.getElem?_eq_getElem (by omega)]; rfl
   rw [List.getElem?_eq_getElem (by omega)]
   by_cases hc : y < x ∨ l.length - x ≤ y
   · rw [if_pos hc, e]
   · rw [if_neg hc, ← e]
     congr 2; omega
 · rw [List.getElem?_eq_none (by rw [revTo_len]; omega), List.getElem?_eq_none (by simp; omega)]
theorem revTo_step {l : List P2} {x m : Nat} (hm : m + x + 1 = l.length) (hx : x < m) {p q : P2} (hp : (revTo l x)[m]? = some p) (hq : (revTo l x)[x]? = some q) : ((revTo l x).set x p).set m q = revTo l (x + 1) := by
 rw [revTo_get (by omega), if_neg (by omega)] at hp
 rw [revTo_get (by omega), if_neg (by omega)] at hq
 injection hp with hp
 injection hq with hq
 apply List.ext_getElem?
 intro y
 by_cases h : y < l.length
 · rw [revTo_get h]
   by_cases hy : y = m
   · subst hy
     rw [List.getElem?_set_self (by simp [revTo_len]; omega), if_pos (by omega), ← hq]
     congr 2; omega
   · rw [List.getElem?_set_ne (fun e => hy e.symm)]
     by_cases hy2 : y = x
     · subst hy2
       rw [List.getElem?_set_self (by simp [revTo_len]; omega), if_pos (by omega), ← hp]
       congr 2; omega
     · rw [List.getElem?_set_ne (fun e => hy2 e.symm), revTo_get h]
       by_cases hc : y < x ∨ l.length - x ≤ y
       · rw [if_pos hc, if_pos (by omega)]
       · rw [if_neg hc, if_neg (by omega)]
 · rw [List.getElem?_eq_none (by simp [revTo_len]; omega), List.getElem?_eq_none (by rw [revTo_len]; omega)]
theorem flat2_len (l : List P2) : (flat2 l).length = l.length * 2 := by
 induction l with
 | nil => rfl
 | cons p l ih => show ([_, _] ++ flat2 l).length = _; simp [ih]; omega
theorem flat2_get {l : List P2} {k : Nat} {p : P2} (h : l[k]? = some p) : (flat2 l)[k * 2]? = some (.int .i64 p.x) ∧ (flat2 l)[k * 2 + 1]? = some (.int .i64 p.y) := by
 induction l generalizing k with
 | nil => simp at h
 | cons q l ih =>
   have e : flat2 (q :: l) = [.int .i64 q.x, .int .i64 q.y] ++ flat2 l := rfl
   rw [e]
   cases k with
   | zero => obtain rfl : q = p := by simpa using h
             exact ⟨rfl, rfl⟩
   | succ k =>
     have := ih (k := k) (by simpa using h)
     rw [List.getElem?_append_right (by simp; omega), List.getElem?_append_right (by simp; omega)]
     rw [show (k + 1) * 2 - [Value.int .i64 q.x, Value.int .i64 q.y].length = k * 2 by simp; omega, show (k + 1) * 2 + 1 - [Value.int .i64 q.x, Value.int .i64 q.y].length = k * 2 + 1 by simp; omega]
     exact this
theorem flat2_set {l : List P2} {k : Nat} (p : P2) (h : k < l.length) : ((flat2 l).set (k * 2) (.int .i64 p.x)).set (k * 2 + 1) (.int .i64 p.y) = flat2 (l.set k p) := by
 induction l generalizing k with
 | nil => simp at h
 | cons q l ih =>
   have e : ∀ q (l : List P2), flat2 (q :: l) = .int .i64 q.x :: .int .i64 q.y :: flat2 l := fun q l => rfl
   cases k with
   | zero => rw [List.set_cons_zero, e, e]; rfl
   | succ k =>
     rw [List.set_cons_succ, e, e, ← ih (by simpa using h)]
     rw [show (k + 1) * 2 = k * 2 + 1 + 1 by omega, show k * 2 + 1 + 1 + 1 = (k * 2 + 1) + 1 + 1 by omega]
     rfl
end Go.Proofs.Ytkmodnggncadeaa
namespace Go.Proofs.Ytkmodnggncadeaa
open Go.RowKit
set_option linter.unusedSimpArgs false
set_option linter.unusedVariables false
attribute [local go_sem] iteMin iteMax iteMinN iteMaxN
theorem own2_at {w : World} {B n cap g k : Nat} {t : TypeId} {l : List P2} {p : P2} (h : w.ownsRow B t 2 (.slice (some ⟨g, 0, none⟩) n cap) n (flat2 l)) (hp : l[k]? = some p) : w.cell? ⟨g, k * 2, none⟩ = some (.int .i64 p.x) ∧ w.cell? ⟨g, k * 2 + 1, none⟩ = some (.int .i64 p.y) := by
 have h2 := flat2_get hp
 rcases h.2 with ⟨h', _⟩ | ⟨g', cap', cur, h', hb, hg, hnc, hcm, hcs, htake⟩
 · simp at h'
 · simp only [Value.slice.injEq, Option.some.injEq, Addr.mk.injEq, and_true, true_and] at h'
   obtain ⟨rfl, rfl⟩ := h'
   rw [← htake] at h2
   rw [List.getElem?_take, List.getElem?_take] at h2
   obtain ⟨h3, h4⟩ := h2
   split at h3
   · split at h4
     · constructor
       · simp [World.cell?, hg]; simpa using h3
       · simp [World.cell?, hg]; simpa using h4
     · cases h4
   · cases h3
set_option maxRecDepth 100000 in
set_option maxHeartbeats 4000000 in
theorem rev2 (g n cap B : Nat) (l : List P2) (w : World) (h : w.ownsRow B 22 2 (.slice (some ⟨g, 0, none⟩) n cap) n (flat2 l)) (hn : l.length = n) (hn3 : n ≤ 1000000) :
 Calls Try.prog 30 #[.slice (some ⟨g, 0, none⟩) n cap] w fun e w' => (∃ v, e = .returned v) ∧ w'.ownsRow B 22 2 (.slice (some ⟨g, 0, none⟩) n cap) n (flat2 l.reverse) ∧ Chg w w' (fun b => b = g) := by
 have hcap : n ≤ cap ∧ cap ≤ maxLen := by
  rcases h.2 with ⟨h', _⟩ | ⟨g', cap', cur, h', hb, hg, hnc, hcm, hcs, htake⟩
  · simp at h'
  · simp only [Value.slice.injEq, Option.some.injEq, Addr.mk.injEq, and_true, true_and] at h'
    obtain ⟨rfl, rfl⟩ := h'
    exact ⟨hnc, hcm⟩
 unfold maxLen at hcap
 have H := hide h
 have HN := hide hn
 clear h hn
 have n0 : (0 : Int) ≤ (n : Int) := Int.natCast_nonneg _
 go_enter Try.func30, Try.ntmps30
 go_wp2
 go_loopw [2, 3] (fun i j wr => ∃ (x : Nat) (y : Int), i = .int .i64 x ∧ j = .int .i64 y ∧ Hid (y = (n : Int) - 1 - x) ∧ 2 * x ≤ n ∧ Hid (wr.ownsRow B 22 2 (.slice (some ⟨g, 0, none⟩) n cap) n (flat2 (revTo l x))) ∧ Hid (Chg w wr (fun b => b = g))) (fun i _ _ => n - (intOf i).toNat)
 case atStart => exact ⟨0, _, rfl, rfl, hide (by omega), by omega, by rw [revTo_zero]; exact H, hide (Chg.refl _ _)⟩
 case round =>
  obtain ⟨x, y, rfl, rfl, hy, hx, hR, hC⟩ := hrel
  have x0 : (0 : Int) ≤ (x : Int) := Int.natCast_nonneg _
  by_cases hlt : (x : Int) < y
  · obtain ⟨m, rfl⟩ : ∃ m : Nat, y = (m : Int) := ⟨y.toNat, by omega⟩
    have hm : m + x + 1 = n := by have := hy.out; omega
    have hxm : x < m := by omega
    have hl : (revTo l x).length = n := by rw [revTo_len, HN.out]
    obtain ⟨p, hp⟩ : ∃ p, (revTo l x)[m]? = some p := ⟨_, List.getElem?_eq_getElem (by omega)⟩
    obtain ⟨q, hq⟩ : ∃ q, (revTo l x)[x]? = some q := ⟨_, List.getElem?_eq_getElem (by omega)⟩
    obtain ⟨c1, c2⟩ := own2_at hR.out hp
    obtain ⟨c3, c4⟩ := own2_at hR.out hq
    have f1 := hR.out.frozenAt (m * 2)
    have f2 := hR.out.frozenAt (m * 2 + 1)
    have f3 := hR.out.frozenAt (x * 2)
    have f4 := hR.out.frozenAt (x * 2 + 1)
    have m1 : (m : Int) < (n : Int) := by omega
    have x1 : (x : Int) < (n : Int) := by omega
    have HS := hide (revTo_step (by rw [HN.out]; exact hm) hxm hp hq)
    have HL := hide hl
    have m0 : (0 : Int) ≤ (m : Int) := Int.natCast_nonneg _
    have d1 : ¬ x * 2 = m * 2 := by omega
    have d2 : ¬ x * 2 = m * 2 + 1 := by omega
    have d3 : ¬ x * 2 + 1 = m * 2 := by omega
    have d4 : ¬ x * 2 + 1 = m * 2 + 1 := by omega
    have d5 : ¬ m * 2 = x * 2 := by omega
    have d6 : ¬ m * 2 = x * 2 + 1 := by omega
    have d7 : ¬ m * 2 + 1 = x * 2 := by omega
    have d8 : ¬ m * 2 + 1 = x * 2 + 1 := by omega
    have hm' := hide hm
    clear hp hq hl hy hm
    go_wp2
    go_region
    have hR1 := (((((hR.out.stored (x * 2) (.int .i64 p.x)).1.stored (x * 2 + 1) (.int .i64 p.y)).1.stored (m * 2) (.int .i64 q.x)).1.stored (m * 2 + 1) (.int .i64 q.y)).1)
    rw [flat2_set p (by rw [HL.out]; omega), flat2_set q (by rw [List.length_set, HL.out]; omega), HS.out] at hR1
    obtain ⟨Z, hZ⟩ : ∃ Z, Z = ((((wr.setCell ⟨g, x * 2, none⟩ (.int .i64 p.x)).setCell ⟨g, x * 2 + 1, none⟩ (.int .i64 p.y)).setCell ⟨g, m * 2, none⟩ (.int .i64 q.x)).setCell ⟨g, m * 2 + 1, none⟩ (.int .i64 q.y)).drew := ⟨_, rfl⟩
    have HR1 : Hid (Z.ownsRow B 22 2 (.slice (some ⟨g, 0, none⟩) n cap) n (flat2 (revTo l (x + 1)))) := by rw [hZ]; exact hR1
    have HC1 : Hid (Chg w Z (fun b => b = g)) := by
     rw [hZ]
     have h1 := (((hC.out.set (p := ⟨g, x * 2, none⟩) rfl (.int .i64 p.x)).set (p := ⟨g, x * 2 + 1, none⟩) rfl (.int .i64 p.y)).set (p := ⟨g, m * 2, none⟩) rfl (.int .i64 q.x)).set (p := ⟨g, m * 2 + 1, none⟩) rfl (.int .i64 q.y)
     exact ⟨h1.os, h1.tape, h1.output, h1.size, h1.block⟩
    rw [← hZ]
    have hY2 : Hid ((m : Int) - 1 = (n : Int) - 1 - ((x + 1 : Nat) : Int)) := hide (by have := hm'.out; omega)
    have hX2 : 2 * (x + 1) ≤ n := by have := hm'.out; omega
    clear hR1 hZ c1 c2 c3 c4 f1 f2 f3 f4 hR hC HS HL hm'
    go_wp2
    go_roundw
    case rel => exact ⟨x + 1, (m : Int) - 1, by go_num, rfl, hY2, hX2, HR1, HC1⟩
    case measure => (simp [intOf] <;> omega)
  · clear H
    go_wp2
    go_end0
    exact ⟨⟨_, rfl⟩, by rw [← revTo_done (x := x) (by rw [HN.out]; omega) (by rw [HN.out]; have := hy.out; omega)]; exact hR.out, hC.out⟩
set_option maxRecDepth 100000 in
theorem rev2_nil (w : World) : Calls Try.prog 30 #[.slice none 0 0] w fun e w' => (∃ v, e = .returned v) ∧ w' = w := by
 go_enter Try.func30, Try.ntmps30
 go_wp2
 refine wp_loop_rounds 1 ?_
 rw [rounds_succ]
 go_wp2
 go_end0
 exact ⟨⟨_, rfl⟩, rfl⟩
theorem rev2_any (v : Value) (n B : Nat) (l : List P2) (w : World) (h : w.ownsRow B 22 2 v n (flat2 l)) (hn : l.length = n) (hn3 : n ≤ 1000000) :
 Calls Try.prog 30 #[v] w fun e w' => (∃ x, e = .returned x) ∧ w'.ownsRow B 22 2 v n (flat2 l.reverse) ∧ Chg w w' (fun b => v.ownBlock = some b) := by
 rcases id h.2 with ⟨rfl, h0⟩ | ⟨g, cap, cur, rfl, _⟩
 · obtain rfl : l = [] := List.eq_nil_of_length_eq_zero (by omega)
   exact (rev2_nil w).mono fun e w' ⟨h1, h2⟩ => ⟨h1, by subst h2; exact h, by subst h2; exact Chg.refl _ _⟩
 · exact (rev2 g n cap B l w h hn hn3).mono fun e w' ⟨h1, h2, h3⟩ => ⟨h1, h2, h3.mono fun x hx => by subst hx; rfl⟩
end Go.Proofs.Ytkmodnggncadeaa
