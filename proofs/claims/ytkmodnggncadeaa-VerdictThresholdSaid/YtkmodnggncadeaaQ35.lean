/-
  Lemmas and walks for the statement: VJudP, VMax, Most.
-/
import Derived.Test.YtkmodnggncadeaaQ31
import Derived.Test.YtkmodnggncadeaaQ34
import Derived.Test.YtkmodnggncadeaaQ01
import Derived.Test.YtkmodnggncadeaaQ09
import Derived.Test.YtkmodnggncadeaaProg
import Derived.Test.YtkmodnggncadeaaQ33
namespace Go.Proofs.Ytkmodnggncadeaa
open Go.RowKit
set_option linter.unusedSimpArgs false
set_option linter.unusedVariables false
theorem srch_one {k0 k1 R Q J r r' : Int} {X X' : Sx} (h : Srch k0 k1 R Q J r X) (h' : Srch k0 k1 R Q J r' X') : r = r' ∧ (r = 0 → X = X') := by
 rcases h with ⟨h0, _, hw, hn⟩ | ⟨q, kk, rfl, hk, hr, hE, ho⟩ <;> rcases h' with ⟨h0', _, hw', hn'⟩ | ⟨q', kk', e', hk', hr', hE', ho'⟩
 · exact ⟨wrongSays_one hw hw', fun e => absurd e h0⟩
 · subst e'; exact absurd ⟨hk', hr'⟩ hn
 · exact absurd ⟨hk, hr⟩ hn'
 · obtain rfl : q = q' := by omega
   obtain rfl := hE.one hE'
   rcases ho with ⟨hf, rfl⟩ | ⟨hf, rfl, rfl⟩ <;> rcases ho' with ⟨hf', rfl⟩ | ⟨hf', rfl, rfl⟩
   · exact ⟨rfl, fun e => by cases e⟩
   · rw [hf] at hf'; cases hf'
   · rw [hf] at hf'; cases hf'
   · exact ⟨rfl, fun _ => rfl⟩
def VSays (k0 k1 R Q J who ratio kind most err : Int) : Prop :=
 (¬ goodArgs who ratio ∧ kind = 0 ∧ most = 0 ∧ err = 2) ∨
 (goodArgs who ratio ∧ ∃ r X, Srch k0 k1 R Q J r X ∧ ((r ≠ 0 ∧ kind = 0 ∧ most = 0 ∧ err = r) ∨
  (r = 0 ∧ err = 0 ∧ ((HasPot (geOf X who ratio) ∧ kind = 1 ∧ most = mostOf X.states.length (geOf X who ratio)) ∨ (¬ HasPot (geOf X who ratio) ∧ kind = 2 ∧ most = 0)))))
theorem vsays_one {k0 k1 R Q J who ratio kind most err kind' most' err' : Int} (h : VSays k0 k1 R Q J who ratio kind most err) (h' : VSays k0 k1 R Q J who ratio kind' most' err') : kind = kind' ∧ most = most' ∧ err = err' := by
 rcases h with ⟨hg, rfl, rfl, rfl⟩ | ⟨hg, r, X, hs, ho⟩ <;> rcases h' with ⟨hg', rfl, rfl, rfl⟩ | ⟨hg', r', X', hs', ho'⟩
 · exact ⟨rfl, rfl, rfl⟩
 · exact absurd hg' hg
 · exact absurd hg hg'
 · obtain ⟨rfl, hX⟩ := srch_one hs hs'
   rcases ho with ⟨h0, rfl, rfl, rfl⟩ | ⟨rfl, rfl, hp⟩ <;> rcases ho' with ⟨h0', rfl, rfl, rfl⟩ | ⟨h0', rfl, hp'⟩
   · exact ⟨rfl, rfl, rfl⟩
   · exact absurd h0' h0
   · exact absurd rfl h0'
   · obtain rfl := hX rfl
     rcases hp with ⟨hp, rfl, rfl⟩ | ⟨hp, rfl, rfl⟩ <;> rcases hp' with ⟨hp', rfl, rfl⟩ | ⟨hp', rfl, rfl⟩
     · exact ⟨rfl, rfl, rfl⟩
     · exact absurd hp hp'
     · exact absurd hp' hp
     · exact ⟨rfl, rfl, rfl⟩
structure VWay (k0 k1 R Q J who ratio : Int) (w' : World) (lv rv : Value) (ld rd : List P2) : Prop where
 way : ∃ (X : Sx) (q : Nat) (ns : List Int) (m B B' : Nat) (f : GE) (c : Nat), J = q ∧ goodArgs who ratio ∧ Srch k0 k1 R Q J 0 X ∧ CycSays X.states.length (geOf X who ratio) ns ∧ ns[0]? = some (c : Int) ∧ (geOf X who ratio)[c]? = some f ∧ f.src = (m : Int) ∧ m < X.states.length ∧
  ld = (wayB X.fr X.bys m m).reverse ∧ rd = ns.map (fun n => lateF (q + 1) n.toNat) ∧ w'.ownsRow B 22 2 lv ld.length (flat2 ld) ∧ w'.ownsRow B' 22 2 rv rd.length (flat2 rd)
def JEnds (k0 k1 R Q J who ratio : Int) (e : Ending) (w' : World) : Prop :=
 ∃ kind most err lv rv, e = .returned (.tuple #[.agg #[.int .i64 kind, .int .i64 most, lv, rv], .int .i64 err]) ∧ VSays k0 k1 R Q J who ratio kind most err ∧
  ((kind ≠ 2 ∧ lv = .slice none 0 0 ∧ rv = .slice none 0 0) ∨ (kind = 2 ∧ ∃ ld rd, VWay k0 k1 R Q J who ratio w' lv rv ld rd))
end Go.Proofs.Ytkmodnggncadeaa
namespace Go.Proofs.Ytkmodnggncadeaa
open Go.RowKit
set_option linter.unusedSimpArgs false
set_option linter.unusedVariables false
attribute [local go_sem] iteMin iteMax iteMinN iteMaxN
theorem fold_take {xs : List Int} {k : Nat} {x : Int} (h : xs[k]? = some x) : (xs.take (k + 1)).foldl max 0 = max ((xs.take k).foldl max 0) x := by
 rw [List.take_add_one, h]; simp [List.foldl_append]
set_option maxHeartbeats 2000000 in
theorem smax_any (a : Option Addr) (n c : Nat) (xs : List Int) (w : World) (h : IntsAt w a n c xs) (h0 : 0 < n) (hx : ∀ x ∈ xs, 0 ≤ x) :
 Calls Try.prog 16 #[.slice a n c] w fun e w' => e = .returned (.int .i64 (xs.foldl max 0)) ∧ w = w' := by
 have HL := hide h.len
 have hlim := h.lim
 obtain ⟨ad0, x0, rfl, hb0, hc0, HX0⟩ := h.get0 (Below.refl _ _) h0
 have n0 : (0 : Int) < (n : Int) := by omega
 have n1 : ¬ ((n : Int) < 1) := by omega
 have HS := hide (show x0 = (xs.take 1).foldl max 0 by
  rw [fold_take (k := 0) HX0.out]
  have := hx x0 (List.mem_of_getElem? HX0.out)
  simp; omega)
 go_enter Try.func16, Try.ntmps16
 go_wp2
 clear hc0 HX0
 go_loop [3, 4] (fun m i => ∃ k : Nat, 1 ≤ k ∧ k ≤ n ∧ i = .int .i64 k ∧ m = .int .i64 ((xs.take k).foldl max 0)) (fun _ i => n - (intOf i).toNat)
 case atStart => exact ⟨1, Nat.le_refl _, h0, rfl, by rw [HS.out]⟩
 case round =>
  obtain ⟨k, hk1, hk, rfl, rfl⟩ := hrel
  have k0 : (0 : Int) ≤ (k : Int) := Int.natCast_nonneg _
  by_cases hlt : k < n
  · obtain ⟨ad, x, e, hbd, hc, HX⟩ := h.getB (Below.refl _ _) hlt
    injection e with e
    subst e
    have k1 : (k : Int) < (n : Int) := by omega
    have HE := hide (fold_take HX.out)
    obtain ⟨M, hM⟩ : ∃ M, (xs.take k).foldl max 0 = M := ⟨_, rfl⟩
    rw [hM] at HE ⊢
    clear h hM HX
    go_wp2
    go_round
    case rel => exact ⟨k + 1, by omega, by omega, by go_num, by rw [HE.out]⟩
    case measure => simp [intOf]; omega
  · have HF := hide (show xs.foldl max 0 = (xs.take k).foldl max 0 by rw [List.take_of_length_le (by rw [HL.out]; omega)])
    obtain ⟨M, hM⟩ : ∃ M, (xs.take k).foldl max 0 = M := ⟨_, rfl⟩
    rw [hM] at HF ⊢
    clear h hM
    go_wp2
    go_ret
    exact ⟨by rw [HF.out]; rfl, rfl⟩
end Go.Proofs.Ytkmodnggncadeaa
namespace Go.Proofs.Ytkmodnggncadeaa
open Go.RowKit
set_option linter.unusedSimpArgs false
set_option linter.unusedVariables false
attribute [local go_sem] iteMin iteMax iteMinN iteMaxN
theorem IntsAt.eqv {w : World} {a : Option Addr} {n c : Nat} {xs ys : List Int} (h : IntsAt w a n c xs) (e : xs = ys) : IntsAt w a n c ys := e ▸ h
def MostEnds (N : Int) (es : List GE) (e : Ending) (w' : World) : Prop :=
 (¬ GraphOk N es ∧ e = .returned (.tuple #[.slice none 0 0, .int .i64 2])) ∨
 (GraphOk N es ∧ HasPot es ∧ ∃ b d, e = .returned (.tuple #[.slice b N.toNat d, .int .i64 0]) ∧ IntsAt w' b N.toNat d (tabI N.toNat (siter (pes es) N.toNat))) ∨
 (GraphOk N es ∧ ¬ HasPot es ∧ e = .returned (.tuple #[.slice none 0 0, .int .i64 3]))
set_option maxRecDepth 100000 in
theorem most_bad (N : Int) (a : Option Addr) (n c : Nat) (es : List GE) (w : World) (h : EdgesAt w a n c es) (hg : ¬ GraphOk N es) :
 Calls Try.prog 15 #[.agg #[.int .i64 N, .slice a n c]] w fun e w' => MostEnds N es e w' ∧ Below w.heap.size w w' := by
 have HG := hide hg
 have hE := h.below ((Below.refl w.heap.size w).alloc (Nat.le_refl _) (.cells #[.int .i64 N, .slice a n c] 56))
 clear hg h
 go_enter Try.func15, Try.ntmps15
 go_wp2_with fail
 refine (wrong_any _ _ _ _ _ _ hE).mono ?_
 rintro e w1 ⟨⟨r, hr, rfl⟩, B1⟩
 obtain rfl : r = 2 := by rcases hr with ⟨_, h2⟩ | ⟨h1, _⟩; exact absurd h2 HG.out; exact h1
 clear hr hE
 go_wp2
 go_ret2
 exact ⟨.inl ⟨HG.out, rfl⟩, ((Below.refl _ _).alloc (Nat.le_refl _) _).trans (B1.mono (by simp))⟩
set_option maxRecDepth 100000 in
set_option maxHeartbeats 4000000 in
theorem most_ok (N : Nat) (a : Option Addr) (n c : Nat) (es : List GE) (w : World) (h : EdgesAt w a n c es) (hg : GraphOk (N : Int) es) :
 Calls Try.prog 15 #[.agg #[.int .i64 N, .slice a n c]] w fun e w' => MostEnds N es e w' ∧ Below w.heap.size w w' := by
 have HG := hide hg
 have hN : N ≤ 300 := by have := hg.1.2.1; omega
 obtain ⟨W, hW⟩ : ∃ W, W = w.alloc (.cells #[.int .i64 N, .slice a n c] 56) := ⟨_, rfl⟩
 have hWB : Below w.heap.size w W := by rw [hW]; exact (Below.refl _ _).alloc (Nat.le_refl _) _
 have hWs : W.heap.size = w.heap.size + 1 := by rw [hW]; simp
 have e0 : W.cell? ⟨w.heap.size, 0, none⟩ = some (.int .i64 N) := by rw [hW]; simp [go_sem]
 have e1 : W.cell? ⟨w.heap.size, 1, none⟩ = some (.slice a n c) := by rw [hW]; simp [go_sem]
 have hE := h.below hWB
 clear hg h
 go_enter Try.func15, Try.ntmps15
 go_wp2_with fail
 rw [← hW]
 clear hW
 refine (wrong_any _ _ _ _ _ _ hE).mono ?_
 rintro e w1 ⟨⟨r, hr, rfl⟩, B1⟩
 obtain rfl : r = 0 := by rcases hr with ⟨h1, _⟩ | ⟨_, h2⟩; exact h1; exact absurd HG.out h2
 have b0 : w1.cell? ⟨w.heap.size, 0, none⟩ = some (.int .i64 N) := (B1.cell (by show w.heap.size < _; omega)).trans e0
 have b1 : w1.cell? ⟨w.heap.size, 1, none⟩ = some (.slice a n c) := (B1.cell (by show w.heap.size < _; omega)).trans e1
 have hE1 := hE.below B1
 have HBw := hide (hWB.trans (B1.mono (by omega)))
 clear hr hE e0 e1 B1 hWB hWs
 go_wp2_with fail
 refine (solve_any _ _ _ _ _ _ hE1 HG.out).mono ?_
 rintro e w2 ⟨⟨q, sb, gm, gb, hS⟩, B2⟩
 obtain ⟨rfl, hq, c0, c1, c2, c3, tm, tb⟩ := hS
 have HBw2 := hide (HBw.out.trans (B2.mono HBw.out.size))
 have HQ := hide hq
 have HTM := hide tm
 clear hq tm tb hE1 b0 b1 B2
 obtain ⟨L, hL⟩ : ∃ L, q.last = L := ⟨_, rfl⟩
 rw [hL]
 have HL := hide hL
 clear hL
 rcases Int.lt_or_le L 0 with hl | hl
 · have HF := hide (solved_pot HG.out HQ.out (by rw [HL.out]; exact hl))
   go_wp2
   go_ret2
   exact ⟨.inr (.inl ⟨HG.out, HF.out.1, _, _, rfl, IntsAt.eqv (HTM.out.ints (by omega)) (tab_eq fun t _ => HF.out.2 t)⟩), HBw2.out⟩
 · have HF := hide (solved_no HG.out HQ.out (by rw [HL.out]; exact hl))
   go_wp2
   go_ret2
   exact ⟨.inr (.inr ⟨HG.out, HF.out, rfl⟩), HBw2.out⟩
end Go.Proofs.Ytkmodnggncadeaa
