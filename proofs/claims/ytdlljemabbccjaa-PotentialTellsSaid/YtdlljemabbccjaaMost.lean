/-
  WALKS: potential.Most.
-/
import Derived.Test.YtdlljemabbccjaaSolve
import Derived.Test.YtdlljemabbccjaaWrong
namespace Go.Proofs.Ytdlljemabbccjaa
open Go.RowKit
set_option linter.unusedSimpArgs false
set_option linter.unusedVariables false

attribute [local go_sem] iteMin iteMax iteMinN iteMaxN

theorem IntsAt.eqv {w : World} {a : Option Addr} {n c : Nat} {xs ys : List Int} (h : IntsAt w a n c xs) (e : xs = ys) : IntsAt w a n c ys := e ▸ h

/-- what Most answers -/
def MostEnds (N : Int) (es : List GE) (e : Ending) (w' : World) : Prop :=
  (¬ GraphOk N es ∧ e = .returned (.tuple #[.slice none 0 0, .int .i64 2])) ∨
  (GraphOk N es ∧ HasPot es ∧ ∃ b d, e = .returned (.tuple #[.slice b N.toNat d, .int .i64 0]) ∧ IntsAt w' b N.toNat d (tabI N.toNat (siter (pes es) N.toNat))) ∨
  (GraphOk N es ∧ ¬ HasPot es ∧ e = .returned (.tuple #[.slice none 0 0, .int .i64 3]))
set_option maxRecDepth 100000 in
theorem most_bad (N : Int) (a : Option Addr) (n c : Nat) (es : List GE) (w : World) (h : EdgesAt w a n c es) (hg : ¬ GraphOk N es) :
    Calls Try.prog 50 #[.agg #[.int .i64 N, .slice a n c]] w fun e w' => MostEnds N es e w' ∧ Below w.heap.size w w' := by
  have HG := hide hg
  have hE := h.below ((Below.refl w.heap.size w).alloc (Nat.le_refl _) (.cells #[.int .i64 N, .slice a n c] 61))
  clear hg h
  go_enter Try.func50, Try.ntmps50
  go_wp2_with fail
  refine (wrong_any _ _ _ _ _ _ hE).mono ?_
  rintro e w1 ⟨⟨r, hr, rfl⟩, B1⟩
  obtain rfl : r = 2 := by rcases hr with ⟨_, h2⟩ | ⟨h1, _⟩; exact absurd h2 HG.out; exact h1
  clear hr hE
  go_wp2
  go_ret2
  exact ⟨.inl ⟨HG.out, rfl⟩, ((Below.refl _ _).alloc (Nat.le_refl _) _).trans (B1.mono (by simp))⟩

set_option maxRecDepth 100000 in
set_option maxHeartbeats 4000000 in
theorem most_ok (N : Nat) (a : Option Addr) (n c : Nat) (es : List GE) (w : World) (h : EdgesAt w a n c es) (hg : GraphOk (N : Int) es) :
    Calls Try.prog 50 #[.agg #[.int .i64 N, .slice a n c]] w fun e w' => MostEnds N es e w' ∧ Below w.heap.size w w' := by
  have HG := hide hg
  have hN : N ≤ 300 := by have := hg.1.2.1; omega
  obtain ⟨W, hW⟩ : ∃ W, W = w.alloc (.cells #[.int .i64 N, .slice a n c] 61) := ⟨_, rfl⟩
  have hWB : Below w.heap.size w W := by rw [hW]; exact (Below.refl _ _).alloc (Nat.le_refl _) _
  have hWs : W.heap.size = w.heap.size + 1 := by rw [hW]; simp
  have e0 : W.cell? ⟨w.heap.size, 0, none⟩ = some (.int .i64 N) := by rw [hW]; simp [go_sem]
  have e1 : W.cell? ⟨w.heap.size, 1, none⟩ = some (.slice a n c) := by rw [hW]; simp [go_sem]
  have hE := h.below hWB
  clear hg h
  go_enter Try.func50, Try.ntmps50
  go_wp2_with fail
  rw [← hW]
  clear hW
  refine (wrong_any _ _ _ _ _ _ hE).mono ?_
  rintro e w1 ⟨⟨r, hr, rfl⟩, B1⟩
  obtain rfl : r = 0 := by rcases hr with ⟨h1, _⟩ | ⟨_, h2⟩; exact h1; exact absurd HG.out h2
  have b0 : w1.cell? ⟨w.heap.size, 0, none⟩ = some (.int .i64 N) := (B1.cell (by show w.heap.size < _; omega)).trans e0
  have b1 : w1.cell? ⟨w.heap.size, 1, none⟩ = some (.slice a n c) := (B1.cell (by show w.heap.size < _; omega)).trans e1
  have hE1 := hE.below B1
  have HBw := hide (hWB.trans (B1.mono (by omega)))
  clear hr hE e0 e1 B1 hWB hWs
  go_wp2_with fail
  refine (solve_any _ _ _ _ _ _ hE1 HG.out).mono ?_
  rintro e w2 ⟨⟨q, sb, gm, gb, hS⟩, B2⟩
  obtain ⟨rfl, hq, c0, c1, c2, c3, tm, tb⟩ := hS
  have HBw2 := hide (HBw.out.trans (B2.mono HBw.out.size))
  have HQ := hide hq
  have HTM := hide tm
  clear hq tm tb hE1 b0 b1 B2
  obtain ⟨L, hL⟩ : ∃ L, q.last = L := ⟨_, rfl⟩
  rw [hL]
  have HL := hide hL
  clear hL
  rcases Int.lt_or_le L 0 with hl | hl
  · have HF := hide (solved_pot HG.out HQ.out (by rw [HL.out]; exact hl))
    go_wp2
    go_ret2
    exact ⟨.inr (.inl ⟨HG.out, HF.out.1, _, _, rfl, IntsAt.eqv (HTM.out.ints (by omega)) (tab_eq fun t _ => HF.out.2 t)⟩), HBw2.out⟩
  · have HF := hide (solved_no HG.out HQ.out (by rw [HL.out]; exact hl))
    go_wp2
    go_ret2
    exact ⟨.inr (.inr ⟨HG.out, HF.out, rfl⟩), HBw2.out⟩

end Go.Proofs.Ytdlljemabbccjaa
