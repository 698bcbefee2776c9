/-
  THE PLAIN LAW of DuelPlays: what is played, step by step.
-/
import Derived.Test.YtmmjopmffpfccaaDuel13
import Derived.Test.YtmmjopmffpfccaaPairs
import Derived.Test.YtmmjopmffpfccaaDuel4
namespace Go.Proofs.Ytmmjopmffpfccaa
open Go.RowKit
set_option linter.unusedSimpArgs false
set_option linter.unusedVariables false

/-- the step from a state, as both programs answer it: the next state, the round, the error -/
noncomputable def stepR (k0 k1 R Q J l0 l1 : Int) : List Int → List Int × List Int × Int
  | [a0, a1, a2, a3, a4, a5, b0, b1, b2, b3, b4, b5, x, y] => (Classical.choose (step_both k0 k1 R Q J a0 a1 a2 a3 a4 a5 b0 b1 b2 b3 b4 b5 x y l0 l1), Classical.choose (Classical.choose_spec (step_both k0 k1 R Q J a0 a1 a2 a3 a4 a5 b0 b1 b2 b3 b4 b5 x y l0 l1)), Classical.choose (Classical.choose_spec (Classical.choose_spec (step_both k0 k1 R Q J a0 a1 a2 a3 a4 a5 b0 b1 b2 b3 b4 b5 x y l0 l1))))
  | _ => (List.replicate 14 0, List.replicate 6 0, 0)
theorem stepR_is (k0 k1 R Q J a0 a1 a2 a3 a4 a5 b0 b1 b2 b3 b4 b5 x y l0 l1 : Int) : StepIs k0 k1 R Q J a0 a1 a2 a3 a4 a5 b0 b1 b2 b3 b4 b5 x y l0 l1 (stepR k0 k1 R Q J l0 l1 [a0, a1, a2, a3, a4, a5, b0, b1, b2, b3, b4, b5, x, y]).1 (stepR k0 k1 R Q J l0 l1 [a0, a1, a2, a3, a4, a5, b0, b1, b2, b3, b4, b5, x, y]).2.1 (stepR k0 k1 R Q J l0 l1 [a0, a1, a2, a3, a4, a5, b0, b1, b2, b3, b4, b5, x, y]).2.2 :=
  Classical.choose_spec (Classical.choose_spec (Classical.choose_spec (step_both k0 k1 R Q J a0 a1 a2 a3 a4 a5 b0 b1 b2 b3 b4 b5 x y l0 l1)))
theorem stepR_len (k0 k1 R Q J l0 l1 : Int) (s : List Int) : (stepR k0 k1 R Q J l0 l1 s).1.length = 14 ∧ (stepR k0 k1 R Q J l0 l1 s).2.1.length = 6 ∧ (∀ z ∈ (stepR k0 k1 R Q J l0 l1 s).1, Sml z) ∧ (∀ z ∈ (stepR k0 k1 R Q J l0 l1 s).2.1, Sml z) := by
  by_cases h : s.length = 14
  · obtain ⟨a0, a1, a2, a3, a4, a5, b0, b1, b2, b3, b4, b5, x, y, rfl⟩ := len14 h
    obtain ⟨h1, h2, h3, h4, _, _⟩ := stepR_is k0 k1 R Q J a0 a1 a2 a3 a4 a5 b0 b1 b2 b3 b4 b5 x y l0 l1
    exact ⟨h1, h2, h3, h4⟩
  · have : stepR k0 k1 R Q J l0 l1 s = (List.replicate 14 0, List.replicate 6 0, 0) := by
      unfold stepR
      split
      · exact absurd rfl h
      · rfl
    rw [this]
    exact ⟨rfl, rfl, zero_sml _, zero_sml _⟩
def startI (k0 k1 : Int) : List Int := [k0, 1, -1, 0, 0, 0, k1, 1, -1, 0, 0, 0, 0, 0]
section
variable (k0 k1 R Q J : Int) (es : List P2)
def lateAt (k : Nat) : P2 := es.getD k ⟨0, 0⟩
noncomputable def stS : Nat → List Int
  | 0 => startI k0 k1
  | k + 1 => (stepR k0 k1 R Q J (lateAt es k).x (lateAt es k).y (stS k)).1
noncomputable def stU (k : Nat) : List Int := (stepR k0 k1 R Q J (lateAt es k).x (lateAt es k).y (stS k0 k1 R Q J es k)).2.1
noncomputable def stE (k : Nat) : Int := (stepR k0 k1 R Q J (lateAt es k).x (lateAt es k).y (stS k0 k1 R Q J es k)).2.2
def r6of (l : List Int) : R6 := ⟨l.getD 0 0, l.getD 1 0, l.getD 2 0, l.getD 3 0, l.getD 4 0, l.getD 5 0⟩
noncomputable def rounds6 (k : Nat) : List R6 := (List.range k).map fun j => r6of (stU k0 k1 R Q J es j)
theorem rounds6_len (k : Nat) : (rounds6 k0 k1 R Q J es k).length = k := by simp [rounds6]
theorem rounds6_succ (k : Nat) : rounds6 k0 k1 R Q J es (k + 1) = rounds6 k0 k1 R Q J es k ++ [r6of (stU k0 k1 R Q J es k)] := by simp [rounds6, List.range_succ]
theorem stS_len (k : Nat) : (stS k0 k1 R Q J es k).length = 14 := by
  cases k with
  | zero => rfl
  | succ k => exact (stepR_len _ _ _ _ _ _ _ _).1
def Small6 (r : R6) : Prop := Sml r.x0 ∧ Sml r.x1 ∧ Sml r.x2 ∧ Sml r.x3 ∧ Sml r.x4 ∧ Sml r.x5
theorem rounds6_sml (k : Nat) : ∀ r ∈ rounds6 k0 k1 R Q J es k, Small6 r := by
  intro r hr
  simp only [rounds6, List.mem_map] at hr
  obtain ⟨j, _, rfl⟩ := hr
  have h := stepR_len k0 k1 R Q J (lateAt es j).x (lateAt es j).y (stS k0 k1 R Q J es j)
  obtain ⟨u0, u1, u2, u3, u4, u5, hu⟩ := len6 h.2.1
  have h4 := h.2.2.2
  rw [hu] at h4
  rw [show stU k0 k1 R Q J es j = [u0, u1, u2, u3, u4, u5] from hu]
  exact ⟨h4 _ (by simp [r6of]), h4 _ (by simp [r6of]), h4 _ (by simp [r6of]), h4 _ (by simp [r6of]), h4 _ (by simp [r6of]), h4 _ (by simp [r6of])⟩
theorem stS_sml (hk : kindsOk k0 k1) (k : Nat) : ∀ z ∈ stS k0 k1 R Q J es k, Sml z := by
  cases k with
  | zero =>
    obtain ⟨h1, h2, h3, h4⟩ := hk
    intro z hz
    simp only [stS, startI, List.mem_cons, List.not_mem_nil, or_false] at hz
    unfold Sml; omega
  | succ k => exact (stepR_len _ _ _ _ _ _ _ _).2.2.1
/-- what is played: all of it, or nothing and the first error -/
def PlaySays (n : Nat) (L : List R6) (ss : List Int) (r : Int) : Prop :=
  ((∀ j, j < n → stE k0 k1 R Q J es j = 0) ∧ L = rounds6 k0 k1 R Q J es n ∧ ss = stS k0 k1 R Q J es n ∧ r = 0) ∨
  (∃ m, m < n ∧ (∀ j, j < m → stE k0 k1 R Q J es j = 0) ∧ stE k0 k1 R Q J es m ≠ 0 ∧ L = [] ∧ ss = List.replicate 14 0 ∧ r = stE k0 k1 R Q J es m)
theorem playSays_one {n : Nat} {L L' : List R6} {ss ss' : List Int} {r r' : Int} (h : PlaySays k0 k1 R Q J es n L ss r) (h' : PlaySays k0 k1 R Q J es n L' ss' r') : L = L' ∧ ss = ss' ∧ r = r' := by
  rcases h with ⟨a, rfl, rfl, rfl⟩ | ⟨m, hm, a, b, rfl, rfl, rfl⟩ <;> rcases h' with ⟨a', rfl, rfl, rfl⟩ | ⟨m', hm', a', b', rfl, rfl, rfl⟩
  · exact ⟨rfl, rfl, rfl⟩
  · exact absurd (a m' hm') b'
  · exact absurd (a' m hm) b
  · have : m = m' := by
      rcases Nat.lt_trichotomy m m' with h | h | h
      · exact absurd (a' m h) b
      · exact h
      · exact absurd (a m' h) b'
    subst this
    exact ⟨rfl, rfl, rfl⟩
theorem playSays_sml (hk : kindsOk k0 k1) {n : Nat} {L : List R6} {ss : List Int} {r : Int} (h : PlaySays k0 k1 R Q J es n L ss r) : (∀ q ∈ L, Small6 q) ∧ ss.length = 14 ∧ (∀ z ∈ ss, Sml z) := by
  rcases h with ⟨a, rfl, rfl, rfl⟩ | ⟨m, hm, a, b, rfl, rfl, rfl⟩
  · exact ⟨rounds6_sml k0 k1 R Q J es n, stS_len k0 k1 R Q J es n, stS_sml k0 k1 R Q J es hk n⟩
  · exact ⟨fun q hq => absurd hq List.not_mem_nil, rfl, zero_sml _⟩
/-- such rounds are handed back, and such a state -/
def Played (n : Nat) (e : Ending) (w : World) : Prop := ∃ L ss r a c, PlaySays k0 k1 R Q J es n L ss r ∧ e = .returned (.tuple #[.slice a L.length c, .agg (ss.map (Value.int .i64)).toArray, .int .i64 r]) ∧ RoundsAt w a L.length c L
end
theorem own6_below {w w' : World} {B n : Nat} {e : TypeId} {v : Value} {xs : List Value} (h : w.ownsRow B e 6 v n xs) (hb : Below w.heap.size w w') : w'.ownsRow B e 6 v n xs :=
  h.kept (row := none) ⟨hb.os, hb.tape, hb.output, hb.size, fun j hj _ => hb.block j hj⟩ (by cases hv : v.ownBlock <;> simp)
theorem Blk.grown {W W' : World} {row : Option Nat} {b : Nat} {vs : List Value} (h : Blk W b vs) (hg : W.grownBy W' row) (hne : some b ≠ row) : Blk W' b vs := fun j v hj => by
  have hl := World.block_lt_of_cell? W _ (h j v hj).1
  have he : W'.heap[b]? = W.heap[b]? := hg.block b hl hne
  exact ⟨(World.cell?_of_block (w := W) he).trans (h j v hj).1, (World.frozen?_of_block (w := W) he).trans (h j v hj).2⟩
theorem getE {es : List P2} {k : Nat} {x y : Int} (h : es[k]? = some ⟨x, y⟩) : lateAt es k = ⟨x, y⟩ := by unfold lateAt; rw [List.getD_eq_getElem?_getD, h]; rfl
theorem step_facts {k0 k1 R Q J : Int} {es : List P2} {k : Nat} {x y : Int} {c0 c1 c2 c3 c4 c5 c6 c7 c8 c9 c10 c11 c12 c13 : Int} (hE : es[k]? = some ⟨x, y⟩) (hs : stS k0 k1 R Q J es k = [c0, c1, c2, c3, c4, c5, c6, c7, c8, c9, c10, c11, c12, c13]) : ∃ (d0 d1 d2 d3 d4 d5 d6 d7 d8 d9 d10 d11 d12 d13 e0 e1 e2 e3 e4 e5 r : Int), stS k0 k1 R Q J es (k + 1) = [d0, d1, d2, d3, d4, d5, d6, d7, d8, d9, d10, d11, d12, d13] ∧ r6of (stU k0 k1 R Q J es k) = ⟨e0, e1, e2, e3, e4, e5⟩ ∧ stE k0 k1 R Q J es k = r ∧
    (∀ w : World, Calls Try.prog 8 #[.agg #[.int .i64 k0, .int .i64 k1, .int .i64 R, .int .i64 Q, .int .i64 J], .agg #[.int .i64 c0, .int .i64 c1, .int .i64 c2, .int .i64 c3, .int .i64 c4, .int .i64 c5, .int .i64 c6, .int .i64 c7, .int .i64 c8, .int .i64 c9, .int .i64 c10, .int .i64 c11, .int .i64 c12, .int .i64 c13], .agg #[.int .i64 x, .int .i64 y]] w fun e w' => e = .returned (.tuple #[.agg #[.int .i64 d0, .int .i64 d1, .int .i64 d2, .int .i64 d3, .int .i64 d4, .int .i64 d5, .int .i64 d6, .int .i64 d7, .int .i64 d8, .int .i64 d9, .int .i64 d10, .int .i64 d11, .int .i64 d12, .int .i64 d13], .agg #[.int .i64 e0, .int .i64 e1, .int .i64 e2, .int .i64 e3, .int .i64 e4, .int .i64 e5], .int .i64 r]) ∧ Below w.heap.size w w') ∧
    (∀ w : World, Calls Try.prog 9 #[.agg #[.int .i64 k0, .int .i64 k1, .int .i64 R, .int .i64 Q, .int .i64 J], .agg #[.int .i64 c0, .int .i64 c1, .int .i64 c2, .int .i64 c3, .int .i64 c4, .int .i64 c5, .int .i64 c6, .int .i64 c7, .int .i64 c8, .int .i64 c9, .int .i64 c10, .int .i64 c11, .int .i64 c12, .int .i64 c13], .agg #[.int .i64 x, .int .i64 y]] w fun e w' => e = .returned (.tuple #[.agg #[.int .i64 d0, .int .i64 d1, .int .i64 d2, .int .i64 d3, .int .i64 d4, .int .i64 d5, .int .i64 d6, .int .i64 d7, .int .i64 d8, .int .i64 d9, .int .i64 d10, .int .i64 d11, .int .i64 d12, .int .i64 d13], .agg #[.int .i64 e0, .int .i64 e1, .int .i64 e2, .int .i64 e3, .int .i64 e4, .int .i64 e5], .int .i64 r]) ∧ Below w.heap.size w w') := by
  obtain ⟨h1, h2, _, _, h5, h6⟩ := stepR_is k0 k1 R Q J c0 c1 c2 c3 c4 c5 c6 c7 c8 c9 c10 c11 c12 c13 x y
  obtain ⟨d0, d1, d2, d3, d4, d5, d6, d7, d8, d9, d10, d11, d12, d13, hd⟩ := len14 h1
  obtain ⟨e0, e1, e2, e3, e4, e5, he⟩ := len6 h2
  obtain ⟨r, hr⟩ : ∃ r, (stepR k0 k1 R Q J x y [c0, c1, c2, c3, c4, c5, c6, c7, c8, c9, c10, c11, c12, c13]).2.2 = r := ⟨_, rfl⟩
  rw [hd, he, hr] at h5 h6
  refine ⟨d0, d1, d2, d3, d4, d5, d6, d7, d8, d9, d10, d11, d12, d13, e0, e1, e2, e3, e4, e5, r, ?_, ?_, ?_, h5, h6⟩
  · show (stepR k0 k1 R Q J (lateAt es k).x (lateAt es k).y (stS k0 k1 R Q J es k)).1 = _
    rw [getE hE, hs]; exact hd
  · unfold stU; rw [getE hE, hs, he]; rfl
  · unfold stE; rw [getE hE, hs]; exact hr

end Go.Proofs.Ytmmjopmffpfccaa
