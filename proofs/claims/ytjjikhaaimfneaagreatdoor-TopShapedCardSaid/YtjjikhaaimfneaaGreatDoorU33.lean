/-
  Lemmas and walks for the statement: StRef3.
-/
import Derived.Test.YtjjikhaaimfneaaGreatDoorU32
import Derived.Test.YtjjikhaaimfneaaGreatDoorU27
namespace Go.Proofs.YtjjikhaaimfneaaGreatDoor
open Go.RowKit
set_option linter.unusedSimpArgs false
set_option linter.unusedVariables false
def SofEnds (k0 k1 R Q : Int) (q : Nat) (w : World) (e : Ending) (w' : World) : Prop :=
 ∃ kk, SxEnds (step := stp k0 k1 R Q q) (startI k0 k1) (q + 1) kk ∧ Below w.heap.size w w' ∧
  ((∃ PB B v0 v1 v2 v3 v4, (rnds k0 k1 R Q q kk).full = false ∧ e = .returned (.tuple #[.agg #[v0, v1, v2, v3, v4], .int .i64 0]) ∧ RS w [] PB B v0 v1 v2 v3 v4 (rnds k0 k1 R Q q kk).states (rnds k0 k1 R Q q kk).edges w') ∨
   ((rnds k0 k1 R Q q kk).full = true ∧ e = .returned (.tuple #[.agg #[.slice none 0 0, .slice none 0 0, .slice none 0 0, .slice none 0 0, .slice none 0 0], .int .i64 4])))
def trR (S : Nat) (RL : List Value) : List (Nat × Obj) := [(S, .cells RL.toArray 49 (0, 0)), (S + 1, .cells #[.slice none 0 0, .slice none 0 0, .slice none 0 0, .slice none 0 0, .slice none 0 0] 118 (0, 0))]
def SL (k0 k1 R Q : Int) (q : Nat) (w : World) (S PB B : Nat) (kk : Nat) (W : World) : Prop :=
 ∃ v0 v1 v2 v3 v4, RS w (trR S [.int .i64 k0, .int .i64 k1, .int .i64 R, .int .i64 Q, .int .i64 (q : Int)]) PB B v0 v1 v2 v3 v4 (rnds k0 k1 R Q q kk).states (rnds k0 k1 R Q q kk).edges W ∧
  (rnds k0 k1 R Q q kk).full = false ∧ SxOk (GG k0 k1 R Q q) UU (rnds k0 k1 R Q q kk) ∧ (rnds k0 k1 R Q q kk).edges.length = kk * ((q + 1) * (q + 1)) ∧ kk ≤ (rnds k0 k1 R Q q kk).states.length ∧
  (∀ j, j < kk → (rnds k0 k1 R Q q j).full = false ∧ j < (rnds k0 k1 R Q q j).states.length)
def SI (k0 k1 R Q : Int) (q : Nat) (w : World) (S PB B : Nat) (kk n : Nat) (W : World) : Prop :=
 ∃ v0 v1 v2 v3 v4, RS w (trR S [.int .i64 k0, .int .i64 k1, .int .i64 R, .int .i64 Q, .int .i64 (q : Int)]) PB B v0 v1 v2 v3 v4 ((rnds k0 k1 R Q q kk).walk (stp k0 k1 R Q q) kk (latesP (q + 1) n)).states ((rnds k0 k1 R Q q kk).walk (stp k0 k1 R Q q) kk (latesP (q + 1) n)).edges W ∧
  ((rnds k0 k1 R Q q kk).walk (stp k0 k1 R Q q) kk (latesP (q + 1) n)).full = false
theorem walk_ok2 {k0 k1 R Q : Int} {q kk n : Nat} (h : SxOk (GG k0 k1 R Q q) UU (rnds k0 k1 R Q q kk)) (hk : kk < (rnds k0 k1 R Q q kk).states.length) (hn : n ≤ (q + 1) * (q + 1)) : SxOk (GG k0 k1 R Q q) UU ((rnds k0 k1 R Q q kk).walk (stp k0 k1 R Q q) kk (latesP (q + 1) n)) :=
 h.walk hk (fun l hl s hs => stp_good (latesP_ok hn l hl) hs)
theorem SI.next {k0 k1 R Q : Int} {q : Nat} {w : World} {S PB B kk : Nat} {W W' : World} (h : SI k0 k1 R Q q w S PB B kk ((q + 1) * (q + 1)) W) (hL : SL k0 k1 R Q q w S PB B kk W') (hk : kk < (rnds k0 k1 R Q q kk).states.length) : SL k0 k1 R Q q w S PB B (kk + 1) W := by
 obtain ⟨_, _, _, _, _, _, hf, hok, hel, _, hbef⟩ := hL
 obtain ⟨v0, v1, v2, v3, v4, h1, h2⟩ := h
 have hm := Sx.walk_mono (step := stp k0 k1 R Q q) (rnds k0 k1 R Q q kk) kk (latesP (q + 1) ((q + 1) * (q + 1)))
 refine ⟨v0, v1, v2, v3, v4, h1, h2, walk_ok2 hok hk (Nat.le_refl _), ?_, ?_, fun j hj => ?_⟩
 · rw [rnds_succ, Sx.walk_edges h2, hel, latesP_len]; exact (Nat.succ_mul kk _).symm
 · rw [rnds_succ]; omega
 · rcases (show j < kk ∨ j = kk by omega) with h | rfl
   · exact hbef j h
   · exact ⟨hf, hk⟩
theorem SI.step {k0 k1 R Q : Int} {q : Nat} {w : World} {S PB B kk n : Nat} {Z : World} {TR : List (Nat × Obj)} {v0 v1 v2 v3 v4 : Value} {Y Y' : Sx} (hY : (rnds k0 k1 R Q q kk).walk (stp k0 k1 R Q q) kk (latesP (q + 1) n) = Y) {D E : Nat} (hD : n / (q + 1) = D) (hE : n % (q + 1) = E) (hgo : Y.go (stp k0 k1 R Q q) kk ⟨(D : Int), (E : Int)⟩ = Y') (hf : Y'.full = false)
 (h : RS w TR PB B v0 v1 v2 v3 v4 Y'.states Y'.edges Z) (hs : ∀ p ∈ trR S [.int .i64 k0, .int .i64 k1, .int .i64 R, .int .i64 Q, .int .i64 (q : Int)], p ∈ TR) : SI k0 k1 R Q q w S PB B kk (n + 1) Z := by
 rw [← hD, ← hE] at hgo
 refine ⟨v0, v1, v2, v3, v4, ?_, ?_⟩
 · rw [latesP_succ, Sx.walk_snoc, hY, hgo]; exact h.sub hs
 · rw [latesP_succ, Sx.walk_snoc, hY, hgo]; exact hf
def toI (nx : List Int) (ss : List (List Int)) (j : Nat) : Int := if nx ∈ ss.take j then (ss.idxOf nx : Int) else -1
theorem RS.two {w W Z : World} {TR : List (Nat × Obj)} {PB B NB OB : Nat} {v0 v1 v2 v3 v4 : Value} {ss : List (List Int)} {es : List Edg} {o1 o2 : Obj} (h : RS w TR PB B v0 v1 v2 v3 v4 ss es W) (hb : Below W.heap.size W Z) (h1 : Z.heap[NB]? = some o1) (h2 : Z.heap[OB]? = some o2) (n1 : W.heap.size ≤ NB) (n2 : W.heap.size ≤ OB) : RS w ((OB, o2) :: (NB, o1) :: TR) PB B v0 v1 v2 v3 v4 ss es Z := by
 have h3 := h.new hb n1 h1
 exact ⟨h3.sp, fun p hp => by
  rcases List.mem_cons.1 hp with rfl | hp
  · exact ⟨h2, RFoot_lt h.sp n2⟩
  · exact h3.tr p hp, h3.bl, h3.hB⟩
end Go.Proofs.YtjjikhaaimfneaaGreatDoor
