/-
  Lemmas and walks for the statement: StRef3.
-/
import Derived.Test.YtjjikhaaimfneaaGreatDoorE36
import Derived.Test.YtjjikhaaimfneaaGreatDoorE32
namespace Go.Proofs.YtjjikhaaimfneaaGreatDoor
open Go.RowKit
set_option linter.unusedSimpArgs false
set_option linter.unusedVariables false
def SofEnds (k0 k1 R Q : Int) (q : Nat) (w : World) (e : Ending) (w' : World) : Prop :=
 ∃ kk, SxEnds (step := stp k0 k1 R Q q) (startI k0 k1) (q + 1) kk ∧ Below w.heap.size w w' ∧
  ((∃ PB B v0 v1 v2 v3 v4, (rnds k0 k1 R Q q kk).full = false ∧ e = .returned (.tuple #[.agg #[v0, v1, v2, v3, v4], .int .i64 0]) ∧ RS w [] PB B v0 v1 v2 v3 v4 (rnds k0 k1 R Q q kk).states (rnds k0 k1 R Q q kk).edges w') ∨
   ((rnds k0 k1 R Q q kk).full = true ∧ e = .returned (.tuple #[.agg #[.slice none 0 0, .slice none 0 0, .slice none 0 0, .slice none 0 0, .slice none 0 0], .int .i64 4])))
theorem rowStateAt {W : World} {B k : Nat} {v : Value} {ss : List (List Int)} {a0 a1 a2 a3 a4 a5 a6 a7 a8 a9 a10 a11 a12 a13 : Int} (h : W.ownsRow B 133 14 v ss.length (flatS ss)) (hl : ∀ t ∈ ss, t.length = 14) (hk : ss[k]? = some [a0, a1, a2, a3, a4, a5, a6, a7, a8, a9, a10, a11, a12, a13]) :
 ∃ (ad : Addr) (cap : Nat), v = .slice (some ad) ss.length cap ∧ (ad.add (k * 14)).block < W.heap.size ∧ W.cell? (ad.add (k * 14)) = some (.int .i64 a0) ∧ W.cell? (⟨(ad.add (k * 14)).block, (ad.add (k * 14)).off + 1, none⟩) = some (.int .i64 a1) ∧ W.cell? (⟨(ad.add (k * 14)).block, (ad.add (k * 14)).off + 2, none⟩) = some (.int .i64 a2) ∧ W.cell? (⟨(ad.add (k * 14)).block, (ad.add (k * 14)).off + 3, none⟩) = some (.int .i64 a3) ∧ W.cell? (⟨(ad.add (k * 14)).block, (ad.add (k * 14)).off + 4, none⟩) = some (.int .i64 a4) ∧ W.cell? (⟨(ad.add (k * 14)).block, (ad.add (k * 14)).off + 5, none⟩) = some (.int .i64 a5) ∧ W.cell? (⟨(ad.add (k * 14)).block, (ad.add (k * 14)).off + 6, none⟩) = some (.int .i64 a6) ∧ W.cell? (⟨(ad.add (k * 14)).block, (ad.add (k * 14)).off + 7, none⟩) = some (.int .i64 a7) ∧ W.cell? (⟨(ad.add (k * 14)).block, (ad.add (k * 14)).off + 8, none⟩) = some (.int .i64 a8) ∧ W.cell? (⟨(ad.add (k * 14)).block, (ad.add (k * 14)).off + 9, none⟩) = some (.int .i64 a9) ∧ W.cell? (⟨(ad.add (k * 14)).block, (ad.add (k * 14)).off + 10, none⟩) = some (.int .i64 a10) ∧ W.cell? (⟨(ad.add (k * 14)).block, (ad.add (k * 14)).off + 11, none⟩) = some (.int .i64 a11) ∧ W.cell? (⟨(ad.add (k * 14)).block, (ad.add (k * 14)).off + 12, none⟩) = some (.int .i64 a12) ∧ W.cell? (⟨(ad.add (k * 14)).block, (ad.add (k * 14)).off + 13, none⟩) = some (.int .i64 a13) := by
 have hkl := (List.getElem?_eq_some_iff.1 hk).1
 rcases h.2 with ⟨_, h0⟩ | ⟨g, cap, cur, rfl, hg, hh, hn, hm, hs, hx⟩
 · omega
 · have hglt := (Array.getElem?_eq_some_iff.1 hh).1
   have key : ∀ (j : Nat) (x : Int), [a0, a1, a2, a3, a4, a5, a6, a7, a8, a9, a10, a11, a12, a13][j]? = some x → W.cell? ⟨g, k * 14 + j, none⟩ = some (.int .i64 x) := fun j x hj => by
    have h1 := flat_get hl hk hj
    rw [← hx] at h1
    rw [List.getElem?_take] at h1
    split at h1
    · simp [World.cell?, hh]
      simpa using h1
    · cases h1
   have ea : (⟨g, 0, none⟩ : Addr).add (k * 14) = ⟨g, k * 14, none⟩ := by unfold Addr.add; split <;> simp_all
   refine ⟨⟨g, 0, none⟩, cap, rfl, by rw [ea]; exact hglt, by rw [ea]; exact key 0 _ rfl, by rw [ea]; exact key 1 _ rfl, by rw [ea]; exact key 2 _ rfl, by rw [ea]; exact key 3 _ rfl, by rw [ea]; exact key 4 _ rfl, by rw [ea]; exact key 5 _ rfl, by rw [ea]; exact key 6 _ rfl, by rw [ea]; exact key 7 _ rfl, by rw [ea]; exact key 8 _ rfl, by rw [ea]; exact key 9 _ rfl, by rw [ea]; exact key 10 _ rfl, by rw [ea]; exact key 11 _ rfl, by rw [ea]; exact key 12 _ rfl, by rw [ea]; exact key 13 _ rfl⟩
def trR (S : Nat) (RL : List Value) : List (Nat × Obj) := [(S, .cells RL.toArray 49 (0, 0)), (S + 1, .cells #[.slice none 0 0, .slice none 0 0, .slice none 0 0, .slice none 0 0, .slice none 0 0] 118 (0, 0))]
theorem sof_start {w W w1 X : World} {S N : Nat} {RL : List Value} {s0 : List Int} (hS : w.heap.size = S) (hW : W = (w.alloc (.cells RL.toArray 49 (0, 0))).alloc (.cells #[.slice none 0 0, .slice none 0 0, .slice none 0 0, .slice none 0 0, .slice none 0 0] 118 (0, 0))) (hA : Below W.heap.size W w1) (hN : w1.heap.size = N) (h14 : s0.length = 14)
 (hX : X = ((w1.alloc (.cells (s0.map (Value.int .i64)).toArray 133 (0, 0))).alloc (.cells (s0.map (Value.int .i64)).toArray 133 (0, 0))).alloc (.cells #[.slice (some ⟨N + 1, 0, none⟩) 1 1, .slice none 0 0, .slice none 0 0, .slice none 0 0, .slice none 0 0] 118 (0, 0))) :
 RS w (trR S RL) (N + 1 + 1) (N + 1) (.slice (some ⟨N + 1, 0, none⟩) 1 1) (.slice none 0 0) (.slice none 0 0) (.slice none 0 0) (.slice none 0 0) [s0] [] X ∧ X.heap.size = N + 3 ∧ S + 2 ≤ N := by
 have sW : W.heap.size = S + 2 := by rw [hW, ← hS]; simp
 have hSN : S + 2 ≤ N := by have := hA.size; omega
 have sX : X.heap.size = N + 3 := by rw [hX]; simp [hN]
 have bX : Below N w1 X := by rw [hX, ← hN]; exact (((Below.refl _ _).alloc (Nat.le_refl _) _).alloc (by simp) _).alloc (by simp; omega) _
 have bW : Below S w W := by rw [hW, ← hS]; exact ((Below.refl _ _).alloc (Nat.le_refl _) _).alloc (by simp) _
 have old : ∀ b, b < S + 2 → X.heap[b]? = W.heap[b]? := fun b hb => (bX.block b (by omega)).trans (hA.block b (by omega))
 have w0 : W.heap[S]? = some (.cells RL.toArray 49 (0, 0)) := by
  rw [hW, heap_old _ _ (by simp; omega), ← hS]; exact heap_new _ _
 have w1' : W.heap[S + 1]? = some (.cells #[.slice none 0 0, .slice none 0 0, .slice none 0 0, .slice none 0 0, .slice none 0 0] 118 (0, 0)) := by
  rw [hW]
  have := heap_new (w.alloc (.cells RL.toArray 49 (0, 0))) (.cells #[.slice none 0 0, .slice none 0 0, .slice none 0 0, .slice none 0 0, .slice none 0 0] 118 (0, 0))
  simpa [hS] using this
 have x1 : X.heap[N + 1]? = some (.cells (s0.map (Value.int .i64)).toArray 133 (0, 0)) := by
  rw [hX, heap_old _ _ (by simp; omega)]
  have := heap_new (w1.alloc (.cells (s0.map (Value.int .i64)).toArray 133 (0, 0))) (.cells (s0.map (Value.int .i64)).toArray 133 (0, 0))
  simpa [hN] using this
 have x2 : X.heap[N + 1 + 1]? = some (.cells [.slice (some ⟨N + 1, 0, none⟩) 1 1, .slice none 0 0, .slice none 0 0, .slice none 0 0, .slice none 0 0].toArray 118 (0, 0)) := by
  rw [hX]
  have := heap_new ((w1.alloc (.cells (s0.map (Value.int .i64)).toArray 133 (0, 0))).alloc (.cells (s0.map (Value.int .i64)).toArray 133 (0, 0))) (.cells [.slice (some ⟨N + 1, 0, none⟩) 1 1, .slice none 0 0, .slice none 0 0, .slice none 0 0, .slice none 0 0].toArray 118 (0, 0))
  simpa [hN] using this
 have nil : ∀ (t : TypeId) (sz : Nat), X.ownsRow (N + 1) t sz (.slice none 0 0) 0 [] := fun t sz => ⟨by simp, .inl ⟨rfl, rfl⟩⟩
 have an : ∀ v : Value, ApV v (.slice none 0 0) := fun v g _ e => by cases e
 have nn : ApV (.slice none 0 0) (.slice none 0 0) := an _
 refine ⟨⟨⟨cell_heap (j := 0) x2 rfl, cell_heap (j := 1) x2 rfl, cell_heap (j := 2) x2 rfl, cell_heap (j := 3) x2 rfl, cell_heap (j := 4) x2 rfl, fun j => froz_heap x2, ⟨?_, .inr ⟨N + 1, 1, _, rfl, Nat.le_refl _, x1, Nat.le_refl _, by decide, ?_, ?_⟩⟩, nil _ _, nil _ _, nil _ _, nil _ _, ⟨an _, an _, an _, an _, nn, nn, nn, nn, nn, nn, fun e => ?_, (fun e => by cases e), (fun e => by cases e), (fun e => by cases e), (fun e => by cases e)⟩, by omega⟩, fun p hp => ?_, ?_, by omega⟩, sX, hSN⟩
 · simp [flatS, h14]
 · simp [h14]
 · simp only [flatS, List.flatMap_cons, List.flatMap_nil, List.append_nil, List.length_cons, List.length_nil, Nat.zero_add, Nat.one_mul]; exact List.take_of_length_le (by simp [h14])
 · simp only [Value.ownBlock, Option.some.injEq] at e; omega
 · have key : ∀ b, b < S + 2 → ¬ RFoot (N + 1 + 1) (.slice (some ⟨N + 1, 0, none⟩) 1 1) (.slice none 0 0) (.slice none 0 0) (.slice none 0 0) (.slice none 0 0) b := fun b hb hf => by
    rcases hf with h | h | h | h | h | h
    · omega
    · simp only [Value.ownBlock, Option.some.injEq] at h; omega
    · cases h
    · cases h
    · cases h
    · cases h
   simp only [trR, List.mem_cons, List.not_mem_nil, or_false] at hp
   rcases hp with rfl | rfl
   · exact ⟨(old _ (by omega)).trans w0, key _ (by omega)⟩
   · exact ⟨(old _ (by omega)).trans w1', key _ (by omega)⟩
 · rw [hS]; exact (bW.trans (hA.mono (by omega))).trans (bX.mono (by omega))
def SL (k0 k1 R Q : Int) (q : Nat) (w : World) (S PB B : Nat) (kk : Nat) (W : World) : Prop :=
 ∃ v0 v1 v2 v3 v4, RS w (trR S [.int .i64 k0, .int .i64 k1, .int .i64 R, .int .i64 Q, .int .i64 (q : Int)]) PB B v0 v1 v2 v3 v4 (rnds k0 k1 R Q q kk).states (rnds k0 k1 R Q q kk).edges W ∧
  (rnds k0 k1 R Q q kk).full = false ∧ SxOk (GG k0 k1 R Q q) UU (rnds k0 k1 R Q q kk) ∧ (rnds k0 k1 R Q q kk).edges.length = kk * ((q + 1) * (q + 1)) ∧ kk ≤ (rnds k0 k1 R Q q kk).states.length ∧
  (∀ j, j < kk → (rnds k0 k1 R Q q j).full = false ∧ j < (rnds k0 k1 R Q q j).states.length)
def SI (k0 k1 R Q : Int) (q : Nat) (w : World) (S PB B : Nat) (kk n : Nat) (W : World) : Prop :=
 ∃ v0 v1 v2 v3 v4, RS w (trR S [.int .i64 k0, .int .i64 k1, .int .i64 R, .int .i64 Q, .int .i64 (q : Int)]) PB B v0 v1 v2 v3 v4 ((rnds k0 k1 R Q q kk).walk (stp k0 k1 R Q q) kk (latesP (q + 1) n)).states ((rnds k0 k1 R Q q kk).walk (stp k0 k1 R Q q) kk (latesP (q + 1) n)).edges W ∧
  ((rnds k0 k1 R Q q kk).walk (stp k0 k1 R Q q) kk (latesP (q + 1) n)).full = false
theorem walk_ok2 {k0 k1 R Q : Int} {q kk n : Nat} (h : SxOk (GG k0 k1 R Q q) UU (rnds k0 k1 R Q q kk)) (hk : kk < (rnds k0 k1 R Q q kk).states.length) (hn : n ≤ (q + 1) * (q + 1)) : SxOk (GG k0 k1 R Q q) UU ((rnds k0 k1 R Q q kk).walk (stp k0 k1 R Q q) kk (latesP (q + 1) n)) :=
 h.walk hk (fun l hl s hs => stp_good (latesP_ok hn l hl) hs)
theorem SL.into {k0 k1 R Q : Int} {q : Nat} {w : World} {S PB B kk : Nat} {W W' : World} (h : SL k0 k1 R Q q w S PB B kk W) (hb : Below W.heap.size W W') : SI k0 k1 R Q q w S PB B kk 0 W' := by
 obtain ⟨v0, v1, v2, v3, v4, h1, h2, _⟩ := h
 exact ⟨v0, v1, v2, v3, v4, h1.below hb, h2⟩
theorem SI.next {k0 k1 R Q : Int} {q : Nat} {w : World} {S PB B kk : Nat} {W W' : World} (h : SI k0 k1 R Q q w S PB B kk ((q + 1) * (q + 1)) W) (hL : SL k0 k1 R Q q w S PB B kk W') (hk : kk < (rnds k0 k1 R Q q kk).states.length) : SL k0 k1 R Q q w S PB B (kk + 1) W := by
 obtain ⟨_, _, _, _, _, _, hf, hok, hel, _, hbef⟩ := hL
 obtain ⟨v0, v1, v2, v3, v4, h1, h2⟩ := h
 have hm := Sx.walk_mono (step := stp k0 k1 R Q q) (rnds k0 k1 R Q q kk) kk (latesP (q + 1) ((q + 1) * (q + 1)))
 refine ⟨v0, v1, v2, v3, v4, h1, h2, walk_ok2 hok hk (Nat.le_refl _), ?_, ?_, fun j hj => ?_⟩
 · rw [rnds_succ, Sx.walk_edges h2, hel, latesP_len]; exact (Nat.succ_mul kk _).symm
 · rw [rnds_succ]; omega
 · rcases (show j < kk ∨ j = kk by omega) with h | rfl
   · exact hbef j h
   · exact ⟨hf, hk⟩
theorem SI.step {k0 k1 R Q : Int} {q : Nat} {w : World} {S PB B kk n : Nat} {Z : World} {TR : List (Nat × Obj)} {v0 v1 v2 v3 v4 : Value} {Y Y' : Sx} (hY : (rnds k0 k1 R Q q kk).walk (stp k0 k1 R Q q) kk (latesP (q + 1) n) = Y) {D E : Nat} (hD : n / (q + 1) = D) (hE : n % (q + 1) = E) (hgo : Y.go (stp k0 k1 R Q q) kk ⟨(D : Int), (E : Int)⟩ = Y') (hf : Y'.full = false)
 (h : RS w TR PB B v0 v1 v2 v3 v4 Y'.states Y'.edges Z) (hs : ∀ p ∈ trR S [.int .i64 k0, .int .i64 k1, .int .i64 R, .int .i64 Q, .int .i64 (q : Int)], p ∈ TR) : SI k0 k1 R Q q w S PB B kk (n + 1) Z := by
 rw [← hD, ← hE] at hgo
 refine ⟨v0, v1, v2, v3, v4, ?_, ?_⟩
 · rw [latesP_succ, Sx.walk_snoc, hY, hgo]; exact h.sub hs
 · rw [latesP_succ, Sx.walk_snoc, hY, hgo]; exact hf
theorem full_step2 {k0 k1 R Q : Int} {q kk n : Nat} {Y Y' : Sx} (hn : n < (q + 1) * (q + 1)) (hY : (rnds k0 k1 R Q q kk).walk (stp k0 k1 R Q q) kk (latesP (q + 1) n) = Y) {D E : Nat} (hD : n / (q + 1) = D) (hE : n % (q + 1) = E) (hgo : Y.go (stp k0 k1 R Q q) kk ⟨(D : Int), (E : Int)⟩ = Y') (hf : Y'.full = true) : (rnds k0 k1 R Q q (kk + 1)).full = true :=
 full_pre (m := n + 1) (by omega) rfl (by rw [← hD, ← hE] at hgo; rw [latesP_succ, Sx.walk_snoc, hY, hgo]; exact hf)
def toI (nx : List Int) (ss : List (List Int)) (j : Nat) : Int := if nx ∈ ss.take j then (ss.idxOf nx : Int) else -1
theorem toI_zero (nx : List Int) (ss : List (List Int)) : toI nx ss 0 = -1 := by simp [toI]
theorem toI_hit {nx : List Int} {ss : List (List Int)} {j : Nat} (hd : ss.Nodup) (hj : ss[j]? = some nx) : toI nx ss (j + 1) = (j : Int) := by
 obtain ⟨hl, h2⟩ := List.getElem?_eq_some_iff.1 hj
 have h1 : nx ∈ ss.take (j + 1) := by rw [List.take_add_one, hj]; simp
 have h3 := hd.idxOf_getElem j hl
 rw [h2] at h3
 unfold toI; rw [if_pos h1, h3]
theorem toI_miss {nx s : List Int} {ss : List (List Int)} {j : Nat} (hj : ss[j]? = some s) (hne : s ≠ nx) : toI nx ss (j + 1) = toI nx ss j := by
 unfold toI
 have : nx ∈ ss.take (j + 1) ↔ nx ∈ ss.take j := by rw [List.take_add_one, hj]; simp [Ne.symm hne]
 simp only [this]
theorem toI_old {nx : List Int} {ss : List (List Int)} {i : Nat} (hd : ss.Nodup) (hi : ss[i]? = some nx) : toI nx ss ss.length = (i : Int) := by
 obtain ⟨hl, h2⟩ := List.getElem?_eq_some_iff.1 hi
 have h3 := hd.idxOf_getElem i hl
 rw [h2] at h3
 unfold toI; rw [List.take_length, if_pos (List.mem_of_getElem? hi), h3]
theorem toI_new {nx : List Int} {ss : List (List Int)} (h : nx ∉ ss) : toI nx ss ss.length = -1 := by
 unfold toI; rw [List.take_length, if_neg h]
theorem set5 {W Z : World} {b : Nat} {u0 u1 u2 u3 u4 x0 x1 x2 x3 x4 : Value} (h : Blk W b [u0, u1, u2, u3, u4]) (hZ : Z = ((((W.setCell ⟨b, 0, none⟩ x0).setCell ⟨b, 1, none⟩ x1).setCell ⟨b, 2, none⟩ x2).setCell ⟨b, 3, none⟩ x3).setCell ⟨b, 4, none⟩ x4) :
 (Z.cell? ⟨b, 0, none⟩ = some x0 ∧ Z.cell? ⟨b, 1, none⟩ = some x1 ∧ Z.cell? ⟨b, 2, none⟩ = some x2 ∧ Z.cell? ⟨b, 3, none⟩ = some x3 ∧ Z.cell? ⟨b, 4, none⟩ = some x4) ∧ Chg W Z (fun x => x = b) := by
 have ne : ∀ i j : Nat, i ≠ j → (⟨b, i, none⟩ : Addr) ≠ ⟨b, j, none⟩ := fun i j hij e => hij (by injection e)
 rw [hZ]
 refine ⟨⟨?_, ?_, ?_, ?_, ?_⟩, ?_⟩
 · rw [World.cell?_setCell_other _ _ _ _ (ne _ _ (by omega)), World.cell?_setCell_other _ _ _ _ (ne _ _ (by omega)), World.cell?_setCell_other _ _ _ _ (ne _ _ (by omega)), World.cell?_setCell_other _ _ _ _ (ne _ _ (by omega))]
   exact World.cell?_setCell_same' _ _ _ (by rw [(h 0 _ rfl).1]; rfl)
 · rw [World.cell?_setCell_other _ _ _ _ (ne _ _ (by omega)), World.cell?_setCell_other _ _ _ _ (ne _ _ (by omega)), World.cell?_setCell_other _ _ _ _ (ne _ _ (by omega))]
   exact World.cell?_setCell_same' _ _ _ (by rw [World.cell?_setCell_other _ _ _ _ (ne _ _ (by omega)), (h 1 _ rfl).1]; rfl)
 · rw [World.cell?_setCell_other _ _ _ _ (ne _ _ (by omega)), World.cell?_setCell_other _ _ _ _ (ne _ _ (by omega))]
   exact World.cell?_setCell_same' _ _ _ (by rw [World.cell?_setCell_other _ _ _ _ (ne _ _ (by omega)), World.cell?_setCell_other _ _ _ _ (ne _ _ (by omega)), (h 2 _ rfl).1]; rfl)
 · rw [World.cell?_setCell_other _ _ _ _ (ne _ _ (by omega))]
   exact World.cell?_setCell_same' _ _ _ (by rw [World.cell?_setCell_other _ _ _ _ (ne _ _ (by omega)), World.cell?_setCell_other _ _ _ _ (ne _ _ (by omega)), World.cell?_setCell_other _ _ _ _ (ne _ _ (by omega)), (h 3 _ rfl).1]; rfl)
 · exact World.cell?_setCell_same' _ _ _ (by rw [World.cell?_setCell_other _ _ _ _ (ne _ _ (by omega)), World.cell?_setCell_other _ _ _ _ (ne _ _ (by omega)), World.cell?_setCell_other _ _ _ _ (ne _ _ (by omega)), World.cell?_setCell_other _ _ _ _ (ne _ _ (by omega)), (h 4 _ rfl).1]; rfl)
 · exact (((((Chg.refl W (fun x => x = b)).set (p := ⟨b, 0, none⟩) rfl _).set (p := ⟨b, 1, none⟩) rfl _).set (p := ⟨b, 2, none⟩) rfl _).set (p := ⟨b, 3, none⟩) rfl _).set (p := ⟨b, 4, none⟩) rfl _
theorem RS.two {w W Z : World} {TR : List (Nat × Obj)} {PB B NB OB : Nat} {v0 v1 v2 v3 v4 : Value} {ss : List (List Int)} {es : List Edg} {o1 o2 : Obj} (h : RS w TR PB B v0 v1 v2 v3 v4 ss es W) (hb : Below W.heap.size W Z) (h1 : Z.heap[NB]? = some o1) (h2 : Z.heap[OB]? = some o2) (n1 : W.heap.size ≤ NB) (n2 : W.heap.size ≤ OB) : RS w ((OB, o2) :: (NB, o1) :: TR) PB B v0 v1 v2 v3 v4 ss es Z := by
 have h3 := h.new hb n1 h1
 exact ⟨h3.sp, fun p hp => by
  rcases List.mem_cons.1 hp with rfl | hp
  · exact ⟨h2, RFoot_lt h.sp n2⟩
  · exact h3.tr p hp, h3.bl, h3.hB⟩
theorem RS.box {w W Z : World} {TR : List (Nat × Obj)} {PB B b : Nat} {v0 v1 v2 v3 v4 : Value} {ss : List (List Int)} {es : List Edg} (h : RS w TR PB B v0 v1 v2 v3 v4 ss es W) (hc : Chg W Z (fun x => x = b)) {o : Obj} (hb : (b, o) ∈ TR) (hw : w.heap.size ≤ b) : RS w [] PB B v0 v1 v2 v3 v4 ss es Z := by
 have hf := (h.tr _ hb).2
 refine ⟨h.sp.kept (fun x hx => hc.block x (h.sp.foot hx).2 (fun e => hf (e ▸ hx))), fun p hp => (by cases hp), ⟨hc.os.trans h.bl.os, hc.tape.trans h.bl.tape, hc.output.trans h.bl.output, Nat.le_trans h.bl.size hc.size, fun x hx => ?_⟩, h.hB⟩
 exact (hc.block x (Nat.lt_of_lt_of_le hx h.bl.size) (fun e => by omega)).trans (h.bl.block x hx)
theorem infoRound : (Tryz.prog.info? 92).map (fun i => (i.zero, i.size, i.bytes)) = some (some (.agg #[.int .i64 0, .int .i64 0, .int .i64 0, .int .i64 0, .int .i64 0, .int .i64 0]), 6, 48) := by kernel_rfl
theorem laysRound (x0 x1 x2 x3 x4 x5 : Int) (w : World) : (Instr.buildSlice 116 1 #[(0, .agg #[.int .i64 x0, .int .i64 x1, .int .i64 x2, .int .i64 x3, .int .i64 x4, .int .i64 x5])]).run Tryz.prog w = .ok (.slice (some ⟨w.heap.size, 0, none⟩) 1 1) (w.alloc (.cells #[.int .i64 x0, .int .i64 x1, .int .i64 x2, .int .i64 x3, .int .i64 x4, .int .i64 x5] 92)) := by kernel_rfl
theorem cells_new (w : World) (xs : List Value) (t : TypeId) : ∀ (j : Nat) (u : Value), xs[j]? = some u → (w.alloc (.cells xs.toArray t)).cell? ((⟨w.heap.size, 0, none⟩ : Addr).add j) = some u := by
 intro j u hj
 have ea : (⟨w.heap.size, 0, none⟩ : Addr).add j = ⟨w.heap.size, j, none⟩ := by unfold Addr.add; split <;> simp_all
 rw [ea]
 exact cell_heap (heap_new w (.cells xs.toArray t)) hj
theorem RS.grow0 {w W W5 : World} {TR : List (Nat × Obj)} {PB B : Nat} {v0 v1 v2 v3 v4 : Value} {ss : List (List Int)} {es : List Edg} {o : Obj} (h : RS w TR PB B v0 v1 v2 v3 v4 ss es W) (hg : (W.alloc o).grownBy W5 v0.ownBlock) : W5.cell? ⟨PB, 0, none⟩ = some v0 ∧ W5.frozen? ⟨PB, 0, none⟩ = false := by
 have hl := h.sp.lt
 have e : W5.heap[PB]? = W.heap[PB]? := (hg.block PB (by simp; omega) (fun e => h.sp.ap.p0 e.symm)).trans (heap_old W o hl)
 exact ⟨(World.cell?_of_block (w := W) (a := ⟨PB, 0, none⟩) e).trans h.sp.c0, (World.frozen?_of_block (w := W) (a := ⟨PB, 0, none⟩) e).trans (h.sp.fz 0)⟩
theorem RS.row0 {w W : World} {TR : List (Nat × Obj)} {PB B : Nat} {v0 v1 v2 v3 v4 : Value} {ss : List (List Int)} {es : List Edg} (h : RS w TR PB B v0 v1 v2 v3 v4 ss es W) (o : Obj) : (W.alloc o).ownsRow B 133 14 v0 ss.length (flatS ss) :=
 rows_kept h.sp.r0 (fun g hg => heap_old W o (rows_lt h.sp.r0 g hg).2)
theorem ch4_slots {T1 T2 T3 T4 e1 e2 e3 e4 : TypeId} {s1 s2 s3 s4 n1 n2 n3 n4 : Nat} {v1 v2 v3 v4 : Value} {xs1 x1 xs2 x2 xs3 x3 xs4 x4 : List Value} : ∀ d ∈ slots (ixs [(⟨3, 4, 100, 101, T1, e1, s1, v1, n1, xs1, x1⟩ : Ch), ⟨8, 9, 105, 106, T2, e2, s2, v2, n2, xs2, x2⟩, ⟨13, 14, 110, 111, T3, e3, s3, v3, n3, xs3, x3⟩, ⟨18, 19, 115, 116, T4, e4, s4, v4, n4, xs4, x4⟩]), d < 123 := by
 intro d hd
 simp only [ixs, slots, List.map_cons, List.map_nil, List.mem_cons, List.not_mem_nil, or_false] at hd
 omega
theorem ch4_F {w V : World} {TR : List (Nat × Obj)} {PB B LB OB : Nat} {v0 v1 v2 v3 v4 : Value} {ss : List (List Int)} {es : List Edg} {c1 c2 c3 c4 : Ch} {l0 l1 x0 x1 x2 x3 x4 x5 : Int} {o1 o2 : Obj} (h : RS w TR PB B v0 v1 v2 v3 v4 ss es V) (h1 : c1.v = v1) (h2 : c2.v = v2) (h3 : c3.v = v3) (h4 : c4.v = v4) (hL : (LB, o1) ∈ TR) (hO : (OB, o2) ∈ TR)
 (hF : (fun w' : World => w'.cell? ⟨PB, 1, none⟩ = some v1 ∧ w'.cell? ⟨PB, 2, none⟩ = some v2 ∧ w'.cell? ⟨PB, 3, none⟩ = some v3 ∧ w'.cell? ⟨PB, 4, none⟩ = some v4 ∧ w'.cell? ⟨LB, 0, none⟩ = some (.int .i64 l0) ∧ w'.cell? ⟨LB, 1, none⟩ = some (.int .i64 l1) ∧ w'.cell? ⟨OB, 0, none⟩ = some (.int .i64 x0) ∧ w'.cell? ⟨OB, 1, none⟩ = some (.int .i64 x1) ∧ w'.cell? ⟨OB, 2, none⟩ = some (.int .i64 x2) ∧ w'.cell? ⟨OB, 3, none⟩ = some (.int .i64 x3) ∧ w'.cell? ⟨OB, 4, none⟩ = some (.int .i64 x4) ∧ w'.cell? ⟨OB, 5, none⟩ = some (.int .i64 x5)) V) : ∀ W, Frm V [c1, c2, c3, c4] W → (fun w' : World => w'.cell? ⟨PB, 1, none⟩ = some v1 ∧ w'.cell? ⟨PB, 2, none⟩ = some v2 ∧ w'.cell? ⟨PB, 3, none⟩ = some v3 ∧ w'.cell? ⟨PB, 4, none⟩ = some v4 ∧ w'.cell? ⟨LB, 0, none⟩ = some (.int .i64 l0) ∧ w'.cell? ⟨LB, 1, none⟩ = some (.int .i64 l1) ∧ w'.cell? ⟨OB, 0, none⟩ = some (.int .i64 x0) ∧ w'.cell? ⟨OB, 1, none⟩ = some (.int .i64 x1) ∧ w'.cell? ⟨OB, 2, none⟩ = some (.int .i64 x2) ∧ w'.cell? ⟨OB, 3, none⟩ = some (.int .i64 x3) ∧ w'.cell? ⟨OB, 4, none⟩ = some (.int .i64 x4) ∧ w'.cell? ⟨OB, 5, none⟩ = some (.int .i64 x5)) W := by
 intro W hW
 have kp : ∀ b, (¬ RFoot PB v0 v1 v2 v3 v4 b ∨ v0.ownBlock = some b ∨ b = PB) → b < V.heap.size → ∀ j, W.cell? ⟨b, j, none⟩ = V.cell? ⟨b, j, none⟩ := fun b hb hl j => World.cell?_of_block (w := V) (a := ⟨b, j, none⟩) (hW.block b hl (ch4_far h1 h2 h3 h4 hb h.sp))
 have kP := kp PB (.inr (.inr rfl)) h.sp.lt
 have kL := kp LB (.inl (h.tr _ hL).2) (h.lt hL)
 have kO := kp OB (.inl (h.tr _ hO).2) (h.lt hO)
 obtain ⟨f1, f2, f3, f4, f5, f6, g0, g1, g2, g3, g4, g5⟩ := hF
 exact ⟨(kP 1).trans f1, (kP 2).trans f2, (kP 3).trans f3, (kP 4).trans f4, (kL 0).trans f5, (kL 1).trans f6, (kO 0).trans g0, (kO 1).trans g1, (kO 2).trans g2, (kO 3).trans g3, (kO 4).trans g4, (kO 5).trans g5⟩
theorem ch4_fz {w V : World} {TR : List (Nat × Obj)} {PB B : Nat} {v0 v1 v2 v3 v4 : Value} {ss : List (List Int)} {es : List Edg} {c1 c2 c3 c4 : Ch} (h : RS w TR PB B v0 v1 v2 v3 v4 ss es V) (h1 : c1.v = v1) (h2 : c2.v = v2) (h3 : c3.v = v3) (h4 : c4.v = v4) : ∀ W, Frm V [c1, c2, c3, c4] W → ∀ j, W.frozen? ⟨PB, j, none⟩ = false :=
 fun W hW j => (World.frozen?_of_block (w := V) (a := ⟨PB, j, none⟩) (hW.block PB h.sp.lt (ch4_far h1 h2 h3 h4 (.inr (.inr rfl)) h.sp))).trans (h.sp.fz j)
end Go.Proofs.YtjjikhaaimfneaaGreatDoor
