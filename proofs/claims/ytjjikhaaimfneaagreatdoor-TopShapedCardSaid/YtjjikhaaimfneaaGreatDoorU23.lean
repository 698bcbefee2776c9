/-
  Lemmas and walks for the statement: StStart, StRound, StEnd, StMore.
-/
import Derived.Test.YtjjikhaaimfneaaGreatDoorU22
import Derived.RangeFuncBox
import Derived.RangeFuncNested
namespace Go.Proofs.YtjjikhaaimfneaaGreatDoor
open Go.RowKit
set_option linter.unusedSimpArgs false
set_option linter.unusedVariables false
theorem heap_new (W : World) (o : Obj) : (W.alloc o).heap[W.heap.size]? = some o := World.alloc_heap_new W o
theorem heap_old (W : World) (o : Obj) {b : Nat} (h : b < W.heap.size) : (W.alloc o).heap[b]? = W.heap[b]? := ((Below.refl W.heap.size W).alloc (Nat.le_refl _) o).block b h
theorem cell_heap {W : World} {b j : Nat} {vs : List Value} {t : TypeId} {v : Value} (h : W.heap[b]? = some (.cells vs.toArray t (0, 0))) (hv : vs[j]? = some v) : W.cell? ⟨b, j, none⟩ = some v := by simp [World.cell?, h, hv]
theorem froz_heap {W : World} {b j : Nat} {vs : Array Value} {t : TypeId} (h : W.heap[b]? = some (.cells vs t (0, 0))) : W.frozen? ⟨b, j, none⟩ = false := by simp [World.frozen?, h]
theorem blk_heap {W : World} {b : Nat} {vs : List Value} {t : TypeId} (h : W.heap[b]? = some (.cells vs.toArray t (0, 0))) : Blk W b vs := fun j v hj => ⟨cell_heap h hj, froz_heap h⟩
def trs (S PX PB : Nat) (RL : List Value) (fv : Value) : List (Nat × Obj) := [(S, (.cells RL.toArray 49 (0, 0))), (S + 1, (.cells #[fv] 93 (0, 0))), (S + 1 + 1, (.cells #[.pointer none] 88 (0, 0))), (S + 1 + 1 + 1, (.cells #[.int .i64 0] 38 (0, 0))), (PX, (.cells #[.pointer (some ⟨PB, 0, none⟩)] 88 (0, 0)))]
theorem ei_start {K : Nat} {caps : Array Value} {T : List Edg → (Nat → Prop) → World → Prop} (hT : TellOk K caps T) {F0 : Nat → Prop} {w W w1 X : World} {S N : Nat} {RL : List Value} {s0 : List Value} {fv : Value} (h0 : T [] F0 w) (hS : w.heap.size = S)
 (hW : W = (((w.alloc (.cells RL.toArray 49 (0, 0))).alloc (.cells #[fv] 93 (0, 0))).alloc (.cells #[.pointer none] 88 (0, 0))).alloc (.cells #[.int .i64 0] 38 (0, 0))) (hA : Below W.heap.size W w1) (hN : w1.heap.size = N)
 (hX : X = (((w1.alloc (.cells s0.toArray 133)).alloc (.map #[] 0)).alloc (.cells #[.map (some (N + 1)), (.slice none 0 0), (.slice none 0 0), (.slice none 0 0)] 97)).alloc (.cells #[.pointer (some ⟨N + 1 + 1, 0, none⟩)] 88)) :
 EI w F0 T (trs S (N + 1 + 1 + 1) (N + 1 + 1) RL fv) (N + 1 + 1) (N + 1) (N + 4) (.slice none 0 0) (.slice none 0 0) (.slice none 0 0) [] [] [] [] F0 X ∧ X.heap.size = N + 4 ∧ S + 4 ≤ N := by
 have sW : W.heap.size = S + 4 := by rw [hW, ← hS]; simp
 have hSN : S + 4 ≤ N := by have := hA.size; omega
 have sX : X.heap.size = N + 4 := by rw [hX]; simp [hN]
 have bX : Below N w1 X := by rw [hX, ← hN]; exact ((((Below.refl _ _).alloc (Nat.le_refl _) _).alloc (by simp) _).alloc (by simp; omega) _).alloc (by simp; omega) _
 have bW : Below S w W := by rw [hW, ← hS]; exact ((((Below.refl _ _).alloc (Nat.le_refl _) _).alloc (by simp) _).alloc (by simp; omega) _).alloc (by simp; omega) _
 have bAll : Below S w X := (bW.trans (hA.mono (by omega))).trans (bX.mono (by omega))
 have old : ∀ b, b < S + 4 → X.heap[b]? = W.heap[b]? := fun b hb => (bX.block b (by omega)).trans (hA.block b (by omega))
 have w0 : W.heap[S]? = some (.cells RL.toArray 49 (0, 0)) := by
  rw [hW, heap_old _ _ (by simp; omega), heap_old _ _ (by simp; omega), heap_old _ _ (by simp; omega), ← hS]; exact heap_new _ _
 have w1' : W.heap[S + 1]? = some (.cells #[fv] 93 (0, 0)) := by
  rw [hW, heap_old _ _ (by simp; omega), heap_old _ _ (by simp; omega)]
  have := heap_new (w.alloc (.cells RL.toArray 49 (0, 0))) (.cells #[fv] 93 (0, 0))
  simpa [hS] using this
 have w2 : W.heap[S + 1 + 1]? = some (.cells #[.pointer none] 88 (0, 0)) := by
  rw [hW, heap_old _ _ (by simp; omega)]
  have := heap_new ((w.alloc (.cells RL.toArray 49 (0, 0))).alloc (.cells #[fv] 93 (0, 0))) (.cells #[.pointer none] 88 (0, 0))
  simpa [hS] using this
 have w3 : W.heap[S + 1 + 1 + 1]? = some (.cells #[.int .i64 0] 38 (0, 0)) := by
  rw [hW]
  have := heap_new (((w.alloc (.cells RL.toArray 49 (0, 0))).alloc (.cells #[fv] 93 (0, 0))).alloc (.cells #[.pointer none] 88 (0, 0))) (.cells #[.int .i64 0] 38 (0, 0))
  simpa [hS] using this
 have x1 : X.heap[N + 1]? = some (.map #[] 0) := by
  rw [hX, heap_old _ _ (by simp; omega), heap_old _ _ (by simp; omega)]
  have := heap_new (w1.alloc (.cells s0.toArray 133)) (.map #[] 0)
  simpa [hN] using this
 have x2 : X.heap[N + 1 + 1]? = some (.cells [.map (some (N + 1)), (.slice none 0 0), (.slice none 0 0), (.slice none 0 0)].toArray 97 (0, 0)) := by
  rw [hX, heap_old _ _ (by simp; omega)]
  have := heap_new ((w1.alloc (.cells s0.toArray 133)).alloc (.map #[] 0)) (.cells [.map (some (N + 1)), (.slice none 0 0), (.slice none 0 0), (.slice none 0 0)].toArray 97 (0, 0))
  simpa [hN] using this
 have x3 : X.heap[N + 1 + 1 + 1]? = some (.cells #[.pointer (some ⟨N + 1 + 1, 0, none⟩)] 88 (0, 0)) := by
  rw [hX]
  have := heap_new (((w1.alloc (.cells s0.toArray 133)).alloc (.map #[] 0)).alloc (.cells #[.map (some (N + 1)), (.slice none 0 0), (.slice none 0 0), (.slice none 0 0)] 97)) (.cells #[.pointer (some ⟨N + 1 + 1, 0, none⟩)] 88 (0, 0))
  simpa [hN] using this
 have mm : MapAt X (N + 1) [] := by
  have h := MapAt.made w1
  have e : X.heap[N + 1]? = (w1.alloc (.map #[] 0)).heap[w1.heap.size]? := by rw [x1, heap_new]
  obtain ⟨D, ⟨es, clock, hb, h1⟩, h2⟩ := h
  exact ⟨D, ⟨es, clock, e.trans hb, h1⟩, h2⟩
 have nil : ∀ (t : TypeId) (sz : Nat), X.ownsRow (N + 4) t sz (.slice none 0 0) 0 [] := fun t sz => ⟨by simp, .inl ⟨rfl, rfl⟩⟩
 have sp : Spc X (N + 1 + 1) (N + 1) (N + 4) (.slice none 0 0) (.slice none 0 0) (.slice none 0 0) [] [] [] :=
  ⟨cell_heap (j := 0) x2 rfl, cell_heap (j := 1) x2 rfl, cell_heap (j := 2) x2 rfl, cell_heap (j := 3) x2 rfl, fun j => froz_heap x2, mm, nil _ _, nil _ _, nil _ _, (fun g hg => by cases hg), (fun g hg => by cases hg), (fun g hg => by cases hg), by omega, by omega, by omega⟩
 have ft : ∀ b, Foot (N + 1 + 1) (N + 1) (.slice none 0 0) (.slice none 0 0) (.slice none 0 0) b → b = N + 1 + 1 ∨ b = N + 1 := fun b hb => by
  rcases hb with h | h | h | h | h
  · exact .inl h
  · exact .inr h
  · cases h
  · cases h
  · cases h
 have f0 : ∀ b, F0 b → b < S := fun b hb => by rw [← hS]; exact (hT.lt h0 b hb).1
 refine ⟨⟨sp, hT.kept h0 (fun b hb => bAll.block b (f0 b hb)), fun b hb hf => ?_, fun p hp => ?_, Chg.of_below (by rw [hS]; exact bAll), fun b hb hf => ?_, fun b hb hf o ho => ?_⟩, sX, hSN⟩
 · have := f0 b hb
   rcases ft b hf with h | h <;> omega
 · have key : ∀ b, (b < S + 4 ∨ b = N + 1 + 1 + 1) → S ≤ b → ¬ Foot (N + 1 + 1) (N + 1) (.slice none 0 0) (.slice none 0 0) (.slice none 0 0) b ∧ ¬ F0 b := fun b hb hs => ⟨fun hf => by rcases ft b hf with h | h <;> omega, fun hf => by have := f0 b hf; omega⟩
   simp only [trs, List.mem_cons, List.not_mem_nil, or_false] at hp
   rcases hp with rfl | rfl | rfl | rfl | rfl
   · exact ⟨(old _ (by omega)).trans w0, key _ (.inl (by omega)) (by omega)⟩
   · exact ⟨(old _ (by omega)).trans w1', key _ (.inl (by omega)) (by omega)⟩
   · exact ⟨(old _ (by omega)).trans w2, key _ (.inl (by omega)) (by omega)⟩
   · exact ⟨(old _ (by omega)).trans w3, key _ (.inl (by omega)) (by omega)⟩
   · exact ⟨x3, key _ (.inr rfl) (by simp only; omega)⟩
 · rcases hf with hf | hf
   · rcases ft b hf with h | h <;> omega
   · exact hf
 · rcases ft b hf with h | h
   · rw [h, x2] at ho; injection ho with ho; subst ho; rfl
   · exact absurd h hb
end Go.Proofs.YtjjikhaaimfneaaGreatDoor
namespace Go.Proofs.YtjjikhaaimfneaaGreatDoor
open Go.RowKit
set_option linter.unusedSimpArgs false
set_option linter.unusedVariables false
noncomputable def stp (k0 k1 R Q : Int) (q : Nat) (s : List Int) (l : P2) : List Int × List Int := ((stepR k0 k1 R Q (q : Int) l.x l.y s).1, (stepR k0 k1 R Q (q : Int) l.x l.y s).2.1)
noncomputable def rnds (k0 k1 R Q : Int) (q kk : Nat) : Sx := rounds (stp k0 k1 R Q q) (startI k0 k1) (q + 1) kk
def EachEnds (k0 k1 R Q : Int) (q : Nat) (T : List Edg → (Nat → Prop) → World → Prop) (F0 : Nat → Prop) (w : World) (e : Ending) (w' : World) : Prop :=
 ∃ kk, SxEnds (step := stp k0 k1 R Q q) (startI k0 k1) (q + 1) kk ∧
  ((∃ PB MB B v1 v2 v3 F, (rnds k0 k1 R Q q kk).full = false ∧ e = .returned (.tuple #[.pointer (some ⟨PB, 0, none⟩), .int .i64 0]) ∧ EI w F0 T [] PB MB B v1 v2 v3 (rnds k0 k1 R Q q kk).states (rnds k0 k1 R Q q kk).fr (rnds k0 k1 R Q q kk).bys (rnds k0 k1 R Q q kk).edges F w') ∨
   ((rnds k0 k1 R Q q kk).full = true ∧ e = .returned (.tuple #[.pointer none, .int .i64 4]) ∧ Chg w w' F0))
theorem gd_start {k0 k1 : Int} (h : kindsOk k0 k1) : Gd [k0, 1, -1, 0, 0, 0, k1, 1, -1, 0, 0, 0, 0, 0] := by
 obtain ⟨h1, h2, h3, h4⟩ := h
 refine ⟨rfl, fun z hz => ?_⟩
 simp only [List.mem_cons, List.not_mem_nil, or_false] at hz
 unfold Sml; omega
theorem right_start {kd : Int} (h1 : 1 ≤ kd) (h2 : kd ≤ 3) : rightK kd ⟨kd, 1, -1, 0, 0, 0⟩ = true := by
 rcases (show kd = 1 ∨ kd = 2 ∨ kd = 3 by omega) with rfl | rfl | rfl <;> simp [rightK, vegRight, copRight, ledRight]
theorem flat_get {ss : List (List Int)} (h : ∀ t ∈ ss, t.length = 14) : ∀ {k j : Nat} {s : List Int} {x : Int}, ss[k]? = some s → s[j]? = some x → (flatS ss)[k * 14 + j]? = some (.int .i64 x) := by
 induction ss with
 | nil => intro k j s x hk; simp at hk
 | cons t ss ih =>
   intro k j s x hk hj
   have ht : t.length = 14 := h t (by simp)
   show (t.map (Value.int .i64) ++ flatS ss)[k * 14 + j]? = _
   cases k with
   | zero =>
     obtain rfl : t = s := by simpa using hk
     have hl := (List.getElem?_eq_some_iff.1 hj).1
     rw [List.getElem?_append_left (by simp; omega)]
     simp [hj]
   | succ k =>
     rw [List.getElem?_append_right (by simp; omega)]
     have := ih (fun t ht => h t (by simp [ht])) (k := k) (j := j) (by simpa using hk) hj
     rw [← this]; congr 1; simp only [List.length_map, ht]; omega
theorem Spc.stateAt {W : World} {PB MB B k : Nat} {v1 v2 v3 : Value} {ss : List (List Int)} {fr : List Int} {bys : List P2} {a0 a1 a2 a3 a4 a5 a6 a7 a8 a9 a10 a11 a12 a13 : Int} (h : Spc W PB MB B v1 v2 v3 ss fr bys) (hl : ∀ t ∈ ss, t.length = 14) (hk : ss[k]? = some [a0, a1, a2, a3, a4, a5, a6, a7, a8, a9, a10, a11, a12, a13]) :
 ∃ (ad : Addr) (cap : Nat), v1 = .slice (some ad) ss.length cap ∧ (ad.add (k * 14)).block < W.heap.size ∧ W.cell? (ad.add (k * 14)) = some (.int .i64 a0) ∧ W.cell? (⟨(ad.add (k * 14)).block, (ad.add (k * 14)).off + 1, none⟩) = some (.int .i64 a1) ∧ W.cell? (⟨(ad.add (k * 14)).block, (ad.add (k * 14)).off + 2, none⟩) = some (.int .i64 a2) ∧ W.cell? (⟨(ad.add (k * 14)).block, (ad.add (k * 14)).off + 3, none⟩) = some (.int .i64 a3) ∧ W.cell? (⟨(ad.add (k * 14)).block, (ad.add (k * 14)).off + 4, none⟩) = some (.int .i64 a4) ∧ W.cell? (⟨(ad.add (k * 14)).block, (ad.add (k * 14)).off + 5, none⟩) = some (.int .i64 a5) ∧ W.cell? (⟨(ad.add (k * 14)).block, (ad.add (k * 14)).off + 6, none⟩) = some (.int .i64 a6) ∧ W.cell? (⟨(ad.add (k * 14)).block, (ad.add (k * 14)).off + 7, none⟩) = some (.int .i64 a7) ∧ W.cell? (⟨(ad.add (k * 14)).block, (ad.add (k * 14)).off + 8, none⟩) = some (.int .i64 a8) ∧ W.cell? (⟨(ad.add (k * 14)).block, (ad.add (k * 14)).off + 9, none⟩) = some (.int .i64 a9) ∧ W.cell? (⟨(ad.add (k * 14)).block, (ad.add (k * 14)).off + 10, none⟩) = some (.int .i64 a10) ∧ W.cell? (⟨(ad.add (k * 14)).block, (ad.add (k * 14)).off + 11, none⟩) = some (.int .i64 a11) ∧ W.cell? (⟨(ad.add (k * 14)).block, (ad.add (k * 14)).off + 12, none⟩) = some (.int .i64 a12) ∧ W.cell? (⟨(ad.add (k * 14)).block, (ad.add (k * 14)).off + 13, none⟩) = some (.int .i64 a13) := by
 have hkl := (List.getElem?_eq_some_iff.1 hk).1
 rcases h.r1.2 with ⟨_, h0⟩ | ⟨g, cap, cur, rfl, hg, hh, hn, hm, hs, hx⟩
 · omega
 · have hglt := (Array.getElem?_eq_some_iff.1 hh).1
   have key : ∀ (j : Nat) (x : Int), [a0, a1, a2, a3, a4, a5, a6, a7, a8, a9, a10, a11, a12, a13][j]? = some x → W.cell? ⟨g, k * 14 + j, none⟩ = some (.int .i64 x) := fun j x hj => by
    have h1 := flat_get hl hk hj
    rw [← hx] at h1
    rw [List.getElem?_take] at h1
    split at h1
    · simp [World.cell?, hh]
      simpa using h1
    · cases h1
   have ea : (⟨g, 0, none⟩ : Addr).add (k * 14) = ⟨g, k * 14, none⟩ := by unfold Addr.add; split <;> simp_all
   refine ⟨⟨g, 0, none⟩, cap, rfl, by rw [ea]; exact hglt, by rw [ea]; exact key 0 _ rfl, by rw [ea]; exact key 1 _ rfl, by rw [ea]; exact key 2 _ rfl, by rw [ea]; exact key 3 _ rfl, by rw [ea]; exact key 4 _ rfl, by rw [ea]; exact key 5 _ rfl, by rw [ea]; exact key 6 _ rfl, by rw [ea]; exact key 7 _ rfl, by rw [ea]; exact key 8 _ rfl, by rw [ea]; exact key 9 _ rfl, by rw [ea]; exact key 10 _ rfl, by rw [ea]; exact key 11 _ rfl, by rw [ea]; exact key 12 _ rfl, by rw [ea]; exact key 13 _ rfl⟩
def GG (k0 k1 R Q : Int) (q : Nat) (s : List Int) : Prop := StRightL k0 k1 R Q (q : Int) s ∧ Gd s
def UU (us : List Int) : Prop := us.length = 6 ∧ ∀ z ∈ us, 0 ≤ z ∧ z ≤ 100
theorem stp_good {k0 k1 R Q : Int} {q : Nat} {l : P2} (hl : 0 ≤ l.x ∧ l.x ≤ (q : Int) ∧ 0 ≤ l.y ∧ l.y ≤ (q : Int)) {s : List Int} (h : GG k0 k1 R Q q s) : GG k0 k1 R Q q (stp k0 k1 R Q q s l).1 ∧ UU (stp k0 k1 R Q q s l).2 := by
 obtain ⟨h1, h2, h3⟩ := h
 obtain ⟨a0, a1, a2, a3, a4, a5, a6, a7, a8, a9, a10, a11, a12, a13, rfl⟩ := len14 h2
 have g := stepR_good k0 k1 R Q (q : Int) a0 a1 a2 a3 a4 a5 a6 a7 a8 a9 a10 a11 a12 a13 l.x l.y h1 hl
 have e := stepR_len k0 k1 R Q (q : Int) l.x l.y [a0, a1, a2, a3, a4, a5, a6, a7, a8, a9, a10, a11, a12, a13]
 exact ⟨⟨g.2.1, e.1, e.2.2.1⟩, e.2.1, g.2.2⟩
theorem stp_calls {k0 k1 R Q : Int} {q : Nat} {l0 l1 : Int} (hl : 0 ≤ l0 ∧ l0 ≤ (q : Int) ∧ 0 ≤ l1 ∧ l1 ≤ (q : Int)) {a0 a1 a2 a3 a4 a5 a6 a7 a8 a9 a10 a11 a12 a13 : Int} (h : GG k0 k1 R Q q [a0, a1, a2, a3, a4, a5, a6, a7, a8, a9, a10, a11, a12, a13]) : ∃ c0 c1 c2 c3 c4 c5 c6 c7 c8 c9 c10 c11 c12 c13 x0 x1 x2 x3 x4 x5 : Int, stp k0 k1 R Q q [a0, a1, a2, a3, a4, a5, a6, a7, a8, a9, a10, a11, a12, a13] ⟨l0, l1⟩ = ([c0, c1, c2, c3, c4, c5, c6, c7, c8, c9, c10, c11, c12, c13], [x0, x1, x2, x3, x4, x5]) ∧ GG k0 k1 R Q q [c0, c1, c2, c3, c4, c5, c6, c7, c8, c9, c10, c11, c12, c13] ∧ (∀ z ∈ [x0, x1, x2, x3, x4, x5], 0 ≤ z ∧ z ≤ 100) ∧
 (∀ w : World, Calls Tryz.prog 68 #[.agg #[.int .i64 k0, .int .i64 k1, .int .i64 R, .int .i64 Q, .int .i64 (q : Int)], .agg #[.int .i64 a0, .int .i64 a1, .int .i64 a2, .int .i64 a3, .int .i64 a4, .int .i64 a5, .int .i64 a6, .int .i64 a7, .int .i64 a8, .int .i64 a9, .int .i64 a10, .int .i64 a11, .int .i64 a12, .int .i64 a13], .agg #[.int .i64 l0, .int .i64 l1]] w fun e w' => e = .returned (.tuple #[.agg #[.int .i64 c0, .int .i64 c1, .int .i64 c2, .int .i64 c3, .int .i64 c4, .int .i64 c5, .int .i64 c6, .int .i64 c7, .int .i64 c8, .int .i64 c9, .int .i64 c10, .int .i64 c11, .int .i64 c12, .int .i64 c13], .agg #[.int .i64 x0, .int .i64 x1, .int .i64 x2, .int .i64 x3, .int .i64 x4, .int .i64 x5], .int .i64 0]) ∧ Below w.heap.size w w') ∧
 (∀ w : World, Calls Tryz.prog 84 #[.agg #[.int .i64 k0, .int .i64 k1, .int .i64 R, .int .i64 Q, .int .i64 (q : Int)], .agg #[.int .i64 a0, .int .i64 a1, .int .i64 a2, .int .i64 a3, .int .i64 a4, .int .i64 a5, .int .i64 a6, .int .i64 a7, .int .i64 a8, .int .i64 a9, .int .i64 a10, .int .i64 a11, .int .i64 a12, .int .i64 a13], .agg #[.int .i64 l0, .int .i64 l1]] w fun e w' => e = .returned (.tuple #[.agg #[.int .i64 c0, .int .i64 c1, .int .i64 c2, .int .i64 c3, .int .i64 c4, .int .i64 c5, .int .i64 c6, .int .i64 c7, .int .i64 c8, .int .i64 c9, .int .i64 c10, .int .i64 c11, .int .i64 c12, .int .i64 c13], .agg #[.int .i64 x0, .int .i64 x1, .int .i64 x2, .int .i64 x3, .int .i64 x4, .int .i64 x5], .int .i64 0]) ∧ Below w.heap.size w w') := by
 have g0 := stp_good (l := ⟨l0, l1⟩) hl h
 obtain ⟨_, _, _, _, r1, r2⟩ := stepR_is k0 k1 R Q (q : Int) a0 a1 a2 a3 a4 a5 a6 a7 a8 a9 a10 a11 a12 a13 l0 l1
 have g := stepR_good k0 k1 R Q (q : Int) a0 a1 a2 a3 a4 a5 a6 a7 a8 a9 a10 a11 a12 a13 l0 l1 h.1 hl
 obtain ⟨c0, c1, c2, c3, c4, c5, c6, c7, c8, c9, c10, c11, c12, c13, hc⟩ := len14 g0.1.2.1
 obtain ⟨x0, x1, x2, x3, x4, x5, hx⟩ := len6 g0.2.1
 have hc' : (stepR k0 k1 R Q (q : Int) l0 l1 [a0, a1, a2, a3, a4, a5, a6, a7, a8, a9, a10, a11, a12, a13]).1 = [c0, c1, c2, c3, c4, c5, c6, c7, c8, c9, c10, c11, c12, c13] := hc
 have hx' : (stepR k0 k1 R Q (q : Int) l0 l1 [a0, a1, a2, a3, a4, a5, a6, a7, a8, a9, a10, a11, a12, a13]).2.1 = [x0, x1, x2, x3, x4, x5] := hx
 rw [hc', hx', g.1] at r1 r2
 refine ⟨c0, c1, c2, c3, c4, c5, c6, c7, c8, c9, c10, c11, c12, c13, x0, x1, x2, x3, x4, x5, ?_, ?_, ?_, r1, r2⟩
 · exact Prod.ext hc hx
 · rw [← hc]; exact g0.1
 · rw [← hx]; exact g0.2.2
theorem start_good {k0 k1 R Q : Int} {q : Nat} (hk : kindsOk k0 k1) (hr : rangeOk R Q (q : Int)) : SxOk (GG k0 k1 R Q q) UU (rnds k0 k1 R Q q 0) := by
 have hg := gd_start hk
 refine ⟨rfl, rfl, Nat.le_refl _, by show 1 ≤ 300; omega, by simp [rnds, rounds], fun s hs => ?_, fun e E hE => by simp [rnds, rounds] at hE, fun i h1 h2 => by simp [rnds, rounds] at h2; omega⟩
 simp only [rnds, rounds, startI, List.mem_cons, List.not_mem_nil, or_false] at hs
 subst hs
 refine ⟨⟨hk, hr, ?_, ?_, by omega, by omega, ?_⟩, hg⟩
 · exact right_start hk.1 hk.2.1
 · exact right_start hk.2.2.1 hk.2.2.2
 · unfold rangeOk at hr; omega
end Go.Proofs.YtjjikhaaimfneaaGreatDoor
namespace Go.Proofs.YtjjikhaaimfneaaGreatDoor
open Go.RowKit
set_option linter.unusedSimpArgs false
set_option linter.unusedVariables false
section
variable {w W W' : World} {F0 : Nat → Prop} {T : List Edg → (Nat → Prop) → World → Prop} {TR : List (Nat × Obj)} {PB MB B : Nat} {v1 v2 v3 : Value} {ss : List (List Int)} {fr : List Int} {bys : List P2} {es : List Edg} {F : Nat → Prop} {K : Nat} {caps : Array Value}
def dls (ds : List Nat) : List (Nat × Obj) := ds.map fun D => (D, .deferred (some []))
theorem dls_mem {ds : List Nat} {p : Nat × Obj} (h : p ∈ dls ds) : p.1 ∈ ds ∧ p.2 = .deferred (some []) := by
 simp only [dls, List.mem_map] at h
 obtain ⟨D, hD, rfl⟩ := h
 exact ⟨hD, rfl⟩
theorem mem_dls {ds : List Nat} {D : Nat} (h : D ∈ ds) : (D, .deferred (some [])) ∈ dls ds := List.mem_map.2 ⟨D, h, rfl⟩
theorem EI.ne (h : EI w F0 T TR PB MB B v1 v2 v3 ss fr bys es F W) {p p' : Nat × Obj} (hp : p ∈ TR) (hp' : p' ∈ TR) (hne : p.2 ≠ p'.2) : p.1 ≠ p'.1 := fun e => by
 have h1 := (h.tr p hp).1
 have h2 := (h.tr p' hp').1
 rw [e, h2] at h1
 injection h1 with h1
 exact hne h1.symm
theorem box_set {b : Nat} {t : TypeId} {u : Value} (h : W.heap[b]? = some (.cells #[u] t (0, 0))) (v : Value) : (W.setCell ⟨b, 0, none⟩ v).heap[b]? = some (.cells #[v] t (0, 0)) := Boxed.set (W := W) v h
theorem EI.ret (hT : TellOk K caps T) {S : Nat} {ds : List Nat} (h : EI w F0 T TR PB MB B v1 v2 v3 ss fr bys es F W) (h2 : (S + 1 + 1, .cells #[.pointer none] 88 (0, 0)) ∈ TR) (h3 : (S + 1 + 1 + 1, .cells #[.int .i64 0] 38 (0, 0)) ∈ TR) (hd : ∀ D ∈ ds, (D, .deferred (some [])) ∈ TR) (hS : w.heap.size = S) (va vb : Value) :
 EI w F0 T ((S + 1 + 1 + 1, .cells #[vb] 38 (0, 0)) :: (S + 1 + 1, .cells #[va] 88 (0, 0)) :: dls ds) PB MB B v1 v2 v3 ss fr bys es F ((W.setCell ⟨S + 1 + 1, 0, none⟩ va).setCell ⟨S + 1 + 1 + 1, 0, none⟩ vb) := by
 have hx : ∀ p ∈ dls ds, p.1 ≠ S + 1 + 1 ∧ p.1 ≠ S + 1 + 1 + 1 := fun p hp => by
  obtain ⟨h4, h5⟩ := dls_mem hp
  have h6 := hd _ h4
  exact ⟨h.ne h6 h2 (by simp), h.ne h6 h3 (by simp)⟩
 have g1 : EI w F0 T ((S + 1 + 1, .cells #[.pointer none] 88 (0, 0)) :: (S + 1 + 1 + 1, .cells #[.int .i64 0] 38 (0, 0)) :: dls ds) PB MB B v1 v2 v3 ss fr bys es F W := h.sub fun p hp => by
  rcases List.mem_cons.1 hp with rfl | hp
  · exact h2
  rcases List.mem_cons.1 hp with rfl | hp
  · exact h3
  obtain ⟨h4, h5⟩ := dls_mem hp
  have := hd _ h4
  rw [← h5] at this; exact this
 have g2 := g1.turn hT (W' := W.setCell ⟨S + 1 + 1, 0, none⟩ va) (fun p hp => by
  rcases List.mem_cons.1 hp with rfl | hp
  · simp
  · exact (hx p hp).1) (by omega) (setCell_chg W ⟨S + 1 + 1, 0, none⟩ va) (box_set (g1.tr (S + 1 + 1, .cells #[.pointer none] 88 (0, 0)) List.mem_cons_self).1 va)
 have g3 : EI w F0 T ((S + 1 + 1 + 1, .cells #[.int .i64 0] 38 (0, 0)) :: (S + 1 + 1, .cells #[va] 88 (0, 0)) :: dls ds) PB MB B v1 v2 v3 ss fr bys es F (W.setCell ⟨S + 1 + 1, 0, none⟩ va) := g2.sub fun p hp => by
  simp only [List.mem_cons] at hp ⊢
  rcases hp with h | h | h
  · exact .inr (.inl h)
  · exact .inl h
  · exact .inr (.inr h)
 exact g3.turn hT (fun p hp => by
  rcases List.mem_cons.1 hp with rfl | hp
  · simp
  · exact (hx p hp).2) (by omega) (setCell_chg _ ⟨S + 1 + 1 + 1, 0, none⟩ vb) (box_set (g3.tr (S + 1 + 1 + 1, .cells #[.int .i64 0] 38 (0, 0)) List.mem_cons_self).1 vb)
theorem EI.left (hT : TellOk K caps T) {S : Nat} {ds : List Nat} {va vb : Value} (h : EI w F0 T ((S + 1 + 1 + 1, .cells #[vb] 38 (0, 0)) :: (S + 1 + 1, .cells #[va] 88 (0, 0)) :: dls ds) PB MB B v1 v2 v3 ss fr bys es F W) (hc : Chg W W' (fun b => b ∈ ds)) (hS : w.heap.size = S) (hds : ∀ D ∈ ds, S ≤ D) :
 W'.cell? ⟨S + 1 + 1, 0, none⟩ = some va ∧ W'.cell? ⟨S + 1 + 1 + 1, 0, none⟩ = some vb ∧ EI w F0 T [] PB MB B v1 v2 v3 ss fr bys es F W' := by
 have nd : ∀ (b : Nat) (v : Value) (t : TypeId), (b, .cells #[v] t (0, 0)) ∈ ((S + 1 + 1 + 1, .cells #[vb] 38 (0, 0)) :: (S + 1 + 1, .cells #[va] 88 (0, 0)) :: dls ds : List (Nat × Obj)) → W'.cell? ⟨b, 0, none⟩ = some v := fun b v t hm => by
  have h1 := (h.tr _ hm).1
  have h2 : W'.heap[b]? = W.heap[b]? := hc.block b (Array.getElem?_eq_some_iff.1 h1).1 (fun hd => h.ne (p := (b, .deferred (some []))) (List.mem_cons_of_mem _ (List.mem_cons_of_mem _ (mem_dls hd))) hm (by simp) rfl)
  exact cell_heap (vs := [v]) (h2.trans h1) rfl
 refine ⟨nd (S + 1 + 1) va 88 (by simp), nd (S + 1 + 1 + 1) vb 38 (by simp), (h.sub (TR' := []) (fun p hp => by simp at hp)).kept hT (hc.mono fun b hb => ?_)⟩
 obtain ⟨_, h2, h3⟩ := h.tr (b, .deferred (some [])) (List.mem_cons_of_mem _ (List.mem_cons_of_mem _ (mem_dls hb)))
 exact ⟨h2, h3, (fun p hp => by simp at hp), by have := hds b hb; omega⟩
end
end Go.Proofs.YtjjikhaaimfneaaGreatDoor
namespace Go.Proofs.YtjjikhaaimfneaaGreatDoor
open Go.RowKit Go.Shelf
set_option linter.unusedSimpArgs false
set_option linter.unusedVariables false
def trk (KB kk : Nat) (ds : List Nat) : List (Nat × Obj) := (KB, .cells #[.int .i64 kk] 3 (0, 0)) :: dls ds
def LR (k0 k1 R Q : Int) (q : Nat) (T : List Edg → (Nat → Prop) → World → Prop) (F0 : Nat → Prop) (w : World) (S N : Nat) (fv : Value) (kk KB : Nat) (ds : List Nat) (W : World) : Prop :=
 ∃ v1 v2 v3 F, EI w F0 T (trk KB kk ds ++ trs S (N + 1 + 1 + 1) (N + 1 + 1) [.int .i64 k0, .int .i64 k1, .int .i64 R, .int .i64 Q, .int .i64 (q : Int)] fv) (N + 1 + 1) (N + 1) (N + 4) v1 v2 v3 (rnds k0 k1 R Q q kk).states (rnds k0 k1 R Q q kk).fr (rnds k0 k1 R Q q kk).bys (rnds k0 k1 R Q q kk).edges F W ∧
  (rnds k0 k1 R Q q kk).full = false ∧ SxOk (GG k0 k1 R Q q) UU (rnds k0 k1 R Q q kk) ∧ (rnds k0 k1 R Q q kk).edges.length = kk * ((q + 1) * (q + 1)) ∧ kk ≤ (rnds k0 k1 R Q q kk).states.length ∧ ds.Nodup ∧ (∀ D ∈ ds, S ≤ D) ∧
  (∀ j, j < kk → (rnds k0 k1 R Q q j).full = false ∧ j < (rnds k0 k1 R Q q j).states.length) ∧ N + 4 ≤ W.heap.size
def RI (k0 k1 R Q : Int) (q : Nat) (T : List Edg → (Nat → Prop) → World → Prop) (F0 : Nat → Prop) (w : World) (S N : Nat) (fv : Value) (kk KB RB : Nat) (ds : List Nat) (pre : List (Late q)) (W : World) : Prop :=
 ∃ v1 v2 v3 F, EI w F0 T ((RB, .cells #[.int .i64 k0, .int .i64 k1, .int .i64 R, .int .i64 Q, .int .i64 (q : Int)] 49 (0, 0)) :: (trk KB kk ds ++ trs S (N + 1 + 1 + 1) (N + 1 + 1) [.int .i64 k0, .int .i64 k1, .int .i64 R, .int .i64 Q, .int .i64 (q : Int)] fv)) (N + 1 + 1) (N + 1) (N + 4) v1 v2 v3 ((rnds k0 k1 R Q q kk).walk (stp k0 k1 R Q q) kk (pre.map fun x => x.1)).states ((rnds k0 k1 R Q q kk).walk (stp k0 k1 R Q q) kk (pre.map fun x => x.1)).fr ((rnds k0 k1 R Q q kk).walk (stp k0 k1 R Q q) kk (pre.map fun x => x.1)).bys ((rnds k0 k1 R Q q kk).walk (stp k0 k1 R Q q) kk (pre.map fun x => x.1)).edges F W ∧
  ((rnds k0 k1 R Q q kk).walk (stp k0 k1 R Q q) kk (pre.map fun x => x.1)).full = false
def RX (k0 k1 R Q : Int) (q : Nat) (T : List Edg → (Nat → Prop) → World → Prop) (F0 : Nat → Prop) (w : World) (S N : Nat) (kk : Nat) (ds : List Nat) (c : Code) (pre : List (Late q)) (W : World) : Prop :=
 c = .ret ∧ ((rnds k0 k1 R Q q kk).walk (stp k0 k1 R Q q) kk (pre.map fun x => x.1)).full = true ∧ ∃ v1 v2 v3 F ss fr bys es, EI w F0 T ((S + 1 + 1 + 1, .cells #[.int .i64 4] 38 (0, 0)) :: (S + 1 + 1, .cells #[.pointer none] 88 (0, 0)) :: dls ds) (N + 1 + 1) (N + 1) (N + 4) v1 v2 v3 ss fr bys es F W
def AX (q : Nat) (T : List Edg → (Nat → Prop) → World → Prop) (F0 : Nat → Prop) (w : World) (N : Nat) (mk : Nat → Value → Array Value) (x : Late q) (a' : Act) (W : World) : Prop :=
 ∃ LB, a' = { tmps := mk LB (.agg #[.int .i64 x.1.x, .int .i64 x.1.y]), defers := [] } ∧ ∃ v1 v2 v3 ss fr bys es F, EI w F0 T [(LB, .cells #[.int .i64 x.1.x, .int .i64 x.1.y] 47 (0, 0))] (N + 1 + 1) (N + 1) (N + 4) v1 v2 v3 ss fr bys es F W
theorem KeepsFrom.of_below {B : Nat} {W W' : World} (h : Below W.heap.size W W') : KeepsFrom B W W' := ⟨h.size, fun k o _ hk _ => (h.block k (Array.getElem?_eq_some_iff.1 hk).1).trans hk⟩
theorem EI.own {w W W' : World} {F0 : Nat → Prop} {T : List Edg → (Nat → Prop) → World → Prop} {TR : List (Nat × Obj)} {PB MB B : Nat} {v1 v2 v3 : Value} {ss : List (List Int)} {fr : List Int} {bys : List P2} {es : List Edg} {F : Nat → Prop} {K : Nat} {caps : Array Value} (hT : TellOk K caps T) (h : EI w F0 T TR PB MB B v1 v2 v3 ss fr bys es F W) {Bl : Nat} {row : Option Nat} (hg : W.grownBy W' row) (hr : ∀ r, row = some r → Bl ≤ r ∧ ∃ o : Obj, W.heap[r]? = some o ∧ o.isCells = false)
 (hB : B ≤ Bl) (hw : w.heap.size ≤ Bl) (hlt : ∀ p ∈ TR, p.2.isCells = false → p.1 < Bl) : EI w F0 T TR PB MB B v1 v2 v3 ss fr bys es F W' := by
 refine h.kept hT ⟨hg.os, hg.tape, hg.output, hg.size, fun b hb hn => ?_⟩
 refine hg.block b hb (fun e => hn ?_)
 obtain ⟨h1, o, h2, h3⟩ := hr b e.symm
 refine ⟨fun hf => ?_, fun hf => ?_, fun p hp hpe => ?_, by omega⟩
 · by_cases hm : b = MB
   · have := h.sp.mB; omega
   · have := h.mbc b hm hf o h2; rw [h3] at this; cases this
 · have := (hT.lt h.tl b hf).2 o h2; rw [h3] at this; cases this
 · have h4 := (h.tr p hp).1
   rw [hpe, h2] at h4
   injection h4 with h4
   have := hlt p hp (by rw [← h4]; exact h3)
   omega
theorem late_ok {q : Nat} (xs : List (Late q)) : ∀ l ∈ xs.map (fun x => x.1), 0 ≤ l.x ∧ l.x ≤ (q : Int) ∧ 0 ≤ l.y ∧ l.y ≤ (q : Int) := by
 intro l hl
 obtain ⟨x, _, rfl⟩ := List.mem_map.1 hl
 exact x.2
theorem walk_ok {k0 k1 R Q : Int} {q kk : Nat} (h : SxOk (GG k0 k1 R Q q) UU (rnds k0 k1 R Q q kk)) (hk : kk < (rnds k0 k1 R Q q kk).states.length) (xs : List (Late q)) : SxOk (GG k0 k1 R Q q) UU ((rnds k0 k1 R Q q kk).walk (stp k0 k1 R Q q) kk (xs.map fun x => x.1)) :=
 h.walk hk (fun l hl s hs => stp_good (late_ok xs l hl) hs)
theorem rnds_succ (k0 k1 R Q : Int) (q kk : Nat) : rnds k0 k1 R Q q (kk + 1) = (rnds k0 k1 R Q q kk).walk (stp k0 k1 R Q q) kk (latesP (q + 1) ((q + 1) * (q + 1))) := rfl
theorem full_pre {k0 k1 R Q : Int} {q kk m : Nat} {pre : List P2} (hm : m ≤ (q + 1) * (q + 1)) (hp : pre = latesP (q + 1) m) (hf : ((rnds k0 k1 R Q q kk).walk (stp k0 k1 R Q q) kk pre).full = true) : (rnds k0 k1 R Q q (kk + 1)).full = true := by
 obtain ⟨r, hr⟩ := latesP_pre (N := q + 1) hm
 rw [rnds_succ, hr, Sx.walk_app, ← hp, Sx.walk_full hf]; exact hf
section
variable {w W W' : World} {F0 : Nat → Prop} {T : List Edg → (Nat → Prop) → World → Prop} {TR : List (Nat × Obj)} {PB MB B : Nat} {v1 v2 v3 : Value} {ss : List (List Int)} {fr : List Int} {bys : List P2} {es : List Edg} {F : Nat → Prop} {K : Nat} {caps : Array Value}
theorem EI.mark (hT : TellOk K caps T) (h : EI w F0 T TR PB MB B v1 v2 v3 ss fr bys es F W) {D : Nat} {o : Obj} (hD : W.heap[D]? = some o) (ho : o.isCells = false) (hB : B ≤ D) : EI w F0 T ((D, o) :: TR) PB MB B v1 v2 v3 ss fr bys es F W := by
 have hm : D ≠ MB := by have := h.sp.mB; omega
 refine h.track hD (fun hf => ?_) (fun hf => ?_)
 · have := h.mbc D hm hf o hD; rw [ho] at this; cases this
 · have := (hT.lt h.tl D hf).2 o hD; rw [ho] at this; cases this
end
theorem LR.next {k0 k1 R Q : Int} {q : Nat} {T : List Edg → (Nat → Prop) → World → Prop} {F0 : Nat → Prop} {w : World} {S N : Nat} {fv : Value} {kk KB RB D L : Nat} {ds : List Nat} {xs : List (Late q)} {W W' : World} {K : Nat} {caps : Array Value} (hT : TellOk K caps T)
 (hI : RI k0 k1 R Q q T F0 w S N fv kk KB RB ds xs W) (hxs : xs.map (fun x => x.1) = latesP (q + 1) ((q + 1) * (q + 1))) (hok : SxOk (GG k0 k1 R Q q) UU (rnds k0 k1 R Q q kk)) (hel : (rnds k0 k1 R Q q kk).edges.length = kk * ((q + 1) * (q + 1))) (hf : (rnds k0 k1 R Q q kk).full = false) (hk : kk < (rnds k0 k1 R Q q kk).states.length) (hnd : ds.Nodup) (hds : ∀ E ∈ ds, S ≤ E) (hlt : ∀ E ∈ ds, E < L) (hLD : L ≤ D) (hNL : N + 4 ≤ L) (hSN : S + 4 ≤ N)
 (hbef : ∀ j, j < kk → (rnds k0 k1 R Q q j).full = false ∧ j < (rnds k0 k1 R Q q j).states.length) (hD : W.heap[D]? = some (.deferred (some []))) (hW' : W' = W.alloc (.cells #[.int .i64 ((kk : Int) + 1)] 3 (0, 0))) : LR k0 k1 R Q q T F0 w S N fv (kk + 1) W.heap.size (D :: ds) W' := by
 obtain ⟨v1, v2, v3, F, hE, hfull⟩ := hI
 have hwk := walk_ok hok hk xs
 have hmono := Sx.walk_mono (step := stp k0 k1 R Q q) (rnds k0 k1 R Q q kk) kk (xs.map fun x => x.1)
 have hed := Sx.walk_edges hfull
 have hDl := (Array.getElem?_eq_some_iff.1 hD).1
 rw [hxs] at hE hfull hwk hmono hed
 rw [← rnds_succ] at hE hfull hwk hmono hed
 rw [latesP_len] at hed
 have h1 := (hE.mark hT hD rfl (by omega)).alloc hT (.cells #[.int .i64 ((kk : Int) + 1)] 3 (0, 0))
 rw [← hW'] at h1
 refine ⟨v1, v2, v3, F, h1.sub (fun p hp => ?_), hfull, hwk, ?_, by omega, List.nodup_cons.2 ⟨fun h => by have := hlt D h; omega, hnd⟩, fun E hE => ?_, fun j hj => ?_, by rw [hW']; simp; omega⟩
 · simp only [trk, dls, List.map_cons, List.cons_append, List.mem_cons, List.mem_append] at hp ⊢
   rcases hp with rfl | h | h | h
   · exact .inl (by simp)
   · exact .inr (.inl h)
   · exact .inr (.inr (.inr (.inr (.inl h))))
   · exact .inr (.inr (.inr (.inr (.inr h))))
 · rw [hed, hel, Nat.add_mul kk 1, Nat.one_mul]
 · rcases List.mem_cons.1 hE with rfl | hE
   · omega
   · exact hds E hE
 · rcases (show j < kk ∨ j = kk by omega) with h | rfl
   · exact hbef j h
   · exact ⟨hf, hk⟩
end Go.Proofs.YtjjikhaaimfneaaGreatDoor
