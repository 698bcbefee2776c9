/-
  Lemmas and walks for the statement: StSpec, StMap, RegM, RegM2, SpcL, Find.
-/
import Derived.Test.YtagbikgfkakbfaaQ01
import Derived.Test.YtagbikgfkakbfaaQ26
import Derived.Maps.OwnSet
import Derived.Maps.Views
import Derived.DeepKeys4
import Derived.Maps.AppendAt
import Derived.Below
import Derived.WalkKit
import Derived.RangeFuncCalls
import Derived.Test.YtagbikgfkakbfaaQ11
namespace Go.Proofs.Ytagbikgfkakbfaa
set_option linter.unusedSimpArgs false
set_option linter.unusedVariables false
structure Bfs where
 states : List (List Int)
 tos : List Nat
 born : List Nat
 full : Bool
section
variable (step : List Int → Nat → Nat → List Int × List Int) (N : Nat) (s0 : List Int)
def lateOf (e : Nat) : Nat × Nat := (e % (N * N) / N, e % (N * N) % N)
def nextAt (B : Bfs) : List Int := (step (B.states.getD (B.tos.length / (N * N)) []) (lateOf N B.tos.length).1 (lateOf N B.tos.length).2).1
def bfs1 (B : Bfs) : Bfs :=
 if B.full = true then B
 else if nextAt step N B ∈ B.states then { B with tos := B.tos ++ [B.states.idxOf (nextAt step N B)] }
 else if B.states.length = 300 then { B with full := true }
 else ⟨B.states ++ [nextAt step N B], B.tos ++ [B.states.length], B.born ++ [B.tos.length], false⟩
def bfs : Nat → Bfs
 | 0 => ⟨[s0], [], [0], false⟩
 | t + 1 => bfs1 step N (bfs t)
variable {step N s0}
theorem bfs_full {t : Nat} (h : (bfs step N s0 t).full = true) : ∀ u, t ≤ u → bfs step N s0 u = bfs step N s0 t := by
 intro u hu
 obtain ⟨d, rfl⟩ := Nat.exists_eq_add_of_le hu
 clear hu
 induction d with
 | zero => rfl
 | succ d ih =>
   show bfs1 step N (bfs step N s0 (t + d)) = _
   rw [ih]; unfold bfs1; rw [if_pos h]
theorem bfs_open {t u : Nat} (h : (bfs step N s0 u).full = false) (ht : t ≤ u) : (bfs step N s0 t).full = false := by
 cases hf : (bfs step N s0 t).full with
 | false => rfl
 | true => rw [bfs_full hf u ht, hf] at h; cases h
theorem bfs_old {t i : Nat} {nx : List Int} (ho : (bfs step N s0 t).full = false) (hx : nextAt step N (bfs step N s0 t) = nx) (hi : (bfs step N s0 t).states[i]? = some nx) (hd : (bfs step N s0 t).states.Nodup) :
 bfs step N s0 (t + 1) = { bfs step N s0 t with tos := (bfs step N s0 t).tos ++ [i] } := by
 show bfs1 step N (bfs step N s0 t) = _
 unfold bfs1
 have hm : nx ∈ (bfs step N s0 t).states := List.mem_of_getElem? hi
 rw [if_neg (by rw [ho]; simp), hx, if_pos hm]
 have : (bfs step N s0 t).states.idxOf nx = i := by
  obtain ⟨hl, he⟩ := List.getElem?_eq_some_iff.1 hi
  have := hd.idxOf_getElem i hl
  rw [he] at this; exact this
 rw [this]
theorem bfs_stop {t : Nat} {nx : List Int} (ho : (bfs step N s0 t).full = false) (hx : nextAt step N (bfs step N s0 t) = nx) (hm : nx ∉ (bfs step N s0 t).states) (hl : (bfs step N s0 t).states.length = 300) :
 (bfs step N s0 (t + 1)).full = true := by
 show (bfs1 step N (bfs step N s0 t)).full = _
 unfold bfs1
 rw [if_neg (by rw [ho]; simp), hx, if_neg hm, if_pos hl]
theorem bfs_new {t : Nat} {nx : List Int} (ho : (bfs step N s0 t).full = false) (hx : nextAt step N (bfs step N s0 t) = nx) (hm : nx ∉ (bfs step N s0 t).states) (hl : (bfs step N s0 t).states.length ≠ 300) :
 bfs step N s0 (t + 1) = ⟨(bfs step N s0 t).states ++ [nx], (bfs step N s0 t).tos ++ [(bfs step N s0 t).states.length], (bfs step N s0 t).born ++ [(bfs step N s0 t).tos.length], false⟩ := by
 show bfs1 step N (bfs step N s0 t) = _
 unfold bfs1
 rw [if_neg (by rw [ho]; simp), hx, if_neg hm, if_neg hl]
structure BfsOk (N t : Nat) (B : Bfs) : Prop where
 len : B.tos.length = t
 blen : B.born.length = B.states.length
 one : 1 ≤ B.states.length
 most : B.states.length ≤ 300
 nodup : B.states.Nodup
 tos : ∀ (e i : Nat), B.tos[e]? = some i → i < B.states.length
 born : ∀ (i e : Nat), 1 ≤ i → B.born[i]? = some e → e < t ∧ B.tos[e]? = some i ∧ (∀ e' j, e' < e → B.tos[e']? = some j → j ≠ i) ∧ e / (N * N) < i
theorem app_get {α : Type} {l : List α} {x y : α} {i : Nat} (h : (l ++ [x])[i]? = some y) : (i < l.length ∧ l[i]? = some y) ∨ (i = l.length ∧ y = x) := by
 rw [List.getElem?_append] at h
 split at h
 · exact .inl ⟨by assumption, h⟩
 · rename_i hn
   have h1 := (List.getElem?_eq_some_iff.1 h).1
   have : i = l.length := by simp at h1; omega
   subst this
   simp at h
   exact .inr ⟨rfl, h.symm⟩
theorem get_app {α : Type} {l : List α} {x y : α} {i : Nat} (h : l[i]? = some y) : (l ++ [x])[i]? = some y := by
 have := (List.getElem?_eq_some_iff.1 h).1
 rw [List.getElem?_append_left this]; exact h
def Reach (step : List Int → Nat → Nat → List Int × List Int) (N : Nat) (s0 : List Int) (t : Nat) : Prop := ∀ k, k * (N * N) < t → k < (bfs step N s0 (k * (N * N))).states.length
theorem bfs_states_le {t u : Nat} (h : t ≤ u) : (bfs step N s0 t).states.length ≤ (bfs step N s0 u).states.length := by
 obtain ⟨d, rfl⟩ := Nat.exists_eq_add_of_le h
 clear h
 induction d with
 | zero => exact Nat.le_refl _
 | succ d ih =>
   refine Nat.le_trans ih ?_
   show _ ≤ (bfs1 step N (bfs step N s0 (t + d))).states.length
   unfold bfs1
   (repeat' split) <;> simp
theorem bfs_states_get {t u i : Nat} {s : List Int} (h : t ≤ u) (hs : (bfs step N s0 t).states[i]? = some s) : (bfs step N s0 u).states[i]? = some s := by
 obtain ⟨d, rfl⟩ := Nat.exists_eq_add_of_le h
 clear h
 induction d with
 | zero => exact hs
 | succ d ih =>
   show (bfs1 step N (bfs step N s0 (t + d))).states[i]? = _
   unfold bfs1
   (repeat' split) <;> first | exact ih | exact get_app ih
theorem reach_mono {t u : Nat} (h : Reach step N s0 u) (ht : t ≤ u) : Reach step N s0 t := fun k hk => h k (by omega)
theorem bfs_ok (hN : 0 < N) : ∀ t, (bfs step N s0 t).full = false → Reach step N s0 t → BfsOk N t (bfs step N s0 t)
 | 0, _, _ => ⟨rfl, rfl, Nat.le_refl _, by simp [bfs], by simp [bfs], fun e i h => by simp [bfs] at h, fun i e hi h => by
  have := (List.getElem?_eq_some_iff.1 h).1
  simp [bfs] at this; omega⟩
 | t + 1, hf, hr => by
   have ho := bfs_open hf (Nat.le_succ t)
   have ih := bfs_ok hN t ho (reach_mono hr (Nat.le_succ t))
   have hM : 0 < N * N := Nat.mul_pos hN hN
   have hk : t / (N * N) < (bfs step N s0 t).states.length := by
    have h1 : t / (N * N) * (N * N) ≤ t := Nat.div_mul_le_self t (N * N)
    exact Nat.lt_of_lt_of_le (hr (t / (N * N)) (by omega)) (bfs_states_le h1)
   by_cases hm : nextAt step N (bfs step N s0 t) ∈ (bfs step N s0 t).states
   · obtain ⟨i, hi⟩ := List.mem_iff_getElem?.1 hm
     rw [bfs_old ho rfl hi ih.nodup]
     have hil := (List.getElem?_eq_some_iff.1 hi).1
     refine ⟨by simp [ih.len], ih.blen, ih.one, ih.most, ih.nodup, fun e j h => ?_, fun j e hj h => ?_⟩
     · rcases app_get h with ⟨_, h⟩ | ⟨_, rfl⟩
       · exact ih.tos e j h
       · exact hil
     · obtain ⟨h1, h2, h3, h4⟩ := ih.born j e hj h
       refine ⟨by omega, get_app h2, fun e' j' he hj' => ?_, h4⟩
       rcases app_get hj' with ⟨_, hj'⟩ | ⟨h5, _⟩
       · exact h3 e' j' he hj'
       · rw [ih.len] at h5; omega
   · by_cases hl : (bfs step N s0 t).states.length = 300
     · rw [bfs_stop ho rfl hm hl] at hf; cases hf
     · rw [bfs_new ho rfl hm hl]
       refine ⟨by simp [ih.len], by simp [ih.blen], by simp, by have := ih.most; simp; omega, ?_, fun e j h => ?_, fun j e hj h => ?_⟩
       · refine List.nodup_append.2 ⟨ih.nodup, by simp, ?_⟩
         intro a ha b hb
         rw [List.mem_singleton] at hb
         subst hb
         exact fun e => hm (e ▸ ha)
       · rcases app_get h with ⟨_, h⟩ | ⟨_, rfl⟩
         · have := ih.tos e j h; simp; omega
         · simp
       · have hbl := ih.blen
         rcases app_get h with ⟨hjl, h⟩ | ⟨rfl, rfl⟩
         · obtain ⟨h1, h2, h3, h4⟩ := ih.born j e hj h
           refine ⟨by omega, get_app h2, fun e' j' he hj' => ?_, h4⟩
           rcases app_get hj' with ⟨_, hj'⟩ | ⟨h5, _⟩
           · exact h3 e' j' he hj'
           · rw [ih.len] at h5; omega
         · have hlen := ih.len
           rw [hbl, hlen]
           refine ⟨by omega, ?_, fun e' j' he hj' => ?_, hk⟩
           · rw [List.getElem?_append_right (by omega), hlen]; simp
           · rcases app_get hj' with ⟨_, hj'⟩ | ⟨h5, _⟩
             · have := ih.tos e' j' hj'; omega
             · omega
def Ends (step : List Int → Nat → Nat → List Int × List Int) (N : Nat) (s0 : List Int) (k : Nat) (r : Int) : Prop :=
 (Reach step N s0 (k * (N * N)) ∧ (bfs step N s0 (k * (N * N))).full = false ∧ (bfs step N s0 (k * (N * N))).states.length = k ∧ r = 0) ∨
 (k = 0 ∧ (∃ t, Reach step N s0 (t + 1) ∧ (bfs step N s0 t).full = false ∧ (bfs step N s0 (t + 1)).full = true) ∧ r = 4)
theorem ends_one (hN : 0 < N) {k k' : Nat} {r r' : Int} (h : Ends step N s0 k r) (h' : Ends step N s0 k' r') : k = k' ∧ r = r' := by
 have hM : 0 < N * N := Nat.mul_pos hN hN
 have key : ∀ {a b : Nat}, Reach step N s0 (b * (N * N)) → (bfs step N s0 (a * (N * N))).states.length = a → ¬ a < b := fun {a b} hr hl hab => by
  have : a * (N * N) < b * (N * N) := Nat.mul_lt_mul_of_pos_right hab hM
  have := hr a this; omega
 have key2 : ∀ {a t : Nat}, Reach step N s0 (t + 1) → (bfs step N s0 (a * (N * N))).states.length = a → (bfs step N s0 (a * (N * N))).full = false → (bfs step N s0 (t + 1)).full = true → False := fun {a t} hr hl hf hft => by
  rcases Nat.lt_or_ge (a * (N * N)) (t + 1) with h | h
  · have := hr a h; omega
  · rw [bfs_full hft _ h, hft] at hf; cases hf
 rcases h with ⟨a1, a2, a3, rfl⟩ | ⟨rfl, ⟨t, a1, a2, a3⟩, rfl⟩ <;> rcases h' with ⟨b1, b2, b3, rfl⟩ | ⟨rfl, ⟨u, b1, b2, b3⟩, rfl⟩
 · refine ⟨?_, rfl⟩
   have := key (a := k) (b := k') b1 a3
   have := key (a := k') (b := k) a1 b3
   omega
 · exact (key2 b1 a3 a2 b3).elim
 · exact (key2 a1 b3 b2 a3).elim
 · exact ⟨rfl, rfl⟩
def wayTo (N : Nat) (B : Bfs) : Nat → Nat → List (Nat × Nat)
 | 0, _ => []
 | f + 1, n => if n = 0 then [] else wayTo N B f (B.born.getD n 0 / (N * N)) ++ [lateOf N (B.born.getD n 0)]
theorem wayTo_fuel {B : Bfs} {t : Nat} (hB : BfsOk N t B) : ∀ f g n, n ≤ f → n ≤ g → n < B.states.length → wayTo N B f n = wayTo N B g n
 | 0, g, n, h, _, _ => by
   obtain rfl : n = 0 := by omega
   cases g <;> simp [wayTo]
 | f + 1, 0, n, _, h, _ => by
   obtain rfl : n = 0 := by omega
   simp [wayTo]
 | f + 1, g + 1, n, h1, h2, h3 => by
   simp only [wayTo]
   by_cases hn : n = 0
   · rw [if_pos hn, if_pos hn]
   · rw [if_neg hn, if_neg hn]
     have hb : n < B.born.length := by rw [hB.blen]; exact h3
     have he : B.born[n]? = some (B.born.getD n 0) := by rw [List.getD_eq_getElem?_getD, List.getElem?_eq_getElem hb]; rfl
     have h4 := (hB.born n _ (by omega) he).2.2.2
     rw [wayTo_fuel hB f g _ (by omega) (by omega) (by omega)]
theorem wayTo_step {B : Bfs} {t n e : Nat} (hB : BfsOk N t B) (hn : 0 < n) (he : B.born[n]? = some e) : wayTo N B n n = wayTo N B (e / (N * N)) (e / (N * N)) ++ [lateOf N e] := by
 obtain ⟨f, rfl⟩ : ∃ f, n = f + 1 := ⟨n - 1, by omega⟩
 have hg : B.born.getD (f + 1) 0 = e := by rw [List.getD_eq_getElem?_getD, he]; rfl
 have hl := (List.getElem?_eq_some_iff.1 he).1
 have h4 := (hB.born (f + 1) e (by omega) he).2.2.2
 have hb := hB.blen
 show (if f + 1 = 0 then [] else _) = _
 rw [if_neg (by omega), hg]
 rw [wayTo_fuel hB f (e / (N * N)) (e / (N * N)) (by omega) (Nat.le_refl _) (by omega)]
end
end Go.Proofs.Ytagbikgfkakbfaa
namespace Go.Proofs.Ytagbikgfkakbfaa
open Go.RowKit Go.Maps
set_option linter.unusedSimpArgs false
set_option linter.unusedVariables false
set_option maxRecDepth 100000
def stV (s : List Int) : Value := .agg (s.map (Value.int .i64)).toArray
def Gd (s : List Int) : Prop := s.length = 14 ∧ ∀ z ∈ s, Sml z
theorem litsStateL {s : List Int} {D : Nat} (h : Gd s) : Try.prog.keyLits (D + 1 + 1 + 1 + 1) 41 (s.map (Value.int .i64)) = some (s.map (Lit.int .i64)) := by
 obtain ⟨hl, hw⟩ := h
 obtain ⟨a0, a1, a2, a3, a4, a5, a6, a7, a8, a9, a10, a11, a12, a13, rfl⟩ := len14 hl
 have W : ∀ z ∈ [a0, a1, a2, a3, a4, a5, a6, a7, a8, a9, a10, a11, a12, a13], (Lit.int .i64 z).wf = true := fun z hz => sm_wf (hw z hz)
 exact litsState (W a0 (by simp)) (W a1 (by simp)) (W a2 (by simp)) (W a3 (by simp)) (W a4 (by simp)) (W a5 (by simp)) (W a6 (by simp)) (W a7 (by simp)) (W a8 (by simp)) (W a9 (by simp)) (W a10 (by simp)) (W a11 (by simp)) (W a12 (by simp)) (W a13 (by simp))
theorem formedState {s : List Int} (h : Gd s) : (stV s).formed Try.prog 41 = true := by
 obtain ⟨hl, hw⟩ := h
 obtain ⟨a0, a1, a2, a3, a4, a5, a6, a7, a8, a9, a10, a11, a12, a13, rfl⟩ := len14 hl
 kernel_rfl
theorem intInj {s t : List Int} (h : s.map (Lit.int .i64) = t.map (Lit.int .i64)) : s = t :=
 List.map_inj_right (fun x y h => by injection h) |>.1 h
theorem keyTypeState : Try.prog.keyTypeAt 5 41 = true := by kernel_rfl
theorem eqState2 {s t : List Int} (hs : Gd s) (ht : Gd t) (w : World) : (Op.equalIn 10000 41 (stV s) (stV t)).run Try.prog w = .ok (decide (s = t)) w := by
 have := run_equalIn_deep (P := Try.prog) (10000 - 5) 5 41 keyTypeState w (3 + 1 + 1 + 1 + 1) (3 + 1 + 1 + 1 + 1) (stV s) (stV t) _ _ (formedState hs) (formedState ht) (litsStateL hs) (litsStateL ht)
 rw [show 10000 - 5 + 5 = 10000 by omega] at this
 obtain ⟨r, hr, hi⟩ := this
 rw [hr]
 congr 1
 by_cases e : s = t
 · subst e; rw [hi.2 rfl]; simp
 · have : r ≠ true := fun h => e (intInj (hi.1 h))
   simp at this
   rw [this]; simp [e]
theorem laidOutS : laidOutB Try.prog = true := by kernel_rfl
theorem lawState : Keyed Try.prog 41 := Keyed.of_law (deep_law_laid laidOutS (m := 5) (by omega) (of_decide_eq_true (by kernel_rfl)) keyTypeState (by kernel_rfl))
def stK (s : List Int) : Lit := .string (keyBytes (s.map (Lit.int .i64)))
theorem keyTypeState' : Try.prog.keyType 41 = true := by kernel_rfl
theorem sizeTypes : ∃ m, Try.prog.types.size + 1 = m + 1 + 1 + 1 + 1 := ⟨Try.prog.types.size - 3, by
 have : 3 ≤ Try.prog.types.size := of_decide_eq_true (by kernel_rfl)
 omega⟩
theorem keyOfState {s : List Int} (h : Gd s) : keyOf Try.prog 41 (stV s) = some (stK s) := by
 obtain ⟨m, hm⟩ := sizeTypes
 unfold keyOf
 simp only [Try.underlying41, keyTypeState', formedState h, Bool.and_self, if_true, hm]
 have e : (stV s).cells.toList = s.map (Value.int .i64) := by simp [stV, Value.cells]
 rw [e, litsStateL h]
 rfl
theorem stK_inj {s t : List Int} (hs : Gd s) (ht : Gd t) (h : stK s = stK t) : s = t := by
 have h1 := keyOfState hs
 have h2 := keyOfState ht
 rw [h] at h1
 have := lawState.inj h1 h2
 unfold stV at this
 injection this with this
 have h3 := congrArg Array.toList this
 simp only [List.toList_toArray] at h3
 exact List.map_inj_right (fun x y h => by injection h) |>.1 h3
def MapAt (w : World) (b : Nat) (ss : List (List Int)) : Prop :=
 ∃ D : DataW Unit, w.ownsMap Try.prog 41 (plainElem Try.prog 3) b ss.length D ∧
  (∀ (i : Nat) (s : List Int), ss[i]? = some s → Maps.has D (stK s) = true ∧ D.atKey (stK s) (.lit (.int .i64 0)) = .lit (.int .i64 i)) ∧
  (∀ s, Gd s → s ∉ ss → Maps.has D (stK s) = false)
theorem zeroInt (w : World) : (zeroValue 3).run Try.prog w = .ok (.int .i64 0) w := by kernel_rfl
theorem MapAt.lt {w : World} {b : Nat} {ss : List (List Int)} (h : MapAt w b ss) : b < w.heap.size := by
 obtain ⟨D, h1, _⟩ := h; exact h1.lt
theorem MapAt.kept {w w' : World} {b : Nat} {ss : List (List Int)} {row : Option Nat} (h : MapAt w b ss) (hg : w.grownBy w' row) (hne : some b ≠ row) : MapAt w' b ss := by
 obtain ⟨D, h1, h2⟩ := h; exact ⟨D, h1.kept hg hne, h2⟩
theorem MapAt.block {w w' : World} {b : Nat} {ss : List (List Int)} (h : MapAt w b ss) (he : w'.heap[b]? = w.heap[b]?) : MapAt w' b ss := by
 obtain ⟨D, ⟨es, clock, hb, h1⟩, h2⟩ := h
 exact ⟨D, ⟨es, clock, by rw [he]; exact hb, h1⟩, h2⟩
theorem MapAt.made (w : World) : MapAt (w.alloc (.map #[] 0)) w.heap.size [] :=
 ⟨.map [], World.ownsMap_made w _ _ _, fun i s h => by simp at h, fun s _ _ => by simp [Maps.has]⟩
theorem MapAt.look {w : World} {b : Nat} {ss : List (List Int)} {s : List Int} (h : MapAt w b ss) (hs : Gd s) {i : Nat} (hi : ss[i]? = some s) :
 (Instr.lookup 81 (.map (some b)) (stV s) true).run Try.prog w = .ok (.tuple #[.int .i64 i, .bool true]) w := by
 obtain ⟨D, h1, h2, _⟩ := h
 obtain ⟨v, ps, hr, hv⟩ := h1.look_ok lawState Try.underlying81 (zeroInt w) (plainElem_int Try.underlying3 (by decide)) (keyOfState hs)
 obtain ⟨e1, e2⟩ := h2 i s hi
 obtain ⟨c, rfl, hc, hwc⟩ := plainElem_int_inv Try.underlying3 hv
 rw [e2] at hc
 have e3 : Lit.int .i64 (i : Int) = Lit.int .i64 c := by
  have := congrArg Prod.fst hc
  injection this
 injection e3 with _ e3
 rw [hr, e1, e3]
theorem MapAt.miss {w : World} {b : Nat} {ss : List (List Int)} {s : List Int} (h : MapAt w b ss) (hs : Gd s) (hn : s ∉ ss) :
 ∃ c : Int, (Instr.lookup 81 (.map (some b)) (stV s) true).run Try.prog w = .ok (.tuple #[.int .i64 c, .bool false]) w := by
 obtain ⟨D, h1, _, h3⟩ := h
 obtain ⟨v, ps, hr, hv⟩ := h1.look_ok lawState Try.underlying81 (zeroInt w) (plainElem_int Try.underlying3 (by decide)) (keyOfState hs)
 obtain ⟨c, rfl, _, _⟩ := plainElem_int_inv Try.underlying3 hv
 exact ⟨c, by rw [hr, h3 s hs hn]⟩
theorem MapAt.missN {w : World} {b : Nat} {ss : List (List Int)} {s : List Int} (h : MapAt w b ss) (hs : Gd s) (hn : s ∉ ss) :
 ∃ c : Int, ∀ m : Nat, (Instr.lookup 81 (.map (some b)) (stV s) true).run Try.prog (w.drewN m) = .ok (.tuple #[.int .i64 c, .bool false]) (w.drewN m) := by
 obtain ⟨D, h1, _, h3⟩ := h
 refine ⟨0, fun m => ?_⟩
 have h1m : (w.drewN m).ownsMap Try.prog 41 (plainElem Try.prog 3) b ss.length D := h1
 obtain ⟨v, ps, hr, hv⟩ := h1m.look_ok lawState Try.underlying81 (zeroInt _) (plainElem_int Try.underlying3 (by decide)) (keyOfState hs)
 obtain ⟨c, rfl, hc, _⟩ := plainElem_int_inv Try.underlying3 hv
 rw [Maps.atKey_of_not_has (h3 s hs hn)] at hc
 have e3 : Lit.int .i64 0 = Lit.int .i64 c := by
  have := congrArg Prod.fst hc
  injection this
 injection e3 with _ e3
 rw [hr, h3 s hs hn, ← e3]
theorem MapAt.store {w : World} {b : Nat} {ss : List (List Int)} {s : List Int} (h : MapAt w b ss) (hg : ∀ t ∈ ss, Gd t) (hs : Gd s) (hn : s ∉ ss) (hl : ss.length < 1000) :
 ∃ w', (Instr.mapUpdate 81 (.map (some b)) (stV s) (.int .i64 (ss.length : Int))).run Try.prog w = .ok () w' ∧ MapAt w' b (ss ++ [s]) ∧ w.mapTurned w' b := by
 obtain ⟨D, h1, h2, h3⟩ := h
 have hw : (Lit.int .i64 (ss.length : Int)).wf = true := sm_wf ⟨by omega, by omega⟩
 obtain ⟨w', hr, h4, h5⟩ := h1.store lawState Try.underlying81 (by unfold maxLen; omega) (keyOfState hs) (plainElem_int (H := Unit) Try.underlying3 hw)
 have hm := h1.isMap
 have hk : WideAt.IsKeyLit (stK s) := lawState.key (keyOfState hs)
 refine ⟨w', hr, ⟨_, by rw [List.length_append]; exact h4, fun i t ht => ?_, fun t ht hnt => ?_⟩, h5⟩
 · rcases app_get ht with ⟨hi, ht⟩ | ⟨rfl, rfl⟩
   · have htg := hg t (List.mem_of_getElem? ht)
     have hne : stK t ≠ stK s := fun e => hn (stK_inj htg hs e ▸ List.mem_of_getElem? ht)
     obtain ⟨e1, e2⟩ := h2 i t ht
     exact ⟨by rw [Maps.has_put_other hne]; exact e1, by rw [Maps.atKey_put_other hne]; exact e2⟩
   · exact ⟨Maps.has_put_same hm hk _, Maps.atKey_put_same hm hk _ _⟩
 · have hne : stK t ≠ stK s := fun e => hnt (by rw [stK_inj ht hs e]; simp)
   rw [Maps.has_put_other hne]
   exact h3 t ht (fun h => hnt (by simp [h]))
end Go.Proofs.Ytagbikgfkakbfaa
namespace Go.Proofs.Ytagbikgfkakbfaa
open Go
set_option linter.unusedSimpArgs false
set_option linter.unusedVariables false
structure Ch where
 b : Nat
 p : Nat
 db : Nat
 dp : Nat
 t : TypeId
 e : TypeId
 size : Nat
 v : Value
 n : Nat
 xs : List Value
 x : List Value
section
variable {P : Program} {ops : Array Oper} {Q : Exit → Act → World → Prop} {md : Region.Mode} {c : Nat} {F : World → Prop}
def lst : List (Nat × Nat × Nat × Nat) → List Nat → Array Bool → Array Bool
 | (b, p, _) :: cs, s :: st, L => lst cs st (if s = 0 then L else if s = 1 then L.setIfInBounds b true else (L.setIfInBounds b true).setIfInBounds p true)
 | _, _, L => L
def slots : List (Nat × Nat × Nat × Nat) → List Nat
 | (_, _, db, dp) :: cs => db :: dp :: slots cs
 | [] => []
def puts : List (Nat × Nat × Nat × Nat) → List Nat → List (Value × Value) → Act → Act
 | (_, _, db, dp) :: cs, s :: st, (u, v) :: vs, a => puts cs st vs (if s = 0 then a else if s = 1 then a.put (some db) u else (a.put (some db) u).put (some dp) v)
 | _, _, _, a => a
theorem set_comm' (L : Array Bool) (i j : Nat) : (L.setIfInBounds i true).setIfInBounds j true = (L.setIfInBounds j true).setIfInBounds i true := by
 by_cases h : i = j
 · rw [h]
 · exact Array.setIfInBounds_comm _ _ h
theorem lst_comm : ∀ (cs : List (Nat × Nat × Nat × Nat)) (st : List Nat) (L : Array Bool) (j : Nat), lst cs st (L.setIfInBounds j true) = (lst cs st L).setIfInBounds j true
 | [], _, _, _ => by simp [lst]
 | _ :: _, [], _, _ => by simp [lst]
 | (b, p, _) :: cs, s :: st, L, j => by
   simp only [lst]
   rw [← lst_comm cs st _ j]
   congr 1
   (repeat' split)
   · rfl
   · exact set_comm' _ _ _
   · rw [set_comm' L j b, set_comm' _ j p]
theorem lst_1 : ∀ (cs : List (Nat × Nat × Nat × Nat)) (st : List Nat) (L : Array Bool) (i : Nat) (b p : Nat) (d : Nat × Nat), cs[i]? = some (b, p, d) → st[i]? = some 0 → lst cs (st.set i 1) L = (lst cs st L).setIfInBounds b true
 | [], _, _, _, _, _, _, h, _ => by simp at h
 | _ :: _, [], _, _, _, _, _, _, h => by simp at h
 | (b, p, d) :: cs, s :: st, L, 0, _, _, _, h, h' => by
   simp at h h'
   obtain ⟨rfl, rfl, rfl⟩ := h
   subst h'
   simp only [List.set_cons_zero, lst, if_true]
   rw [← lst_comm]; rfl
 | (b, p, d) :: cs, s :: st, L, i + 1, b', p', d', h, h' => by
   simp only [List.set_cons_succ, lst]
   exact lst_1 cs st _ i b' p' d' (by simpa using h) (by simpa using h')
theorem lst_2 : ∀ (cs : List (Nat × Nat × Nat × Nat)) (st : List Nat) (L : Array Bool) (i : Nat) (b p : Nat) (d : Nat × Nat), cs[i]? = some (b, p, d) → st[i]? = some 1 → lst cs (st.set i 2) L = (lst cs st L).setIfInBounds p true
 | [], _, _, _, _, _, _, h, _ => by simp at h
 | _ :: _, [], _, _, _, _, _, _, h => by simp at h
 | (b, p, d) :: cs, s :: st, L, 0, _, _, _, h, h' => by
   simp at h h'
   obtain ⟨rfl, rfl, rfl⟩ := h
   subst h'
   simp only [List.set_cons_zero, lst]
   rw [← lst_comm]; rfl
 | (b, p, d) :: cs, s :: st, L, i + 1, b', p', d', h, h' => by
   simp only [List.set_cons_succ, lst]
   exact lst_2 cs st _ i b' p' d' (by simpa using h) (by simpa using h')
theorem Act.put_comm (a : Act) {i j : Nat} (u v : Value) (h : i ≠ j) : (a.put (some i) u).put (some j) v = (a.put (some j) v).put (some i) u := by
 simp only [Act.put]; rw [Array.setIfInBounds_comm _ _ h]
theorem puts_comm : ∀ (cs : List (Nat × Nat × Nat × Nat)) (st : List Nat) (vs : List (Value × Value)) (a : Act) (j : Nat) (w : Value), j ∉ slots cs → puts cs st vs (a.put (some j) w) = (puts cs st vs a).put (some j) w
 | [], _, _, _, _, _, _ => by simp [puts]
 | _ :: _, [], _, _, _, _, _ => by simp [puts]
 | _ :: _, _ :: _, [], _, _, _, _ => by simp [puts]
 | (b, p, db, dp) :: cs, s :: st, (u, v) :: vs, a, j, w, h => by
   simp only [slots, List.mem_cons, not_or] at h
   simp only [puts]
   rw [← puts_comm cs st vs _ j w h.2.2]
   congr 1
   (repeat' split)
   · rfl
   · exact Act.put_comm a _ _ h.1
   · rw [Act.put_comm a w u h.1, Act.put_comm _ w v h.2.1]
theorem puts_1 : ∀ (cs : List (Nat × Nat × Nat × Nat)) (st : List Nat) (vs : List (Value × Value)) (a : Act) (i b p db dp : Nat) (u u0 v : Value), (slots cs).Nodup → cs[i]? = some (b, p, db, dp) → st[i]? = some 0 → vs[i]? = some (u0, v) →
 puts cs (st.set i 1) (vs.set i (u, v)) a = (puts cs st vs a).put (some db) u
 | [], _, _, _, _, _, _, _, _, _, _, _, _, h, _, _ => by simp at h
 | _ :: _, [], _, _, _, _, _, _, _, _, _, _, _, _, h, _ => by simp at h
 | _ :: _, _ :: _, [], _, _, _, _, _, _, _, _, _, _, _, _, h => by simp at h
 | (b, p, db, dp) :: cs, s :: st, (x, y) :: vs, a, 0, _, _, _, _, u, u0, v, hn, h, h', h'' => by
   simp at h h' h''
   obtain ⟨rfl, rfl, rfl, rfl⟩ := h
   subst h'
   simp only [slots, List.nodup_cons, List.mem_cons, not_or] at hn
   simp only [List.set_cons_zero, puts, if_true]
   rw [← puts_comm _ _ _ _ _ _ hn.1.2]; rfl
 | (b, p, db, dp) :: cs, s :: st, (x, y) :: vs, a, i + 1, b', p', db', dp', u, u0, v, hn, h, h', h'' => by
   simp only [slots, List.nodup_cons, List.mem_cons, not_or] at hn
   simp only [List.set_cons_succ, puts]
   exact puts_1 cs st vs _ i b' p' db' dp' u u0 v hn.2.2 (by simpa using h) (by simpa using h') (by simpa using h'')
theorem puts_2 : ∀ (cs : List (Nat × Nat × Nat × Nat)) (st : List Nat) (vs : List (Value × Value)) (a : Act) (i b p db dp : Nat) (u v0 v : Value), (slots cs).Nodup → cs[i]? = some (b, p, db, dp) → st[i]? = some 1 → vs[i]? = some (u, v0) →
 puts cs (st.set i 2) (vs.set i (u, v)) a = (puts cs st vs a).put (some dp) v
 | [], _, _, _, _, _, _, _, _, _, _, _, _, h, _, _ => by simp at h
 | _ :: _, [], _, _, _, _, _, _, _, _, _, _, _, _, h, _ => by simp at h
 | _ :: _, _ :: _, [], _, _, _, _, _, _, _, _, _, _, _, _, h => by simp at h
 | (b, p, db, dp) :: cs, s :: st, (x, y) :: vs, a, 0, _, _, _, _, u, u0, v, hn, h, h', h'' => by
   simp at h h' h''
   obtain ⟨rfl, rfl, rfl, rfl⟩ := h
   obtain ⟨rfl, rfl⟩ := h''
   subst h'
   simp only [slots, List.nodup_cons, List.mem_cons, not_or] at hn
   simp only [List.set_cons_zero, puts]
   rw [← puts_comm _ _ _ _ _ _ hn.2.1]; rfl
 | (b, p, db, dp) :: cs, s :: st, (x, y) :: vs, a, i + 1, b', p', db', dp', u, u0, v, hn, h, h', h'' => by
   simp only [slots, List.nodup_cons, List.mem_cons, not_or] at hn
   simp only [List.set_cons_succ, puts]
   exact puts_2 cs st vs _ i b' p' db' dp' u u0 v hn.2.2 (by simpa using h) (by simpa using h') (by simpa using h'')
theorem puts_other : ∀ (cs : List (Nat × Nat × Nat × Nat)) (st : List Nat) (vs : List (Value × Value)) (a : Act) (j : Nat), j ∉ slots cs → (puts cs st vs a).tmps[j]? = a.tmps[j]?
 | [], _, _, _, _, _ => by simp [puts]
 | _ :: _, [], _, _, _, _ => by simp [puts]
 | _ :: _, _ :: _, [], _, _, _ => by simp [puts]
 | (b, p, db, dp) :: cs, s :: st, (u, v) :: vs, a, j, h => by
   simp only [slots, List.mem_cons, not_or] at h
   simp only [puts]
   rw [puts_other cs st vs _ j h.2.2]
   (repeat' split)
   · rfl
   · simp only [Act.put]; rw [Array.getElem?_setIfInBounds_ne (Ne.symm h.1)]
   · simp only [Act.put]; rw [Array.getElem?_setIfInBounds_ne (Ne.symm h.2.1), Array.getElem?_setIfInBounds_ne (Ne.symm h.1)]
theorem puts_at1 : ∀ (cs : List (Nat × Nat × Nat × Nat)) (st : List Nat) (vs : List (Value × Value)) (a : Act) (i b p db dp : Nat) (u v : Value), (slots cs).Nodup → (∀ d ∈ slots cs, d < a.tmps.size) → cs[i]? = some (b, p, db, dp) → st[i]? = some 1 → vs[i]? = some (u, v) →
 (puts cs st vs a).tmps[db]? = some u
 | [], _, _, _, _, _, _, _, _, _, _, _, _, h, _, _ => by simp at h
 | _ :: _, [], _, _, _, _, _, _, _, _, _, _, _, _, h, _ => by simp at h
 | _ :: _, _ :: _, [], _, _, _, _, _, _, _, _, _, _, _, _, h => by simp at h
 | (b, p, db, dp) :: cs, s :: st, (x, y) :: vs, a, 0, _, _, _, _, u, v, hn, hl, h, h', h'' => by
   simp at h h' h''
   obtain ⟨rfl, rfl, rfl, rfl⟩ := h
   obtain ⟨rfl, rfl⟩ := h''
   subst h'
   simp only [slots, List.nodup_cons, List.mem_cons, not_or] at hn
   simp only [puts]
   rw [puts_other _ _ _ _ _ hn.1.2]
   simp only [Act.put]
   exact Array.getElem?_setIfInBounds_self_of_lt (hl _ (by simp [slots]))
 | (b, p, db, dp) :: cs, s :: st, (x, y) :: vs, a, i + 1, b', p', db', dp', u, v, hn, hl, h, h', h'' => by
   simp only [slots, List.nodup_cons, List.mem_cons, not_or] at hn
   simp only [puts]
   refine puts_at1 cs st vs _ i b' p' db' dp' u v hn.2.2 (fun d hd => ?_) (by simpa using h) (by simpa using h') (by simpa using h'')
   have := hl d (by simp [slots, hd])
   (repeat' split) <;> simp [Act.put, this]
/-! the orders -/
def rem : List Nat → Nat
 | [] => 0
 | s :: st => (2 - s) + rem st
def stages : Nat → List (List Nat)
 | 0 => [[]]
 | k + 1 => (stages k).flatMap fun st => [0 :: st, 1 :: st, 2 :: st]
theorem mem_stages : ∀ (st : List Nat), (∀ s ∈ st, s ≤ 2) → st ∈ stages st.length
 | [], _ => by simp [stages]
 | s :: st, h => by
   simp only [List.length_cons, stages, List.mem_flatMap]
   refine ⟨st, mem_stages st (fun x hx => h x (by simp [hx])), ?_⟩
   have := h s (by simp)
   rcases (show s = 0 ∨ s = 1 ∨ s = 2 by omega) with rfl | rfl | rfl <;> simp
def mayAt : List (Nat × Nat × Nat × Nat) → List Nat → Nat → Nat → Bool
 | (b, p, _) :: cs, s :: st, i, k => (s == 0 && i == b) || (s == 1 && i == p) || mayAt cs st i (k + 1)
 | _, _, _, _ => false
theorem mayAt_spec : ∀ (cs : List (Nat × Nat × Nat × Nat)) (st : List Nat) (i k : Nat), mayAt cs st i k = true → ∃ (j b p : Nat) (d : Nat × Nat), cs[j]? = some (b, p, d) ∧ ((st[j]? = some 0 ∧ i = b) ∨ (st[j]? = some 1 ∧ i = p))
 | [], _, _, _, h => by simp [mayAt] at h
 | _ :: _, [], _, _, h => by simp [mayAt] at h
 | (b, p, d) :: cs, s :: st, i, k, h => by
   simp only [mayAt, Bool.or_eq_true, Bool.and_eq_true, beq_iff_eq] at h
   rcases h with (⟨rfl, rfl⟩ | ⟨rfl, rfl⟩) | h
   · exact ⟨0, i, p, d, rfl, .inl ⟨rfl, rfl⟩⟩
   · exact ⟨0, b, i, d, rfl, .inr ⟨rfl, rfl⟩⟩
   · obtain ⟨j, b', p', d', h1, h2⟩ := mayAt_spec cs st i (k + 1) h
     exact ⟨j + 1, b', p', d', by simpa using h1, by simpa using h2⟩
def chk (md : Region.Mode) (ops : Array Oper) (cs : List (Nat × Nat × Nat × Nat)) (L : Array Bool) : Bool :=
 (stages cs.length).all fun st => (rem st == 0) || (!(Region.ready md ops (lst cs st L)).isEmpty && (Region.ready md ops (lst cs st L)).all fun i => mayAt cs st i 0)
theorem rem_set : ∀ (st : List Nat) (i s : Nat), s ≤ 1 → st[i]? = some s → rem (st.set i (s + 1)) + 1 = rem st
 | [], _, _, _, h => by simp at h
 | x :: st, 0, s, hs, h => by
   simp at h; subst h
   simp only [List.set_cons_zero, rem]; omega
 | x :: st, i + 1, s, hs, h => by
   have := rem_set st i s hs (by simpa using h)
   simp only [List.set_cons_succ, rem]; omega
theorem rem_zero : ∀ (st : List Nat), (∀ s ∈ st, s ≤ 2) → rem st = 0 → st = List.replicate st.length 2
 | [], _, _ => rfl
 | s :: st, h, h0 => by
   simp only [rem] at h0
   have h1 := h s (by simp)
   have h2 := rem_zero st (fun x hx => h x (by simp [hx])) (by omega)
   simp only [List.length_cons, List.replicate_succ]
   rw [← h2]
   congr 1; omega
theorem wpAnyG_chains {cs : List (Nat × Nat × Nat × Nat)} {L0 : Array Bool} {J : List Nat → Act → World → Prop} {f : Nat} (hchk : chk md ops cs L0 = true) (hJF : ∀ st a w, J st a w → F w)
 (h1 : ∀ st a w i b p d, st.length = cs.length → J st a w → cs[i]? = some (b, p, d) → st[i]? = some 0 → wpOp P ops Q b (J (st.set i 1)) a w)
 (h2 : ∀ st a w i b p d, st.length = cs.length → J st a w → cs[i]? = some (b, p, d) → st[i]? = some 1 → wpOp P ops Q p (J (st.set i 2)) a w)
 (he : ∀ a w, J (List.replicate cs.length 2) a w → wpAnyG P md ops Q c F f (lst cs (List.replicate cs.length 2) L0) a w) :
 ∀ (d : Nat) (st : List Nat) (a : Act) (w : World), rem st = d → st.length = cs.length → (∀ s ∈ st, s ≤ 2) → J st a w → wpAnyG P md ops Q c F (f + d) (lst cs st L0) a w := by
 intro d
 induction d with
 | zero =>
   intro st a w hr hl hs hJ
   have e := rem_zero st hs hr
   rw [hl] at e
   rw [e] at hJ ⊢
   exact he a w hJ
 | succ d ih =>
   intro st a w hr hl hs hJ
   have hm := mem_stages st hs
   rw [hl] at hm
   have hc := List.all_eq_true.1 hchk st hm
   simp only [Bool.or_eq_true, beq_iff_eq, Bool.and_eq_true, Bool.not_eq_true', List.all_eq_true] at hc
   rcases hc with hc | ⟨hc1, hc2⟩
   · omega
   · refine ⟨fun h0 => by rw [h0] at hc1; simp at hc1, fun i hi => ?_⟩
     obtain ⟨j, b, p, dd, hj, h3⟩ := mayAt_spec cs st i 0 (hc2 i hi)
     have hset : ∀ x, x ≤ 2 → ∀ s ∈ st.set j x, s ≤ 2 := fun x hx s hs' => by
      rcases List.mem_or_eq_of_mem_set hs' with h | h
      · exact hs s h
      · omega
     rcases h3 with ⟨h3, rfl⟩ | ⟨h3, rfl⟩
     · refine wpOp_mono (fun a' w' hJ' => ⟨fun _ => hJF _ _ _ hJ', ?_⟩) (h1 st a w j i p dd hl hJ hj h3)
       rw [← lst_1 cs st L0 j i p dd hj h3]
       exact ih _ a' w' (by have := rem_set st j 0 (by omega) h3; simp only [Nat.zero_add] at this; omega) (by simpa using hl) (hset 1 (by omega)) hJ'
     · refine wpOp_mono (fun a' w' hJ' => ⟨fun _ => hJF _ _ _ hJ', ?_⟩) (h2 st a w j b i dd hl hJ hj h3)
       rw [← lst_2 cs st L0 j b i dd hj h3]
       exact ih _ a' w' (by have := rem_set st j 1 (by omega) h3; simp only [Nat.reduceAdd] at this; omega) (by simpa using hl) (hset 2 (by omega)) hJ'
end
end Go.Proofs.Ytagbikgfkakbfaa
namespace Go.Proofs.Ytagbikgfkakbfaa
open Go Go.RowKit
set_option linter.unusedSimpArgs false
set_option linter.unusedVariables false
section
variable {P : Program} {ops : Array Oper} {Q : Exit → Act → World → Prop} {md : Region.Mode}
def ixs (cs : List Ch) : List (Nat × Nat × Nat × Nat) := cs.map fun c => (c.b, c.p, c.db, c.dp)
structure Frm (w0 : World) (cs : List Ch) (w : World) : Prop where
 os : w.os = w0.os
 tape : w.tape = w0.tape
 output : w.output = w0.output
 size : w0.heap.size ≤ w.heap.size
 block : ∀ b, b < w0.heap.size → (∀ (i : Nat) (c : Ch), cs[i]? = some c → c.v.ownBlock ≠ some b) → w.heap[b]? = w0.heap[b]?
def cur (c : Ch) (s : Nat) (v : Value) : Value := if s = 2 then v else c.v
def curN (c : Ch) (s : Nat) : Nat := if s = 2 then c.n + 1 else c.n
def curX (c : Ch) (s : Nat) : List Value := if s = 2 then c.xs ++ c.x else c.xs
structure RowsOk (w0 : World) (cs : List Ch) (B : Nat) (st : List Nat) (vs : List (Value × Value)) (w : World) : Prop where
 frm : Frm w0 cs w
 row : ∀ (i : Nat) (c : Ch) (s : Nat) (u v : Value), cs[i]? = some c → st[i]? = some s → vs[i]? = some (u, v) → w.ownsRow B c.e c.size (cur c s v) (curN c s) (curX c s) ∧ ((cur c s v).ownBlock = c.v.ownBlock ∨ ∃ g, (cur c s v).ownBlock = some g ∧ w0.heap.size ≤ g)
 apart : ∀ (i j : Nat) (c d : Ch) (s r : Nat) (u v x y : Value), i ≠ j → cs[i]? = some c → st[i]? = some s → vs[i]? = some (u, v) → cs[j]? = some d → st[j]? = some r → vs[j]? = some (x, y) → ∀ g, (cur c s v).ownBlock = some g → (cur d r y).ownBlock ≠ some g
 one : ∀ (i : Nat) (c : Ch) (u v : Value), cs[i]? = some c → st[i]? = some 1 → vs[i]? = some (u, v) → ∃ g, u = .slice (some ⟨g, 0, none⟩) 1 1 ∧ w0.heap.size ≤ g ∧ g < w.heap.size ∧ (∀ j x, c.x[j]? = some x → w.cell? ⟨g, j, none⟩ = some x) ∧
  ∀ (j : Nat) (d : Ch) (r : Nat) (y z : Value), cs[j]? = some d → st[j]? = some r → vs[j]? = some (y, z) → (cur d r z).ownBlock ≠ some g
theorem rows_lt {w : World} {B n : Nat} {e : TypeId} {size : Nat} {v : Value} {xs : List Value} (h : w.ownsRow B e size v n xs) : ∀ g, v.ownBlock = some g → B ≤ g ∧ g < w.heap.size := by
 intro g hg
 rcases h.2 with ⟨rfl, _⟩ | ⟨g', cap, cur, rfl, hb, hh, _⟩
 · simp [Value.ownBlock] at hg
 · simp only [Value.ownBlock, Option.some.injEq] at hg; subst hg; exact ⟨hb, (Array.getElem?_eq_some_iff.1 hh).1⟩
theorem rows_kept {w w' : World} {B n : Nat} {e : TypeId} {size : Nat} {v : Value} {xs : List Value} (h : w.ownsRow B e size v n xs) (hk : ∀ g, v.ownBlock = some g → w'.heap[g]? = w.heap[g]?) : w'.ownsRow B e size v n xs := by
 obtain ⟨hl, h⟩ := h
 rcases h with ⟨rfl, rfl⟩ | ⟨g, cap, cur, rfl, hg, hh, hn, hm, hs, hx⟩
 · exact ⟨hl, .inl ⟨rfl, rfl⟩⟩
 · exact ⟨hl, .inr ⟨g, cap, cur, rfl, hg, by rw [hk g rfl]; exact hh, hn, hm, hs, hx⟩⟩
theorem set_get {α : Type} {l : List α} {i j : Nat} {x y : α} (h : (l.set i x)[j]? = some y) : (i = j ∧ y = x) ∨ (i ≠ j ∧ l[j]? = some y) := by
 by_cases e : i = j
 · subst e
   have hl := (List.getElem?_eq_some_iff.1 h).1
   rw [List.length_set] at hl
   rw [List.getElem?_set_self hl] at h
   injection h with h
   exact .inl ⟨rfl, h.symm⟩
 · rw [List.getElem?_set_ne e] at h
   exact .inr ⟨e, h⟩
theorem RowsOk.lay {w0 w : World} {cs : List Ch} {B : Nat} {st : List Nat} {vs : List (Value × Value)} (h : RowsOk w0 cs B st vs w) {i : Nat} {c : Ch} {u v : Value} (hc : cs[i]? = some c) (hs : st[i]? = some 0) (hv : vs[i]? = some (u, v)) (e : TypeId) :
 RowsOk w0 cs B (st.set i 1) (vs.set i (.slice (some ⟨w.heap.size, 0, none⟩) 1 1, v)) (w.alloc (.cells c.x.toArray e)) := by
 have hB := (Below.refl w.heap.size w).alloc (Nat.le_refl _) (.cells c.x.toArray e)
 have hsz : (w.alloc (.cells c.x.toArray e)).heap.size = w.heap.size + 1 := by simp
 have old : ∀ (j : Nat) (d : Ch) (r : Nat) (y z : Value), cs[j]? = some d → (st.set i 1)[j]? = some r → (vs.set i (.slice (some ⟨w.heap.size, 0, none⟩) 1 1, v))[j]? = some (y, z) → ∃ r' y', st[j]? = some r' ∧ vs[j]? = some (y', z) ∧ cur d r z = cur d r' z ∧ curN d r = curN d r' ∧ curX d r = curX d r' := by
  intro j d r y z hd hr hy
  rcases set_get hr with ⟨rfl, rfl⟩ | ⟨hne, hr⟩
  · rcases set_get hy with ⟨_, hy⟩ | ⟨h', _⟩
    · injection hy with e1 e2
      subst e2
      exact ⟨0, u, hs, hv, rfl, rfl, rfl⟩
    · exact absurd rfl h'
  · rcases set_get hy with ⟨h', _⟩ | ⟨_, hy⟩
    · exact absurd h' hne
    · exact ⟨r, y, hr, hy, rfl, rfl, rfl⟩
 refine ⟨⟨h.frm.os, h.frm.tape, h.frm.output, by have := h.frm.size; omega, fun b hb hn => (hB.block b (by have := h.frm.size; omega)).trans (h.frm.block b hb hn)⟩, ?_, ?_, ?_⟩
 · intro j d r y z hd hr hy
   obtain ⟨r', y', e1, e2, e3, e4, e5⟩ := old j d r y z hd hr hy
   rw [e3, e4, e5]
   have hrow := h.row j d r' y' z hd e1 e2
   exact ⟨rows_kept hrow.1 (fun g hg => hB.block g (rows_lt hrow.1 g hg).2), hrow.2⟩
 · intro j k d d' r r' y z y' z' hjk hd hr hy hd' hr' hy'
   obtain ⟨_, _, e1, e2, e3, _⟩ := old j d r y z hd hr hy
   obtain ⟨_, _, e1', e2', e3', _⟩ := old k d' r' y' z' hd' hr' hy'
   rw [e3, e3']
   exact h.apart j k d d' _ _ _ _ _ _ hjk hd e1 e2 hd' e1' e2'
 · intro j d y z hd hr hy
   rcases set_get hr with ⟨rfl, _⟩ | ⟨hne, hr'⟩
   · rcases set_get hy with ⟨_, hy'⟩ | ⟨h', _⟩
     · injection hy' with e1 e2
       subst e1; subst e2
       obtain rfl : c = d := by rw [hc] at hd; injection hd
       refine ⟨w.heap.size, rfl, h.frm.size, by omega, fun k x hx => ?_, fun k d' r y' z' hd' hr' hy' hg => ?_⟩
       · have key : ∀ (W : World) (b : Nat), W.heap[b]? = some (.cells c.x.toArray e (0, 0)) → W.cell? ⟨b, k, none⟩ = some x := fun W b h => by simp [World.cell?, h, hx]
         exact key _ _ (World.alloc_heap_new w (.cells c.x.toArray e))
       · obtain ⟨r', y2, e1, e2, e3, _⟩ := old k d' r y' z' hd' hr' hy'
         rw [e3] at hg
         have := (rows_lt (h.row k d' r' y2 z' hd' e1 e2).1 _ hg).2
         omega
     · exact absurd rfl h'
   · rcases set_get hy with ⟨h', _⟩ | ⟨_, hy'⟩
     · exact absurd h' hne
     · obtain ⟨g, e1, e2, e3, e4, e5⟩ := h.one j d y z hd hr' hy'
       refine ⟨g, e1, e2, by omega, fun k x hx => (hB.cell (p := ⟨g, k, none⟩) e3).trans (e4 k x hx), fun k d' r y2 z2 hd' hr2 hy2 => ?_⟩
       obtain ⟨r', y3, f1, f2, f3, _⟩ := old k d' r y2 z2 hd' hr2 hy2
       rw [f3]
       exact e5 k d' r' y3 z2 hd' f1 f2
theorem RowsOk.app {w0 w w' : World} {cs : List Ch} {B : Nat} {st : List Nat} {vs : List (Value × Value)} (h : RowsOk w0 cs B st vs w) {i : Nat} {c : Ch} {u v v' : Value} (hc : cs[i]? = some c) (hs : st[i]? = some 1) (hv : vs[i]? = some (u, v))
 (hown : w'.ownsRow B c.e c.size v' (c.n + 1) (c.xs ++ c.x)) (hg : w.grownBy w' c.v.ownBlock) (hat : v'.ownBlock = c.v.ownBlock ∨ v'.ownBlock = some w.heap.size) :
 RowsOk w0 cs B (st.set i 2) (vs.set i (u, v')) w' := by
 have hcur : cur c 1 v = c.v := rfl
 have hci := h.row i c 1 u v hc hs hv
 have old : ∀ (j : Nat) (d : Ch) (r : Nat) (y z : Value), cs[j]? = some d → (st.set i 2)[j]? = some r → (vs.set i (u, v'))[j]? = some (y, z) → (i = j ∧ c = d ∧ r = 2 ∧ y = u ∧ z = v') ∨ (i ≠ j ∧ st[j]? = some r ∧ vs[j]? = some (y, z)) := by
  intro j d r y z hd hr hy
  rcases set_get hr with ⟨rfl, rfl⟩ | ⟨hne, hr⟩
  · rcases set_get hy with ⟨_, hy⟩ | ⟨h', _⟩
    · injection hy with e1 e2
      exact .inl ⟨rfl, by rw [hc] at hd; injection hd, rfl, e1, e2⟩
    · exact absurd rfl h'
  · rcases set_get hy with ⟨h', _⟩ | ⟨_, hy⟩
    · exact absurd h' hne
    · exact .inr ⟨hne, hr, hy⟩
 have far : ∀ (j : Nat) (d : Ch) (r : Nat) (y z : Value), i ≠ j → cs[j]? = some d → st[j]? = some r → vs[j]? = some (y, z) → ∀ g, (cur d r z).ownBlock = some g → some g ≠ c.v.ownBlock ∧ v'.ownBlock ≠ some g := by
  intro j d r y z hne hd hr hy g hgg
  have h1 := h.apart j i d c r 1 y z u v (Ne.symm hne) hd hr hy hc hs hv g hgg
  rw [hcur] at h1
  have hlt := (rows_lt (h.row j d r y z hd hr hy).1 g hgg).2
  refine ⟨fun e => h1 e.symm, fun e => ?_⟩
  rcases hat with h2 | h2
  · exact h1 (h2.symm.trans e)
  · rw [h2] at e; injection e with e; omega
 refine ⟨⟨hg.os.trans h.frm.os, hg.tape.trans h.frm.tape, hg.output.trans h.frm.output, Nat.le_trans h.frm.size hg.size, fun b hb hn => (hg.block b (by have := h.frm.size; omega) (fun e => hn i c hc e.symm)).trans (h.frm.block b hb hn)⟩, ?_, ?_, ?_⟩
 · intro j d r y z hd hr hy
   rcases old j d r y z hd hr hy with ⟨rfl, rfl, rfl, rfl, rfl⟩ | ⟨hne, hr', hy'⟩
   · refine ⟨hown, ?_⟩
     rcases hat with h2 | h2
     · exact .inl h2
     · exact .inr ⟨_, h2, h.frm.size⟩
   · have hrow := h.row j d r y z hd hr' hy'
     exact ⟨rows_kept hrow.1 (fun g hgg => hg.block g (rows_lt hrow.1 g hgg).2 (far j d r y z hne hd hr' hy' g hgg).1), hrow.2⟩
 · intro j k d d' r r' y z y' z' hjk hd hr hy hd' hr' hy' g hgg
   rcases old j d r y z hd hr hy with ⟨rfl, rfl, rfl, rfl, rfl⟩ | ⟨hne, h1, h2⟩
   · rcases old k d' r' y' z' hd' hr' hy' with ⟨e, _⟩ | ⟨hne, h1, h2⟩
     · exact absurd e hjk
     · intro e
       exact (far k d' r' y' z' hne hd' h1 h2 g e).2 hgg
   · rcases old k d' r' y' z' hd' hr' hy' with ⟨rfl, rfl, rfl, rfl, rfl⟩ | ⟨hne', h1', h2'⟩
     · exact (far j d r y z hne hd h1 h2 g hgg).2
     · exact h.apart j k d d' r r' y z y' z' hjk hd h1 h2 hd' h1' h2' g hgg
 · intro j d y z hd hr hy
   rcases old j d 1 y z hd hr hy with ⟨_, _, e, _⟩ | ⟨hne, hr', hy'⟩
   · cases e
   · obtain ⟨g, e1, e2, e3, e4, e5⟩ := h.one j d y z hd hr' hy'
     have hgc : c.v.ownBlock ≠ some g := by have := e5 i c 1 u v hc hs hv; rwa [hcur] at this
     refine ⟨g, e1, e2, Nat.lt_of_lt_of_le e3 hg.size, fun k x hx => ?_, fun k d' r y2 z2 hd' hr2 hy2 => ?_⟩
     · have he : w'.heap[g]? = w.heap[g]? := hg.block g e3 (fun e => hgc e.symm)
       exact (World.cell?_of_block (w := w) (a := ⟨g, k, none⟩) he).trans (e4 k x hx)
     · rcases old k d' r y2 z2 hd' hr2 hy2 with ⟨rfl, rfl, rfl, rfl, rfl⟩ | ⟨_, f1, f2⟩
       · intro e
         rcases hat with h2 | h2
         · exact hgc (h2.symm.trans e)
         · have e' : z2.ownBlock = some g := e
           rw [h2] at e'; injection e' with e'; omega
       · exact e5 k d' r y2 z2 hd' f1 f2
structure ChOk (P : Program) (ops : Array Oper) (a0 : Act) (cs : List Ch) (c : Ch) : Prop where
 lay : ∃ (o : Oper) (k : Nat) (X : Value), ops[c.b]? = some o ∧ o.guard = none ∧ o.dst = some c.db ∧ o.op = .buildSlice c.t 1 #[(0, .tmp k)] ∧ k ∉ slots (ixs cs) ∧ a0.tmps[k]? = some X ∧ ∀ w : World, (Instr.buildSlice c.t 1 #[(0, X)]).run P w = .ok (.slice (some ⟨w.heap.size, 0, none⟩) 1 1) (w.alloc (.cells c.x.toArray c.e))
 app : ∃ (o : Oper) (k : Nat), ops[c.p]? = some o ∧ o.guard = none ∧ o.dst = some c.dp ∧ o.op = .call { callee := .builtin .append, args := #[.tmp k, .tmp c.db], argTypes := #[c.t, c.t] } ∧ k ∉ slots (ixs cs) ∧ a0.tmps[k]? = some c.v
 info : ∃ (i : TypeInfo) (z : Value) (bytes : Nat), P.underlying c.t = some (.slice c.e) ∧ P.info? c.e = some i ∧ i.zero = some z ∧ i.size = c.size ∧ i.bytes = bytes ∧ z.cells.size = c.size ∧ 0 < c.size ∧ (c.n + 1) * bytes ≤ 140737488355328
 len : c.x.length = c.size
 cell : ∀ u ∈ c.x, u.oneCell' = true
 max : c.n + 1 ≤ maxLen
theorem evalOf {a : Act} {k : Nat} {v : Value} (h : a.tmps[k]? = some v) : a.eval (.tmp k) = v := by
 simp [Act.eval, h]
theorem addZ (g j : Nat) : (⟨g, 0, none⟩ : Addr).add j = ⟨g, j, none⟩ := by unfold Addr.add; split <;> simp_all
def JR (w0 : World) (a0 : Act) (cs : List Ch) (B : Nat) (st : List Nat) (a : Act) (w : World) : Prop :=
 ∃ vs : List (Value × Value), vs.length = cs.length ∧ a = puts (ixs cs) st vs a0 ∧ RowsOk w0 cs B st vs w
theorem ixs_get {cs : List Ch} {i b p : Nat} {d : Nat × Nat} (h : (ixs cs)[i]? = some (b, p, d)) : ∃ c, cs[i]? = some c ∧ c.b = b ∧ c.p = p ∧ d = (c.db, c.dp) := by
 unfold ixs at h
 rw [List.getElem?_map] at h
 obtain ⟨c, h1, h2⟩ := Option.map_eq_some_iff.1 h
 injection h2 with e1 e2
 injection e2 with e2 e3
 exact ⟨c, h1, e1, e2, e3.symm⟩
theorem ixs_of {cs : List Ch} {i : Nat} {c : Ch} (h : cs[i]? = some c) : (ixs cs)[i]? = some (c.b, c.p, c.db, c.dp) := by
 unfold ixs; rw [List.getElem?_map, h]; rfl
variable {F : World → Prop} {c : Nat}
theorem wpAnyG_appends {w0 : World} {a0 : Act} {cs : List Ch} {B : Nat} {L0 : Array Bool} {f : Nat} (hchk : chk md ops (ixs cs) L0 = true) (hnd : (slots (ixs cs)).Nodup) (hsl : ∀ d ∈ slots (ixs cs), d < a0.tmps.size)
 (hF : ∀ w, Frm w0 cs w → F w) (hok : ∀ (i : Nat) (d : Ch), cs[i]? = some d → ChOk P ops a0 cs d) (hB : B ≤ w0.heap.size)
 (hrow : ∀ (i : Nat) (d : Ch), cs[i]? = some d → w0.ownsRow B d.e d.size d.v d.n d.xs)
 (hap : ∀ (i j : Nat) (d d' : Ch), i ≠ j → cs[i]? = some d → cs[j]? = some d' → ∀ g, d.v.ownBlock = some g → d'.v.ownBlock ≠ some g)
 (he : ∀ vs w, vs.length = cs.length → RowsOk w0 cs B (List.replicate cs.length 2) vs w → wpAnyG P md ops Q c F f (lst (ixs cs) (List.replicate cs.length 2) L0) (puts (ixs cs) (List.replicate cs.length 2) vs a0) w) :
 wpAnyG P md ops Q c F (f + 2 * cs.length) L0 a0 w0 := by
 have hlen : (ixs cs).length = cs.length := by simp [ixs]
 have hz : ∀ (cs : List (Nat × Nat × Nat × Nat)) (k : Nat) (L : Array Bool), lst cs (List.replicate k 0) L = L := by
  intro cs
  induction cs with
  | nil => intro k L; simp [lst]
  | cons c cs ih =>
    intro k L
    obtain ⟨b, p, d⟩ := c
    cases k with
    | zero => simp [lst]
    | succ k => simp only [List.replicate_succ, lst, if_true]; exact ih k L
 have hzp : ∀ (cs : List (Nat × Nat × Nat × Nat)) (k : Nat) (vs : List (Value × Value)) (a : Act), puts cs (List.replicate k 0) vs a = a := by
  intro cs
  induction cs with
  | nil => intro k vs a; simp [puts]
  | cons c cs ih =>
    intro k vs a
    obtain ⟨b, p, db, dp⟩ := c
    cases k with
    | zero => simp [puts]
    | succ k =>
      cases vs with
      | nil => simp [List.replicate_succ, puts]
      | cons x vs => obtain ⟨u, v⟩ := x; simp only [List.replicate_succ, puts, if_true]; exact ih k vs a
 have hrem : ∀ k, rem (List.replicate k 0) = 2 * k := by
  intro k
  induction k with
  | zero => rfl
  | succ k ih => simp only [List.replicate_succ, rem, ih]; omega
 have h0 : ∀ {k i s : Nat}, (List.replicate k 0)[i]? = some s → s = 0 := fun {k i s} h => by
  obtain ⟨hl, he⟩ := List.getElem?_eq_some_iff.1 h
  simpa using he.symm
 have hJ0 : JR w0 a0 cs B (List.replicate cs.length 0) a0 w0 := by
  refine ⟨List.replicate cs.length (undef, undef), by simp, (hzp _ _ _ _).symm, ⟨⟨rfl, rfl, rfl, Nat.le_refl _, fun _ _ _ => rfl⟩, ?_, ?_, ?_⟩⟩
  · intro i d s u v hd hs hv
    obtain rfl := h0 hs
    exact ⟨hrow i d hd, .inl rfl⟩
  · intro i j d d' s r u v x y hij hd hs hv hd' hr hy
    obtain rfl := h0 hs
    obtain rfl := h0 hr
    exact hap i j d d' hij hd hd'
  · intro i d u v hd hs hv
    have := h0 hs; omega
 have key := wpAnyG_chains (P := P) (Q := Q) (c := c) (F := F) (L0 := L0) (f := f) (J := JR w0 a0 cs B) hchk (fun st a w ⟨vs, _, _, h⟩ => hF w h.frm) ?_ ?_ ?_ (2 * cs.length) (List.replicate cs.length 0) a0 w0 (hrem _) (by simp [hlen]) (fun s hs => by have := List.eq_of_mem_replicate hs; omega) hJ0
 · rw [hz] at key; exact key
 · intro st a w i b p d hst ⟨vs, hvl, ha, hR⟩ hi hs
   obtain ⟨ch, hch, rfl, rfl, rfl⟩ := ixs_get hi
   obtain ⟨o, k, X, ho, hg, hdst, hop, hk, hX, hrun⟩ := (hok i ch hch).lay
   have hil : i < vs.length := by rw [hvl]; exact (List.getElem?_eq_some_iff.1 hch).1
   obtain ⟨⟨u, v⟩, hv⟩ : ∃ x, vs[i]? = some x := ⟨_, List.getElem?_eq_getElem hil⟩
   refine wpOp_step ho fun K' hK => ?_
   have hw : Region.wanted o (yielded ops a.tmps) = true := by simp [Region.wanted, hg]
   rw [if_pos hw]
   have hev : a.eval (.tmp k) = X := evalOf (by rw [ha, puts_other _ _ _ _ _ hk]; exact hX)
   unfold Oper.wp execOp
   simp only [hop, Sem.run_bind, Sem.run_pure, Result.andThen_ok, List.map_toArray, List.map_cons, List.map_nil, hev, hrun]
   rw [Oper.upon_value]
   refine hK _ _ ⟨vs.set i (.slice (some ⟨w.heap.size, 0, none⟩) 1 1, v), by simpa using hvl, ?_, hR.lay hch hs hv _⟩
   rw [hdst, ha, puts_1 (ixs cs) st vs a0 i ch.b ch.p ch.db ch.dp _ u v hnd hi hs hv]
 · intro st a w i b p d hst ⟨vs, hvl, ha, hR⟩ hi hs
   obtain ⟨ch, hch, rfl, rfl, rfl⟩ := ixs_get hi
   obtain ⟨o, k, ho, hg, hdst, hop, hk, hX⟩ := (hok i ch hch).app
   obtain ⟨ti, z, bytes, ht, hti, htz, hts, htb, htzs, htp, hbt⟩ := (hok i ch hch).info
   have hil : i < vs.length := by rw [hvl]; exact (List.getElem?_eq_some_iff.1 hch).1
   obtain ⟨⟨u, v⟩, hv⟩ : ∃ x, vs[i]? = some x := ⟨_, List.getElem?_eq_getElem hil⟩
   obtain ⟨g, hu, _, _, hcell, _⟩ := hR.one i ch u v hch hs hv
   refine wpOp_step ho fun K' hK => ?_
   have hw : Region.wanted o (yielded ops a.tmps) = true := by simp [Region.wanted, hg]
   rw [if_pos hw]
   have hev : a.eval (.tmp k) = ch.v := evalOf (by rw [ha, puts_other _ _ _ _ _ hk]; exact hX)
   have hev2 : a.eval (.tmp ch.db) = .slice (some ⟨g, 0, none⟩) 1 1 := evalOf (by rw [ha, puts_at1 (ixs cs) st vs a0 i ch.b ch.p ch.db ch.dp u v hnd hsl hi hs hv, hu])
   have hrow' := (hR.row i ch 1 u v hch hs hv).1
   obtain ⟨v', w', hr, f1, f2, _, f4⟩ := run_append_own_at (P := P) w B ch.t o.type ch.e ti z ch.size bytes ht hti htz hts htb htzs htp ch.v ch.n ch.xs hrow' ⟨g, 0, none⟩ 1 1 ch.x (by rw [(hok i ch hch).len]; omega) (fun j x hx => by rw [addZ]; exact hcell j x hx) (hok i ch hch).cell (hok i ch hch).max hbt (Nat.le_trans hB hR.frm.size)
   unfold Oper.wp execOp
   simp only [hop, resolve, invoke, builtin, Sem.run_bind, Sem.run_pure, Result.andThen_ok, List.map_toArray, List.map_cons, List.map_nil, hev, hev2, hr]
   rw [Oper.upon_value]
   refine hK _ _ ⟨vs.set i (u, v'), by simpa using hvl, ?_, hR.app hch hs hv f1 f2 f4⟩
   rw [hdst, ha, puts_2 (ixs cs) st vs a0 i ch.b ch.p ch.db ch.dp u v v' hnd hi hs hv]
 · intro a w ⟨vs, hvl, ha, hR⟩
   rw [hlen] at ha hR ⊢
   rw [ha]
   exact he vs w hvl hR
theorem wpAnyG_appends' {w0 : World} {a0 : Act} {cs : List Ch} {B : Nat} {L0 : Array Bool} {f fuel : Nat} (hfu : fuel = f + 2 * cs.length) (hchk : chk md ops (ixs cs) L0 = true) (hnd : (slots (ixs cs)).Nodup) (hsl : ∀ d ∈ slots (ixs cs), d < a0.tmps.size)
 (hF : ∀ w, Frm w0 cs w → F w) (hok : ∀ (i : Nat) (d : Ch), cs[i]? = some d → ChOk P ops a0 cs d) (hB : B ≤ w0.heap.size)
 (hrow : ∀ (i : Nat) (d : Ch), cs[i]? = some d → w0.ownsRow B d.e d.size d.v d.n d.xs)
 (hap : ∀ (i j : Nat) (d d' : Ch), i ≠ j → cs[i]? = some d → cs[j]? = some d' → ∀ g, d.v.ownBlock = some g → d'.v.ownBlock ≠ some g)
 (he : ∀ vs w, vs.length = cs.length → RowsOk w0 cs B (List.replicate cs.length 2) vs w → wpAnyG P md ops Q c F f (lst (ixs cs) (List.replicate cs.length 2) L0) (puts (ixs cs) (List.replicate cs.length 2) vs a0) w) :
 wpAnyG P md ops Q c F fuel L0 a0 w0 := by
 subst hfu
 exact wpAnyG_appends hchk hnd hsl hF hok hB hrow hap he
structure Aft (w0 : World) (c1 c2 c3 : Ch) (B : Nat) (t1 t2 t3 : Value) (W : World) : Prop where
 frm : Frm w0 [c1, c2, c3] W
 q1 : W.ownsRow B c1.e c1.size t1 (c1.n + 1) (c1.xs ++ c1.x)
 q2 : W.ownsRow B c2.e c2.size t2 (c2.n + 1) (c2.xs ++ c2.x)
 q3 : W.ownsRow B c3.e c3.size t3 (c3.n + 1) (c3.xs ++ c3.x)
 o1 : t1.ownBlock = c1.v.ownBlock ∨ ∃ g, t1.ownBlock = some g ∧ w0.heap.size ≤ g
 o2 : t2.ownBlock = c2.v.ownBlock ∨ ∃ g, t2.ownBlock = some g ∧ w0.heap.size ≤ g
 o3 : t3.ownBlock = c3.v.ownBlock ∨ ∃ g, t3.ownBlock = some g ∧ w0.heap.size ≤ g
 a12 : ∀ g, t1.ownBlock = some g → t2.ownBlock ≠ some g
 a13 : ∀ g, t1.ownBlock = some g → t3.ownBlock ≠ some g
 a23 : ∀ g, t2.ownBlock = some g → t3.ownBlock ≠ some g
theorem all3 {C : Ch → Prop} {a b c : Ch} (h0 : C a) (h1 : C b) (h2 : C c) : ∀ (i : Nat) (d : Ch), [a, b, c][i]? = some d → C d := by
 intro i d h
 match i, h with
 | 0, h => obtain rfl : a = d := by simpa using h
           exact h0
 | 1, h => obtain rfl : b = d := by simpa using h
           exact h1
 | 2, h => obtain rfl : c = d := by simpa using h
           exact h2
 | i + 3, h => simp at h
theorem idx3 {a b c d : Ch} {i : Nat} (h : [a, b, c][i]? = some d) : (i = 0 ∧ a = d) ∨ (i = 1 ∧ b = d) ∨ (i = 2 ∧ c = d) := by
 match i, h with
 | 0, h => exact .inl ⟨rfl, by simpa using h⟩
 | 1, h => exact .inr (.inl ⟨rfl, by simpa using h⟩)
 | 2, h => exact .inr (.inr ⟨rfl, by simpa using h⟩)
 | i + 3, h => simp at h
theorem row_shape {w : World} {B n size : Nat} {e : TypeId} {v : Value} {xs : List Value} (h : w.ownsRow B e size v n xs) : ∃ a c, v = .slice a n c := by
 rcases h.2 with ⟨rfl, rfl⟩ | ⟨g, cap, cur, rfl, _⟩
 · exact ⟨none, 0, rfl⟩
 · exact ⟨_, _, rfl⟩
theorem len3p {α : Type} {l : List α} (h : l.length = 3) : ∃ a b c, l = [a, b, c] := by
 match l, h with
 | [a, b, c], _ => exact ⟨a, b, c, rfl⟩
theorem wpAnyG_appends3 {c1 c2 c3 : Ch} {w0 : World} {a0 : Act} {B : Nat} {L0 : Array Bool} {f fuel : Nat} (hfu : fuel = f + 6) (hchk : chk md ops (ixs [c1, c2, c3]) L0 = true) (hnd : (slots (ixs [c1, c2, c3])).Nodup) (hsl : ∀ d ∈ slots (ixs [c1, c2, c3]), d < a0.tmps.size)
 (hF : ∀ w, Frm w0 [c1, c2, c3] w → F w) (k1 : ChOk P ops a0 [c1, c2, c3] c1) (k2 : ChOk P ops a0 [c1, c2, c3] c2) (k3 : ChOk P ops a0 [c1, c2, c3] c3) (hB : B ≤ w0.heap.size)
 (r1 : w0.ownsRow B c1.e c1.size c1.v c1.n c1.xs) (r2 : w0.ownsRow B c2.e c2.size c2.v c2.n c2.xs) (r3 : w0.ownsRow B c3.e c3.size c3.v c3.n c3.xs)
 (a12 : ∀ g, c1.v.ownBlock = some g → c2.v.ownBlock ≠ some g) (a13 : ∀ g, c1.v.ownBlock = some g → c3.v.ownBlock ≠ some g) (a23 : ∀ g, c2.v.ownBlock = some g → c3.v.ownBlock ≠ some g)
 (he : ∀ (u1 u2 u3 : Value) (x1 x2 x3 : Option Addr) (m1 m2 m3 : Nat) (W : World), Aft w0 c1 c2 c3 B (.slice x1 (c1.n + 1) m1) (.slice x2 (c2.n + 1) m2) (.slice x3 (c3.n + 1) m3) W →
  wpAnyG P md ops Q c F f ((((((L0.setIfInBounds c1.b true).setIfInBounds c1.p true).setIfInBounds c2.b true).setIfInBounds c2.p true).setIfInBounds c3.b true).setIfInBounds c3.p true)
   ((((((a0.put (some c1.db) u1).put (some c1.dp) (.slice x1 (c1.n + 1) m1)).put (some c2.db) u2).put (some c2.dp) (.slice x2 (c2.n + 1) m2)).put (some c3.db) u3).put (some c3.dp) (.slice x3 (c3.n + 1) m3)) W) :
 wpAnyG P md ops Q c F fuel L0 a0 w0 := by
 subst hfu
 refine wpAnyG_appends (cs := [c1, c2, c3]) hchk hnd hsl hF (all3 k1 k2 k3) hB (all3 (C := fun d => w0.ownsRow B d.e d.size d.v d.n d.xs) r1 r2 r3) ?_ ?_
 · intro i j d d' hij hd hd' g hg hg'
   rcases idx3 hd with ⟨rfl, rfl⟩ | ⟨rfl, rfl⟩ | ⟨rfl, rfl⟩ <;> rcases idx3 hd' with ⟨rfl, rfl⟩ | ⟨rfl, rfl⟩ | ⟨rfl, rfl⟩
   · exact hij rfl
   · exact a12 g hg hg'
   · exact a13 g hg hg'
   · exact a12 g hg' hg
   · exact hij rfl
   · exact a23 g hg hg'
   · exact a13 g hg' hg
   · exact a23 g hg' hg
   · exact hij rfl
 · intro vs W hvl hR
   obtain ⟨⟨u1, t1⟩, ⟨u2, t2⟩, ⟨u3, t3⟩, rfl⟩ := len3p hvl
   have q1 := hR.row 0 _ 2 u1 t1 rfl rfl rfl
   have q2 := hR.row 1 _ 2 u2 t2 rfl rfl rfl
   have q3 := hR.row 2 _ 2 u3 t3 rfl rfl rfl
   have z12 := hR.apart 0 1 _ _ 2 2 u1 t1 u2 t2 (by decide) rfl rfl rfl rfl rfl rfl
   have z13 := hR.apart 0 2 _ _ 2 2 u1 t1 u3 t3 (by decide) rfl rfl rfl rfl rfl rfl
   have z23 := hR.apart 1 2 _ _ 2 2 u2 t2 u3 t3 (by decide) rfl rfl rfl rfl rfl rfl
   simp only [cur, curN, curX, if_true] at q1 q2 q3 z12 z13 z23
   obtain ⟨x1, m1, rfl⟩ := row_shape q1.1
   obtain ⟨x2, m2, rfl⟩ := row_shape q2.1
   obtain ⟨x3, m3, rfl⟩ := row_shape q3.1
   have h := he u1 u2 u3 x1 x2 x3 m1 m2 m3 W ⟨hR.frm, q1.1, q2.1, q3.1, q1.2, q2.2, q3.2, z12, z13, z23⟩
   clear he
   simp [ixs, lst, puts, List.replicate_succ]
   exact h
end
end Go.Proofs.Ytagbikgfkakbfaa
namespace Go.Proofs.Ytagbikgfkakbfaa
open Go.RowKit
set_option linter.unusedSimpArgs false
set_option linter.unusedVariables false
def flatS (ss : List (List Int)) : List Value := ss.flatMap fun s => s.map (Value.int .i64)
theorem flatS_snoc (ss : List (List Int)) (s : List Int) : flatS (ss ++ [s]) = flatS ss ++ s.map (Value.int .i64) := by simp [flatS]
def flat2 (l : List P2) : List Value := l.flatMap fun p => [.int .i64 p.x, .int .i64 p.y]
theorem flat2_snoc (l : List P2) (x y : Int) : flat2 (l ++ [⟨x, y⟩]) = flat2 l ++ [.int .i64 x, .int .i64 y] := by simp [flat2]
def ApV (o v : Value) : Prop := ∀ g, o.ownBlock = some g → v.ownBlock ≠ some g
structure Spc (w : World) (PB MB B : Nat) (v1 v2 v3 : Value) (ss : List (List Int)) (fr : List Int) (bys : List P2) : Prop where
 c0 : w.cell? ⟨PB, 0, none⟩ = some (.map (some MB))
 c1 : w.cell? ⟨PB, 1, none⟩ = some v1
 c2 : w.cell? ⟨PB, 2, none⟩ = some v2
 c3 : w.cell? ⟨PB, 3, none⟩ = some v3
 fz : ∀ j, w.frozen? ⟨PB, j, none⟩ = false
 mp : MapAt w MB ss
 r1 : w.ownsRow B 41 14 v1 ss.length (flatS ss)
 r2 : w.ownsRow B 3 1 v2 ss.length (fr.map (Value.int .i64))
 r3 : w.ownsRow B 22 2 v3 ss.length (flat2 bys)
 a12 : ApV v1 v2
 a13 : ApV v1 v3
 a23 : ApV v2 v3
 pm : PB ≠ MB
 pB : PB < B
 mB : MB < B
def Foot (PB MB : Nat) (v1 v2 v3 : Value) (b : Nat) : Prop := b = PB ∨ b = MB ∨ v1.ownBlock = some b ∨ v2.ownBlock = some b ∨ v3.ownBlock = some b
section
variable {w w' : World} {PB MB B : Nat} {v1 v2 v3 : Value} {ss : List (List Int)} {fr : List Int} {bys : List P2}
theorem Spc.lt (h : Spc w PB MB B v1 v2 v3 ss fr bys) : PB < w.heap.size := World.block_lt_of_cell? w _ h.c0
theorem Spc.foot_lt (h : Spc w PB MB B v1 v2 v3 ss fr bys) {b : Nat} (hb : Foot PB MB v1 v2 v3 b) : b < w.heap.size := by
 rcases hb with rfl | rfl | hb | hb | hb
 · exact h.lt
 · exact h.mp.lt
 · exact (rows_lt h.r1 b hb).2
 · exact (rows_lt h.r2 b hb).2
 · exact (rows_lt h.r3 b hb).2
theorem Spc.kept (h : Spc w PB MB B v1 v2 v3 ss fr bys) (hk : ∀ b, Foot PB MB v1 v2 v3 b → w'.heap[b]? = w.heap[b]?) : Spc w' PB MB B v1 v2 v3 ss fr bys := by
 have hp : w'.heap[PB]? = w.heap[PB]? := hk PB (.inl rfl)
 have hc : ∀ j, w'.cell? ⟨PB, j, none⟩ = w.cell? ⟨PB, j, none⟩ := fun j => World.cell?_of_block (w := w) (a := ⟨PB, j, none⟩) hp
 exact ⟨(hc 0).trans h.c0, (hc 1).trans h.c1, (hc 2).trans h.c2, (hc 3).trans h.c3, fun j => (World.frozen?_of_block (w := w) (a := ⟨PB, j, none⟩) hp).trans (h.fz j), h.mp.block (hk MB (.inr (.inl rfl))),
  rows_kept h.r1 (fun g hg => hk g (.inr (.inr (.inl hg)))), rows_kept h.r2 (fun g hg => hk g (.inr (.inr (.inr (.inl hg))))), rows_kept h.r3 (fun g hg => hk g (.inr (.inr (.inr (.inr hg))))), h.a12, h.a13, h.a23, h.pm, h.pB, h.mB⟩
theorem Spc.below (h : Spc w PB MB B v1 v2 v3 ss fr bys) (hb : Below w.heap.size w w') : Spc w' PB MB B v1 v2 v3 ss fr bys := h.kept fun b hf => hb.block b (h.foot_lt hf)
end
structure SFr (w w' : World) (PB MB : Nat) (v1 v2 v3 v1' v2' v3' : Value) : Prop where
 os : w'.os = w.os
 tape : w'.tape = w.tape
 output : w'.output = w.output
 size : w.heap.size ≤ w'.heap.size
 block : ∀ b, b < w.heap.size → ¬ Foot PB MB v1 v2 v3 b → w'.heap[b]? = w.heap[b]?
 foot : ∀ b, Foot PB MB v1' v2' v3' b → Foot PB MB v1 v2 v3 b ∨ w.heap.size ≤ b
theorem sliceShape {w : World} {B n size : Nat} {e : TypeId} {v : Value} {xs : List Value} (h : w.ownsRow B e size v n xs) : ∃ a c, v = .slice a n c := by
 rcases h.2 with ⟨rfl, rfl⟩ | ⟨g, cap, cur, rfl, _⟩
 · exact ⟨none, 0, rfl⟩
 · exact ⟨_, _, rfl⟩
end Go.Proofs.Ytagbikgfkakbfaa
namespace Go.Proofs.Ytagbikgfkakbfaa
open Go.RowKit
set_option linter.unusedSimpArgs false
set_option linter.unusedVariables false
attribute [local go_sem] iteMin iteMax iteMinN iteMaxN
set_option maxRecDepth 100000 in
set_option maxHeartbeats 4000000 in
theorem find_old (PB MB B : Nat) (v1 v2 v3 : Value) (ss : List (List Int)) (fr : List Int) (bys : List P2) (a0 a1 a2 a3 a4 a5 a6 a7 a8 a9 a10 a11 a12 a13 fo x y : Int) (w : World) (hSp : Spc w PB MB B v1 v2 v3 ss fr bys) (hg : Gd [a0, a1, a2, a3, a4, a5, a6, a7, a8, a9, a10, a11, a12, a13]) (i : Nat) (hi : ss[i]? = some [a0, a1, a2, a3, a4, a5, a6, a7, a8, a9, a10, a11, a12, a13]) :
 Calls Try.prog 37 #[.pointer (some ⟨PB, 0, none⟩), .agg #[.int .i64 a0, .int .i64 a1, .int .i64 a2, .int .i64 a3, .int .i64 a4, .int .i64 a5, .int .i64 a6, .int .i64 a7, .int .i64 a8, .int .i64 a9, .int .i64 a10, .int .i64 a11, .int .i64 a12, .int .i64 a13], .int .i64 fo, .agg #[.int .i64 x, .int .i64 y]] w fun e w' => e = .returned (.tuple #[.int .i64 (i : Int), .bool true]) ∧ Below w.heap.size w w' := by
 obtain ⟨S, hS⟩ : ∃ S, w.heap.size = S := ⟨_, rfl⟩
 have HSP := hide hSp
 have HG := hide hg
 go_enter Try.func37, Try.ntmps37
 go_upto_region 1 with fail
 obtain ⟨X, hX⟩ : ∃ X, X = (w.alloc (.cells #[.int .i64 a0, .int .i64 a1, .int .i64 a2, .int .i64 a3, .int .i64 a4, .int .i64 a5, .int .i64 a6, .int .i64 a7, .int .i64 a8, .int .i64 a9, .int .i64 a10, .int .i64 a11, .int .i64 a12, .int .i64 a13] 41)).alloc (.cells #[.int .i64 x, .int .i64 y] 22) := ⟨_, rfl⟩
 rw [← hX]
 have BA : Blk X S [.int .i64 a0, .int .i64 a1, .int .i64 a2, .int .i64 a3, .int .i64 a4, .int .i64 a5, .int .i64 a6, .int .i64 a7, .int .i64 a8, .int .i64 a9, .int .i64 a10, .int .i64 a11, .int .i64 a12, .int .i64 a13] := by
  have := (Blk.new w [.int .i64 a0, .int .i64 a1, .int .i64 a2, .int .i64 a3, .int .i64 a4, .int .i64 a5, .int .i64 a6, .int .i64 a7, .int .i64 a8, .int .i64 a9, .int .i64 a10, .int .i64 a11, .int .i64 a12, .int .i64 a13] 41).alloc (.cells #[.int .i64 x, .int .i64 y] 22)
  rw [hX]; simpa [hS] using this
 have BP : Blk X (S + 1) [.int .i64 x, .int .i64 y] := by
  have := Blk.new (w.alloc (.cells #[.int .i64 a0, .int .i64 a1, .int .i64 a2, .int .i64 a3, .int .i64 a4, .int .i64 a5, .int .i64 a6, .int .i64 a7, .int .i64 a8, .int .i64 a9, .int .i64 a10, .int .i64 a11, .int .i64 a12, .int .i64 a13] 41)) [.int .i64 x, .int .i64 y] 22
  rw [hX]; simpa [hS] using this
 have hWX : Below w.heap.size w X := by rw [hX]; exact ((Below.refl _ _).alloc (Nat.le_refl _) _).alloc (by simp) _
 have hsX : X.heap.size = S + 2 := by rw [hX, ← hS]; simp
 have HSX := hide (HSP.out.below hWX)
 have HBA := hide BA
 have HBP := hide BP
 have HWX := hide hWX
 clear hX BA BP hWX HSP hSp hg
 have hlk : ∀ m : Nat, (Instr.lookup 81 (.map (some MB)) (.agg #[.int .i64 a0, .int .i64 a1, .int .i64 a2, .int .i64 a3, .int .i64 a4, .int .i64 a5, .int .i64 a6, .int .i64 a7, .int .i64 a8, .int .i64 a9, .int .i64 a10, .int .i64 a11, .int .i64 a12, .int .i64 a13]) true).run Try.prog (X.drewN m) = .ok (.tuple #[.int .i64 (i : Int), .bool true]) (X.drewN m) := fun m => (HSX.out.below (below_drewN (Below.refl _ _) m)).mp.look HG.out hi
 have p0 := HSX.out.c0
 have s_0 := (HBA.out 0 _ rfl).1
 have s_1 := (HBA.out 1 _ rfl).1
 have s_2 := (HBA.out 2 _ rfl).1
 have s_3 := (HBA.out 3 _ rfl).1
 have s_4 := (HBA.out 4 _ rfl).1
 have s_5 := (HBA.out 5 _ rfl).1
 have s_6 := (HBA.out 6 _ rfl).1
 have s_7 := (HBA.out 7 _ rfl).1
 have s_8 := (HBA.out 8 _ rfl).1
 have s_9 := (HBA.out 9 _ rfl).1
 have s_10 := (HBA.out 10 _ rfl).1
 have s_11 := (HBA.out 11 _ rfl).1
 have s_12 := (HBA.out 12 _ rfl).1
 have s_13 := (HBA.out 13 _ rfl).1
 clear hi HSX HBA HBP HG
 go_quiet (fail)
 go_wp2
 refine bodyPost_ret (v := .tuple #[.int .i64 (i : Int), .bool true]) (by simp [results, Try.f37, go_sem]) rfl ?_
 exact ⟨rfl, below_drewN HWX.out _⟩
set_option maxRecDepth 100000 in
set_option maxHeartbeats 4000000 in
theorem find_full (PB MB B : Nat) (v1 v2 v3 : Value) (ss : List (List Int)) (fr : List Int) (bys : List P2) (a0 a1 a2 a3 a4 a5 a6 a7 a8 a9 a10 a11 a12 a13 fo x y : Int) (w : World) (hSp : Spc w PB MB B v1 v2 v3 ss fr bys) (hg : Gd [a0, a1, a2, a3, a4, a5, a6, a7, a8, a9, a10, a11, a12, a13]) (hn : [a0, a1, a2, a3, a4, a5, a6, a7, a8, a9, a10, a11, a12, a13] ∉ ss) (hl : ss.length = 300) :
 Calls Try.prog 37 #[.pointer (some ⟨PB, 0, none⟩), .agg #[.int .i64 a0, .int .i64 a1, .int .i64 a2, .int .i64 a3, .int .i64 a4, .int .i64 a5, .int .i64 a6, .int .i64 a7, .int .i64 a8, .int .i64 a9, .int .i64 a10, .int .i64 a11, .int .i64 a12, .int .i64 a13], .int .i64 fo, .agg #[.int .i64 x, .int .i64 y]] w fun e w' => e = .returned (.tuple #[.int .i64 0, .bool false]) ∧ Below w.heap.size w w' := by
 obtain ⟨S, hS⟩ : ∃ S, w.heap.size = S := ⟨_, rfl⟩
 have HSP := hide hSp
 have HG := hide hg
 go_enter Try.func37, Try.ntmps37
 go_upto_region 1 with fail
 obtain ⟨X, hX⟩ : ∃ X, X = (w.alloc (.cells #[.int .i64 a0, .int .i64 a1, .int .i64 a2, .int .i64 a3, .int .i64 a4, .int .i64 a5, .int .i64 a6, .int .i64 a7, .int .i64 a8, .int .i64 a9, .int .i64 a10, .int .i64 a11, .int .i64 a12, .int .i64 a13] 41)).alloc (.cells #[.int .i64 x, .int .i64 y] 22) := ⟨_, rfl⟩
 rw [← hX]
 have BA : Blk X S [.int .i64 a0, .int .i64 a1, .int .i64 a2, .int .i64 a3, .int .i64 a4, .int .i64 a5, .int .i64 a6, .int .i64 a7, .int .i64 a8, .int .i64 a9, .int .i64 a10, .int .i64 a11, .int .i64 a12, .int .i64 a13] := by
  have := (Blk.new w [.int .i64 a0, .int .i64 a1, .int .i64 a2, .int .i64 a3, .int .i64 a4, .int .i64 a5, .int .i64 a6, .int .i64 a7, .int .i64 a8, .int .i64 a9, .int .i64 a10, .int .i64 a11, .int .i64 a12, .int .i64 a13] 41).alloc (.cells #[.int .i64 x, .int .i64 y] 22)
  rw [hX]; simpa [hS] using this
 have BP : Blk X (S + 1) [.int .i64 x, .int .i64 y] := by
  have := Blk.new (w.alloc (.cells #[.int .i64 a0, .int .i64 a1, .int .i64 a2, .int .i64 a3, .int .i64 a4, .int .i64 a5, .int .i64 a6, .int .i64 a7, .int .i64 a8, .int .i64 a9, .int .i64 a10, .int .i64 a11, .int .i64 a12, .int .i64 a13] 41)) [.int .i64 x, .int .i64 y] 22
  rw [hX]; simpa [hS] using this
 have hWX : Below w.heap.size w X := by rw [hX]; exact ((Below.refl _ _).alloc (Nat.le_refl _) _).alloc (by simp) _
 have hsX : X.heap.size = S + 2 := by rw [hX, ← hS]; simp
 have HSX := hide (HSP.out.below hWX)
 have HBA := hide BA
 have HBP := hide BP
 have HWX := hide hWX
 clear hX BA BP hWX HSP hSp hg
 obtain ⟨cc, hlk⟩ : ∃ cc : Int, ∀ m : Nat, (Instr.lookup 81 (.map (some MB)) (.agg #[.int .i64 a0, .int .i64 a1, .int .i64 a2, .int .i64 a3, .int .i64 a4, .int .i64 a5, .int .i64 a6, .int .i64 a7, .int .i64 a8, .int .i64 a9, .int .i64 a10, .int .i64 a11, .int .i64 a12, .int .i64 a13]) true).run Try.prog (X.drewN m) = .ok (.tuple #[.int .i64 cc, .bool false]) (X.drewN m) := HSX.out.mp.missN HG.out hn
 obtain ⟨q1, d1, e1⟩ := sliceShape HSX.out.r1
 rw [hl] at e1
 have p0 := HSX.out.c0
 have p1 := HSX.out.c1
 rw [e1] at p1
 have s_0 := (HBA.out 0 _ rfl).1
 have s_1 := (HBA.out 1 _ rfl).1
 have s_2 := (HBA.out 2 _ rfl).1
 have s_3 := (HBA.out 3 _ rfl).1
 have s_4 := (HBA.out 4 _ rfl).1
 have s_5 := (HBA.out 5 _ rfl).1
 have s_6 := (HBA.out 6 _ rfl).1
 have s_7 := (HBA.out 7 _ rfl).1
 have s_8 := (HBA.out 8 _ rfl).1
 have s_9 := (HBA.out 9 _ rfl).1
 have s_10 := (HBA.out 10 _ rfl).1
 have s_11 := (HBA.out 11 _ rfl).1
 have s_12 := (HBA.out 12 _ rfl).1
 have s_13 := (HBA.out 13 _ rfl).1
 clear hn hl HSX HBA HBP HG e1
 go_quiet (fail)
 go_wp2
 refine bodyPost_ret (v := .tuple #[.int .i64 0, .bool false]) (by simp [results, Try.f37, go_sem]) rfl ?_
 exact ⟨rfl, below_drewN HWX.out _⟩
end Go.Proofs.Ytagbikgfkakbfaa
