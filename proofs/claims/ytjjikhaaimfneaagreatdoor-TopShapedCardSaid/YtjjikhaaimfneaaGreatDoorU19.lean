/-
  Lemmas and walks for the statement: StSpec, StMap, RegM.
-/
import Derived.Test.YtjjikhaaimfneaaGreatDoorU01
import Derived.Test.YtjjikhaaimfneaaGreatDoorU05
import Derived.Test.YtjjikhaaimfneaaGreatDoorU18
import Derived.Maps.OwnSet
import Derived.Maps.Views
import Derived.DeepKeys4
import Derived.Test.YtjjikhaaimfneaaGreatDoorU04
import Derived.Maps.AppendAt
import Derived.Below
namespace Go.Proofs.YtjjikhaaimfneaaGreatDoor
set_option linter.unusedSimpArgs false
set_option linter.unusedVariables false
structure Bfs where
 states : List (List Int)
 tos : List Nat
 born : List Nat
 full : Bool
section
variable (step : List Int → Nat → Nat → List Int × List Int) (N : Nat) (s0 : List Int)
def lateOf (e : Nat) : Nat × Nat := (e % (N * N) / N, e % (N * N) % N)
def nextAt (B : Bfs) : List Int := (step (B.states.getD (B.tos.length / (N * N)) []) (lateOf N B.tos.length).1 (lateOf N B.tos.length).2).1
def bfs1 (B : Bfs) : Bfs :=
 if B.full = true then B
 else if nextAt step N B ∈ B.states then { B with tos := B.tos ++ [B.states.idxOf (nextAt step N B)] }
 else if B.states.length = 300 then { B with full := true }
 else ⟨B.states ++ [nextAt step N B], B.tos ++ [B.states.length], B.born ++ [B.tos.length], false⟩
def bfs : Nat → Bfs
 | 0 => ⟨[s0], [], [0], false⟩
 | t + 1 => bfs1 step N (bfs t)
variable {step N s0}
structure BfsOk (N t : Nat) (B : Bfs) : Prop where
 len : B.tos.length = t
 blen : B.born.length = B.states.length
 one : 1 ≤ B.states.length
 most : B.states.length ≤ 300
 nodup : B.states.Nodup
 tos : ∀ (e i : Nat), B.tos[e]? = some i → i < B.states.length
 born : ∀ (i e : Nat), 1 ≤ i → B.born[i]? = some e → e < t ∧ B.tos[e]? = some i ∧ (∀ e' j, e' < e → B.tos[e']? = some j → j ≠ i) ∧ e / (N * N) < i
theorem app_get {α : Type} {l : List α} {x y : α} {i : Nat} (h : (l ++ [x])[i]? = some y) : (i < l.length ∧ l[i]? = some y) ∨ (i = l.length ∧ y = x) := by
 rw [List.getElem?_append] at h
 split at h
 · exact .inl ⟨by assumption, h⟩
 · rename_i hn
   have h1 := (List.getElem?_eq_some_iff.1 h).1
   have : i = l.length := by simp at h1; omega
   subst this
   simp at h
   exact .inr ⟨rfl, h.symm⟩
def Reach (step : List Int → Nat → Nat → List Int × List Int) (N : Nat) (s0 : List Int) (t : Nat) : Prop := ∀ k, k * (N * N) < t → k < (bfs step N s0 (k * (N * N))).states.length
def Ends (step : List Int → Nat → Nat → List Int × List Int) (N : Nat) (s0 : List Int) (k : Nat) (r : Int) : Prop :=
 (Reach step N s0 (k * (N * N)) ∧ (bfs step N s0 (k * (N * N))).full = false ∧ (bfs step N s0 (k * (N * N))).states.length = k ∧ r = 0) ∨
 (k = 0 ∧ (∃ t, Reach step N s0 (t + 1) ∧ (bfs step N s0 t).full = false ∧ (bfs step N s0 (t + 1)).full = true) ∧ r = 4)
def wayTo (N : Nat) (B : Bfs) : Nat → Nat → List (Nat × Nat)
 | 0, _ => []
 | f + 1, n => if n = 0 then [] else wayTo N B f (B.born.getD n 0 / (N * N)) ++ [lateOf N (B.born.getD n 0)]
end
end Go.Proofs.YtjjikhaaimfneaaGreatDoor
namespace Go.Proofs.YtjjikhaaimfneaaGreatDoor
open Go.RowKit Go.Maps
set_option linter.unusedSimpArgs false
set_option linter.unusedVariables false
set_option maxRecDepth 100000
def stV (s : List Int) : Value := .agg (s.map (Value.int .i64)).toArray
def Gd (s : List Int) : Prop := s.length = 14 ∧ ∀ z ∈ s, Sml z
theorem litsStateL {s : List Int} {D : Nat} (h : Gd s) : Tryz.prog.keyLits (D + 1 + 1 + 1 + 1) 133 (s.map (Value.int .i64)) = some (s.map (Lit.int .i64)) := by
 obtain ⟨hl, hw⟩ := h
 obtain ⟨a0, a1, a2, a3, a4, a5, a6, a7, a8, a9, a10, a11, a12, a13, rfl⟩ := len14 hl
 have W : ∀ z ∈ [a0, a1, a2, a3, a4, a5, a6, a7, a8, a9, a10, a11, a12, a13], (Lit.int .i64 z).wf = true := fun z hz => sm_wf (hw z hz)
 exact litsState (W a0 (by simp)) (W a1 (by simp)) (W a2 (by simp)) (W a3 (by simp)) (W a4 (by simp)) (W a5 (by simp)) (W a6 (by simp)) (W a7 (by simp)) (W a8 (by simp)) (W a9 (by simp)) (W a10 (by simp)) (W a11 (by simp)) (W a12 (by simp)) (W a13 (by simp))
theorem formedState {s : List Int} (h : Gd s) : (stV s).formed Tryz.prog 133 = true := by
 obtain ⟨hl, hw⟩ := h
 obtain ⟨a0, a1, a2, a3, a4, a5, a6, a7, a8, a9, a10, a11, a12, a13, rfl⟩ := len14 hl
 kernel_rfl
theorem keyTypeState : Tryz.prog.keyTypeAt 5 133 = true := by kernel_rfl
theorem laidOutS : laidOutB Tryz.prog = true := by kernel_rfl
theorem lawState : Keyed Tryz.prog 133 := Keyed.of_law (deep_law_laid laidOutS (m := 5) (by omega) (of_decide_eq_true (by kernel_rfl)) keyTypeState (by kernel_rfl))
def stK (s : List Int) : Lit := .string (keyBytes (s.map (Lit.int .i64)))
theorem keyTypeState' : Tryz.prog.keyType 133 = true := by kernel_rfl
theorem sizeTypes : ∃ m, Tryz.prog.types.size + 1 = m + 1 + 1 + 1 + 1 := ⟨Tryz.prog.types.size - 3, by
 have : 3 ≤ Tryz.prog.types.size := of_decide_eq_true (by kernel_rfl)
 omega⟩
theorem keyOfState {s : List Int} (h : Gd s) : keyOf Tryz.prog 133 (stV s) = some (stK s) := by
 obtain ⟨m, hm⟩ := sizeTypes
 unfold keyOf
 simp only [Tryz.underlying133, keyTypeState', formedState h, Bool.and_self, if_true, hm]
 have e : (stV s).cells.toList = s.map (Value.int .i64) := by simp [stV, Value.cells]
 rw [e, litsStateL h]
 rfl
theorem stK_inj {s t : List Int} (hs : Gd s) (ht : Gd t) (h : stK s = stK t) : s = t := by
 have h1 := keyOfState hs
 have h2 := keyOfState ht
 rw [h] at h1
 have := lawState.inj h1 h2
 unfold stV at this
 injection this with this
 have h3 := congrArg Array.toList this
 simp only [List.toList_toArray] at h3
 exact List.map_inj_right (fun x y h => by injection h) |>.1 h3
def MapAt (w : World) (b : Nat) (ss : List (List Int)) : Prop :=
 ∃ D : DataW Unit, w.ownsMap Tryz.prog 133 (plainElem Tryz.prog 3) b ss.length D ∧
  (∀ (i : Nat) (s : List Int), ss[i]? = some s → Maps.has D (stK s) = true ∧ D.atKey (stK s) (.lit (.int .i64 0)) = .lit (.int .i64 i)) ∧
  (∀ s, Gd s → s ∉ ss → Maps.has D (stK s) = false)
theorem zeroInt (w : World) : (zeroValue 3).run Tryz.prog w = .ok (.int .i64 0) w := by kernel_rfl
theorem MapAt.lt {w : World} {b : Nat} {ss : List (List Int)} (h : MapAt w b ss) : b < w.heap.size := by
 obtain ⟨D, h1, _⟩ := h; exact h1.lt
theorem MapAt.kept {w w' : World} {b : Nat} {ss : List (List Int)} {row : Option Nat} (h : MapAt w b ss) (hg : w.grownBy w' row) (hne : some b ≠ row) : MapAt w' b ss := by
 obtain ⟨D, h1, h2⟩ := h; exact ⟨D, h1.kept hg hne, h2⟩
theorem MapAt.block {w w' : World} {b : Nat} {ss : List (List Int)} (h : MapAt w b ss) (he : w'.heap[b]? = w.heap[b]?) : MapAt w' b ss := by
 obtain ⟨D, ⟨es, clock, hb, h1⟩, h2⟩ := h
 exact ⟨D, ⟨es, clock, by rw [he]; exact hb, h1⟩, h2⟩
theorem MapAt.made (w : World) : MapAt (w.alloc (.map #[] 0)) w.heap.size [] :=
 ⟨.map [], World.ownsMap_made w _ _ _, fun i s h => by simp at h, fun s _ _ => by simp [Maps.has]⟩
theorem MapAt.look {w : World} {b : Nat} {ss : List (List Int)} {s : List Int} (h : MapAt w b ss) (hs : Gd s) {i : Nat} (hi : ss[i]? = some s) :
 (Instr.lookup 94 (.map (some b)) (stV s) true).run Tryz.prog w = .ok (.tuple #[.int .i64 i, .bool true]) w := by
 obtain ⟨D, h1, h2, _⟩ := h
 obtain ⟨v, ps, hr, hv⟩ := h1.look_ok lawState Tryz.underlying94 (zeroInt w) (plainElem_int Tryz.underlying3 (by decide)) (keyOfState hs)
 obtain ⟨e1, e2⟩ := h2 i s hi
 obtain ⟨c, rfl, hc, hwc⟩ := plainElem_int_inv Tryz.underlying3 hv
 rw [e2] at hc
 have e3 : Lit.int .i64 (i : Int) = Lit.int .i64 c := by
  have := congrArg Prod.fst hc
  injection this
 injection e3 with _ e3
 rw [hr, e1, e3]
theorem MapAt.missN {w : World} {b : Nat} {ss : List (List Int)} {s : List Int} (h : MapAt w b ss) (hs : Gd s) (hn : s ∉ ss) :
 ∃ c : Int, ∀ m : Nat, (Instr.lookup 94 (.map (some b)) (stV s) true).run Tryz.prog (w.drewN m) = .ok (.tuple #[.int .i64 c, .bool false]) (w.drewN m) := by
 obtain ⟨D, h1, _, h3⟩ := h
 refine ⟨0, fun m => ?_⟩
 have h1m : (w.drewN m).ownsMap Tryz.prog 133 (plainElem Tryz.prog 3) b ss.length D := h1
 obtain ⟨v, ps, hr, hv⟩ := h1m.look_ok lawState Tryz.underlying94 (zeroInt _) (plainElem_int Tryz.underlying3 (by decide)) (keyOfState hs)
 obtain ⟨c, rfl, hc, _⟩ := plainElem_int_inv Tryz.underlying3 hv
 rw [Maps.atKey_of_not_has (h3 s hs hn)] at hc
 have e3 : Lit.int .i64 0 = Lit.int .i64 c := by
  have := congrArg Prod.fst hc
  injection this
 injection e3 with _ e3
 rw [hr, h3 s hs hn, ← e3]
theorem MapAt.store {w : World} {b : Nat} {ss : List (List Int)} {s : List Int} (h : MapAt w b ss) (hg : ∀ t ∈ ss, Gd t) (hs : Gd s) (hn : s ∉ ss) (hl : ss.length < 1000) :
 ∃ w', (Instr.mapUpdate 94 (.map (some b)) (stV s) (.int .i64 (ss.length : Int))).run Tryz.prog w = .ok () w' ∧ MapAt w' b (ss ++ [s]) ∧ w.mapTurned w' b := by
 obtain ⟨D, h1, h2, h3⟩ := h
 have hw : (Lit.int .i64 (ss.length : Int)).wf = true := sm_wf ⟨by omega, by omega⟩
 obtain ⟨w', hr, h4, h5⟩ := h1.store lawState Tryz.underlying94 (by unfold maxLen; omega) (keyOfState hs) (plainElem_int (H := Unit) Tryz.underlying3 hw)
 have hm := h1.isMap
 have hk : WideAt.IsKeyLit (stK s) := lawState.key (keyOfState hs)
 refine ⟨w', hr, ⟨_, by rw [List.length_append]; exact h4, fun i t ht => ?_, fun t ht hnt => ?_⟩, h5⟩
 · rcases app_get ht with ⟨hi, ht⟩ | ⟨rfl, rfl⟩
   · have htg := hg t (List.mem_of_getElem? ht)
     have hne : stK t ≠ stK s := fun e => hn (stK_inj htg hs e ▸ List.mem_of_getElem? ht)
     obtain ⟨e1, e2⟩ := h2 i t ht
     exact ⟨by rw [Maps.has_put_other hne]; exact e1, by rw [Maps.atKey_put_other hne]; exact e2⟩
   · exact ⟨Maps.has_put_same hm hk _, Maps.atKey_put_same hm hk _ _⟩
 · have hne : stK t ≠ stK s := fun e => hnt (by rw [stK_inj ht hs e]; simp)
   rw [Maps.has_put_other hne]
   exact h3 t ht (fun h => hnt (by simp [h]))
end Go.Proofs.YtjjikhaaimfneaaGreatDoor
namespace Go.Proofs.YtjjikhaaimfneaaGreatDoor
open Go
set_option linter.unusedSimpArgs false
set_option linter.unusedVariables false
structure Ch where
 b : Nat
 p : Nat
 db : Nat
 dp : Nat
 t : TypeId
 e : TypeId
 size : Nat
 v : Value
 n : Nat
 xs : List Value
 x : List Value
section
variable {P : Program} {ops : Array Oper} {Q : Exit → Act → World → Prop} {md : Region.Mode} {c : Nat} {F : World → Prop}
def lst : List (Nat × Nat × Nat × Nat) → List Nat → Array Bool → Array Bool
 | (b, p, _) :: cs, s :: st, L => lst cs st (if s = 0 then L else if s = 1 then L.setIfInBounds b true else (L.setIfInBounds b true).setIfInBounds p true)
 | _, _, L => L
def slots : List (Nat × Nat × Nat × Nat) → List Nat
 | (_, _, db, dp) :: cs => db :: dp :: slots cs
 | [] => []
def puts : List (Nat × Nat × Nat × Nat) → List Nat → List (Value × Value) → Act → Act
 | (_, _, db, dp) :: cs, s :: st, (u, v) :: vs, a => puts cs st vs (if s = 0 then a else if s = 1 then a.put (some db) u else (a.put (some db) u).put (some dp) v)
 | _, _, _, a => a
theorem set_comm' (L : Array Bool) (i j : Nat) : (L.setIfInBounds i true).setIfInBounds j true = (L.setIfInBounds j true).setIfInBounds i true := by
 by_cases h : i = j
 · rw [h]
 · exact Array.setIfInBounds_comm _ _ h
theorem lst_comm : ∀ (cs : List (Nat × Nat × Nat × Nat)) (st : List Nat) (L : Array Bool) (j : Nat), lst cs st (L.setIfInBounds j true) = (lst cs st L).setIfInBounds j true
 | [], _, _, _ => by simp [lst]
 | _ :: _, [], _, _ => by simp [lst]
 | (b, p, _) :: cs, s :: st, L, j => by
   simp only [lst]
   rw [← lst_comm cs st _ j]
   congr 1
   (repeat' split)
   · rfl
   · exact set_comm' _ _ _
   · rw [set_comm' L j b, set_comm' _ j p]
theorem lst_1 : ∀ (cs : List (Nat × Nat × Nat × Nat)) (st : List Nat) (L : Array Bool) (i : Nat) (b p : Nat) (d : Nat × Nat), cs[i]? = some (b, p, d) → st[i]? = some 0 → lst cs (st.set i 1) L = (lst cs st L).setIfInBounds b true
 | [], _, _, _, _, _, _, h, _ => by simp at h
 | _ :: _, [], _, _, _, _, _, _, h => by simp at h
 | (b, p, d) :: cs, s :: st, L, 0, _, _, _, h, h' => by
   simp at h h'
   obtain ⟨rfl, rfl, rfl⟩ := h
   subst h'
   simp only [List.set_cons_zero, lst, if_true]
   rw [← lst_comm]; rfl
 | (b, p, d) :: cs, s :: st, L, i + 1, b', p', d', h, h' => by
   simp only [List.set_cons_succ, lst]
   exact lst_1 cs st _ i b' p' d' (by simpa using h) (by simpa using h')
theorem lst_2 : ∀ (cs : List (Nat × Nat × Nat × Nat)) (st : List Nat) (L : Array Bool) (i : Nat) (b p : Nat) (d : Nat × Nat), cs[i]? = some (b, p, d) → st[i]? = some 1 → lst cs (st.set i 2) L = (lst cs st L).setIfInBounds p true
 | [], _, _, _, _, _, _, h, _ => by simp at h
 | _ :: _, [], _, _, _, _, _, _, h => by simp at h
 | (b, p, d) :: cs, s :: st, L, 0, _, _, _, h, h' => by
   simp at h h'
   obtain ⟨rfl, rfl, rfl⟩ := h
   subst h'
   simp only [List.set_cons_zero, lst]
   rw [← lst_comm]; rfl
 | (b, p, d) :: cs, s :: st, L, i + 1, b', p', d', h, h' => by
   simp only [List.set_cons_succ, lst]
   exact lst_2 cs st _ i b' p' d' (by simpa using h) (by simpa using h')
theorem Act.put_comm (a : Act) {i j : Nat} (u v : Value) (h : i ≠ j) : (a.put (some i) u).put (some j) v = (a.put (some j) v).put (some i) u := by
 simp only [Act.put]; rw [Array.setIfInBounds_comm _ _ h]
theorem puts_comm : ∀ (cs : List (Nat × Nat × Nat × Nat)) (st : List Nat) (vs : List (Value × Value)) (a : Act) (j : Nat) (w : Value), j ∉ slots cs → puts cs st vs (a.put (some j) w) = (puts cs st vs a).put (some j) w
 | [], _, _, _, _, _, _ => by simp [puts]
 | _ :: _, [], _, _, _, _, _ => by simp [puts]
 | _ :: _, _ :: _, [], _, _, _, _ => by simp [puts]
 | (b, p, db, dp) :: cs, s :: st, (u, v) :: vs, a, j, w, h => by
   simp only [slots, List.mem_cons, not_or] at h
   simp only [puts]
   rw [← puts_comm cs st vs _ j w h.2.2]
   congr 1
   (repeat' split)
   · rfl
   · exact Act.put_comm a _ _ h.1
   · rw [Act.put_comm a w u h.1, Act.put_comm _ w v h.2.1]
theorem puts_1 : ∀ (cs : List (Nat × Nat × Nat × Nat)) (st : List Nat) (vs : List (Value × Value)) (a : Act) (i b p db dp : Nat) (u u0 v : Value), (slots cs).Nodup → cs[i]? = some (b, p, db, dp) → st[i]? = some 0 → vs[i]? = some (u0, v) →
 puts cs (st.set i 1) (vs.set i (u, v)) a = (puts cs st vs a).put (some db) u
 | [], _, _, _, _, _, _, _, _, _, _, _, _, h, _, _ => by simp at h
 | _ :: _, [], _, _, _, _, _, _, _, _, _, _, _, _, h, _ => by simp at h
 | _ :: _, _ :: _, [], _, _, _, _, _, _, _, _, _, _, _, _, h => by simp at h
 | (b, p, db, dp) :: cs, s :: st, (x, y) :: vs, a, 0, _, _, _, _, u, u0, v, hn, h, h', h'' => by
   simp at h h' h''
   obtain ⟨rfl, rfl, rfl, rfl⟩ := h
   subst h'
   simp only [slots, List.nodup_cons, List.mem_cons, not_or] at hn
   simp only [List.set_cons_zero, puts, if_true]
   rw [← puts_comm _ _ _ _ _ _ hn.1.2]; rfl
 | (b, p, db, dp) :: cs, s :: st, (x, y) :: vs, a, i + 1, b', p', db', dp', u, u0, v, hn, h, h', h'' => by
   simp only [slots, List.nodup_cons, List.mem_cons, not_or] at hn
   simp only [List.set_cons_succ, puts]
   exact puts_1 cs st vs _ i b' p' db' dp' u u0 v hn.2.2 (by simpa using h) (by simpa using h') (by simpa using h'')
theorem puts_2 : ∀ (cs : List (Nat × Nat × Nat × Nat)) (st : List Nat) (vs : List (Value × Value)) (a : Act) (i b p db dp : Nat) (u v0 v : Value), (slots cs).Nodup → cs[i]? = some (b, p, db, dp) → st[i]? = some 1 → vs[i]? = some (u, v0) →
 puts cs (st.set i 2) (vs.set i (u, v)) a = (puts cs st vs a).put (some dp) v
 | [], _, _, _, _, _, _, _, _, _, _, _, _, h, _, _ => by simp at h
 | _ :: _, [], _, _, _, _, _, _, _, _, _, _, _, _, h, _ => by simp at h
 | _ :: _, _ :: _, [], _, _, _, _, _, _, _, _, _, _, _, _, h => by simp at h
 | (b, p, db, dp) :: cs, s :: st, (x, y) :: vs, a, 0, _, _, _, _, u, u0, v, hn, h, h', h'' => by
   simp at h h' h''
   obtain ⟨rfl, rfl, rfl, rfl⟩ := h
   obtain ⟨rfl, rfl⟩ := h''
   subst h'
   simp only [slots, List.nodup_cons, List.mem_cons, not_or] at hn
   simp only [List.set_cons_zero, puts]
   rw [← puts_comm _ _ _ _ _ _ hn.2.1]; rfl
 | (b, p, db, dp) :: cs, s :: st, (x, y) :: vs, a, i + 1, b', p', db', dp', u, u0, v, hn, h, h', h'' => by
   simp only [slots, List.nodup_cons, List.mem_cons, not_or] at hn
   simp only [List.set_cons_succ, puts]
   exact puts_2 cs st vs _ i b' p' db' dp' u u0 v hn.2.2 (by simpa using h) (by simpa using h') (by simpa using h'')
theorem puts_other : ∀ (cs : List (Nat × Nat × Nat × Nat)) (st : List Nat) (vs : List (Value × Value)) (a : Act) (j : Nat), j ∉ slots cs → (puts cs st vs a).tmps[j]? = a.tmps[j]?
 | [], _, _, _, _, _ => by simp [puts]
 | _ :: _, [], _, _, _, _ => by simp [puts]
 | _ :: _, _ :: _, [], _, _, _ => by simp [puts]
 | (b, p, db, dp) :: cs, s :: st, (u, v) :: vs, a, j, h => by
   simp only [slots, List.mem_cons, not_or] at h
   simp only [puts]
   rw [puts_other cs st vs _ j h.2.2]
   (repeat' split)
   · rfl
   · simp only [Act.put]; rw [Array.getElem?_setIfInBounds_ne (Ne.symm h.1)]
   · simp only [Act.put]; rw [Array.getElem?_setIfInBounds_ne (Ne.symm h.2.1), Array.getElem?_setIfInBounds_ne (Ne.symm h.1)]
theorem puts_at1 : ∀ (cs : List (Nat × Nat × Nat × Nat)) (st : List Nat) (vs : List (Value × Value)) (a : Act) (i b p db dp : Nat) (u v : Value), (slots cs).Nodup → (∀ d ∈ slots cs, d < a.tmps.size) → cs[i]? = some (b, p, db, dp) → st[i]? = some 1 → vs[i]? = some (u, v) →
 (puts cs st vs a).tmps[db]? = some u
 | [], _, _, _, _, _, _, _, _, _, _, _, _, h, _, _ => by simp at h
 | _ :: _, [], _, _, _, _, _, _, _, _, _, _, _, _, h, _ => by simp at h
 | _ :: _, _ :: _, [], _, _, _, _, _, _, _, _, _, _, _, _, h => by simp at h
 | (b, p, db, dp) :: cs, s :: st, (x, y) :: vs, a, 0, _, _, _, _, u, v, hn, hl, h, h', h'' => by
   simp at h h' h''
   obtain ⟨rfl, rfl, rfl, rfl⟩ := h
   obtain ⟨rfl, rfl⟩ := h''
   subst h'
   simp only [slots, List.nodup_cons, List.mem_cons, not_or] at hn
   simp only [puts]
   rw [puts_other _ _ _ _ _ hn.1.2]
   simp only [Act.put]
   exact Array.getElem?_setIfInBounds_self_of_lt (hl _ (by simp [slots]))
 | (b, p, db, dp) :: cs, s :: st, (x, y) :: vs, a, i + 1, b', p', db', dp', u, v, hn, hl, h, h', h'' => by
   simp only [slots, List.nodup_cons, List.mem_cons, not_or] at hn
   simp only [puts]
   refine puts_at1 cs st vs _ i b' p' db' dp' u v hn.2.2 (fun d hd => ?_) (by simpa using h) (by simpa using h') (by simpa using h'')
   have := hl d (by simp [slots, hd])
   (repeat' split) <;> simp [Act.put, this]
/-! the orders -/
def rem : List Nat → Nat
 | [] => 0
 | s :: st => (2 - s) + rem st
def stages : Nat → List (List Nat)
 | 0 => [[]]
 | k + 1 => (stages k).flatMap fun st => [0 :: st, 1 :: st, 2 :: st]
theorem mem_stages : ∀ (st : List Nat), (∀ s ∈ st, s ≤ 2) → st ∈ stages st.length
 | [], _ => by simp [stages]
 | s :: st, h => by
   simp only [List.length_cons, stages, List.mem_flatMap]
   refine ⟨st, mem_stages st (fun x hx => h x (by simp [hx])), ?_⟩
   have := h s (by simp)
   rcases (show s = 0 ∨ s = 1 ∨ s = 2 by omega) with rfl | rfl | rfl <;> simp
def mayAt : List (Nat × Nat × Nat × Nat) → List Nat → Nat → Nat → Bool
 | (b, p, _) :: cs, s :: st, i, k => (s == 0 && i == b) || (s == 1 && i == p) || mayAt cs st i (k + 1)
 | _, _, _, _ => false
theorem mayAt_spec : ∀ (cs : List (Nat × Nat × Nat × Nat)) (st : List Nat) (i k : Nat), mayAt cs st i k = true → ∃ (j b p : Nat) (d : Nat × Nat), cs[j]? = some (b, p, d) ∧ ((st[j]? = some 0 ∧ i = b) ∨ (st[j]? = some 1 ∧ i = p))
 | [], _, _, _, h => by simp [mayAt] at h
 | _ :: _, [], _, _, h => by simp [mayAt] at h
 | (b, p, d) :: cs, s :: st, i, k, h => by
   simp only [mayAt, Bool.or_eq_true, Bool.and_eq_true, beq_iff_eq] at h
   rcases h with (⟨rfl, rfl⟩ | ⟨rfl, rfl⟩) | h
   · exact ⟨0, i, p, d, rfl, .inl ⟨rfl, rfl⟩⟩
   · exact ⟨0, b, i, d, rfl, .inr ⟨rfl, rfl⟩⟩
   · obtain ⟨j, b', p', d', h1, h2⟩ := mayAt_spec cs st i (k + 1) h
     exact ⟨j + 1, b', p', d', by simpa using h1, by simpa using h2⟩
def chk (md : Region.Mode) (ops : Array Oper) (cs : List (Nat × Nat × Nat × Nat)) (L : Array Bool) : Bool :=
 (stages cs.length).all fun st => (rem st == 0) || (!(Region.ready md ops (lst cs st L)).isEmpty && (Region.ready md ops (lst cs st L)).all fun i => mayAt cs st i 0)
theorem rem_set : ∀ (st : List Nat) (i s : Nat), s ≤ 1 → st[i]? = some s → rem (st.set i (s + 1)) + 1 = rem st
 | [], _, _, _, h => by simp at h
 | x :: st, 0, s, hs, h => by
   simp at h; subst h
   simp only [List.set_cons_zero, rem]; omega
 | x :: st, i + 1, s, hs, h => by
   have := rem_set st i s hs (by simpa using h)
   simp only [List.set_cons_succ, rem]; omega
theorem rem_zero : ∀ (st : List Nat), (∀ s ∈ st, s ≤ 2) → rem st = 0 → st = List.replicate st.length 2
 | [], _, _ => rfl
 | s :: st, h, h0 => by
   simp only [rem] at h0
   have h1 := h s (by simp)
   have h2 := rem_zero st (fun x hx => h x (by simp [hx])) (by omega)
   simp only [List.length_cons, List.replicate_succ]
   rw [← h2]
   congr 1; omega
theorem wpAnyG_chains {cs : List (Nat × Nat × Nat × Nat)} {L0 : Array Bool} {J : List Nat → Act → World → Prop} {f : Nat} (hchk : chk md ops cs L0 = true) (hJF : ∀ st a w, J st a w → F w)
 (h1 : ∀ st a w i b p d, st.length = cs.length → J st a w → cs[i]? = some (b, p, d) → st[i]? = some 0 → wpOp P ops Q b (J (st.set i 1)) a w)
 (h2 : ∀ st a w i b p d, st.length = cs.length → J st a w → cs[i]? = some (b, p, d) → st[i]? = some 1 → wpOp P ops Q p (J (st.set i 2)) a w)
 (he : ∀ a w, J (List.replicate cs.length 2) a w → wpAnyG P md ops Q c F f (lst cs (List.replicate cs.length 2) L0) a w) :
 ∀ (d : Nat) (st : List Nat) (a : Act) (w : World), rem st = d → st.length = cs.length → (∀ s ∈ st, s ≤ 2) → J st a w → wpAnyG P md ops Q c F (f + d) (lst cs st L0) a w := by
 intro d
 induction d with
 | zero =>
   intro st a w hr hl hs hJ
   have e := rem_zero st hs hr
   rw [hl] at e
   rw [e] at hJ ⊢
   exact he a w hJ
 | succ d ih =>
   intro st a w hr hl hs hJ
   have hm := mem_stages st hs
   rw [hl] at hm
   have hc := List.all_eq_true.1 hchk st hm
   simp only [Bool.or_eq_true, beq_iff_eq, Bool.and_eq_true, Bool.not_eq_true', List.all_eq_true] at hc
   rcases hc with hc | ⟨hc1, hc2⟩
   · omega
   · refine ⟨fun h0 => by rw [h0] at hc1; simp at hc1, fun i hi => ?_⟩
     obtain ⟨j, b, p, dd, hj, h3⟩ := mayAt_spec cs st i 0 (hc2 i hi)
     have hset : ∀ x, x ≤ 2 → ∀ s ∈ st.set j x, s ≤ 2 := fun x hx s hs' => by
      rcases List.mem_or_eq_of_mem_set hs' with h | h
      · exact hs s h
      · omega
     rcases h3 with ⟨h3, rfl⟩ | ⟨h3, rfl⟩
     · refine wpOp_mono (fun a' w' hJ' => ⟨fun _ => hJF _ _ _ hJ', ?_⟩) (h1 st a w j i p dd hl hJ hj h3)
       rw [← lst_1 cs st L0 j i p dd hj h3]
       exact ih _ a' w' (by have := rem_set st j 0 (by omega) h3; simp only [Nat.zero_add] at this; omega) (by simpa using hl) (hset 1 (by omega)) hJ'
     · refine wpOp_mono (fun a' w' hJ' => ⟨fun _ => hJF _ _ _ hJ', ?_⟩) (h2 st a w j b i dd hl hJ hj h3)
       rw [← lst_2 cs st L0 j b i dd hj h3]
       exact ih _ a' w' (by have := rem_set st j 1 (by omega) h3; simp only [Nat.reduceAdd] at this; omega) (by simpa using hl) (hset 2 (by omega)) hJ'
end
end Go.Proofs.YtjjikhaaimfneaaGreatDoor
