/-
  Lemmas and walks for the statement: RAb, RGr, MTab.
-/
import Derived.Test.YtjjikhaaimfneaaGreatDoorU41
import Derived.Test.YtjjikhaaimfneaaGreatDoorU02
import Derived.Test.YtjjikhaaimfneaaGreatDoorChecked
import Derived.Test.YtjjikhaaimfneaaGreatDoorU31
import Derived.Test.YtjjikhaaimfneaaGreatDoorU45
import Derived.Test.YtjjikhaaimfneaaGreatDoorU16
import Derived.Laws.MakeOwn
import Derived.Maps.AppendAt
import Derived.Deep.RegionHeld3
import Derived.Deep.DeepCutAuto
namespace Go.Proofs.YtjjikhaaimfneaaGreatDoor
open Go.RowKit
set_option linter.unusedSimpArgs false
set_option linter.unusedVariables false
attribute [local go_sem] iteMin iteMax iteMinN iteMaxN
def flatG (es : List GE) : List Value := es.flatMap fun e => [.int .i64 e.src, .int .i64 e.dst, .int .i64 e.wt]
theorem flatG_snoc (es : List GE) (e : GE) : flatG (es ++ [e]) = flatG es ++ [.int .i64 e.src, .int .i64 e.dst, .int .i64 e.wt] := by simp [flatG]
theorem row3_lt {w : World} {B n : Nat} {e : TypeId} {size : Nat} {v : Value} {xs : List Value} (h : w.ownsRow B e size v n xs) : ∀ g, v.ownBlock = some g → B ≤ g ∧ g < w.heap.size := by
 intro g hg
 rcases h.2 with ⟨rfl, _⟩ | ⟨g', cap, cur, rfl, hb, hh, _⟩
 · simp [Value.ownBlock] at hg
 · simp only [Value.ownBlock, Option.some.injEq] at hg; subst hg
   exact ⟨hb, (Array.getElem?_eq_some_iff.1 hh).1⟩
theorem row3_kept {w w' : World} {B n : Nat} {e : TypeId} {size : Nat} {v : Value} {xs : List Value} (h : w.ownsRow B e size v n xs) (hk : ∀ g, v.ownBlock = some g → w'.heap[g]? = w.heap[g]?) : w'.ownsRow B e size v n xs := by
 obtain ⟨hl, h⟩ := h
 rcases h with ⟨rfl, rfl⟩ | ⟨g, cap, cur, rfl, hg, hh, hn, hm, hs, hx⟩
 · exact ⟨hl, .inl ⟨rfl, rfl⟩⟩
 · exact ⟨hl, .inr ⟨g, cap, cur, rfl, hg, by rw [hk g rfl]; exact hh, hn, hm, hs, hx⟩⟩
theorem sclG_take {es : List GE} {k : Nat} {e : GE} {a b : Int} (h : es[k]? = some e) : sclG (es.take (k + 1)) a b = sclG (es.take k) a b ++ [⟨e.src, e.dst, e.wt * b - a⟩] := by
 rw [List.take_add_one, h]; simp [sclG]
structure RaI (w : World) (S N n c : Nat) (a : Option Addr) (es : List GE) (x b : Int) (k : Nat) (v : Value) (wr : World) : Prop where
 g0 : wr.cell? ⟨S, 0, none⟩ = some (.int .i64 N)
 h0 : wr.cell? ⟨S + 1, 0, none⟩ = some (.int .i64 N)
 h1 : wr.cell? ⟨S + 1, 1, none⟩ = some v
 hf : ∀ j, wr.frozen? ⟨S + 1, j, none⟩ = false
 row : wr.ownsRow (S + 2) 86 3 v k (flatG (sclG (es.take k) x b))
 bl : Below S w wr
 sz : S + 2 ≤ wr.heap.size
theorem RaI.step {w wr w2 : World} {S N n c k : Nat} {a : Option Addr} {es : List GE} {x b : Int} {v v' : Value} {e : GE} (h : RaI w S N n c a es x b k v wr) (he : es[k]? = some e) (hq : ∀ j, j ≤ S + 1 → w2.heap[j]? = wr.heap[j]?) (hb : Below S w w2)
 (hrow : w2.ownsRow (S + 2) 86 3 v' (k + 1) (flatG (sclG (es.take k) x b) ++ [.int .i64 e.src, .int .i64 e.dst, .int .i64 (e.wt * b - x)])) (hsz : S + 2 ≤ w2.heap.size) : RaI w S N n c a es x b (k + 1) v' (w2.setCell ⟨S + 1, 1, none⟩ v') := by
 have kc : ∀ b j, b ≤ S + 1 → w2.cell? ⟨b, j, none⟩ = wr.cell? ⟨b, j, none⟩ := fun b j hb => World.cell?_of_block (w := wr) (a := ⟨b, j, none⟩) (hq b hb)
 refine ⟨?_, ?_, ?_, fun j => ?_, ?_, ?_, ?_⟩
 · rw [World.cell?_setCell_other _ _ _ _ (fun e => by injection e with e _; omega), kc S 0 (by omega)]; exact h.g0
 · rw [World.cell?_setCell_other _ _ _ _ (fun e => by injection e with _ e; omega), kc (S + 1) 0 (by omega)]; exact h.h0
 · exact World.cell?_setCell_same' _ _ _ (by rw [kc (S + 1) 1 (Nat.le_refl _), h.h1]; rfl)
 · rw [World.frozen?_setCell, World.frozen?_of_block (w := wr) (a := ⟨S + 1, j, none⟩) (hq _ (Nat.le_refl _))]; exact h.hf j
 · rw [sclG_take he, flatG_snoc]
   exact row3_kept hrow (fun g hg => Below.heap_setCell _ _ _ _ (by have := (row3_lt hrow g hg).1; simp only; omega))
 · exact hb.setCell (by simp only; omega) _
 · simpa using hsz
theorem news3' (w : World) (vs : List Value) (t : TypeId) : ∀ (j : Nat) (u : Value), vs[j]? = some u → (w.alloc (.cells vs.toArray t)).cell? ((⟨w.heap.size, 0, none⟩ : Addr).add j) = some u := by
 intro j u hj
 have e1 : (⟨w.heap.size, 0, none⟩ : Addr).add j = ⟨w.heap.size, j, none⟩ := by unfold Addr.add; split <;> simp_all
 rw [e1]
 simp only [World.cell?, World.alloc, Array.getElem?_push_size]
 simpa using hj
end Go.Proofs.YtjjikhaaimfneaaGreatDoor
namespace Go.Proofs.YtjjikhaaimfneaaGreatDoor
open Go.RowKit
set_option linter.unusedSimpArgs false
set_option linter.unusedVariables false
attribute [local go_sem] iteMin iteMax iteMinN iteMaxN
def hiF (p : Int) (q : Nat) (b : Nat) : Int := -((-(p * b)) / (q : Int))
def FracEnd2 (w : World) (S : Nat) (u v : Int) (Z : World) : Prop := Z.cell? ⟨S + 1, 0, none⟩ = some (.int .i64 u) ∧ Z.cell? ⟨S + 1, 1, none⟩ = some (.int .i64 v) ∧ Below S w Z
theorem frac_endS {w wr : World} {S : Nat} {u v : Int} {x y : Value} (z0 : wr.cell? ⟨S + 1, 0, none⟩ = some x) (z1 : wr.cell? ⟨S + 1, 1, none⟩ = some y) (hB : Below S w wr) : FracEnd2 w S u v ((wr.setCell ⟨S + 1, 0, none⟩ (.int .i64 u)).setCell ⟨S + 1, 1, none⟩ (.int .i64 v)) := by
 refine ⟨?_, ?_, (hB.setCell (by simp only; omega) _).setCell (by simp only; omega) _⟩
 · rw [World.cell?_setCell_other _ _ _ _ (fun e => by injection e with _ e; omega)]
   exact World.cell?_setCell_same' _ _ _ (by rw [z0]; rfl)
 · exact World.cell?_setCell_same' _ _ _ (by rw [World.cell?_setCell_other _ _ _ _ (fun e => by injection e with _ e; omega), z1]; rfl)
structure RgI (w : World) (S N n c BB : Nat) (a : Option Addr) (f : Int × Int) (wr : World) : Prop where
 g0 : wr.cell? ⟨S, 0, none⟩ = some (.int .i64 N)
 g1 : wr.cell? ⟨S, 1, none⟩ = some (.slice a n c)
 r0 : wr.cell? ⟨S + 1, 0, none⟩ = some (.int .i64 0)
 r1 : wr.cell? ⟨S + 1, 1, none⟩ = some (.int .i64 0)
 rf : ∀ j, wr.frozen? ⟨S + 1, j, none⟩ = false
 b0 : wr.cell? ⟨BB, 0, none⟩ = some (.int .i64 f.1)
 b1 : wr.cell? ⟨BB, 1, none⟩ = some (.int .i64 f.2)
 bf : ∀ j, wr.frozen? ⟨BB, j, none⟩ = false
 bl : Below S w wr
 hS : S + 1 < BB
theorem RgI.below {w : World} {S N n c BB : Nat} {a : Option Addr} {f : Int × Int} {wr w' : World} (h : RgI w S N n c BB a f wr) (hb : Below wr.heap.size wr w') : RgI w S N n c BB a f w' := by
 have hB := World.block_lt_of_cell? wr _ h.b0
 have hS := h.hS
 simp only at hB
 have kc : ∀ {p : Addr} {v : Value}, wr.cell? p = some v → w'.cell? p = some v := fun {p v} e => (hb.cell (World.block_lt_of_cell? wr _ e)).trans e
 exact ⟨kc h.g0, kc h.g1, kc h.r0, kc h.r1, fun j => (hb.frozen (p := ⟨S + 1, j, none⟩) (by show S + 1 < _; omega)).trans (h.rf j), kc h.b0, kc h.b1, fun j => (hb.frozen (p := ⟨BB, j, none⟩) hB).trans (h.bf j), h.bl.trans (hb.mono (by have := World.block_lt_of_cell? wr _ h.r0; simp only at this; omega)), h.hS⟩
theorem RgI.put {w : World} {S N n c BB : Nat} {a : Option Addr} {f : Int × Int} {wr : World} (h : RgI w S N n c BB a f wr) (x y : Int) : RgI w S N n c BB a (x, y) ((wr.setCell ⟨BB, 0, none⟩ (.int .i64 x)).setCell ⟨BB, 1, none⟩ (.int .i64 y)) := by
 have hS := h.hS
 have o : ∀ {b j : Nat} {v : Value}, b ≠ BB → wr.cell? ⟨b, j, none⟩ = some v → ((wr.setCell ⟨BB, 0, none⟩ (.int .i64 x)).setCell ⟨BB, 1, none⟩ (.int .i64 y)).cell? ⟨b, j, none⟩ = some v := fun {b j v} hb e => by
  rw [World.cell?_setCell_other _ _ _ _ (fun e' => hb (by injection e' with e1; exact e1.symm)), World.cell?_setCell_other _ _ _ _ (fun e' => hb (by injection e' with e1; exact e1.symm))]; exact e
 refine ⟨o (by omega) h.g0, o (by omega) h.g1, o (by omega) h.r0, o (by omega) h.r1, fun j => by rw [World.frozen?_setCell, World.frozen?_setCell]; exact h.rf j, ?_, ?_, fun j => by rw [World.frozen?_setCell, World.frozen?_setCell]; exact h.bf j, (h.bl.setCell (by simp only; omega) _).setCell (by simp only; omega) _, h.hS⟩
 · rw [World.cell?_setCell_other _ _ _ _ (fun e => by injection e with _ e; omega)]
   exact World.cell?_setCell_same' _ _ _ (by rw [h.b0]; rfl)
 · exact World.cell?_setCell_same' _ _ _ (by rw [World.cell?_setCell_other _ _ _ _ (fun e => by injection e with _ e; omega), h.b1]; rfl)
end Go.Proofs.YtjjikhaaimfneaaGreatDoor
namespace Go.Proofs.YtjjikhaaimfneaaGreatDoor
open Go.RowKit
set_option linter.unusedSimpArgs false
set_option linter.unusedVariables false
attribute [local go_sem] iteMin iteMax iteMinN iteMaxN
def rowVals (gs cs : Nat → Nat) (N k : Nat) : List Value := (List.range k).map fun j => .slice (some ⟨gs j, 0, none⟩) N (cs j)
theorem rowVals_at {gs cs : Nat → Nat} {N k j : Nat} (h : j < k) : (rowVals gs cs N k)[j]? = some (.slice (some ⟨gs j, 0, none⟩) N (cs j)) := by simp [rowVals, List.getElem?_range, h]
theorem rowVals_succ {gs cs : Nat → Nat} {N k g c : Nat} : rowVals (upd gs k g) (upd cs k c) N (k + 1) = rowVals gs cs N k ++ [.slice (some ⟨g, 0, none⟩) N c] := by
 simp only [rowVals, List.range_succ, List.map_append, List.map_cons, List.map_nil, upd, if_pos]
 congr 1
 refine List.map_congr_left (fun j hj => ?_)
 have : j ≠ k := by have := List.mem_range.1 hj; omega
 simp [this]
structure RowsK (w : World) (B : Nat) (v : Value) (k N : Nat) (gs cs : Nat → Nat) (es : List PE) : Prop where
 own : w.ownsRow B 24 1 v k (rowVals gs cs N k)
 row : ∀ j, j < k → OTab w B 3 (gs j) N (cs j) (kiter es j)
 ap : ∀ j, j < k → v.ownBlock ≠ some (gs j)
section
variable {w w' : World} {B k N : Nat} {v : Value} {gs cs : Nat → Nat} {es : List PE}
theorem RowsK.below (h : RowsK w B v k N gs cs es) (hb : Below w.heap.size w w') : RowsK w' B v k N gs cs es :=
 ⟨row3_kept h.own (fun g hg => hb.block g (row3_lt h.own g hg).2), fun j hj => (h.row j hj).below hb, h.ap⟩
theorem RowsK.at_ (h : RowsK w B v k N gs cs es) (hk : 0 < k) : ∃ rb cap, v = .slice (some ⟨rb, 0, none⟩) k cap ∧ B ≤ rb ∧ rb < w.heap.size ∧ ∀ j, j < k → w.cell? ⟨rb, j, none⟩ = some (.slice (some ⟨gs j, 0, none⟩) N (cs j)) := by
 rcases h.own.2 with ⟨_, h0⟩ | ⟨g, cap, cur, rfl, hg, hh, hn, hm, hs, hx⟩
 · omega
 · refine ⟨g, cap, rfl, hg, (Array.getElem?_eq_some_iff.1 hh).1, fun j hj => ?_⟩
   have h1 := rowVals_at (gs := gs) (cs := cs) (N := N) hj
   rw [← hx, List.getElem?_take] at h1
   split at h1
   · simp [World.cell?, hh]
     simpa using h1
   · cases h1
theorem RowsK.more {g c : Nat} {v' : Value} (h : RowsK w B v k N gs cs es) (hg : w.grownBy w' v.ownBlock) (hrow : w'.ownsRow B 24 1 v' (k + 1) (rowVals gs cs N k ++ [.slice (some ⟨g, 0, none⟩) N c])) (hnew : OTab w B 3 g N c (kiter es k)) (hne : v.ownBlock ≠ some g) (hat : v'.ownBlock = v.ownBlock ∨ v'.ownBlock = some w.heap.size) : RowsK w' B v' (k + 1) N (upd gs k g) (upd cs k c) es := by
 have key : ∀ j, j < k + 1 → OTab w B 3 (upd gs k g j) N (upd cs k c j) (kiter es j) ∧ v.ownBlock ≠ some (upd gs k g j) := fun j hj => by
  by_cases hjk : j = k
  · subst hjk; simp only [upd, if_pos]; exact ⟨hnew, hne⟩
  · simp only [upd, if_neg hjk]; exact ⟨h.row j (by omega), h.ap j (by omega)⟩
 refine ⟨by rw [rowVals_succ]; exact hrow, fun j hj => (key j hj).1.kept hg (key j hj).2, fun j hj e => ?_⟩
 rcases hat with h1 | h1
 · exact (key j hj).2 (h1.symm.trans e)
 · rw [h1] at e; injection e with e
   have := (key j hj).1.lt.2; omega
end
theorem rep_tabN {w : World} {B e g N : Nat} (h : w.heap[g]? = some (.cells (List.replicate N (Value.int .i64 (-4611686018427387904))).toArray e (0, 0))) (hB : B ≤ g) (hN : N ≤ maxLen) : OTab w B e g N N (fun _ => NONE) := by
 refine ⟨by simp [tab_len], .inr ⟨g, N, _, rfl, hB, h, Nat.le_refl _, hN, by simp, ?_⟩⟩
 have e1 : (tabI N (fun _ => NONE)).map (Value.int .i64) = List.replicate N (Value.int .i64 (-4611686018427387904)) := by
  apply List.ext_getElem?
  intro j
  by_cases hj : j < N
  · rw [List.getElem?_map, tab_at hj, List.getElem?_replicate, if_pos hj]; rfl
  · rw [List.getElem?_eq_none (by simp [tab_len]; omega), List.getElem?_eq_none (by simp; omega)]
 rw [e1]; simp
theorem kfold_take {es : List PE} {k : Nat} {e : PE} (h : es[k]? = some e) (m nx : Nat → Int) : kfold m (es.take (k + 1)) nx = (if NONE < m e.src then upd (kfold m (es.take k) nx) e.dst (max (kfold m (es.take k) nx e.dst) (m e.src + e.wt)) else kfold m (es.take k) nx) := by
 have e1 : es.take (k + 1) = es.take k ++ [e] := by rw [List.take_add_one, h]; rfl
 rw [e1]
 unfold kfold
 rw [List.foldl_append]
 rfl
theorem meas9M {n m : Nat} (h : m < n) : n - ((m : Int) + 1).toNat < n - (m : Int).toNat := by omega
theorem intInfoTb : (Tryz.prog.info? 3).map (fun i => (i.zero, i.size, i.bytes)) = some (some (.int .i64 0), 1, 8) := by kernel_rfl
theorem slInfoTb : (Tryz.prog.info? 24).map (fun i => (i.zero, i.size, i.bytes)) = some (some (.slice none 0 0), 1, 24) := by kernel_rfl
set_option maxRecDepth 100000 in
set_option maxHeartbeats 4000000 in
theorem table_any (N : Nat) (a : Option Addr) (n c : Nat) (es : List GE) (w : World) (h : EdgesAt w a n c es) (hg : GraphOk (N : Int) es) :
 Calls Tryz.prog 46 #[.agg #[.int .i64 N, .slice a n c]] w fun e w' => (∃ v gs cs, e = .returned v ∧ RowsK w' w.heap.size v (N + 1) N gs cs (pes es)) ∧ Below w.heap.size w w' := by
 obtain ⟨i0, hi0, hz0, hz1, hz2⟩ := info_parts intInfoTb
 obtain ⟨i1, hi1, hy0, hy1, hy2⟩ := info_parts slInfoTb
 have HG := hide hg
 have HL := hide h.len
 have HE0 := hide h
 have hN : N ≤ 300 := by have := hg.1.2.1; omega
 obtain ⟨S, hS⟩ : ∃ S, w.heap.size = S := ⟨_, rfl⟩
 have HS := hide hS
 have hmk : ∀ wx : World, (Instr.makeSlice 24 (.int .i64 (N : Int)) (.int .i64 (N : Int))).run Tryz.prog wx = .ok (.slice (some ⟨wx.heap.size, 0, none⟩) N N) (wx.alloc (.cells (madeCells (Value.int .i64 0).cells (N * 1)) 3)) := fun wx => by
  have := run_make (P := Tryz.prog) wx 24 3 i0 (.int .i64 0) Tryz.underlying24 hi0 hz0 .i64 .i64 N N (by omega) (Int.le_refl _) (by rw [hz2]; omega) (by omega)
  rw [hz1] at this
  simpa using this
 clear hg h
 go_enter Tryz.func46, Tryz.ntmps46
 go_wp2_with fail
 obtain ⟨W, hW⟩ : ∃ W, W = w.alloc (.cells #[.int .i64 N, .slice a n c] 57) := ⟨_, rfl⟩
 obtain ⟨X, hX⟩ : ∃ X, X = (W.alloc (.cells (madeCells #[.int .i64 0] N) 3)).alloc (.cells #[.slice (some ⟨S + 1, 0, none⟩) N N] 24) := ⟨_, rfl⟩
 have hWs : W.heap.size = S + 1 := by rw [hW, ← hS]; simp
 have e0 : W.cell? ⟨S, 0, none⟩ = some (.int .i64 N) := by rw [hW, ← hS]; simp [go_sem]
 have e1 : W.cell? ⟨S, 1, none⟩ = some (.slice a n c) := by rw [hW, ← hS]; simp [go_sem]
 have hSW : Below S w W := by rw [hW, ← hS]; exact (Below.refl _ _).alloc (Nat.le_refl _) _
 have HC : Hid (∀ w', Below (S + 1) W w' → w'.cell? ⟨S, 0, none⟩ = some (.int .i64 N) ∧ w'.cell? ⟨S, 1, none⟩ = some (.slice a n c) ∧ Below S w w') := hide fun w' hb => ⟨(hb.cell (by show S < S + 1; omega)).trans e0, (hb.cell (by show S < S + 1; omega)).trans e1, hSW.trans (hb.mono (by omega))⟩
 have H0 : Hid (RowsK X S (.slice (some ⟨S + 1 + 1, 0, none⟩) 1 1) 1 N (fun _ => S + 1) (fun _ => N) (pes es)) := by
  have hT : OTab (W.alloc (.cells (madeCells #[.int .i64 0] N) 3)) S 3 (S + 1) N N pzero.m := made_tab2 hWs (by omega) (by unfold maxLen; omega)
  refine hide ⟨⟨by simp [rowVals], .inr ⟨S + 1 + 1, 1, #[.slice (some ⟨S + 1, 0, none⟩) N N], rfl, by omega, ?_, Nat.le_refl _, by decide, by simp, by simp [rowVals]⟩⟩, fun j hj => ?_, fun j hj e => ?_⟩
  · rw [hX]
    have := heap_alloc_new (W.alloc (.cells (madeCells #[.int .i64 0] N) 3)) (.cells #[.slice (some ⟨S + 1, 0, none⟩) N N] 24)
    simpa [hWs] using this
  · obtain rfl : j = 0 := by omega
    rw [hX]; exact hT.alloc _
  · simp only [Value.ownBlock, Option.some.injEq] at e; omega
 have HB0 : Hid (Below (S + 1) W X) := hide (by rw [hX, ← hWs]; exact ((Below.refl _ _).alloc (Nat.le_refl _) _).alloc (by simp) _)
 rw [← hW, ← hX]
 clear hX hW e0 e1 hSW
 go_loopw [3, 14] (fun v i wr => ∃ (k : Nat) (gs cs : Nat → Nat), k ≤ N ∧ i = .int .i64 k ∧ Hid (RowsK wr S v (k + 1) N gs cs (pes es)) ∧ Hid (Below (S + 1) W wr)) (fun _ i _ => N - (intOf i).toNat)
 case atStart => exact ⟨0, _, _, Nat.zero_le _, rfl, H0, HB0⟩
 case round =>
  clear H0 HB0 X
  obtain ⟨k, gs, cs, hk, rfl, HR, HB⟩ := hrel
  obtain ⟨wo, rfl⟩ : ∃ wo, wo = wr := ⟨_, rfl⟩
  obtain ⟨rb, cap, rfl, hrb, hrl, hrc⟩ := HR.out.at_ (by omega)
  have k0 : (0 : Int) ≤ (k : Int) := Int.natCast_nonneg _
  have c0 := (HC.out _ HB.out).1
  by_cases hlt : k < N
  · have hlt' : (k : Int) < (N : Int) := by omega
    have hck := hrc k (by omega)
    have f1 : IntKind.i64.wrap ((k : Int) + 1 - 1) = (k : Int) := by rw [IntWalk.i64_in _ (by omega)]; omega
    have f2 : (k : Int) + 1 - 1 = (k : Int) := by omega
    have f3 : IntKind.i64.wrap (k : Int) = (k : Int) := IntWalk.i64_in _ (by omega)
    have f4 : (k : Int) < (k : Int) + 1 := by omega
    have f5 : ¬ (k : Int) < 0 := by omega
    have f6 : ((k : Int)).toNat = k := by omega
    have f7 : k < k + 1 := by omega
    have HCC : Hid (∀ w', Below wo.heap.size wo w' → w'.cell? ⟨S, 0, none⟩ = some (.int .i64 N) ∧ w'.cell? ⟨rb, k, none⟩ = some (.slice (some ⟨gs k, 0, none⟩) N (cs k))) := hide (fun w' hb => ⟨(hb.cell (World.block_lt_of_cell? wo _ c0)).trans c0, (hb.cell (World.block_lt_of_cell? wo _ hck)).trans hck⟩)
    go_upto_region 4 with fail
    go_cut [4, 5] (fun p1 p2 wx => p1 = .slice (some ⟨gs k, 0, none⟩) N (cs k) ∧ ∃ g, p2 = .slice (some ⟨g, 0, none⟩) N N ∧ wo.heap.size ≤ g ∧ Hid (wx.heap[g]? = some (.cells (List.replicate N (Value.int .i64 (-4611686018427387904))).toArray 3 (0, 0))) ∧ Hid (Below wo.heap.size wo wx))
    case first =>
     go_region_held3 (fun w' => w'.cell? ⟨S, 0, none⟩ = some (.int .i64 N) ∧ w'.cell? ⟨rb, k, none⟩ = some (.slice (some ⟨gs k, 0, none⟩) N (cs k))) (((try dsimp only); exact HCC.out _ (by (repeat' (first | (with_reducible assumption) | (with_reducible exact Below.refl _ _) | (with_reducible refine Below.alloc ?_ ?_ _) | (with_reducible refine Below.drew ?_) | (with_reducible refine Below.trans ?_ (B2.mono ?_)) | omega | (simp; done) | (simp; omega))))))
      ((go_at_call 69; refine (repeat_any _ (-4611686018427387904) N _ hN (by (repeat' (first | (with_reducible assumption) | (with_reducible refine news_drew ?_) | (with_reducible refine news_new ?_) | (with_reducible refine news_alloc ?_) | omega | (simp; done) | (simp; omega))))).mono ?_; rintro e w2 ⟨⟨gb, rfl, hgb, hblk⟩, B2⟩; have hs2 := B2.size; (try simp at hs2); (try simp at hgb)))
     all_goals trace "WAY"
     all_goals go_wp2_with fail
     all_goals go_meet
     all_goals exact ⟨rfl, gb, rfl, by omega, hide hblk, hide (by (repeat' (first | (with_reducible assumption) | (with_reducible exact Below.refl _ _) | (with_reducible refine Below.alloc ?_ ?_ _) | (with_reducible refine Below.drew ?_) | (with_reducible refine Below.trans ?_ (B2.mono ?_)) | omega | (simp; done) | (simp; omega))))⟩
    case rest =>
     obtain ⟨rfl, g, rfl, hgl, hblk, hBx⟩ := hcut
     have hrS : S ≤ wo.heap.size := by have := HB.out.size; omega
     have hT0 : OTab wc S 3 g N N (kfold (kiter (pes es) k) ((pes es).take 0) (fun _ => NONE)) := rep_tabN hblk.out (by omega) (by unfold maxLen; omega)
     have c1 : wc.cell? ⟨S, 1, none⟩ = some (.slice a n c) := (hBx.out.cell (World.block_lt_of_cell? wo _ (HC.out _ HB.out).2.1)).trans (HC.out _ HB.out).2.1
     clear hblk
     go_wp2_with fail
     go_loopw [29] (fun i wr => ∃ m : Nat, m ≤ n ∧ i = .int .i64 m ∧ OTab wr S 3 g N N (kfold (kiter (pes es) k) ((pes es).take m) (fun _ => NONE)) ∧ Hid (Below wo.heap.size wo wr)) (fun i _ => n - (intOf i).toNat)
     case atStart => exact ⟨0, Nat.zero_le _, rfl, hT0, hBx⟩
     case round =>
      clear hT0 hBx c1
      obtain ⟨m, hm, rfl, hT, hBw⟩ := hrel
      have m0 : (0 : Int) ≤ (m : Int) := Int.natCast_nonneg _
      by_cases hml : m < n
      · have m1 : (m : Int) < (n : Int) := by omega
        have f9 : IntKind.i64.wrap ((m : Int) + 1) = (m : Int) + 1 := IntWalk.i64_in _ (by have := HG.out.1.2.2; have := HL.out; omega)
        have hBS : Below S w wr := (HC.out _ (HB.out.trans (hBw.out.mono (by have := HB.out.size; omega)))).2.2
        obtain ⟨ad, x, y, z, rfl, hbd, HX, d0, d1, d2⟩ := HE0.out.getB (by rw [HS.out]; exact hBS) hml
        have hok := HG.out.2 _ (List.mem_of_getElem? HX.out)
        unfold EdgeOk at hok
        simp only at hok
        obtain ⟨s, rfl⟩ : ∃ s : Nat, x = (s : Int) := ⟨x.toNat, by omega⟩
        obtain ⟨t, rfl⟩ : ∃ t : Nat, y = (t : Int) := ⟨y.toNat, by omega⟩
        obtain ⟨o0, o1, o2, o3, o4, o5⟩ := hok
        have hs : s < N := by omega
        have ht : t < N := by omega
        have HP := hide (kfold_take (pes_get HX.out) (kiter (pes es) k) (fun _ => NONE))
        have HKB : Hid (kiter (pes es) k s ≠ NONE → -(k * 1048576 : Int) ≤ kiter (pes es) k s ∧ kiter (pes es) k s ≤ k * 1048576) := hide (fun h => kiter_b (wtOk_of HG.out) (by omega) h)
        have hTk := (HR.out.row k (by omega)).below hBw.out
        obtain ⟨Ms, hMs⟩ : ∃ Ms, kiter (pes es) k s = Ms := ⟨_, rfl⟩
        obtain ⟨Mt, hMt⟩ : ∃ Mt, kfold (kiter (pes es) k) ((pes es).take m) (fun _ => NONE) t = Mt := ⟨_, rfl⟩
        have f1' := hTk.cell hs
        have f2' := hT.cell ht
        rw [hMs] at f1'
        rw [hMt] at f2'
        have hKB := HKB.out
        rw [hMs] at hKB
        have HMs := hide hMs
        have HMt := hide hMt
        have hgl2 := hT.lt.2
        have hgk := hTk.lt.2
        have hgne : ¬ gs k = g := by have := (HR.out.row k (by omega)).lt.2; omega
        have s0 : (0 : Int) ≤ (s : Int) := Int.natCast_nonneg _
        have s1 : (s : Int) < (N : Int) := by omega
        have t0 : (0 : Int) ≤ (t : Int) := Int.natCast_nonneg _
        have t1 : (t : Int) < (N : Int) := by omega
        have hwl : wo.heap.size ≤ wr.heap.size := hBw.out.size
        obtain ⟨wa, hwa⟩ : ∃ wa, wa = wr.alloc (.cells #[.int .i64 s, .int .i64 t, .int .i64 z] 86) := ⟨_, rfl⟩
        obtain ⟨Eb, hEb⟩ : ∃ Eb, wr.heap.size = Eb := ⟨_, rfl⟩
        have g0 : wa.cell? ⟨Eb, 0, none⟩ = some (.int .i64 s) := by rw [hwa, ← hEb]; simp [go_sem]
        have g1 : wa.cell? ⟨Eb, 1, none⟩ = some (.int .i64 t) := by rw [hwa, ← hEb]; simp [go_sem]
        have g2' : wa.cell? ⟨Eb, 2, none⟩ = some (.int .i64 z) := by rw [hwa, ← hEb]; simp [go_sem]
        have f1 : wa.cell? ⟨gs k, s, none⟩ = some (.int .i64 Ms) := by rw [hwa]; exact alloc_cell f1'
        have f2 : wa.cell? ⟨g, t, none⟩ = some (.int .i64 Mt) := by rw [hwa]; exact alloc_cell f2'
        have hTa : OTab wa S 3 g N N (kfold (kiter (pes es) k) ((pes es).take m) (fun _ => NONE)) := by rw [hwa]; exact hT.alloc _
        have hTka : OTab wa S 3 (gs k) N (cs k) (kiter (pes es) k) := by rw [hwa]; exact hTk.alloc _
        have f3 := hTa.free t
        have hBa : Below wo.heap.size wo wa := by rw [hwa]; exact hBw.out.alloc hwl _
        have HTA := hide hTa
        have HBA := hide hBa
        have HN1 : NONE = -4611686018427387904 := rfl
        clear hMs hMt HKB hTk f1' f2' hTa hTka hBa hBS
        by_cases hMn : (-4611686018427387904 : Int) < Ms
        · have hb := hKB (by omega)
          have w1 : IntKind.i64.wrap (Ms + z) = Ms + z := IntWalk.i64_in _ (by omega)
          clear hKB hb
          go_upto_region 8 with fail
          rw [← hwa]
          clear hwa
          go_wp2
          go_region
          all_goals go_wp2
          have hm9 : m + 1 ≤ n := hml
          have HP2 : Hid (kfold (kiter (pes es) k) ((pes es).take (m + 1)) (fun _ => NONE) = upd (kfold (kiter (pes es) k) ((pes es).take m) (fun _ => NONE)) t (max Mt (Ms + z))) := hide (by
           have h1 : NONE < kiter (pes es) k (peOf ⟨(s : Int), (t : Int), z⟩).src := by show NONE < kiter (pes es) k s; rw [HMs.out]; exact hMn
           rw [HP.out, if_pos h1]
           show upd _ t (max (kfold _ _ _ t) (kiter (pes es) k s + z)) = _
           rw [HMs.out, HMt.out])
          exact ⟨⟨m + 1, hm9, rfl, (OTab.set HTA.out ht (by rw [HP2.out]; simp [upd]) (fun v hv hne => by rw [HP2.out]; simp [upd, hne])).drew, hide ((HBA.out.setCell (by show wo.heap.size ≤ g; exact hgl) _).drew)⟩, meas9M hml⟩
        · go_upto_region 8 with fail
          rw [← hwa]
          clear hwa
          have HP2 : Hid (kfold (kiter (pes es) k) ((pes es).take (m + 1)) (fun _ => NONE) = kfold (kiter (pes es) k) ((pes es).take m) (fun _ => NONE)) := hide (by
           have h1 : ¬ NONE < kiter (pes es) k (peOf ⟨(s : Int), (t : Int), z⟩).src := by show ¬ NONE < kiter (pes es) k s; rw [HMs.out]; exact hMn
           rw [HP.out, if_neg h1])
          have hm9 : m + 1 ≤ n := hml
          go_wp2
          exact ⟨⟨m + 1, hm9, rfl, by rw [HP2.out]; exact HTA.out, hide HBA.out⟩, meas9M hml⟩
      · obtain rfl : m = n := by omega
        have hall : (pes es).take m = pes es := List.take_of_length_le (by rw [pes_len, HL.out]; omega)
        rw [hall] at hT
        have hT : OTab wr S 3 g N N (kiter (pes es) (k + 1)) := hT
        have HRx := hide (HR.out.below hBw.out)
        have hwl : wo.heap.size ≤ wr.heap.size := hBw.out.size
        have HTX := hide hT
        have hgl2 := hT.lt.2
        clear hall hT
        have HZ := hide (show wr.heap.size = wr.heap.size from rfl)
        have fk9 : IntKind.i64.wrap ((k : Int) + 1) = (k : Int) + 1 := IntWalk.i64_in _ (by omega)
        go_wp2_with (at_builtin; refine wpList_append_own_at _ rfl (.tmp 58) (.tmp 60) 99 rfl S 24 i1 _ 1 24 Tryz.underlying99 hi1 hy0 hy1 hy2 rfl (by decide) (.slice (some ⟨rb, 0, none⟩) (k + 1) cap) (k + 1) _ rfl (HRx.out.own.alloc _) _ 1 1 [.slice (some ⟨g, 0, none⟩) N N] rfl rfl (news3' _ _ _) (by simp [Value.oneCell']) (by unfold maxLen; omega) (by omega) (by first | omega | (simp; omega)) ?_; intro v' w2 hown' hgrow hnil hat; have HOWN := hide hown'; have HGROW := hide hgrow; have HAT := hide hat; clear hown' hgrow hnil hat)
        have hrb1 : S + 1 ≤ rb := by
         have hh := hrc 0 (by omega)
         have : rb ≠ S := fun e => by rw [e, c0] at hh; cases hh
         omega
        exact ⟨⟨k + 1, upd gs (k + 1) g, upd cs (k + 1) N, hlt, rfl, hide ((HRx.out.below ((Below.refl _ _).alloc (Nat.le_refl _) _)).more HGROW.out HOWN.out (HTX.out.alloc _) (fun e => by simp only [Value.ownBlock, Option.some.injEq] at e; omega) HAT.out), hide ((((HB.out.trans (hBw.out.mono (by have := HB.out.size; omega))).alloc (by omega) _)).grown HGROW.out (by have := HB.out.size; simp; omega) (fun j hj => by simp only [Value.ownBlock, Option.some.injEq] at hj; omega))⟩, meas9M hlt⟩
  · obtain rfl : k = N := by omega
    go_wp2
    go_ret
    exact ⟨⟨_, gs, cs, rfl, by rw [HS.out]; exact HR.out⟩, by rw [HS.out]; exact (HC.out _ HB.out).2.2⟩
end Go.Proofs.YtjjikhaaimfneaaGreatDoor
