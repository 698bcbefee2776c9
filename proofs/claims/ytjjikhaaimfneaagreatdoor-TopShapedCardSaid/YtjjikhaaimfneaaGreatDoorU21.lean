/-
  Lemmas and walks for the statement: Find2.
-/
import Derived.Test.YtjjikhaaimfneaaGreatDoorU20
import Derived.Maps.AppendAt
namespace Go.Proofs.YtjjikhaaimfneaaGreatDoor
open Go.RowKit
set_option linter.unusedSimpArgs false
set_option linter.unusedVariables false
attribute [local go_sem] iteMin iteMax iteMinN iteMaxN
theorem infoState : (Tryz.prog.info? 133).map (fun i => (i.zero, i.size, i.bytes)) = some (some (.agg #[.int .i64 0, .int .i64 0, .int .i64 0, .int .i64 0, .int .i64 0, .int .i64 0, .int .i64 0, .int .i64 0, .int .i64 0, .int .i64 0, .int .i64 0, .int .i64 0, .int .i64 0, .int .i64 0]), 14, 112) := by kernel_rfl
theorem infoInt : (Tryz.prog.info? 3).map (fun i => (i.zero, i.size, i.bytes)) = some (some (.int .i64 0), 1, 8) := by kernel_rfl
theorem infoPair : (Tryz.prog.info? 47).map (fun i => (i.zero, i.size, i.bytes)) = some (some (.agg #[.int .i64 0, .int .i64 0]), 2, 16) := by kernel_rfl
theorem laysState (a0 a1 a2 a3 a4 a5 a6 a7 a8 a9 a10 a11 a12 a13 : Int) (w : World) : (Instr.buildSlice 95 1 #[(0, .agg #[.int .i64 a0, .int .i64 a1, .int .i64 a2, .int .i64 a3, .int .i64 a4, .int .i64 a5, .int .i64 a6, .int .i64 a7, .int .i64 a8, .int .i64 a9, .int .i64 a10, .int .i64 a11, .int .i64 a12, .int .i64 a13])]).run Tryz.prog w = .ok (.slice (some ⟨w.heap.size, 0, none⟩) 1 1) (w.alloc (.cells #[.int .i64 a0, .int .i64 a1, .int .i64 a2, .int .i64 a3, .int .i64 a4, .int .i64 a5, .int .i64 a6, .int .i64 a7, .int .i64 a8, .int .i64 a9, .int .i64 a10, .int .i64 a11, .int .i64 a12, .int .i64 a13] 133)) := by kernel_rfl
theorem laysInt (x : Int) (w : World) : (Instr.buildSlice 24 1 #[(0, .int .i64 x)]).run Tryz.prog w = .ok (.slice (some ⟨w.heap.size, 0, none⟩) 1 1) (w.alloc (.cells #[.int .i64 x] 3)) := by kernel_rfl
theorem laysPair (x y : Int) (w : World) : (Instr.buildSlice 50 1 #[(0, .agg #[.int .i64 x, .int .i64 y])]).run Tryz.prog w = .ok (.slice (some ⟨w.heap.size, 0, none⟩) 1 1) (w.alloc (.cells #[.int .i64 x, .int .i64 y] 47)) := by kernel_rfl
theorem get3 {α : Type} {a b c d : α} {i : Nat} (h : [a, b, c][i]? = some d) : (i = 0 ∧ a = d) ∨ (i = 1 ∧ b = d) ∨ (i = 2 ∧ c = d) := by
 match i, h with
 | 0, h => exact .inl ⟨rfl, by simpa using h⟩
 | 1, h => exact .inr (.inl ⟨rfl, by simpa using h⟩)
 | 2, h => exact .inr (.inr ⟨rfl, by simpa using h⟩)
 | i + 3, h => simp at h
theorem Spc.put {w0 w : World} {PB MB B n : Nat} {v1 v2 v3 s1 s2 s3 : Value} {ss : List (List Int)} {fr : List Int} {bys : List P2} {s : List Int} {fo x y : Int} (hsn : ss.length = n) (h : Spc w0 PB MB B v1 v2 v3 ss fr bys)
 (hm : MapAt w MB (ss ++ [s])) (hp : w.heap[PB]? = w0.heap[PB]?)
 (q1 : w.ownsRow B 133 14 s1 (n + 1) (flatS ss ++ s.map (Value.int .i64))) (q2 : w.ownsRow B 3 1 s2 (n + 1) (fr.map (Value.int .i64) ++ [.int .i64 fo])) (q3 : w.ownsRow B 47 2 s3 (n + 1) (flat2 bys ++ [.int .i64 x, .int .i64 y]))
 (a12 : ApV s1 s2) (a13 : ApV s1 s3) (a23 : ApV s2 s3) : Spc (((w.setCell ⟨PB, 1, none⟩ s1).setCell ⟨PB, 2, none⟩ s2).setCell ⟨PB, 3, none⟩ s3) PB MB B s1 s2 s3 (ss ++ [s]) (fr ++ [fo]) (bys ++ [⟨x, y⟩]) := by
 have hc : ∀ j, w.cell? ⟨PB, j, none⟩ = w0.cell? ⟨PB, j, none⟩ := fun j => World.cell?_of_block (w := w0) (a := ⟨PB, j, none⟩) hp
 have hh : ∀ b, b ≠ PB → (((w.setCell ⟨PB, 1, none⟩ s1).setCell ⟨PB, 2, none⟩ s2).setCell ⟨PB, 3, none⟩ s3).heap[b]? = w.heap[b]? := fun b hb => by
  rw [Below.heap_setCell _ _ _ _ hb, Below.heap_setCell _ _ _ _ hb, Below.heap_setCell _ _ _ _ hb]
 have far : ∀ {v : Value} {e : TypeId} {sz m : Nat} {xs : List Value}, w.ownsRow B e sz v m xs → ∀ g, v.ownBlock = some g → g ≠ PB := fun hr g hg e => by
  have := (rows_lt hr g hg).1; have := h.pB; omega
 have hl : (ss ++ [s]).length = n + 1 := by simp [hsn]
 refine ⟨?_, ?_, ?_, ?_, fun j => ?_, hm.block (hh MB (Ne.symm h.pm)), ?_, ?_, ?_, a12, a13, a23, h.pm, h.pB, h.mB⟩
 · rw [World.cell?_setCell_other _ _ _ _ (fun e => by injection e with _ e; omega), World.cell?_setCell_other _ _ _ _ (fun e => by injection e with _ e; omega), World.cell?_setCell_other _ _ _ _ (fun e => by injection e with _ e; omega), hc]; exact h.c0
 · rw [World.cell?_setCell_other _ _ _ _ (fun e => by injection e with _ e; omega), World.cell?_setCell_other _ _ _ _ (fun e => by injection e with _ e; omega)]
   exact World.cell?_setCell_same' _ _ _ (by rw [hc, h.c1]; rfl)
 · rw [World.cell?_setCell_other _ _ _ _ (fun e => by injection e with _ e; omega)]
   exact World.cell?_setCell_same' _ _ _ (by rw [World.cell?_setCell_other _ _ _ _ (fun e => by injection e with _ e; omega), hc, h.c2]; rfl)
 · exact World.cell?_setCell_same' _ _ _ (by rw [World.cell?_setCell_other _ _ _ _ (fun e => by injection e with _ e; omega), World.cell?_setCell_other _ _ _ _ (fun e => by injection e with _ e; omega), hc, h.c3]; rfl)
 · rw [World.frozen?_setCell, World.frozen?_setCell, World.frozen?_setCell, World.frozen?_of_block (w := w0) (a := ⟨PB, j, none⟩) hp]; exact h.fz j
 · rw [hl, flatS_snoc]; exact rows_kept q1 (fun g hg => hh g (far q1 g hg))
 · rw [hl, List.map_append]; exact rows_kept q2 (fun g hg => hh g (far q2 g hg))
 · rw [hl, flat2_snoc]; exact rows_kept q3 (fun g hg => hh g (far q3 g hg))
theorem ch_no {w : World} {PB MB B S : Nat} {v1 v2 v3 : Value} {ss : List (List Int)} {fr : List Int} {bys : List P2} (a0 a1 a2 a3 a4 a5 a6 a7 a8 a9 a10 a11 a12 a13 fo x y : Int) (hSp : Spc w PB MB B v1 v2 v3 ss fr bys) (hS : w.heap.size = S) (n : Nat) : ∀ b, (b < B ∨ S ≤ b) → ∀ (i : Nat) (c : Ch), ([⟨8, 9, 47, 48, 95, 133, 14, v1, n, flatS ss, [.int .i64 a0, .int .i64 a1, .int .i64 a2, .int .i64 a3, .int .i64 a4, .int .i64 a5, .int .i64 a6, .int .i64 a7, .int .i64 a8, .int .i64 a9, .int .i64 a10, .int .i64 a11, .int .i64 a12, .int .i64 a13]⟩, ⟨15, 16, 54, 55, 24, 3, 1, v2, n, fr.map (Value.int .i64), [.int .i64 fo]⟩, ⟨22, 23, 61, 62, 50, 47, 2, v3, n, flat2 bys, [.int .i64 x, .int .i64 y]⟩] : List Ch)[i]? = some c → c.v.ownBlock ≠ some b := by
 intro b hb i c hc
 rcases get3 hc with ⟨_, rfl⟩ | ⟨_, rfl⟩ | ⟨_, rfl⟩ <;> intro e
 · have := rows_lt hSp.r1 b e; omega
 · have := rows_lt hSp.r2 b e; omega
 · have := rows_lt hSp.r3 b e; omega
theorem spc_end {w Y V W : World} {PB MB B S n : Nat} {v1 v2 v3 t1 t2 t3 : Value} {ss : List (List Int)} {fr : List Int} {bys : List P2} {a0 a1 a2 a3 a4 a5 a6 a7 a8 a9 a10 a11 a12 a13 fo x y : Int} (hsn : ss.length = n) (hSp : Spc w PB MB B v1 v2 v3 ss fr bys) (hS : w.heap.size = S) (hY : Below w.heap.size w Y) (hSY : Spc Y PB MB B v1 v2 v3 ss fr bys)
 (hO : ∀ b, b < Y.heap.size → b ≠ MB → V.heap[b]? = Y.heap[b]?) (hM : MapAt V MB (ss ++ [[a0, a1, a2, a3, a4, a5, a6, a7, a8, a9, a10, a11, a12, a13]])) (hV : V.os = Y.os ∧ V.tape = Y.tape ∧ V.output = Y.output ∧ Y.heap.size ≤ V.heap.size) (hB : B ≤ w.heap.size)
 (hA : Aft V ⟨8, 9, 47, 48, 95, 133, 14, v1, n, flatS ss, [.int .i64 a0, .int .i64 a1, .int .i64 a2, .int .i64 a3, .int .i64 a4, .int .i64 a5, .int .i64 a6, .int .i64 a7, .int .i64 a8, .int .i64 a9, .int .i64 a10, .int .i64 a11, .int .i64 a12, .int .i64 a13]⟩ ⟨15, 16, 54, 55, 24, 3, 1, v2, n, fr.map (Value.int .i64), [.int .i64 fo]⟩ ⟨22, 23, 61, 62, 50, 47, 2, v3, n, flat2 bys, [.int .i64 x, .int .i64 y]⟩ B t1 t2 t3 W) :
 Spc (((W.setCell ⟨PB, 1, none⟩ t1).setCell ⟨PB, 2, none⟩ t2).setCell ⟨PB, 3, none⟩ t3) PB MB B t1 t2 t3 (ss ++ [[a0, a1, a2, a3, a4, a5, a6, a7, a8, a9, a10, a11, a12, a13]]) (fr ++ [fo]) (bys ++ [⟨x, y⟩]) ∧ SFr w (((W.setCell ⟨PB, 1, none⟩ t1).setCell ⟨PB, 2, none⟩ t2).setCell ⟨PB, 3, none⟩ t3) PB MB v1 v2 v3 t1 t2 t3 := by
 have hz := hY.size
 have hPB := hSp.pB
 have hMB := hSp.mB
 have hM2 := hSp.mp.lt
 have no := ch_no a0 a1 a2 a3 a4 a5 a6 a7 a8 a9 a10 a11 a12 a13 fo x y hSp hS n
 have hWP : W.heap[PB]? = V.heap[PB]? := hA.frm.block PB (by omega) (no PB (.inl hPB))
 have hWM : W.heap[MB]? = V.heap[MB]? := hA.frm.block MB (by omega) (no MB (.inl hMB))
 have hVP : V.heap[PB]? = Y.heap[PB]? := hO PB (by omega) hSp.pm
 have s1 : ∀ b, b ≠ PB → (((W.setCell ⟨PB, 1, none⟩ t1).setCell ⟨PB, 2, none⟩ t2).setCell ⟨PB, 3, none⟩ t3).heap[b]? = W.heap[b]? := fun b hb => by
  rw [Below.heap_setCell _ _ _ _ hb, Below.heap_setCell _ _ _ _ hb, Below.heap_setCell _ _ _ _ hb]
 refine ⟨Spc.put hsn hSY (hM.block hWM) (hWP.trans hVP) hA.q1 hA.q2 hA.q3 hA.a12 hA.a13 hA.a23, ?_⟩
 have ks : ∀ (W : World) (p : Addr) (v : Value), (W.setCell p v).os = W.os ∧ (W.setCell p v).tape = W.tape ∧ (W.setCell p v).output = W.output ∧ (W.setCell p v).heap.size = W.heap.size := fun W p v => by
  refine ⟨?_, ?_, ?_, by simp⟩ <;> (unfold World.setCell; split <;> (try split) <;> rfl)
 refine ⟨?_, ?_, ?_, ?_, fun b hb hn => ?_, fun b hb => ?_⟩
 · rw [(ks _ _ _).1, (ks _ _ _).1, (ks _ _ _).1, hA.frm.os, hV.1, hY.os]
 · rw [(ks _ _ _).2.1, (ks _ _ _).2.1, (ks _ _ _).2.1, hA.frm.tape, hV.2.1, hY.tape]
 · rw [(ks _ _ _).2.2.1, (ks _ _ _).2.2.1, (ks _ _ _).2.2.1, hA.frm.output, hV.2.2.1, hY.output]
 · rw [(ks _ _ _).2.2.2, (ks _ _ _).2.2.2, (ks _ _ _).2.2.2]; have := hA.frm.size; have := hV.2.2.2; omega
 · have hne : b ≠ PB := fun e => hn (.inl e)
   have hne2 : b ≠ MB := fun e => hn (.inr (.inl e))
   rw [s1 b hne, hA.frm.block b (by omega) ?_, hO b (by omega) hne2, hY.block b hb]
   intro i c hc e
   rcases idx3 hc with ⟨_, rfl⟩ | ⟨_, rfl⟩ | ⟨_, rfl⟩
   · exact hn (.inr (.inr (.inl e)))
   · exact hn (.inr (.inr (.inr (.inl e))))
   · exact hn (.inr (.inr (.inr (.inr e))))
 · have key : ∀ {t v : Value}, (t.ownBlock = v.ownBlock ∨ ∃ g, t.ownBlock = some g ∧ V.heap.size ≤ g) → t.ownBlock = some b → v.ownBlock = some b ∨ w.heap.size ≤ b := fun h e => by
    rcases h with h | ⟨g, h, hg⟩
    · exact .inl (h.symm.trans e)
    · rw [h] at e; injection e with e; exact .inr (by omega)
   rcases hb with h | h | h | h | h
   · exact .inl (.inl h)
   · exact .inl (.inr (.inl h))
   · rcases key hA.o1 h with h | h
     · exact .inl (.inr (.inr (.inl h)))
     · exact .inr h
   · rcases key hA.o2 h with h | h
     · exact .inl (.inr (.inr (.inr (.inl h))))
     · exact .inr h
   · rcases key hA.o3 h with h | h
     · exact .inl (.inr (.inr (.inr (.inr h))))
     · exact .inr h
theorem ch_slots {v1 v2 v3 : Value} {ss : List (List Int)} {fr : List Int} {bys : List P2} {n : Nat} (a0 a1 a2 a3 a4 a5 a6 a7 a8 a9 a10 a11 a12 a13 fo x y : Int) : ∀ d ∈ slots (ixs ([⟨8, 9, 47, 48, 95, 133, 14, v1, n, flatS ss, [.int .i64 a0, .int .i64 a1, .int .i64 a2, .int .i64 a3, .int .i64 a4, .int .i64 a5, .int .i64 a6, .int .i64 a7, .int .i64 a8, .int .i64 a9, .int .i64 a10, .int .i64 a11, .int .i64 a12, .int .i64 a13]⟩, ⟨15, 16, 54, 55, 24, 3, 1, v2, n, fr.map (Value.int .i64), [.int .i64 fo]⟩, ⟨22, 23, 61, 62, 50, 47, 2, v3, n, flat2 bys, [.int .i64 x, .int .i64 y]⟩])), d < 75 := by
 intro d hd
 simp only [ixs, slots, List.map_cons, List.map_nil, List.mem_cons, List.not_mem_nil, or_false] at hd
 omega
theorem ch_blk {w V : World} {PB MB B S : Nat} {v1 v2 v3 : Value} {ss : List (List Int)} {fr : List Int} {bys : List P2} (a0 a1 a2 a3 a4 a5 a6 a7 a8 a9 a10 a11 a12 a13 fo x y : Int) (hSp : Spc w PB MB B v1 v2 v3 ss fr bys) (hS : w.heap.size = S) (n : Nat) (h2 : S + 2 ≤ V.heap.size) (hB : B ≤ V.heap.size) : ∀ W, Frm V ([⟨8, 9, 47, 48, 95, 133, 14, v1, n, flatS ss, [.int .i64 a0, .int .i64 a1, .int .i64 a2, .int .i64 a3, .int .i64 a4, .int .i64 a5, .int .i64 a6, .int .i64 a7, .int .i64 a8, .int .i64 a9, .int .i64 a10, .int .i64 a11, .int .i64 a12, .int .i64 a13]⟩, ⟨15, 16, 54, 55, 24, 3, 1, v2, n, fr.map (Value.int .i64), [.int .i64 fo]⟩, ⟨22, 23, 61, 62, 50, 47, 2, v3, n, flat2 bys, [.int .i64 x, .int .i64 y]⟩]) W → ∀ b, (b < B ∨ (S ≤ b ∧ b < S + 2)) → W.heap[b]? = V.heap[b]? :=
 fun W hW b hb => hW.block b (by omega) (ch_no a0 a1 a2 a3 a4 a5 a6 a7 a8 a9 a10 a11 a12 a13 fo x y hSp hS n b (by omega))
theorem ch_frm {V : World} {PB B S n : Nat} {v1 v2 v3 : Value} {ss : List (List Int)} {fr : List Int} {bys : List P2} (a0 a1 a2 a3 a4 a5 a6 a7 a8 a9 a10 a11 a12 a13 fo x y : Int) (hblk : ∀ W, Frm V ([⟨8, 9, 47, 48, 95, 133, 14, v1, n, flatS ss, [.int .i64 a0, .int .i64 a1, .int .i64 a2, .int .i64 a3, .int .i64 a4, .int .i64 a5, .int .i64 a6, .int .i64 a7, .int .i64 a8, .int .i64 a9, .int .i64 a10, .int .i64 a11, .int .i64 a12, .int .i64 a13]⟩, ⟨15, 16, 54, 55, 24, 3, 1, v2, n, fr.map (Value.int .i64), [.int .i64 fo]⟩, ⟨22, 23, 61, 62, 50, 47, 2, v3, n, flat2 bys, [.int .i64 x, .int .i64 y]⟩]) W → ∀ b, (b < B ∨ (S ≤ b ∧ b < S + 2)) → W.heap[b]? = V.heap[b]?) (pB : PB < B) (hF : (fun w' : World => (w'.cell? ⟨PB, 1, none⟩ = some v1 ∧ w'.cell? ⟨PB, 2, none⟩ = some v2 ∧ w'.cell? ⟨PB, 3, none⟩ = some v3) ∧ (w'.cell? ⟨S, 0, none⟩ = some (.int .i64 a0) ∧ w'.cell? ⟨S, 1, none⟩ = some (.int .i64 a1) ∧ w'.cell? ⟨S, 2, none⟩ = some (.int .i64 a2) ∧ w'.cell? ⟨S, 3, none⟩ = some (.int .i64 a3) ∧ w'.cell? ⟨S, 4, none⟩ = some (.int .i64 a4) ∧ w'.cell? ⟨S, 5, none⟩ = some (.int .i64 a5) ∧ w'.cell? ⟨S, 6, none⟩ = some (.int .i64 a6) ∧ w'.cell? ⟨S, 7, none⟩ = some (.int .i64 a7) ∧ w'.cell? ⟨S, 8, none⟩ = some (.int .i64 a8) ∧ w'.cell? ⟨S, 9, none⟩ = some (.int .i64 a9) ∧ w'.cell? ⟨S, 10, none⟩ = some (.int .i64 a10) ∧ w'.cell? ⟨S, 11, none⟩ = some (.int .i64 a11) ∧ w'.cell? ⟨S, 12, none⟩ = some (.int .i64 a12) ∧ w'.cell? ⟨S, 13, none⟩ = some (.int .i64 a13)) ∧ (w'.cell? ⟨S + 1, 0, none⟩ = some (.int .i64 x) ∧ w'.cell? ⟨S + 1, 1, none⟩ = some (.int .i64 y))) V) : ∀ W, Frm V ([⟨8, 9, 47, 48, 95, 133, 14, v1, n, flatS ss, [.int .i64 a0, .int .i64 a1, .int .i64 a2, .int .i64 a3, .int .i64 a4, .int .i64 a5, .int .i64 a6, .int .i64 a7, .int .i64 a8, .int .i64 a9, .int .i64 a10, .int .i64 a11, .int .i64 a12, .int .i64 a13]⟩, ⟨15, 16, 54, 55, 24, 3, 1, v2, n, fr.map (Value.int .i64), [.int .i64 fo]⟩, ⟨22, 23, 61, 62, 50, 47, 2, v3, n, flat2 bys, [.int .i64 x, .int .i64 y]⟩]) W → (fun w' : World => (w'.cell? ⟨PB, 1, none⟩ = some v1 ∧ w'.cell? ⟨PB, 2, none⟩ = some v2 ∧ w'.cell? ⟨PB, 3, none⟩ = some v3) ∧ (w'.cell? ⟨S, 0, none⟩ = some (.int .i64 a0) ∧ w'.cell? ⟨S, 1, none⟩ = some (.int .i64 a1) ∧ w'.cell? ⟨S, 2, none⟩ = some (.int .i64 a2) ∧ w'.cell? ⟨S, 3, none⟩ = some (.int .i64 a3) ∧ w'.cell? ⟨S, 4, none⟩ = some (.int .i64 a4) ∧ w'.cell? ⟨S, 5, none⟩ = some (.int .i64 a5) ∧ w'.cell? ⟨S, 6, none⟩ = some (.int .i64 a6) ∧ w'.cell? ⟨S, 7, none⟩ = some (.int .i64 a7) ∧ w'.cell? ⟨S, 8, none⟩ = some (.int .i64 a8) ∧ w'.cell? ⟨S, 9, none⟩ = some (.int .i64 a9) ∧ w'.cell? ⟨S, 10, none⟩ = some (.int .i64 a10) ∧ w'.cell? ⟨S, 11, none⟩ = some (.int .i64 a11) ∧ w'.cell? ⟨S, 12, none⟩ = some (.int .i64 a12) ∧ w'.cell? ⟨S, 13, none⟩ = some (.int .i64 a13)) ∧ (w'.cell? ⟨S + 1, 0, none⟩ = some (.int .i64 x) ∧ w'.cell? ⟨S + 1, 1, none⟩ = some (.int .i64 y))) W := by
 intro W hW
 have cP : ∀ j, W.cell? ⟨PB, j, none⟩ = V.cell? ⟨PB, j, none⟩ := fun j => World.cell?_of_block (w := V) (a := ⟨PB, j, none⟩) (hblk W hW PB (by omega))
 have cS : ∀ j, W.cell? ⟨S, j, none⟩ = V.cell? ⟨S, j, none⟩ := fun j => World.cell?_of_block (w := V) (a := ⟨S, j, none⟩) (hblk W hW S (by omega))
 have cT : ∀ j, W.cell? ⟨S + 1, j, none⟩ = V.cell? ⟨S + 1, j, none⟩ := fun j => World.cell?_of_block (w := V) (a := ⟨S + 1, j, none⟩) (hblk W hW (S + 1) (by omega))
 obtain ⟨⟨f1, f2, f3⟩, ⟨l0, l1, l2, l3, l4, l5, l6, l7, l8, l9, l10, l11, l12, l13⟩, ⟨f4, f5⟩⟩ := hF
 exact ⟨⟨(cP 1).trans f1, (cP 2).trans f2, (cP 3).trans f3⟩, ⟨(cS 0).trans l0, (cS 1).trans l1, (cS 2).trans l2, (cS 3).trans l3, (cS 4).trans l4, (cS 5).trans l5, (cS 6).trans l6, (cS 7).trans l7, (cS 8).trans l8, (cS 9).trans l9, (cS 10).trans l10, (cS 11).trans l11, (cS 12).trans l12, (cS 13).trans l13⟩, ⟨(cT 0).trans f4, (cT 1).trans f5⟩⟩
set_option maxRecDepth 100000 in
set_option maxHeartbeats 16000000 in
theorem find_new (PB MB B : Nat) (v1 v2 v3 : Value) (ss : List (List Int)) (fr : List Int) (bys : List P2) (a0 a1 a2 a3 a4 a5 a6 a7 a8 a9 a10 a11 a12 a13 fo x y : Int) (w : World) (hSp : Spc w PB MB B v1 v2 v3 ss fr bys) (hg : Gd [a0, a1, a2, a3, a4, a5, a6, a7, a8, a9, a10, a11, a12, a13]) (hn : [a0, a1, a2, a3, a4, a5, a6, a7, a8, a9, a10, a11, a12, a13] ∉ ss) (hl : ss.length < 300) (hgs : ∀ t ∈ ss, Gd t) (hB0 : B ≤ w.heap.size) :
 Calls Tryz.prog 66 #[.pointer (some ⟨PB, 0, none⟩), .agg #[.int .i64 a0, .int .i64 a1, .int .i64 a2, .int .i64 a3, .int .i64 a4, .int .i64 a5, .int .i64 a6, .int .i64 a7, .int .i64 a8, .int .i64 a9, .int .i64 a10, .int .i64 a11, .int .i64 a12, .int .i64 a13], .int .i64 fo, .agg #[.int .i64 x, .int .i64 y]] w fun e w' => e = .returned (.tuple #[.int .i64 (ss.length : Int), .bool true]) ∧ ∃ v1' v2' v3', Spc w' PB MB B v1' v2' v3' (ss ++ [[a0, a1, a2, a3, a4, a5, a6, a7, a8, a9, a10, a11, a12, a13]]) (fr ++ [fo]) (bys ++ [⟨x, y⟩]) ∧ SFr w w' PB MB v1 v2 v3 v1' v2' v3' := by
 obtain ⟨n, hsn⟩ : ∃ n, ss.length = n := ⟨_, rfl⟩
 have HSN := hide hsn
 obtain ⟨i1, hi1, hx1, hy1, hz1⟩ := info_parts infoState
 obtain ⟨i2, hi2, hx2, hy2, hz2⟩ := info_parts infoInt
 obtain ⟨i3, hi3, hx3, hy3, hz3⟩ := info_parts infoPair
 have HI1 := hide (And.intro hi1 (And.intro hx1 (And.intro hy1 hz1)))
 have HI2 := hide (And.intro hi2 (And.intro hx2 (And.intro hy2 hz2)))
 have HI3 := hide (And.intro hi3 (And.intro hx3 (And.intro hy3 hz3)))
 clear hi1 hx1 hy1 hz1 hi2 hx2 hy2 hz2 hi3 hx3 hy3 hz3
 have HB0 : Hid (B ≤ w.heap.size) := hide hB0
 have hn3 : n < 300 := by omega
 have hn300 : ((n : Int) == 300) = false := by simp; omega
 obtain ⟨S, hS⟩ : ∃ S, w.heap.size = S := ⟨_, rfl⟩
 have HSP := hide hSp
 have HSP0 := hide hSp
 have HG := hide hg
 go_enter Tryz.func66, Tryz.ntmps66
 go_upto_region 1 with fail
 obtain ⟨X, hX⟩ : ∃ X, X = (w.alloc (.cells #[.int .i64 a0, .int .i64 a1, .int .i64 a2, .int .i64 a3, .int .i64 a4, .int .i64 a5, .int .i64 a6, .int .i64 a7, .int .i64 a8, .int .i64 a9, .int .i64 a10, .int .i64 a11, .int .i64 a12, .int .i64 a13] 133)).alloc (.cells #[.int .i64 x, .int .i64 y] 47) := ⟨_, rfl⟩
 rw [← hX]
 have BA : Blk X S [.int .i64 a0, .int .i64 a1, .int .i64 a2, .int .i64 a3, .int .i64 a4, .int .i64 a5, .int .i64 a6, .int .i64 a7, .int .i64 a8, .int .i64 a9, .int .i64 a10, .int .i64 a11, .int .i64 a12, .int .i64 a13] := by
  have := (Blk.new w [.int .i64 a0, .int .i64 a1, .int .i64 a2, .int .i64 a3, .int .i64 a4, .int .i64 a5, .int .i64 a6, .int .i64 a7, .int .i64 a8, .int .i64 a9, .int .i64 a10, .int .i64 a11, .int .i64 a12, .int .i64 a13] 133).alloc (.cells #[.int .i64 x, .int .i64 y] 47)
  rw [hX]; simpa [hS] using this
 have BP : Blk X (S + 1) [.int .i64 x, .int .i64 y] := by
  have := Blk.new (w.alloc (.cells #[.int .i64 a0, .int .i64 a1, .int .i64 a2, .int .i64 a3, .int .i64 a4, .int .i64 a5, .int .i64 a6, .int .i64 a7, .int .i64 a8, .int .i64 a9, .int .i64 a10, .int .i64 a11, .int .i64 a12, .int .i64 a13] 133)) [.int .i64 x, .int .i64 y] 47
  rw [hX]; simpa [hS] using this
 have hWX : Below w.heap.size w X := by rw [hX]; exact ((Below.refl _ _).alloc (Nat.le_refl _) _).alloc (by simp) _
 have hsX : X.heap.size = S + 2 := by rw [hX, ← hS]; simp
 have HSX := hide (HSP.out.below hWX)
 have HBA := hide BA
 have HBP := hide BP
 have HWX := hide hWX
 clear hX BA BP hWX HSP hSp hg
 obtain ⟨cc, hlk⟩ : ∃ cc : Int, ∀ m : Nat, (Instr.lookup 94 (.map (some MB)) (.agg #[.int .i64 a0, .int .i64 a1, .int .i64 a2, .int .i64 a3, .int .i64 a4, .int .i64 a5, .int .i64 a6, .int .i64 a7, .int .i64 a8, .int .i64 a9, .int .i64 a10, .int .i64 a11, .int .i64 a12, .int .i64 a13]) true).run Tryz.prog (X.drewN m) = .ok (.tuple #[.int .i64 cc, .bool false]) (X.drewN m) := HSX.out.mp.missN HG.out hn
 obtain ⟨q1, d1, e1⟩ := sliceShape HSX.out.r1
 rw [hsn] at e1
 have p0 := HSX.out.c0
 have p1 := HSX.out.c1
 rw [e1] at p1
 have s_0 := (HBA.out 0 _ rfl).1
 have s_1 := (HBA.out 1 _ rfl).1
 have s_2 := (HBA.out 2 _ rfl).1
 have s_3 := (HBA.out 3 _ rfl).1
 have s_4 := (HBA.out 4 _ rfl).1
 have s_5 := (HBA.out 5 _ rfl).1
 have s_6 := (HBA.out 6 _ rfl).1
 have s_7 := (HBA.out 7 _ rfl).1
 have s_8 := (HBA.out 8 _ rfl).1
 have s_9 := (HBA.out 9 _ rfl).1
 have s_10 := (HBA.out 10 _ rfl).1
 have s_11 := (HBA.out 11 _ rfl).1
 have s_12 := (HBA.out 12 _ rfl).1
 have s_13 := (HBA.out 13 _ rfl).1
 have HN := hide hn
 have HGS := hide hgs
 have HE1 := hide e1
 clear hn hgs e1 hsn hl
 go_quiet (fail)
 rename_i nq
 go_upto_region 6 with fail
 obtain ⟨Y, hY⟩ : ∃ Y, X.drewN nq = Y := ⟨_, rfl⟩
 have HSY := hide (HSX.out.below (Go.below_drewN (Below.refl _ _) nq))
 have HBY := hide (HBA.out.below (Go.below_drewN (Below.refl X.heap.size X) nq) (by omega))
 have HPY := hide (HBP.out.below (Go.below_drewN (Below.refl X.heap.size X) nq) (by omega))
 have HWY := hide (Go.below_drewN HWX.out nq)
 have hsY : (X.drewN nq).heap.size = S + 2 := hsX
 rw [hY] at HSY HBY HPY HWY hsY ⊢
 clear hY HSX HBA HBP HWX hsX hlk p0 p1 s_0 s_1 s_2 s_3 s_4 s_5 s_6 s_7 s_8 s_9 s_10 s_11 s_12 s_13
 obtain ⟨w2, hst, hm2, ht2⟩ := (HSY.out.below (Below.refl _ _).drew).mp.store HGS.out HG.out HN.out (by rw [HSN.out]; omega)
 have hst' : (Instr.mapUpdate 94 (.map (some MB)) (.agg #[.int .i64 a0, .int .i64 a1, .int .i64 a2, .int .i64 a3, .int .i64 a4, .int .i64 a5, .int .i64 a6, .int .i64 a7, .int .i64 a8, .int .i64 a9, .int .i64 a10, .int .i64 a11, .int .i64 a12, .int .i64 a13]) (.int .i64 (n : Int))).run Tryz.prog Y.drew = .ok () w2 := by
  have := hst; rw [HSN.out] at this; exact this
 have HM2 := hide hm2
 have HT2 := hide ht2.grown
 have p0 := HSY.out.c0
 have p1 := HSY.out.c1
 rw [HE1.out] at p1
 have s_0 := (HBY.out 0 _ rfl).1
 have s_1 := (HBY.out 1 _ rfl).1
 have s_2 := (HBY.out 2 _ rfl).1
 have s_3 := (HBY.out 3 _ rfl).1
 have s_4 := (HBY.out 4 _ rfl).1
 have s_5 := (HBY.out 5 _ rfl).1
 have s_6 := (HBY.out 6 _ rfl).1
 have s_7 := (HBY.out 7 _ rfl).1
 have s_8 := (HBY.out 8 _ rfl).1
 have s_9 := (HBY.out 9 _ rfl).1
 have s_10 := (HBY.out 10 _ rfl).1
 have s_11 := (HBY.out 11 _ rfl).1
 have s_12 := (HBY.out 12 _ rfl).1
 have s_13 := (HBY.out 13 _ rfl).1
 clear hst hm2 ht2
 have hF := hide (show (fun w' : World => (w'.cell? ⟨PB, 0, none⟩ = some (.map (some MB)) ∧ w'.cell? ⟨PB, 1, none⟩ = some (.slice q1 n d1)) ∧ (w'.cell? ⟨S, 0, none⟩ = some (.int .i64 a0) ∧ w'.cell? ⟨S, 1, none⟩ = some (.int .i64 a1) ∧ w'.cell? ⟨S, 2, none⟩ = some (.int .i64 a2) ∧ w'.cell? ⟨S, 3, none⟩ = some (.int .i64 a3) ∧ w'.cell? ⟨S, 4, none⟩ = some (.int .i64 a4) ∧ w'.cell? ⟨S, 5, none⟩ = some (.int .i64 a5) ∧ w'.cell? ⟨S, 6, none⟩ = some (.int .i64 a6) ∧ w'.cell? ⟨S, 7, none⟩ = some (.int .i64 a7) ∧ w'.cell? ⟨S, 8, none⟩ = some (.int .i64 a8) ∧ w'.cell? ⟨S, 9, none⟩ = some (.int .i64 a9) ∧ w'.cell? ⟨S, 10, none⟩ = some (.int .i64 a10) ∧ w'.cell? ⟨S, 11, none⟩ = some (.int .i64 a11) ∧ w'.cell? ⟨S, 12, none⟩ = some (.int .i64 a12) ∧ w'.cell? ⟨S, 13, none⟩ = some (.int .i64 a13))) Y.drew from ⟨⟨p0, p1⟩, ⟨s_0, s_1, s_2, s_3, s_4, s_5, s_6, s_7, s_8, s_9, s_10, s_11, s_12, s_13⟩⟩)
 refine wp_region_G 10 (fun w' : World => (w'.cell? ⟨PB, 0, none⟩ = some (.map (some MB)) ∧ w'.cell? ⟨PB, 1, none⟩ = some (.slice q1 n d1)) ∧ (w'.cell? ⟨S, 0, none⟩ = some (.int .i64 a0) ∧ w'.cell? ⟨S, 1, none⟩ = some (.int .i64 a1) ∧ w'.cell? ⟨S, 2, none⟩ = some (.int .i64 a2) ∧ w'.cell? ⟨S, 3, none⟩ = some (.int .i64 a3) ∧ w'.cell? ⟨S, 4, none⟩ = some (.int .i64 a4) ∧ w'.cell? ⟨S, 5, none⟩ = some (.int .i64 a5) ∧ w'.cell? ⟨S, 6, none⟩ = some (.int .i64 a6) ∧ w'.cell? ⟨S, 7, none⟩ = some (.int .i64 a7) ∧ w'.cell? ⟨S, 8, none⟩ = some (.int .i64 a8) ∧ w'.cell? ⟨S, 9, none⟩ = some (.int .i64 a9) ∧ w'.cell? ⟨S, 10, none⟩ = some (.int .i64 a10) ∧ w'.cell? ⟨S, 11, none⟩ = some (.int .i64 a11) ∧ w'.cell? ⟨S, 12, none⟩ = some (.int .i64 a12) ∧ w'.cell? ⟨S, 13, none⟩ = some (.int .i64 a13))) (by kernel_rfl) ?_
 refine kB 0 hF.out ?_
 refine kB 1 hF.out ?_
 refine kB 2 hF.out ?_
 refine kB 3 hF.out ?_
 refine kB 4 hF.out ?_
 refine kB 5 hF.out ?_
 refine kB 6 hF.out ?_
 refine kB 7 hF.out ?_
 refine kB 8 hF.out ?_
 refine kB 9 hF.out ?_
 refine wpAnyG_one (i := 10) rfl (by kernel_rfl) (by kernel_rfl) (fun K hK => ?_)
 go_simp
 refine hK.out _ _ ?_
 clear hK K
 refine kL ?_
 refine wpAnyG_done (by kernel_rfl) ?_ _
 clear hF hst' p0 p1 s_0 s_1 s_2 s_3 s_4 s_5 s_6 s_7 s_8 s_9 s_10 s_11 s_12 s_13
 have HSZ := hide (show w2.heap[PB]? = Y.heap[PB]? from HT2.out.block PB HSY.out.lt (by intro e; injection e with e; exact HSY.out.pm e))
 have HZ2 := hide HT2.out.size
 have HO : Hid (∀ b, b < Y.heap.size → b ≠ MB → w2.heap[b]? = Y.heap[b]?) := fun b hb hne => HT2.out.block b hb (by intro e; injection e with e; exact hne e)
 go_upto_region 7 with fail
 obtain ⟨V, hV⟩ : ∃ V, w2.drew = V := ⟨_, rfl⟩
 have hv1 : V.heap = w2.heap := by rw [← hV]; rfl
 have HOV : Hid (∀ b, b < Y.heap.size → b ≠ MB → V.heap[b]? = Y.heap[b]?) := by
  refine hide fun b hb hne => ?_
  rw [hv1]; exact HO.out b hb hne
 have HMV : Hid (MapAt V MB (ss ++ [[a0, a1, a2, a3, a4, a5, a6, a7, a8, a9, a10, a11, a12, a13]])) := hide (HM2.out.block (by rw [hv1]))
 have HFV : Hid (V.os = Y.os ∧ V.tape = Y.tape ∧ V.output = Y.output ∧ Y.heap.size ≤ V.heap.size) := by
  refine hide ?_
  rw [← hV]; exact ⟨HT2.out.os, HT2.out.tape, HT2.out.output, HT2.out.size⟩
 have ltS : S < Y.heap.size := by omega
 have ltS1 : S + 1 < Y.heap.size := by omega
 have mbS : MB < S := by rw [← hS]; exact HSP0.out.mp.lt
 have cS : ∀ j, V.cell? ⟨S, j, none⟩ = Y.cell? ⟨S, j, none⟩ := fun j => World.cell?_of_block (w := Y) (a := ⟨S, j, none⟩) (HOV.out S ltS (by omega))
 have cT : ∀ j, V.cell? ⟨S + 1, j, none⟩ = Y.cell? ⟨S + 1, j, none⟩ := fun j => World.cell?_of_block (w := Y) (a := ⟨S + 1, j, none⟩) (HOV.out (S + 1) ltS1 (by omega))
 have cP : ∀ j, V.cell? ⟨PB, j, none⟩ = Y.cell? ⟨PB, j, none⟩ := fun j => World.cell?_of_block (w := Y) (a := ⟨PB, j, none⟩) (HOV.out PB HSY.out.lt HSY.out.pm)
 have kr : ∀ {v : Value} {e : TypeId} {sz m : Nat} {xs : List Value}, Y.ownsRow B e sz v m xs → V.ownsRow B e sz v m xs := fun hr => rows_kept hr (fun g hg => HOV.out g (rows_lt hr g hg).2 (by have := (rows_lt hr g hg).1; have := HSY.out.mB; omega))
 have hf0 : (fun w' : World => (w'.cell? ⟨PB, 1, none⟩ = some v1 ∧ w'.cell? ⟨PB, 2, none⟩ = some v2 ∧ w'.cell? ⟨PB, 3, none⟩ = some v3) ∧ (w'.cell? ⟨S, 0, none⟩ = some (.int .i64 a0) ∧ w'.cell? ⟨S, 1, none⟩ = some (.int .i64 a1) ∧ w'.cell? ⟨S, 2, none⟩ = some (.int .i64 a2) ∧ w'.cell? ⟨S, 3, none⟩ = some (.int .i64 a3) ∧ w'.cell? ⟨S, 4, none⟩ = some (.int .i64 a4) ∧ w'.cell? ⟨S, 5, none⟩ = some (.int .i64 a5) ∧ w'.cell? ⟨S, 6, none⟩ = some (.int .i64 a6) ∧ w'.cell? ⟨S, 7, none⟩ = some (.int .i64 a7) ∧ w'.cell? ⟨S, 8, none⟩ = some (.int .i64 a8) ∧ w'.cell? ⟨S, 9, none⟩ = some (.int .i64 a9) ∧ w'.cell? ⟨S, 10, none⟩ = some (.int .i64 a10) ∧ w'.cell? ⟨S, 11, none⟩ = some (.int .i64 a11) ∧ w'.cell? ⟨S, 12, none⟩ = some (.int .i64 a12) ∧ w'.cell? ⟨S, 13, none⟩ = some (.int .i64 a13)) ∧ (w'.cell? ⟨S + 1, 0, none⟩ = some (.int .i64 x) ∧ w'.cell? ⟨S + 1, 1, none⟩ = some (.int .i64 y))) V := ⟨⟨(cP 1).trans HSY.out.c1, (cP 2).trans HSY.out.c2, (cP 3).trans HSY.out.c3⟩, ⟨(cS 0).trans (HBY.out 0 _ rfl).1, (cS 1).trans (HBY.out 1 _ rfl).1, (cS 2).trans (HBY.out 2 _ rfl).1, (cS 3).trans (HBY.out 3 _ rfl).1, (cS 4).trans (HBY.out 4 _ rfl).1, (cS 5).trans (HBY.out 5 _ rfl).1, (cS 6).trans (HBY.out 6 _ rfl).1, (cS 7).trans (HBY.out 7 _ rfl).1, (cS 8).trans (HBY.out 8 _ rfl).1, (cS 9).trans (HBY.out 9 _ rfl).1, (cS 10).trans (HBY.out 10 _ rfl).1, (cS 11).trans (HBY.out 11 _ rfl).1, (cS 12).trans (HBY.out 12 _ rfl).1, (cS 13).trans (HBY.out 13 _ rfl).1⟩, ⟨(cT 0).trans (HPY.out 0 _ rfl).1, (cT 1).trans (HPY.out 1 _ rfl).1⟩⟩
 have hF := hide hf0
 have r1 := kr HSY.out.r1
 have r2 := kr HSY.out.r2
 have r3 := kr HSY.out.r3
 rw [HSN.out] at r1 r2 r3
 have HR1 := hide r1; have HR2 := hide r2; have HR3 := hide r3
 have hBV : B ≤ V.heap.size := by
  have h2 := HFV.out.2.2.2
  have h1 := HB0.out
  omega
 have hS2 : S + 2 ≤ V.heap.size := by have := HFV.out.2.2.2; omega
 have hPV : ∀ j, V.frozen? ⟨PB, j, none⟩ = false := fun j => (World.frozen?_of_block (w := Y) (a := ⟨PB, j, none⟩) (HOV.out PB HSY.out.lt HSY.out.pm)).trans (HSY.out.fz j)
 have HPV := hide hPV
 refine wp_region_G 24 (fun w' : World => (w'.cell? ⟨PB, 1, none⟩ = some v1 ∧ w'.cell? ⟨PB, 2, none⟩ = some v2 ∧ w'.cell? ⟨PB, 3, none⟩ = some v3) ∧ (w'.cell? ⟨S, 0, none⟩ = some (.int .i64 a0) ∧ w'.cell? ⟨S, 1, none⟩ = some (.int .i64 a1) ∧ w'.cell? ⟨S, 2, none⟩ = some (.int .i64 a2) ∧ w'.cell? ⟨S, 3, none⟩ = some (.int .i64 a3) ∧ w'.cell? ⟨S, 4, none⟩ = some (.int .i64 a4) ∧ w'.cell? ⟨S, 5, none⟩ = some (.int .i64 a5) ∧ w'.cell? ⟨S, 6, none⟩ = some (.int .i64 a6) ∧ w'.cell? ⟨S, 7, none⟩ = some (.int .i64 a7) ∧ w'.cell? ⟨S, 8, none⟩ = some (.int .i64 a8) ∧ w'.cell? ⟨S, 9, none⟩ = some (.int .i64 a9) ∧ w'.cell? ⟨S, 10, none⟩ = some (.int .i64 a10) ∧ w'.cell? ⟨S, 11, none⟩ = some (.int .i64 a11) ∧ w'.cell? ⟨S, 12, none⟩ = some (.int .i64 a12) ∧ w'.cell? ⟨S, 13, none⟩ = some (.int .i64 a13)) ∧ (w'.cell? ⟨S + 1, 0, none⟩ = some (.int .i64 x) ∧ w'.cell? ⟨S + 1, 1, none⟩ = some (.int .i64 y))) (by kernel_rfl) ?_
 rw [hV]
 have HS2 := hide hS2
 clear hPV hV cS cT cP kr hf0 r1 r2 r3 hv1 HO HM2 HT2 HSZ HZ2
 refine kB 0 hF.out ?_
 refine kP 1 hF.out ?_
 refine kP 2 hF.out ?_
 refine kB 3 hF.out ?_
 refine kB 4 hF.out ?_
 refine kB 5 hF.out ?_
 refine kB 6 hF.out ?_
 refine kB 7 hF.out ?_
 refine kB 10 hF.out ?_
 refine kB 11 hF.out ?_
 refine kB 12 hF.out ?_
 refine kB 13 hF.out ?_
 refine kB 14 hF.out ?_
 refine kB 17 hF.out ?_
 refine kB 18 hF.out ?_
 refine kB 19 hF.out ?_
 refine kB 20 hF.out ?_
 refine kB 21 hF.out ?_
 have hno := hide (ch_no a0 a1 a2 a3 a4 a5 a6 a7 a8 a9 a10 a11 a12 a13 fo x y HSP0.out hS n)
 have hblk : Hid (∀ W, Frm V [⟨8, 9, 47, 48, 95, 133, 14, v1, n, flatS ss, [.int .i64 a0, .int .i64 a1, .int .i64 a2, .int .i64 a3, .int .i64 a4, .int .i64 a5, .int .i64 a6, .int .i64 a7, .int .i64 a8, .int .i64 a9, .int .i64 a10, .int .i64 a11, .int .i64 a12, .int .i64 a13]⟩, ⟨15, 16, 54, 55, 24, 3, 1, v2, n, fr.map (Value.int .i64), [.int .i64 fo]⟩, ⟨22, 23, 61, 62, 50, 47, 2, v3, n, flat2 bys, [.int .i64 x, .int .i64 y]⟩] W → ∀ b, (b < B ∨ (S ≤ b ∧ b < S + 2)) → W.heap[b]? = V.heap[b]?) := hide (ch_blk a0 a1 a2 a3 a4 a5 a6 a7 a8 a9 a10 a11 a12 a13 fo x y HSP0.out hS n HS2.out hBV)
 have hFr := hide (ch_frm (V := V) (PB := PB) (B := B) (S := S) (n := n) (v1 := v1) (v2 := v2) (v3 := v3) (ss := ss) (fr := fr) (bys := bys) a0 a1 a2 a3 a4 a5 a6 a7 a8 a9 a10 a11 a12 a13 fo x y hblk.out HSP0.out.pB hF.out)
 refine wpAnyG_appends3 (c1 := ⟨8, 9, 47, 48, 95, 133, 14, v1, n, flatS ss, [.int .i64 a0, .int .i64 a1, .int .i64 a2, .int .i64 a3, .int .i64 a4, .int .i64 a5, .int .i64 a6, .int .i64 a7, .int .i64 a8, .int .i64 a9, .int .i64 a10, .int .i64 a11, .int .i64 a12, .int .i64 a13]⟩) (c2 := ⟨15, 16, 54, 55, 24, 3, 1, v2, n, fr.map (Value.int .i64), [.int .i64 fo]⟩) (c3 := ⟨22, 23, 61, 62, 50, 47, 2, v3, n, flat2 bys, [.int .i64 x, .int .i64 y]⟩) (B := B) (f := 9) (by kernel_rfl) (by kernel_rfl) (by simp [ixs, slots]) ?hsl hFr.out ?k1 ?k2 ?k3 hBV HR1.out HR2.out HR3.out HSP0.out.a12 HSP0.out.a13 HSP0.out.a23 ?he
 case hsl =>
  intro d hd
  exact Nat.lt_of_lt_of_eq (ch_slots a0 a1 a2 a3 a4 a5 a6 a7 a8 a9 a10 a11 a12 a13 fo x y d hd) (by kernel_rfl)
 case k1 => exact ⟨⟨_, 46, .agg #[.int .i64 a0, .int .i64 a1, .int .i64 a2, .int .i64 a3, .int .i64 a4, .int .i64 a5, .int .i64 a6, .int .i64 a7, .int .i64 a8, .int .i64 a9, .int .i64 a10, .int .i64 a11, .int .i64 a12, .int .i64 a13], rfl, rfl, rfl, rfl, by simp [ixs, slots], by kernel_rfl, laysState a0 a1 a2 a3 a4 a5 a6 a7 a8 a9 a10 a11 a12 a13⟩, ⟨_, 45, rfl, rfl, rfl, rfl, by simp [ixs, slots], by kernel_rfl⟩, ⟨i1, _, 112, Tryz.underlying95, HI1.out.1, HI1.out.2.1, HI1.out.2.2.1, HI1.out.2.2.2, by kernel_rfl, Nat.succ_pos _, by dsimp only; omega⟩, rfl, by simp [Value.oneCell'], by unfold maxLen; dsimp only; omega⟩
 case k2 => exact ⟨⟨_, 53, .int .i64 fo, rfl, rfl, rfl, rfl, by simp [ixs, slots], by kernel_rfl, laysInt fo⟩, ⟨_, 52, rfl, rfl, rfl, rfl, by simp [ixs, slots], by kernel_rfl⟩, ⟨i2, _, 8, Tryz.underlying24, HI2.out.1, HI2.out.2.1, HI2.out.2.2.1, HI2.out.2.2.2, by kernel_rfl, Nat.succ_pos _, by dsimp only; omega⟩, rfl, by simp [Value.oneCell'], by unfold maxLen; dsimp only; omega⟩
 case k3 => exact ⟨⟨_, 60, .agg #[.int .i64 x, .int .i64 y], rfl, rfl, rfl, rfl, by simp [ixs, slots], by kernel_rfl, laysPair x y⟩, ⟨_, 59, rfl, rfl, rfl, rfl, by simp [ixs, slots], by kernel_rfl⟩, ⟨i3, _, 16, Tryz.underlying50, HI3.out.1, HI3.out.2.1, HI3.out.2.2.1, HI3.out.2.2.2, by kernel_rfl, Nat.succ_pos _, by dsimp only; omega⟩, rfl, by simp [Value.oneCell'], by unfold maxLen; dsimp only; omega⟩
 case he =>
  intro u1 u2 u3 x1 x2 x3 m1 m2 m3 W hA
  have HA := hide hA
  have e1 := (hFr.out W hA.frm).1.1
  have e2 := (hFr.out W hA.frm).1.2.1
  have e3 := (hFr.out W hA.frm).1.2.2
  have f1 : W.frozen? ⟨PB, 1, none⟩ = false := (World.frozen?_of_block (w := V) (a := ⟨PB, 1, none⟩) (hblk.out W hA.frm PB (.inl HSP0.out.pB))).trans (HPV.out 1)
  have f2 : W.frozen? ⟨PB, 2, none⟩ = false := (World.frozen?_of_block (w := V) (a := ⟨PB, 2, none⟩) (hblk.out W hA.frm PB (.inl HSP0.out.pB))).trans (HPV.out 2)
  have f3 : W.frozen? ⟨PB, 3, none⟩ = false := (World.frozen?_of_block (w := V) (a := ⟨PB, 3, none⟩) (hblk.out W hA.frm PB (.inl HSP0.out.pB))).trans (HPV.out 3)
  clear hA hFr hF HI1 HI2 HI3
  simp only [Act.put, List.setIfInBounds_toArray, List.set_cons_zero, List.set_cons_succ]
  refine wpAnyG_one (i := 24) rfl (by kernel_rfl) (by kernel_rfl) (fun K hK => ?_)
  go_simp
  refine hK.out _ _ ?_
  clear hK K
  refine kL ?_
  refine wpAnyG_one (i := 25) rfl (by kernel_rfl) (by kernel_rfl) (fun K hK => ?_)
  go_simp
  refine hK.out _ _ ?_
  clear hK K
  refine kL ?_
  refine wpAnyG_one (i := 26) rfl (by kernel_rfl) (by kernel_rfl) (fun K hK => ?_)
  go_simp
  refine hK.out _ _ ?_
  clear hK K
  refine kL ?_
  refine wpAnyG_one (i := 27) rfl (by kernel_rfl) (by kernel_rfl) (fun K hK => ?_)
  go_simp
  refine hK.out _ _ ?_
  clear hK K
  refine kL ?_
  refine wpAnyG_one (i := 28) rfl (by kernel_rfl) (by kernel_rfl) (fun K hK => ?_)
  go_simp
  refine hK.out _ _ ?_
  clear hK K
  refine kL ?_
  refine wpAnyG_one (i := 29) rfl (by kernel_rfl) (by kernel_rfl) (fun K hK => ?_)
  go_simp
  refine hK.out _ _ ?_
  clear hK K
  refine kL ?_
  refine wpAnyG_one (i := 30) rfl (by kernel_rfl) (by kernel_rfl) (fun K hK => ?_)
  go_simp
  refine hK.out _ _ ?_
  clear hK K
  refine kL ?_
  refine wpAnyG_one (i := 31) rfl (by kernel_rfl) (by kernel_rfl) (fun K hK => ?_)
  go_simp
  refine hK.out _ _ ?_
  clear hK K
  refine kL ?_
  refine wpAnyG_one (i := 32) rfl (by kernel_rfl) (by kernel_rfl) (fun K hK => ?_)
  go_simp
  refine hK.out _ _ ?_
  clear hK K
  refine kL ?_
  refine wpAnyG_done (by kernel_rfl) ?_ _
  go_wp2
  refine bodyPost_ret (v := .tuple #[.int .i64 (ss.length : Int), .bool true]) ?_ rfl ?_
  · simp [results, Tryz.f66, go_sem, HSN.out]
  · exact ⟨rfl, _, _, _, spc_end HSN.out HSP0.out hS HWY.out HSY.out HOV.out HMV.out HFV.out HB0.out HA.out⟩
end Go.Proofs.YtjjikhaaimfneaaGreatDoor
