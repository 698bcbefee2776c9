/-
  Lemmas and walks for the statement: StBody.
-/
import Derived.Test.YtjjikhaaimfneaaGreatDoorU23
import Derived.Laws.Rows
namespace Go.Proofs.YtjjikhaaimfneaaGreatDoor
open Go.RowKit
set_option linter.unusedSimpArgs false
set_option linter.unusedVariables false
theorem Chg.set {a b : World} {F : Nat → Prop} (h : Chg a b F) {p : Addr} (hp : F p.block) (v : Value) : Chg a (b.setCell p v) F := by
 have k := setCell_chg b p v
 exact ⟨k.os.trans h.os, k.tape.trans h.tape, k.output.trans h.output, Nat.le_trans h.size k.size, fun x hx hn => (k.block x (Nat.lt_of_lt_of_le hx h.size) (fun e => hn (e ▸ hp))).trans (h.block x hx hn)⟩
section
variable {w W1 V W2 Z : World} {F0 : Nat → Prop} {T : List Edg → (Nat → Prop) → World → Prop} {TR : List (Nat × Obj)} {PB MB B : Nat} {v1 v2 v3 : Value} {ss : List (List Int)} {fr : List Int} {bys : List P2} {es : List Edg} {F : Nat → Prop} {K : Nat} {caps : Array Value} {NB OB : Nat} {c0 c1 c2 c3 c4 c5 c6 c7 c8 c9 c10 c11 c12 c13 x0 x1 x2 x3 x4 x5 : Int}
theorem two_heap (hT2 : TwoNew V (.cells #[.int .i64 0, .int .i64 0, .int .i64 0, .int .i64 0, .int .i64 0, .int .i64 0, .int .i64 0, .int .i64 0, .int .i64 0, .int .i64 0, .int .i64 0, .int .i64 0, .int .i64 0, .int .i64 0] 133 (0, 0)) (.cells #[.int .i64 0, .int .i64 0, .int .i64 0, .int .i64 0, .int .i64 0, .int .i64 0] 92 (0, 0)) NB OB W2) (hZ : Z = ((((((((((((((((((((W2.setCell ⟨NB, 0, none⟩ (.int .i64 c0)).setCell ⟨NB, 1, none⟩ (.int .i64 c1)).setCell ⟨NB, 2, none⟩ (.int .i64 c2)).setCell ⟨NB, 3, none⟩ (.int .i64 c3)).setCell ⟨NB, 4, none⟩ (.int .i64 c4)).setCell ⟨NB, 5, none⟩ (.int .i64 c5)).setCell ⟨NB, 6, none⟩ (.int .i64 c6)).setCell ⟨NB, 7, none⟩ (.int .i64 c7)).setCell ⟨NB, 8, none⟩ (.int .i64 c8)).setCell ⟨NB, 9, none⟩ (.int .i64 c9)).setCell ⟨NB, 10, none⟩ (.int .i64 c10)).setCell ⟨NB, 11, none⟩ (.int .i64 c11)).setCell ⟨NB, 12, none⟩ (.int .i64 c12)).setCell ⟨NB, 13, none⟩ (.int .i64 c13)).setCell ⟨OB, 0, none⟩ (.int .i64 x0)).setCell ⟨OB, 1, none⟩ (.int .i64 x1)).setCell ⟨OB, 2, none⟩ (.int .i64 x2)).setCell ⟨OB, 3, none⟩ (.int .i64 x3)).setCell ⟨OB, 4, none⟩ (.int .i64 x4)).setCell ⟨OB, 5, none⟩ (.int .i64 x5))) : Z.heap[NB]? = some (.cells #[.int .i64 c0, .int .i64 c1, .int .i64 c2, .int .i64 c3, .int .i64 c4, .int .i64 c5, .int .i64 c6, .int .i64 c7, .int .i64 c8, .int .i64 c9, .int .i64 c10, .int .i64 c11, .int .i64 c12, .int .i64 c13] 133 (0, 0)) ∧ Z.heap[OB]? = some (.cells #[.int .i64 x0, .int .i64 x1, .int .i64 x2, .int .i64 x3, .int .i64 x4, .int .i64 x5] 92 (0, 0)) := by
 rw [hZ]
 refine ⟨?_, ?_⟩
 · have h0 := hT2.h1
   have h1 := heap_setCell_same _ NB 0 _ _ (.int .i64 c0) h0
   have h2 := heap_setCell_same _ NB 1 _ _ (.int .i64 c1) h1
   have h3 := heap_setCell_same _ NB 2 _ _ (.int .i64 c2) h2
   have h4 := heap_setCell_same _ NB 3 _ _ (.int .i64 c3) h3
   have h5 := heap_setCell_same _ NB 4 _ _ (.int .i64 c4) h4
   have h6 := heap_setCell_same _ NB 5 _ _ (.int .i64 c5) h5
   have h7 := heap_setCell_same _ NB 6 _ _ (.int .i64 c6) h6
   have h8 := heap_setCell_same _ NB 7 _ _ (.int .i64 c7) h7
   have h9 := heap_setCell_same _ NB 8 _ _ (.int .i64 c8) h8
   have h10 := heap_setCell_same _ NB 9 _ _ (.int .i64 c9) h9
   have h11 := heap_setCell_same _ NB 10 _ _ (.int .i64 c10) h10
   have h12 := heap_setCell_same _ NB 11 _ _ (.int .i64 c11) h11
   have h13 := heap_setCell_same _ NB 12 _ _ (.int .i64 c12) h12
   have h14 := heap_setCell_same _ NB 13 _ _ (.int .i64 c13) h13
   have h15 := (Below.heap_setCell _ ⟨OB, 0, none⟩ (.int .i64 x0) NB hT2.ne).trans h14
   have h16 := (Below.heap_setCell _ ⟨OB, 1, none⟩ (.int .i64 x1) NB hT2.ne).trans h15
   have h17 := (Below.heap_setCell _ ⟨OB, 2, none⟩ (.int .i64 x2) NB hT2.ne).trans h16
   have h18 := (Below.heap_setCell _ ⟨OB, 3, none⟩ (.int .i64 x3) NB hT2.ne).trans h17
   have h19 := (Below.heap_setCell _ ⟨OB, 4, none⟩ (.int .i64 x4) NB hT2.ne).trans h18
   have h20 := (Below.heap_setCell _ ⟨OB, 5, none⟩ (.int .i64 x5) NB hT2.ne).trans h19
   exact h20.trans (by kernel_rfl)
 · have h0 := hT2.h2
   have h1 := (Below.heap_setCell _ ⟨NB, 0, none⟩ (.int .i64 c0) OB (Ne.symm hT2.ne)).trans h0
   have h2 := (Below.heap_setCell _ ⟨NB, 1, none⟩ (.int .i64 c1) OB (Ne.symm hT2.ne)).trans h1
   have h3 := (Below.heap_setCell _ ⟨NB, 2, none⟩ (.int .i64 c2) OB (Ne.symm hT2.ne)).trans h2
   have h4 := (Below.heap_setCell _ ⟨NB, 3, none⟩ (.int .i64 c3) OB (Ne.symm hT2.ne)).trans h3
   have h5 := (Below.heap_setCell _ ⟨NB, 4, none⟩ (.int .i64 c4) OB (Ne.symm hT2.ne)).trans h4
   have h6 := (Below.heap_setCell _ ⟨NB, 5, none⟩ (.int .i64 c5) OB (Ne.symm hT2.ne)).trans h5
   have h7 := (Below.heap_setCell _ ⟨NB, 6, none⟩ (.int .i64 c6) OB (Ne.symm hT2.ne)).trans h6
   have h8 := (Below.heap_setCell _ ⟨NB, 7, none⟩ (.int .i64 c7) OB (Ne.symm hT2.ne)).trans h7
   have h9 := (Below.heap_setCell _ ⟨NB, 8, none⟩ (.int .i64 c8) OB (Ne.symm hT2.ne)).trans h8
   have h10 := (Below.heap_setCell _ ⟨NB, 9, none⟩ (.int .i64 c9) OB (Ne.symm hT2.ne)).trans h9
   have h11 := (Below.heap_setCell _ ⟨NB, 10, none⟩ (.int .i64 c10) OB (Ne.symm hT2.ne)).trans h10
   have h12 := (Below.heap_setCell _ ⟨NB, 11, none⟩ (.int .i64 c11) OB (Ne.symm hT2.ne)).trans h11
   have h13 := (Below.heap_setCell _ ⟨NB, 12, none⟩ (.int .i64 c12) OB (Ne.symm hT2.ne)).trans h12
   have h14 := (Below.heap_setCell _ ⟨NB, 13, none⟩ (.int .i64 c13) OB (Ne.symm hT2.ne)).trans h13
   have h15 := heap_setCell_same _ OB 0 _ _ (.int .i64 x0) h14
   have h16 := heap_setCell_same _ OB 1 _ _ (.int .i64 x1) h15
   have h17 := heap_setCell_same _ OB 2 _ _ (.int .i64 x2) h16
   have h18 := heap_setCell_same _ OB 3 _ _ (.int .i64 x3) h17
   have h19 := heap_setCell_same _ OB 4 _ _ (.int .i64 x4) h18
   have h20 := heap_setCell_same _ OB 5 _ _ (.int .i64 x5) h19
   exact h20.trans (by kernel_rfl)
theorem EI.two (hT : TellOk K caps T) (h : EI w F0 T TR PB MB B v1 v2 v3 ss fr bys es F W1) (hV : Below W1.heap.size W1 V) (hT2 : TwoNew V (.cells #[.int .i64 0, .int .i64 0, .int .i64 0, .int .i64 0, .int .i64 0, .int .i64 0, .int .i64 0, .int .i64 0, .int .i64 0, .int .i64 0, .int .i64 0, .int .i64 0, .int .i64 0, .int .i64 0] 133 (0, 0)) (.cells #[.int .i64 0, .int .i64 0, .int .i64 0, .int .i64 0, .int .i64 0, .int .i64 0] 92 (0, 0)) NB OB W2) (hZ : Z = ((((((((((((((((((((W2.setCell ⟨NB, 0, none⟩ (.int .i64 c0)).setCell ⟨NB, 1, none⟩ (.int .i64 c1)).setCell ⟨NB, 2, none⟩ (.int .i64 c2)).setCell ⟨NB, 3, none⟩ (.int .i64 c3)).setCell ⟨NB, 4, none⟩ (.int .i64 c4)).setCell ⟨NB, 5, none⟩ (.int .i64 c5)).setCell ⟨NB, 6, none⟩ (.int .i64 c6)).setCell ⟨NB, 7, none⟩ (.int .i64 c7)).setCell ⟨NB, 8, none⟩ (.int .i64 c8)).setCell ⟨NB, 9, none⟩ (.int .i64 c9)).setCell ⟨NB, 10, none⟩ (.int .i64 c10)).setCell ⟨NB, 11, none⟩ (.int .i64 c11)).setCell ⟨NB, 12, none⟩ (.int .i64 c12)).setCell ⟨NB, 13, none⟩ (.int .i64 c13)).setCell ⟨OB, 0, none⟩ (.int .i64 x0)).setCell ⟨OB, 1, none⟩ (.int .i64 x1)).setCell ⟨OB, 2, none⟩ (.int .i64 x2)).setCell ⟨OB, 3, none⟩ (.int .i64 x3)).setCell ⟨OB, 4, none⟩ (.int .i64 x4)).setCell ⟨OB, 5, none⟩ (.int .i64 x5))) :
 EI w F0 T ((OB, .cells #[.int .i64 x0, .int .i64 x1, .int .i64 x2, .int .i64 x3, .int .i64 x4, .int .i64 x5] 92 (0, 0)) :: (NB, .cells #[.int .i64 c0, .int .i64 c1, .int .i64 c2, .int .i64 c3, .int .i64 c4, .int .i64 c5, .int .i64 c6, .int .i64 c7, .int .i64 c8, .int .i64 c9, .int .i64 c10, .int .i64 c11, .int .i64 c12, .int .i64 c13] 133 (0, 0)) :: TR) PB MB B v1 v2 v3 ss fr bys es F Z := by
 obtain ⟨hn, ho⟩ := two_heap hT2 hZ
 have s1 := hV.size
 have s2 := h.chg.size
 have n1 := hT2.n1
 have n2 := hT2.n2
 have h1 := h.below hT (hV.trans (hT2.below.mono hV.size))
 have fN := h.fresh hT (b := NB) (by omega)
 have fO := h.fresh hT (b := OB) (by omega)
 have hc : Chg W2 Z (fun b => b = NB ∨ b = OB) := by rw [hZ]; exact (((((((((((((((((((((Chg.refl W2 (fun b => b = NB ∨ b = OB)).set (p := ⟨NB, 0, none⟩) (.inl rfl) _).set (p := ⟨NB, 1, none⟩) (.inl rfl) _).set (p := ⟨NB, 2, none⟩) (.inl rfl) _).set (p := ⟨NB, 3, none⟩) (.inl rfl) _).set (p := ⟨NB, 4, none⟩) (.inl rfl) _).set (p := ⟨NB, 5, none⟩) (.inl rfl) _).set (p := ⟨NB, 6, none⟩) (.inl rfl) _).set (p := ⟨NB, 7, none⟩) (.inl rfl) _).set (p := ⟨NB, 8, none⟩) (.inl rfl) _).set (p := ⟨NB, 9, none⟩) (.inl rfl) _).set (p := ⟨NB, 10, none⟩) (.inl rfl) _).set (p := ⟨NB, 11, none⟩) (.inl rfl) _).set (p := ⟨NB, 12, none⟩) (.inl rfl) _).set (p := ⟨NB, 13, none⟩) (.inl rfl) _).set (p := ⟨OB, 0, none⟩) (.inr rfl) _).set (p := ⟨OB, 1, none⟩) (.inr rfl) _).set (p := ⟨OB, 2, none⟩) (.inr rfl) _).set (p := ⟨OB, 3, none⟩) (.inr rfl) _).set (p := ⟨OB, 4, none⟩) (.inr rfl) _).set (p := ⟨OB, 5, none⟩) (.inr rfl) _)
 have h2 := h1.kept hT (hc.mono (fun b hb => ⟨fun hf => by rcases hb with rfl | rfl; exact fN.1 hf; exact fO.1 hf, fun hf => by rcases hb with rfl | rfl; exact fN.2 hf; exact fO.2 hf, fun p hp hpe => by
  have := (Array.getElem?_eq_some_iff.1 (h.tr p hp).1).1
  rcases hb with rfl | rfl <;> omega, by rcases hb with rfl | rfl <;> omega⟩))
 exact (h2.track hn fN.1 fN.2).track ho fO.1 fO.2
theorem two_chg (hV : Below W1.heap.size W1 V) (hT2 : TwoNew V (.cells #[.int .i64 0, .int .i64 0, .int .i64 0, .int .i64 0, .int .i64 0, .int .i64 0, .int .i64 0, .int .i64 0, .int .i64 0, .int .i64 0, .int .i64 0, .int .i64 0, .int .i64 0, .int .i64 0] 133 (0, 0)) (.cells #[.int .i64 0, .int .i64 0, .int .i64 0, .int .i64 0, .int .i64 0, .int .i64 0] 92 (0, 0)) NB OB W2) (hZ : Z = ((((((((((((((((((((W2.setCell ⟨NB, 0, none⟩ (.int .i64 c0)).setCell ⟨NB, 1, none⟩ (.int .i64 c1)).setCell ⟨NB, 2, none⟩ (.int .i64 c2)).setCell ⟨NB, 3, none⟩ (.int .i64 c3)).setCell ⟨NB, 4, none⟩ (.int .i64 c4)).setCell ⟨NB, 5, none⟩ (.int .i64 c5)).setCell ⟨NB, 6, none⟩ (.int .i64 c6)).setCell ⟨NB, 7, none⟩ (.int .i64 c7)).setCell ⟨NB, 8, none⟩ (.int .i64 c8)).setCell ⟨NB, 9, none⟩ (.int .i64 c9)).setCell ⟨NB, 10, none⟩ (.int .i64 c10)).setCell ⟨NB, 11, none⟩ (.int .i64 c11)).setCell ⟨NB, 12, none⟩ (.int .i64 c12)).setCell ⟨NB, 13, none⟩ (.int .i64 c13)).setCell ⟨OB, 0, none⟩ (.int .i64 x0)).setCell ⟨OB, 1, none⟩ (.int .i64 x1)).setCell ⟨OB, 2, none⟩ (.int .i64 x2)).setCell ⟨OB, 3, none⟩ (.int .i64 x3)).setCell ⟨OB, 4, none⟩ (.int .i64 x4)).setCell ⟨OB, 5, none⟩ (.int .i64 x5))) : Chg W1 Z (fun _ => False) := by
 have s1 := hV.size
 have n1 := hT2.n1
 have n2 := hT2.n2
 have hc : Chg W2 Z (fun b => b = NB ∨ b = OB) := by rw [hZ]; exact (((((((((((((((((((((Chg.refl W2 (fun b => b = NB ∨ b = OB)).set (p := ⟨NB, 0, none⟩) (.inl rfl) _).set (p := ⟨NB, 1, none⟩) (.inl rfl) _).set (p := ⟨NB, 2, none⟩) (.inl rfl) _).set (p := ⟨NB, 3, none⟩) (.inl rfl) _).set (p := ⟨NB, 4, none⟩) (.inl rfl) _).set (p := ⟨NB, 5, none⟩) (.inl rfl) _).set (p := ⟨NB, 6, none⟩) (.inl rfl) _).set (p := ⟨NB, 7, none⟩) (.inl rfl) _).set (p := ⟨NB, 8, none⟩) (.inl rfl) _).set (p := ⟨NB, 9, none⟩) (.inl rfl) _).set (p := ⟨NB, 10, none⟩) (.inl rfl) _).set (p := ⟨NB, 11, none⟩) (.inl rfl) _).set (p := ⟨NB, 12, none⟩) (.inl rfl) _).set (p := ⟨NB, 13, none⟩) (.inl rfl) _).set (p := ⟨OB, 0, none⟩) (.inr rfl) _).set (p := ⟨OB, 1, none⟩) (.inr rfl) _).set (p := ⟨OB, 2, none⟩) (.inr rfl) _).set (p := ⟨OB, 3, none⟩) (.inr rfl) _).set (p := ⟨OB, 4, none⟩) (.inr rfl) _).set (p := ⟨OB, 5, none⟩) (.inr rfl) _)
 exact (Chg.of_below (hV.trans (hT2.below.mono hV.size))).trans hc (fun x hx => .inr (by rcases hx with rfl | rfl <;> omega))
theorem EI.from_ (hT : TellOk K caps T) (h : EI w F0 T TR PB MB B v1 v2 v3 ss fr bys es F W1) (hc : Chg W1 Z (fun b => Foot PB MB v1 v2 v3 b ∨ F b)) {Bl : Nat} (hB : B ≤ Bl) : KeepsFrom Bl W1 Z := by
 refine ⟨hc.size, fun k o hk ho hn => (hc.block k (Array.getElem?_eq_some_iff.1 ho).1 (fun hf => ?_)).trans ho⟩
 rcases hf with hf | hf
 · have := h.mbc k (by have := h.sp.mB; omega) hf o ho; rw [hn] at this; cases this
 · have := (hT.lt h.tl k hf).2 o ho; rw [hn] at this; cases this
theorem EI.kpd (h : EI w F0 T TR PB MB B v1 v2 v3 ss fr bys es F W1) (hc : Chg W1 Z (fun b => Foot PB MB v1 v2 v3 b ∨ F b)) {p : Nat × Obj} (hp : p ∈ TR) : KpD p.1 W1 Z := fun a v ha hv => by
 obtain ⟨h1, h2, h3⟩ := h.tr p hp
 have he : Z.heap[a.block]? = W1.heap[a.block]? := by
  rw [ha]; exact hc.block p.1 (Array.getElem?_eq_some_iff.1 h1).1 (fun hf => hf.elim h2 h3)
 exact (World.cell?_of_block (w := W1) he).trans hv
theorem total_chg {w3 w4 : World} {A F : Nat → Prop} (h1 : Chg W1 Z (fun _ => False)) (h2 : Chg Z w3 A) (h3 : Chg w3 w4 F) : Chg W1 w4 (fun b => A b ∨ F b) :=
 ((h1.mono (G := fun b => A b ∨ F b) (fun x hx => hx.elim)).trans h2 (fun x hx => .inl (.inl hx))).trans h3 (fun x hx => .inl (.inr hx))
theorem full_step {k0 k1 R Q : Int} {q kk : Nat} {pre : List (Late q)} {x : Late q} {Y Y' : Sx} (hY : (rnds k0 k1 R Q q kk).walk (stp k0 k1 R Q q) kk (pre.map fun x => x.1) = Y) (hgo : Y.go (stp k0 k1 R Q q) kk x.1 = Y') (hf : Y'.full = true) : ((rnds k0 k1 R Q q kk).walk (stp k0 k1 R Q q) kk ((pre ++ [x]).map fun x => x.1)).full = true := by
 rw [List.map_append, List.map_cons, List.map_nil, Sx.walk_snoc, hY, hgo]; exact hf
theorem RI.step {k0 k1 R Q : Int} {q S N kk KB RB : Nat} {fv : Value} {ds : List Nat} {pre : List (Late q)} {x : Late q} {Y Y' : Sx} (hY : (rnds k0 k1 R Q q kk).walk (stp k0 k1 R Q q) kk (pre.map fun x => x.1) = Y) (hgo : Y.go (stp k0 k1 R Q q) kk x.1 = Y') (hf : Y'.full = false) {TR' : List (Nat × Obj)}
 (hE : EI w F0 T TR' (N + 1 + 1) (N + 1) (N + 4) v1 v2 v3 Y'.states Y'.fr Y'.bys Y'.edges F Z) (hs : ∀ p ∈ ((RB, .cells #[.int .i64 k0, .int .i64 k1, .int .i64 R, .int .i64 Q, .int .i64 (q : Int)] 49 (0, 0)) :: (trk KB kk ds ++ trs S (N + 1 + 1 + 1) (N + 1 + 1) [.int .i64 k0, .int .i64 k1, .int .i64 R, .int .i64 Q, .int .i64 (q : Int)] fv) : List (Nat × Obj)), p ∈ TR') : RI k0 k1 R Q q T F0 w S N fv kk KB RB ds (pre ++ [x]) Z := by
 refine ⟨v1, v2, v3, F, ?_, ?_⟩
 · rw [List.map_append, List.map_cons, List.map_nil, Sx.walk_snoc, hY, hgo]; exact hE.sub hs
 · rw [List.map_append, List.map_cons, List.map_nil, Sx.walk_snoc, hY, hgo]; exact hf
end
end Go.Proofs.YtjjikhaaimfneaaGreatDoor
