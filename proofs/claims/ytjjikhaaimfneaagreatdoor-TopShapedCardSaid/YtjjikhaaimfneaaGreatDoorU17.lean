/-
  Lemmas and walks for the statement: Pairs, Duel3.
-/
import Derived.Test.YtjjikhaaimfneaaGreatDoorU16
import Derived.Test.YtjjikhaaimfneaaGreatDoorU01
import Derived.Lib.SmallJoins
import Derived.Deep.Slices
import Derived.Deep.Fields
import Derived.ChangeSame
import Derived.Test.YtjjikhaaimfneaaGreatDoorU04
import Derived.Test.YtjjikhaaimfneaaGreatDoorU10
import Derived.Shelf.Abstract
namespace Go.Proofs.YtjjikhaaimfneaaGreatDoor
open Go.Joins Go.RowKit Go.ChangeShapes Go.WideShapes Go.Deep
set_option linter.unusedSimpArgs false
set_option linter.unusedVariables false
structure P2 where
 x : Int
 y : Int
def PairsAt (w : World) (a : Option Addr) (n c : Nat) (es : List P2) : Prop :=
 es.length = n ∧ n ≤ c ∧ n ≤ 17592186044416 ∧ (0 < n → ∃ ad, a = some ad ∧ ad.block < w.heap.size ∧ ∀ (j : Nat) (e : P2), es[j]? = some e → w.cell? (ad.add (j * 2)) = some (.int .i64 e.x) ∧ w.cell? (ad.add (j * 2 + 1)) = some (.int .i64 e.y))
structure R6 where
 x0 : Int
 x1 : Int
 x2 : Int
 x3 : Int
 x4 : Int
 x5 : Int
def R6.cells (r : R6) : List Value := [.int .i64 r.x0, .int .i64 r.x1, .int .i64 r.x2, .int .i64 r.x3, .int .i64 r.x4, .int .i64 r.x5]
def flat6 (l : List R6) : List Value := l.flatMap R6.cells
theorem flat6_get {l : List R6} {j : Nat} {r : R6} (h : l[j]? = some r) (i : Nat) (hi : i < 6) : (flat6 l)[j * 6 + i]? = r.cells[i]? := by
 induction l generalizing j with
 | nil => simp at h
 | cons s l ih =>
   have e : flat6 (s :: l) = s.cells ++ flat6 l := by simp [flat6]
   have hl : s.cells.length = 6 := rfl
   rw [e]
   cases j with
   | zero =>
     simp at h; subst h
     rw [List.getElem?_append_left (by omega)]; simp
   | succ j =>
     simp at h
     rw [List.getElem?_append_right (by omega), hl, show (j + 1) * 6 + i - 6 = j * 6 + i by omega]
     exact ih h
def RoundsAt (w : World) (a : Option Addr) (n c : Nat) (L : List R6) : Prop :=
 L.length = n ∧ n ≤ c ∧ n ≤ 17592186044416 ∧ (0 < n → ∃ ad, a = some ad ∧ ad.block < w.heap.size ∧ ∀ (j : Nat) (r : R6), L[j]? = some r → ∀ i v, i < 6 → r.cells[i]? = some v → w.cell? (ad.add (j * 6 + i)) = some v)
section
variable {w w' : World} {a : Option Addr} {n c : Nat} {es : List P2} {L : List R6}
theorem PairsAt.len (h : PairsAt w a n c es) : es.length = n := h.1
theorem PairsAt.lim (h : PairsAt w a n c es) : n ≤ 17592186044416 := h.2.2.1
theorem PairsAt.below (h : PairsAt w a n c es) (hb : Below w.heap.size w w') : PairsAt w' a n c es :=
 ⟨h.1, h.2.1, h.2.2.1, fun hn => by
  obtain ⟨ad, e, hlt, hc⟩ := h.2.2.2 hn
  refine ⟨ad, e, Nat.lt_of_lt_of_le hlt hb.size, fun j x hx => ?_⟩
  obtain ⟨c0, c1⟩ := hc j x hx
  exact ⟨(hb.cell (by rw [block_add]; exact hlt)).trans c0, (hb.cell (by rw [block_add]; exact hlt)).trans c1⟩⟩
theorem PairsAt.getB {k : Nat} (h : PairsAt w a n c es) (hb : Below w.heap.size w w') (hk : k < n) : ∃ ad x y, a = some ad ∧ (ad.add (k * 2)).block < w.heap.size ∧ Hid (es[k]? = some ⟨x, y⟩) ∧
 w'.cell? (ad.add (k * 2)) = some (.int .i64 x) ∧ w'.cell? ⟨(ad.add (k * 2)).block, (ad.add (k * 2)).off + 1, none⟩ = some (.int .i64 y) := by
 obtain ⟨ad, e, hlt, hc⟩ := h.2.2.2 (by omega)
 have hl : k < es.length := by rw [h.1]; exact hk
 have hg : es[k]? = some es[k] := List.getElem?_eq_getElem hl
 obtain ⟨c0, c1⟩ := hc k _ hg
 rw [show k * 2 + 1 = k * 2 + (0 + 1) by omega, add_parts] at c1
 exact ⟨ad, es[k].x, es[k].y, e, by rw [block_add]; exact hlt, hg, (hb.cell (by rw [block_add]; exact hlt)).trans c0, (hb.cell (by simp only [block_add]; exact hlt)).trans c1⟩
theorem RoundsAt.len (h : RoundsAt w a n c L) : L.length = n := h.1
theorem RoundsAt.lim (h : RoundsAt w a n c L) : n ≤ 17592186044416 := h.2.2.1
theorem RoundsAt.nil_ (w : World) : RoundsAt w none 0 0 [] := ⟨rfl, Nat.le_refl _, by omega, fun h => absurd h (by omega)⟩
theorem RoundsAt.below (h : RoundsAt w a n c L) (hb : Below w.heap.size w w') : RoundsAt w' a n c L :=
 ⟨h.1, h.2.1, h.2.2.1, fun hn => by
  obtain ⟨ad, e, hlt, hc⟩ := h.2.2.2 hn
  exact ⟨ad, e, Nat.lt_of_lt_of_le hlt hb.size, fun j r hr i v hi hv => (hb.cell (by rw [block_add]; exact hlt)).trans (hc j r hr i v hi hv)⟩⟩
theorem RoundsAt.getB {k : Nat} (h : RoundsAt w a n c L) (hb : Below w.heap.size w w') (hk : k < n) : ∃ ad, a = some ad ∧ (ad.add (k * 6)).block < w.heap.size ∧ ∃ r, L[k]? = some r ∧
 w'.cell? (ad.add (k * 6)) = some (.int .i64 r.x0) ∧ w'.cell? ⟨(ad.add (k * 6)).block, (ad.add (k * 6)).off + 1, none⟩ = some (.int .i64 r.x1) ∧ w'.cell? ⟨(ad.add (k * 6)).block, (ad.add (k * 6)).off + 2, none⟩ = some (.int .i64 r.x2) ∧ w'.cell? ⟨(ad.add (k * 6)).block, (ad.add (k * 6)).off + 3, none⟩ = some (.int .i64 r.x3) ∧ w'.cell? ⟨(ad.add (k * 6)).block, (ad.add (k * 6)).off + 4, none⟩ = some (.int .i64 r.x4) ∧ w'.cell? ⟨(ad.add (k * 6)).block, (ad.add (k * 6)).off + 5, none⟩ = some (.int .i64 r.x5) := by
 obtain ⟨ad, e, hlt, hc⟩ := h.2.2.2 (by omega)
 have hl : k < L.length := by rw [h.1]; exact hk
 have hg : L[k]? = some L[k] := List.getElem?_eq_getElem hl
 have h0 := hc k _ hg 0 _ (by omega) rfl
 rw [show k * 6 + 0 = k * 6 by omega] at h0
 have key : ∀ i v, i + 1 < 6 → L[k].cells[i + 1]? = some v → w'.cell? ⟨(ad.add (k * 6)).block, (ad.add (k * 6)).off + (i + 1), none⟩ = some v := fun i v hi hv => by
  have h1 := hc k _ hg (i + 1) v hi hv
  rw [add_parts] at h1
  exact (hb.cell (by simp only [block_add]; exact hlt)).trans h1
 exact ⟨ad, e, by rw [block_add]; exact hlt, L[k], hg, (hb.cell (by rw [block_add]; exact hlt)).trans h0, key 0 _ (by omega) rfl, key 1 _ (by omega) rfl, key 2 _ (by omega) rfl, key 3 _ (by omega) rfl, key 4 _ (by omega) rfl⟩
theorem RoundsAt.of_own {B : Nat} {e : TypeId} {v : Value} (h : w.ownsRow B e 6 v L.length (flat6 L)) (hl : L.length ≤ 17592186044416) :
 ∃ a c, v = .slice a L.length c ∧ RoundsAt w a L.length c L := by
 rcases h.2 with ⟨rfl, h0⟩ | ⟨g, cap, cur, rfl, _, hg, hn, _, hs, hx⟩
 · have : L = [] := List.eq_nil_of_length_eq_zero h0
   subst this
   exact ⟨none, 0, rfl, RoundsAt.nil_ w⟩
 · refine ⟨_, _, rfl, rfl, hn, hl, fun h0 => ⟨_, rfl, ?_, fun j r hj i v hi hv => ?_⟩⟩
   · rcases Nat.lt_or_ge g w.heap.size with h1 | h1
     · exact h1
     · rw [Array.getElem?_eq_none h1] at hg; cases hg
   · have hjl := (List.getElem?_eq_some_iff.1 hj).1
     have e1 : (⟨g, 0, none⟩ : Addr).add (j * 6 + i) = ⟨g, j * 6 + i, none⟩ := by unfold Addr.add; split <;> simp_all
     rw [e1]
     have e2 : w.cell? ⟨g, j * 6 + i, none⟩ = cur[j * 6 + i]? := by simp [World.cell?, hg]
     rw [e2]
     have e3 : (cur.toList.take (L.length * 6))[j * 6 + i]? = some v := by rw [hx, flat6_get hj i hi, hv]
     rw [List.getElem?_take, if_pos (by omega)] at e3
     simpa using e3
end
def rdI (w : World) (p : Addr) : Int := match w.cell? p with | some (.int _ x) => x | _ => 0
section
variable {H : Type} {enc : TypeId × Value → H} {P : Program} {w : World} {base : Nat}
end
end Go.Proofs.YtjjikhaaimfneaaGreatDoor
namespace Go.Proofs.YtjjikhaaimfneaaGreatDoor
open Go.RowKit
set_option linter.unusedSimpArgs false
set_option linter.unusedVariables false
attribute [local go_sem] iteMin iteMax iteMinN iteMaxN
def startL (k0 k1 : Int) : List Value := [.int .i64 k0, .int .i64 1, .int .i64 (-1), .int .i64 0, .int .i64 0, .int .i64 0, .int .i64 k1, .int .i64 1, .int .i64 (-1), .int .i64 0, .int .i64 0, .int .i64 0, .int .i64 0, .int .i64 0]
set_option maxRecDepth 100000 in
set_option maxHeartbeats 8000000 in
theorem start_ok (k0 k1 R Q J : Int) (w : World) (hk : kindsOk k0 k1) (hr : rangeOk R Q J) : Calls Tryz.prog 65 #[.agg #[.int .i64 k0, .int .i64 k1, .int .i64 R, .int .i64 Q, .int .i64 J]] w fun e w' => e = .returned (.tuple #[.agg (startL k0 k1).toArray, .int .i64 0]) ∧ Below w.heap.size w w' := by
 obtain ⟨S, hS⟩ : ∃ S, w.heap.size = S := ⟨_, rfl⟩
 have i0 : ∀ w : World, (Instr.index 47 (.agg #[.int .i64 k0, .int .i64 k1]) (.int .i64 0)).run Tryz.prog w = .ok (.int .i64 k0) w := fun _ => by kernel_rfl
 have i1 : ∀ w : World, (Instr.index 47 (.agg #[.int .i64 k0, .int .i64 k1]) (.int .i64 1)).run Tryz.prog w = .ok (.int .i64 k1) w := fun _ => by kernel_rfl
 have hk' := hk
 unfold kindsOk at hk'
 obtain ⟨f0, g0, h0, hK0, hof0⟩ := of_gen k0 (by omega) (by omega)
 obtain ⟨f1, g1, h1, hK1, hof1⟩ := of_gen k1 (by omega) (by omega)
 have EF0 := hK0.out.1
 have EF1 := hK1.out.1
 have BG0 := hide hK0.out.2.2.2.1
 have BG1 := hide hK1.out.2.2.2.1
 have OF0 := hide hof0
 have OF1 := hide hof1
 unfold EntersF at EF0 EF1
 unfold BeginIs at BG0 BG1
 clear hK0 hK1 hof0 hof1 hk'
 go_enter Tryz.func65, Tryz.ntmps65
 go_wp2_with fail
 obtain ⟨W, hW⟩ : ∃ W, W = (w.alloc (.cells #[.int .i64 k0, .int .i64 k1, .int .i64 R, .int .i64 Q, .int .i64 J] 49)).alloc (.cells #[.int .i64 0, .int .i64 0, .int .i64 0, .int .i64 0, .int .i64 0, .int .i64 0, .int .i64 0, .int .i64 0, .int .i64 0, .int .i64 0, .int .i64 0, .int .i64 0, .int .i64 0, .int .i64 0] 133) := ⟨_, rfl⟩
 rw [← hW]
 have b0 : Blk W S [.int .i64 k0, .int .i64 k1, .int .i64 R, .int .i64 Q, .int .i64 J] := by
  have := (Blk.new w [.int .i64 k0, .int .i64 k1, .int .i64 R, .int .i64 Q, .int .i64 J] 49).alloc (.cells #[.int .i64 0, .int .i64 0, .int .i64 0, .int .i64 0, .int .i64 0, .int .i64 0, .int .i64 0, .int .i64 0, .int .i64 0, .int .i64 0, .int .i64 0, .int .i64 0, .int .i64 0, .int .i64 0] 133)
  rw [hW]; simpa [hS] using this
 have b1 : Blk W (S + 1) [.int .i64 0, .int .i64 0, .int .i64 0, .int .i64 0, .int .i64 0, .int .i64 0, .int .i64 0, .int .i64 0, .int .i64 0, .int .i64 0, .int .i64 0, .int .i64 0, .int .i64 0, .int .i64 0] := by
  have := Blk.new (w.alloc (.cells #[.int .i64 k0, .int .i64 k1, .int .i64 R, .int .i64 Q, .int .i64 J] 49)) [.int .i64 0, .int .i64 0, .int .i64 0, .int .i64 0, .int .i64 0, .int .i64 0, .int .i64 0, .int .i64 0, .int .i64 0, .int .i64 0, .int .i64 0, .int .i64 0, .int .i64 0, .int .i64 0] 133
  rw [hW]; simpa [hS] using this
 have BS : Below S w W := by rw [hW, ← hS]; exact ((Below.refl _ _).alloc (Nat.le_refl _) _).alloc (by simp) _
 clear hW
 refine (dwrong_any k0 k1 R Q J W).mono ?_
 rintro e w1 ⟨hw, hB1⟩
 obtain rfl := hw.ok hk hr
 have R0 := b0.below hB1 b0.lt
 have P := b1.below hB1 b1.lt
 have BS := BS.trans (hB1.mono (by have := b0.lt; omega))
 clear b0 b1 hB1 hw
 obtain ⟨T, hT⟩ : ∃ T, w1.heap.size = T := ⟨_, rfl⟩
 have hST : S + 1 < T := by rw [← hT]; exact P.lt
 obtain ⟨X, hX⟩ : ∃ X, X = w1.alloc (.cells #[.int .i64 0, .int .i64 0, .int .i64 0, .int .i64 0, .int .i64 0, .int .i64 0, .int .i64 0, .int .i64 0, .int .i64 0, .int .i64 0, .int .i64 0, .int .i64 0, .int .i64 0, .int .i64 0] 133) := ⟨_, rfl⟩
 have Tb : Blk X T [.int .i64 0, .int .i64 0, .int .i64 0, .int .i64 0, .int .i64 0, .int .i64 0, .int .i64 0, .int .i64 0, .int .i64 0, .int .i64 0, .int .i64 0, .int .i64 0, .int .i64 0, .int .i64 0] := by rw [hX, ← hT]; exact Blk.new _ _ _
 have R0 := R0.alloc (.cells #[.int .i64 0, .int .i64 0, .int .i64 0, .int .i64 0, .int .i64 0, .int .i64 0, .int .i64 0, .int .i64 0, .int .i64 0, .int .i64 0, .int .i64 0, .int .i64 0, .int .i64 0, .int .i64 0] 133)
 have P := P.alloc (.cells #[.int .i64 0, .int .i64 0, .int .i64 0, .int .i64 0, .int .i64 0, .int .i64 0, .int .i64 0, .int .i64 0, .int .i64 0, .int .i64 0, .int .i64 0, .int .i64 0, .int .i64 0, .int .i64 0] 133)
 have BS := BS.alloc (by omega) (.cells #[.int .i64 0, .int .i64 0, .int .i64 0, .int .i64 0, .int .i64 0, .int .i64 0, .int .i64 0, .int .i64 0, .int .i64 0, .int .i64 0, .int .i64 0, .int .i64 0, .int .i64 0, .int .i64 0] 133)
 rw [← hX] at R0 P BS
 have r0 := (R0 0 _ rfl).1
 have r1 := (R0 1 _ rfl).1
 rw [hX] at r0 r1
 have HX := hide hX
 have HP := hide P; have HT := hide Tb; have HBS := hide BS
 clear hX R0 P Tb BS
 go_wp2
 rw [← HX.out]
 have P := HP.out; have Tb := HT.out; have BS := HBS.out
 have hXs : S + 2 ≤ X.heap.size := by have := P.lt; omega
 clear r0 r1 HP HT HBS
 refine wp_loop_rounds 3 ?_
 rw [rounds_succ]
 clear hk
 go_wp2_with fail
 refine (OF0.out X).mono ?_
 rintro e u0 ⟨rfl, hA0⟩
 obtain ⟨V0, hV0⟩ : ∃ V, V = u0.alloc (.cells #[.func (.func f0) #[] #[], .func (.func g0) #[] #[], .func (.func h0) #[] #[]] 154) := ⟨_, rfl⟩
 have P := (P.below hA0 P.lt).alloc (.cells #[.func (.func f0) #[] #[], .func (.func g0) #[] #[], .func (.func h0) #[] #[]] 154)
 have Tb := (Tb.below hA0 Tb.lt).alloc (.cells #[.func (.func f0) #[] #[], .func (.func g0) #[] #[], .func (.func h0) #[] #[]] 154)
 have BS := (BS.trans (hA0.mono (by omega))).alloc (by have := hA0.size; omega) (.cells #[.func (.func f0) #[] #[], .func (.func g0) #[] #[], .func (.func h0) #[] #[]] 154)
 rw [← hV0] at P Tb BS
 have HV := hide hV0
 clear hV0 hA0
 have HP := hide P; have HT := hide Tb; have HBS := hide BS
 have HAF0 : Hid (∀ u, Below V0.heap.size V0 u → u.cell? ⟨T, 0, none⟩ = some (.int .i64 0) ∧ u.frozen? ⟨T, 0, none⟩ = false ∧ u.cell? ⟨T, 1, none⟩ = some (.int .i64 0) ∧ u.frozen? ⟨T, 1, none⟩ = false ∧ u.cell? ⟨T, 2, none⟩ = some (.int .i64 0) ∧ u.frozen? ⟨T, 2, none⟩ = false ∧ u.cell? ⟨T, 3, none⟩ = some (.int .i64 0) ∧ u.frozen? ⟨T, 3, none⟩ = false ∧ u.cell? ⟨T, 4, none⟩ = some (.int .i64 0) ∧ u.frozen? ⟨T, 4, none⟩ = false ∧ u.cell? ⟨T, 5, none⟩ = some (.int .i64 0) ∧ u.frozen? ⟨T, 5, none⟩ = false) := hide (fun u hb => by
  have t := Tb.below hb Tb.lt
  exact ⟨(t 0 _ rfl).1, (t 0 _ rfl).2, (t 1 _ rfl).1, (t 1 _ rfl).2, (t 2 _ rfl).1, (t 2 _ rfl).2, (t 3 _ rfl).1, (t 3 _ rfl).2, (t 4 _ rfl).1, (t 4 _ rfl).2, (t 5 _ rfl).1, (t 5 _ rfl).2⟩)
 clear P Tb BS
 go_wp2_with (go_at_fn f0; rw [← HV.out]; refine (BG0.out V0).mono ?_; rintro e x0 ⟨rfl, hB0⟩; obtain ⟨a0_0, a0_f0, a0_1, a0_f1, a0_2, a0_f2, a0_3, a0_f3, a0_4, a0_f4, a0_5, a0_f5⟩ := HAF0.out x0 hB0; have HB := hide hB0; have HX := hide hB0.size; clear hB0)
 have P := HP.out.below HB.out HP.out.lt
 have Tb := HT.out.below HB.out HT.out.lt
 have BS := HBS.out.trans (HB.out.mono (by have := HP.out.lt; omega))
 clear HP HT HBS HV HB
 have HP := hide P; have HT := hide Tb; have HBS := hide BS
 clear P Tb BS
 clear a0_0 a0_f0 a0_1 a0_f1 a0_2 a0_f2 a0_3 a0_f3 a0_4 a0_f4 a0_5 a0_f5
 obtain ⟨Z0, hZ0⟩ : ∃ Z, Z = ((((((x0.setCell ⟨T, 0, none⟩ (.int .i64 k0)).setCell ⟨T, 1, none⟩ (.int .i64 1)).setCell ⟨T, 2, none⟩ (.int .i64 (-1))).setCell ⟨T, 3, none⟩ (.int .i64 0)).setCell ⟨T, 4, none⟩ (.int .i64 0)).setCell ⟨T, 5, none⟩ (.int .i64 0)) := ⟨_, rfl⟩
 have P : Blk Z0 (S + 1) [.int .i64 0, .int .i64 0, .int .i64 0, .int .i64 0, .int .i64 0, .int .i64 0, .int .i64 0, .int .i64 0, .int .i64 0, .int .i64 0, .int .i64 0, .int .i64 0, .int .i64 0, .int .i64 0] := by rw [hZ0]; exact ((((((HP.out.other ⟨T, 0, none⟩ (.int .i64 k0) (by simp only; omega)).other ⟨T, 1, none⟩ (.int .i64 1) (by simp only; omega)).other ⟨T, 2, none⟩ (.int .i64 (-1)) (by simp only; omega)).other ⟨T, 3, none⟩ (.int .i64 0) (by simp only; omega)).other ⟨T, 4, none⟩ (.int .i64 0) (by simp only; omega)).other ⟨T, 5, none⟩ (.int .i64 0) (by simp only; omega))
 have Tb : Blk Z0 T [.int .i64 k0, .int .i64 1, .int .i64 (-1), .int .i64 0, .int .i64 0, .int .i64 0, .int .i64 0, .int .i64 0, .int .i64 0, .int .i64 0, .int .i64 0, .int .i64 0, .int .i64 0, .int .i64 0] := by rw [hZ0]; exact ((((((HT.out.set (j := 0) (by simp) (.int .i64 k0)).set (j := 1) (by simp) (.int .i64 1)).set (j := 2) (by simp) (.int .i64 (-1))).set (j := 3) (by simp) (.int .i64 0)).set (j := 4) (by simp) (.int .i64 0)).set (j := 5) (by simp) (.int .i64 0))
 have BS : Below S w Z0 := by rw [hZ0]; exact ((((((HBS.out.setCell (p := ⟨T, 0, none⟩) (by simp only; omega) _).setCell (p := ⟨T, 1, none⟩) (by simp only; omega) _).setCell (p := ⟨T, 2, none⟩) (by simp only; omega) _).setCell (p := ⟨T, 3, none⟩) (by simp only; omega) _).setCell (p := ⟨T, 4, none⟩) (by simp only; omega) _).setCell (p := ⟨T, 5, none⟩) (by simp only; omega) _)
 rw [← hZ0]
 clear hZ0 HP HT HBS
 rw [rounds_succ]
 have hXs : S + 2 ≤ Z0.heap.size := by have := P.lt; omega
 have HP := hide P; have HT := hide Tb; have HBS := hide BS
 clear P Tb BS
 go_wp2_with fail
 have P := HP.out; have Tb := HT.out; have BS := HBS.out
 clear HP HT HBS
 refine (OF1.out Z0).mono ?_
 rintro e u1 ⟨rfl, hA1⟩
 obtain ⟨V1, hV1⟩ : ∃ V, V = u1.alloc (.cells #[.func (.func f1) #[] #[], .func (.func g1) #[] #[], .func (.func h1) #[] #[]] 154) := ⟨_, rfl⟩
 have P := (P.below hA1 P.lt).alloc (.cells #[.func (.func f1) #[] #[], .func (.func g1) #[] #[], .func (.func h1) #[] #[]] 154)
 have Tb := (Tb.below hA1 Tb.lt).alloc (.cells #[.func (.func f1) #[] #[], .func (.func g1) #[] #[], .func (.func h1) #[] #[]] 154)
 have BS := (BS.trans (hA1.mono (by omega))).alloc (by have := hA1.size; omega) (.cells #[.func (.func f1) #[] #[], .func (.func g1) #[] #[], .func (.func h1) #[] #[]] 154)
 rw [← hV1] at P Tb BS
 have HV := hide hV1
 clear hV1 hA1
 have HP := hide P; have HT := hide Tb; have HBS := hide BS
 have HAF1 : Hid (∀ u, Below V1.heap.size V1 u → u.cell? ⟨T, 6, none⟩ = some (.int .i64 0) ∧ u.frozen? ⟨T, 6, none⟩ = false ∧ u.cell? ⟨T, 7, none⟩ = some (.int .i64 0) ∧ u.frozen? ⟨T, 7, none⟩ = false ∧ u.cell? ⟨T, 8, none⟩ = some (.int .i64 0) ∧ u.frozen? ⟨T, 8, none⟩ = false ∧ u.cell? ⟨T, 9, none⟩ = some (.int .i64 0) ∧ u.frozen? ⟨T, 9, none⟩ = false ∧ u.cell? ⟨T, 10, none⟩ = some (.int .i64 0) ∧ u.frozen? ⟨T, 10, none⟩ = false ∧ u.cell? ⟨T, 11, none⟩ = some (.int .i64 0) ∧ u.frozen? ⟨T, 11, none⟩ = false) := hide (fun u hb => by
  have t := Tb.below hb Tb.lt
  exact ⟨(t 6 _ rfl).1, (t 6 _ rfl).2, (t 7 _ rfl).1, (t 7 _ rfl).2, (t 8 _ rfl).1, (t 8 _ rfl).2, (t 9 _ rfl).1, (t 9 _ rfl).2, (t 10 _ rfl).1, (t 10 _ rfl).2, (t 11 _ rfl).1, (t 11 _ rfl).2⟩)
 clear P Tb BS
 go_wp2_with (go_at_fn f1; rw [← HV.out]; refine (BG1.out V1).mono ?_; rintro e x1 ⟨rfl, hB1⟩; obtain ⟨a1_6, a1_f6, a1_7, a1_f7, a1_8, a1_f8, a1_9, a1_f9, a1_10, a1_f10, a1_11, a1_f11⟩ := HAF1.out x1 hB1; have HB := hide hB1; have HX := hide hB1.size; clear hB1)
 have P := HP.out.below HB.out HP.out.lt
 have Tb := HT.out.below HB.out HT.out.lt
 have BS := HBS.out.trans (HB.out.mono (by have := HP.out.lt; omega))
 clear HP HT HBS HV HB
 have HP := hide P; have HT := hide Tb; have HBS := hide BS
 clear P Tb BS
 clear a1_6 a1_f6 a1_7 a1_f7 a1_8 a1_f8 a1_9 a1_f9 a1_10 a1_f10 a1_11 a1_f11
 obtain ⟨Z1, hZ1⟩ : ∃ Z, Z = ((((((x1.setCell ⟨T, 6, none⟩ (.int .i64 k1)).setCell ⟨T, 7, none⟩ (.int .i64 1)).setCell ⟨T, 8, none⟩ (.int .i64 (-1))).setCell ⟨T, 9, none⟩ (.int .i64 0)).setCell ⟨T, 10, none⟩ (.int .i64 0)).setCell ⟨T, 11, none⟩ (.int .i64 0)) := ⟨_, rfl⟩
 have P : Blk Z1 (S + 1) [.int .i64 0, .int .i64 0, .int .i64 0, .int .i64 0, .int .i64 0, .int .i64 0, .int .i64 0, .int .i64 0, .int .i64 0, .int .i64 0, .int .i64 0, .int .i64 0, .int .i64 0, .int .i64 0] := by rw [hZ1]; exact ((((((HP.out.other ⟨T, 6, none⟩ (.int .i64 k1) (by simp only; omega)).other ⟨T, 7, none⟩ (.int .i64 1) (by simp only; omega)).other ⟨T, 8, none⟩ (.int .i64 (-1)) (by simp only; omega)).other ⟨T, 9, none⟩ (.int .i64 0) (by simp only; omega)).other ⟨T, 10, none⟩ (.int .i64 0) (by simp only; omega)).other ⟨T, 11, none⟩ (.int .i64 0) (by simp only; omega))
 have Tb : Blk Z1 T [.int .i64 k0, .int .i64 1, .int .i64 (-1), .int .i64 0, .int .i64 0, .int .i64 0, .int .i64 k1, .int .i64 1, .int .i64 (-1), .int .i64 0, .int .i64 0, .int .i64 0, .int .i64 0, .int .i64 0] := by rw [hZ1]; exact ((((((HT.out.set (j := 6) (by simp) (.int .i64 k1)).set (j := 7) (by simp) (.int .i64 1)).set (j := 8) (by simp) (.int .i64 (-1))).set (j := 9) (by simp) (.int .i64 0)).set (j := 10) (by simp) (.int .i64 0)).set (j := 11) (by simp) (.int .i64 0))
 have BS : Below S w Z1 := by rw [hZ1]; exact ((((((HBS.out.setCell (p := ⟨T, 6, none⟩) (by simp only; omega) _).setCell (p := ⟨T, 7, none⟩) (by simp only; omega) _).setCell (p := ⟨T, 8, none⟩) (by simp only; omega) _).setCell (p := ⟨T, 9, none⟩) (by simp only; omega) _).setCell (p := ⟨T, 10, none⟩) (by simp only; omega) _).setCell (p := ⟨T, 11, none⟩) (by simp only; omega) _)
 rw [← hZ1]
 clear hZ1 HP HT HBS
 rw [rounds_succ]
 have p_0 := (P 0 _ rfl).1
 have p_f0 := (P 0 _ rfl).2
 have p_1 := (P 1 _ rfl).1
 have p_f1 := (P 1 _ rfl).2
 have p_2 := (P 2 _ rfl).1
 have p_f2 := (P 2 _ rfl).2
 have p_3 := (P 3 _ rfl).1
 have p_f3 := (P 3 _ rfl).2
 have p_4 := (P 4 _ rfl).1
 have p_f4 := (P 4 _ rfl).2
 have p_5 := (P 5 _ rfl).1
 have p_f5 := (P 5 _ rfl).2
 have p_6 := (P 6 _ rfl).1
 have p_f6 := (P 6 _ rfl).2
 have p_7 := (P 7 _ rfl).1
 have p_f7 := (P 7 _ rfl).2
 have p_8 := (P 8 _ rfl).1
 have p_f8 := (P 8 _ rfl).2
 have p_9 := (P 9 _ rfl).1
 have p_f9 := (P 9 _ rfl).2
 have p_10 := (P 10 _ rfl).1
 have p_f10 := (P 10 _ rfl).2
 have p_11 := (P 11 _ rfl).1
 have p_f11 := (P 11 _ rfl).2
 have p_12 := (P 12 _ rfl).1
 have p_f12 := (P 12 _ rfl).2
 have p_13 := (P 13 _ rfl).1
 have p_f13 := (P 13 _ rfl).2
 have t_0 := (Tb 0 _ rfl).1
 have t_1 := (Tb 1 _ rfl).1
 have t_2 := (Tb 2 _ rfl).1
 have t_3 := (Tb 3 _ rfl).1
 have t_4 := (Tb 4 _ rfl).1
 have t_5 := (Tb 5 _ rfl).1
 have t_6 := (Tb 6 _ rfl).1
 have t_7 := (Tb 7 _ rfl).1
 have t_8 := (Tb 8 _ rfl).1
 have t_9 := (Tb 9 _ rfl).1
 have t_10 := (Tb 10 _ rfl).1
 have t_11 := (Tb 11 _ rfl).1
 have t_12 := (Tb 12 _ rfl).1
 have t_13 := (Tb 13 _ rfl).1
 have HP := hide P; have HBS := hide BS
 clear P Tb BS
 go_wp2
 obtain ⟨Z, hZ⟩ : ∃ Z, Z = ((((((((((((((Z1.setCell ⟨S + 1, 0, none⟩ (.int .i64 k0)).setCell ⟨S + 1, 1, none⟩ (.int .i64 1)).setCell ⟨S + 1, 2, none⟩ (.int .i64 (-1))).setCell ⟨S + 1, 3, none⟩ (.int .i64 0)).setCell ⟨S + 1, 4, none⟩ (.int .i64 0)).setCell ⟨S + 1, 5, none⟩ (.int .i64 0)).setCell ⟨S + 1, 6, none⟩ (.int .i64 k1)).setCell ⟨S + 1, 7, none⟩ (.int .i64 1)).setCell ⟨S + 1, 8, none⟩ (.int .i64 (-1))).setCell ⟨S + 1, 9, none⟩ (.int .i64 0)).setCell ⟨S + 1, 10, none⟩ (.int .i64 0)).setCell ⟨S + 1, 11, none⟩ (.int .i64 0)).setCell ⟨S + 1, 12, none⟩ (.int .i64 0)).setCell ⟨S + 1, 13, none⟩ (.int .i64 0)) := ⟨_, rfl⟩
 have z : Blk Z (S + 1) [.int .i64 k0, .int .i64 1, .int .i64 (-1), .int .i64 0, .int .i64 0, .int .i64 0, .int .i64 k1, .int .i64 1, .int .i64 (-1), .int .i64 0, .int .i64 0, .int .i64 0, .int .i64 0, .int .i64 0] := by rw [hZ]; exact ((((((((((((((HP.out.set (j := 0) (by simp) (.int .i64 k0)).set (j := 1) (by simp) (.int .i64 1)).set (j := 2) (by simp) (.int .i64 (-1))).set (j := 3) (by simp) (.int .i64 0)).set (j := 4) (by simp) (.int .i64 0)).set (j := 5) (by simp) (.int .i64 0)).set (j := 6) (by simp) (.int .i64 k1)).set (j := 7) (by simp) (.int .i64 1)).set (j := 8) (by simp) (.int .i64 (-1))).set (j := 9) (by simp) (.int .i64 0)).set (j := 10) (by simp) (.int .i64 0)).set (j := 11) (by simp) (.int .i64 0)).set (j := 12) (by simp) (.int .i64 0)).set (j := 13) (by simp) (.int .i64 0))
 have zB : Below S w Z := by rw [hZ]; exact ((((((((((((((HBS.out.setCell (p := ⟨S + 1, 0, none⟩) (by simp only; omega) _).setCell (p := ⟨S + 1, 1, none⟩) (by simp only; omega) _).setCell (p := ⟨S + 1, 2, none⟩) (by simp only; omega) _).setCell (p := ⟨S + 1, 3, none⟩) (by simp only; omega) _).setCell (p := ⟨S + 1, 4, none⟩) (by simp only; omega) _).setCell (p := ⟨S + 1, 5, none⟩) (by simp only; omega) _).setCell (p := ⟨S + 1, 6, none⟩) (by simp only; omega) _).setCell (p := ⟨S + 1, 7, none⟩) (by simp only; omega) _).setCell (p := ⟨S + 1, 8, none⟩) (by simp only; omega) _).setCell (p := ⟨S + 1, 9, none⟩) (by simp only; omega) _).setCell (p := ⟨S + 1, 10, none⟩) (by simp only; omega) _).setCell (p := ⟨S + 1, 11, none⟩) (by simp only; omega) _).setCell (p := ⟨S + 1, 12, none⟩) (by simp only; omega) _).setCell (p := ⟨S + 1, 13, none⟩) (by simp only; omega) _)
 rw [← hZ]
 clear hZ
 have z_0 := (z 0 _ rfl).1
 have z_1 := (z 1 _ rfl).1
 have z_2 := (z 2 _ rfl).1
 have z_3 := (z 3 _ rfl).1
 have z_4 := (z 4 _ rfl).1
 have z_5 := (z 5 _ rfl).1
 have z_6 := (z 6 _ rfl).1
 have z_7 := (z 7 _ rfl).1
 have z_8 := (z 8 _ rfl).1
 have z_9 := (z 9 _ rfl).1
 have z_10 := (z 10 _ rfl).1
 have z_11 := (z 11 _ rfl).1
 have z_12 := (z 12 _ rfl).1
 have z_13 := (z 13 _ rfl).1
 refine bodyPost_ret (v := .tuple #[.agg (startL k0 k1).toArray, .int .i64 0]) ?_ rfl ⟨rfl, ?_⟩
 · simp [results, Tryz.f65, go_sem, startL, z_0, z_1, z_2, z_3, z_4, z_5, z_6, z_7, z_8, z_9, z_10, z_11, z_12, z_13]
 · first | exact zB | (rw [hS]; exact zB)
end Go.Proofs.YtjjikhaaimfneaaGreatDoor
