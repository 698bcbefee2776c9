/-
  Lemmas and walks for the statement: Wrong, Rev.
-/
import Derived.Test.YtagbikgfkakbfaaQ34
import Derived.Test.YtagbikgfkakbfaaQ11
import Derived.Test.YtagbikgfkakbfaaProg
import Derived.Test.YtagbikgfkakbfaaQ01
import Derived.Test.YtagbikgfkakbfaaQ36
namespace Go.Proofs.Ytagbikgfkakbfaa
open Go.RowKit
set_option linter.unusedSimpArgs false
set_option linter.unusedVariables false
attribute [local go_sem] iteMin iteMax iteMinN iteMaxN
def WrongI (N : Int) (es : List GE) (r : Int) : Prop := (r = 0 ∧ GraphOk N es) ∨ (r = 2 ∧ ¬ GraphOk N es)
def IsWrong (N : Int) (es : List GE) (e : Ending) : Prop := ∃ r, WrongI N es r ∧ e = .returned (.int .i64 r)
theorem isWrong0 {N : Int} {es : List GE} (h : GraphOk N es) : IsWrong N es (.returned (.int .i64 0)) := ⟨0, .inl ⟨rfl, h⟩, rfl⟩
theorem isWrong2 {N : Int} {es : List GE} (h : ¬ GraphOk N es) : IsWrong N es (.returned (.int .i64 2)) := ⟨2, .inr ⟨rfl, h⟩, rfl⟩
set_option maxRecDepth 100000 in
set_option maxHeartbeats 8000000 in
theorem wrong_any (N : Int) (a : Option Addr) (n c : Nat) (es : List GE) (w : World) (h : EdgesAt w a n c es) :
 Calls Try.prog 26 #[.agg #[.int .i64 N, .slice a n c]] w fun e w' => IsWrong N es e ∧ Below w.heap.size w w' := by
 have HL := hide h.len
 have hlim := h.lim
 have hB0 : Below w.heap.size w (w.alloc (.cells #[.int .i64 N, .slice a n c] 56)) := (Below.refl _ _).alloc (Nat.le_refl _) _
 rcases (show N < 0 ∨ (0 ≤ N ∧ 300 < N) ∨ (0 ≤ N ∧ N ≤ 300 ∧ 4800 < n) ∨ (0 ≤ N ∧ N ≤ 300 ∧ n ≤ 4800) by omega) with h1 | ⟨h1, h2⟩ | ⟨h1, h2, h3⟩ | ⟨h1, h2, h3⟩
 · have HF := hide (show ¬ GraphOk N es from fun hg => by have := hg.1.1; omega)
   clear h
   go_enter Try.func26, Try.ntmps26
   go_wp2
   go_ret
   exact ⟨isWrong2 HF.out, hB0⟩
 · have HF := hide (show ¬ GraphOk N es from fun hg => by have := hg.1.2.1; omega)
   have hd : ¬ N < 0 := by omega
   clear h
   go_enter Try.func26, Try.ntmps26
   go_wp2
   go_ret
   exact ⟨isWrong2 HF.out, hB0⟩
 · have HF := hide (show ¬ GraphOk N es from fun hg => by have := hg.1.2.2; have := HL.out; omega)
   have hd : ¬ N < 0 := by omega
   have hd2 : ¬ 300 < N := by omega
   have hd3 : (4800 : Int) < (n : Int) := by omega
   clear h
   go_enter Try.func26, Try.ntmps26
   go_wp2
   go_ret
   exact ⟨isWrong2 HF.out, hB0⟩
 · have hd3 : (n : Int) ≤ 4800 := by omega
   obtain ⟨W, hW⟩ : ∃ W, W = w.alloc (.cells #[.int .i64 N, .slice a n c] 56) := ⟨_, rfl⟩
   have b0 : W.cell? ⟨w.heap.size, 0, none⟩ = some (.int .i64 N) := by rw [hW]; simp [go_sem]
   have hWs : W.heap.size = w.heap.size + 1 := by rw [hW]; simp
   have HW := hide hWs
   rw [← hW] at hB0
   have HB0 := hide hB0
   clear hWs hB0
   go_enter Try.func26, Try.ntmps26
   go_wp2
   rw [← hW]
   clear hW
   go_loopw [22] (fun i wr => ∃ k : Nat, k ≤ n ∧ i = .int .i64 k ∧ Hid (∀ j e, j < k → es[j]? = some e → EdgeOk N e) ∧ Below W.heap.size W wr) (fun i _ => n - (intOf i).toNat)
   case atStart => exact ⟨0, Nat.zero_le _, rfl, hide fun j e hj => absurd hj (by omega), Below.refl _ _⟩
   case round =>
    obtain ⟨k, hk, rfl, HA, hB⟩ := hrel
    have k0 : (0 : Int) ≤ (k : Int) := Int.natCast_nonneg _
    have hBs := hB.size
    by_cases hlt : k < n
    · have k1 : (k : Int) < (n : Int) := by omega
      have c0 : wr.cell? ⟨w.heap.size, 0, none⟩ = some (.int .i64 N) := (hB.cell (by show w.heap.size < _; have := HW.out; omega)).trans b0
      obtain ⟨ad, x, y, z, rfl, hbd, HX, e0, e1, e2⟩ := h.getB (HB0.out.trans (hB.mono (by have := HW.out; omega))) hlt
      have hs1 : w.heap.size < wr.heap.size := by have := HW.out; omega
      have HBB := hide (HB0.out.trans (hB.mono (by have := HW.out; omega)))
      rcases (show x < 0 ∨ (0 ≤ x ∧ N ≤ x) ∨ (0 ≤ x ∧ x < N ∧ y < 0) ∨ (0 ≤ x ∧ x < N ∧ 0 ≤ y ∧ N ≤ y) ∨ (0 ≤ x ∧ x < N ∧ 0 ≤ y ∧ y < N ∧ z < -1048576) ∨ (0 ≤ x ∧ x < N ∧ 0 ≤ y ∧ y < N ∧ -1048576 ≤ z ∧ 1048576 < z) ∨ (0 ≤ x ∧ x < N ∧ 0 ≤ y ∧ y < N ∧ -1048576 ≤ z ∧ z ≤ 1048576) by omega) with q | ⟨q0, q⟩ | ⟨q0, q1, q⟩ | ⟨q0, q1, q2, q⟩ | ⟨q0, q1, q2, q3, q⟩ | ⟨q0, q1, q2, q3, q4, q⟩ | ⟨q0, q1, q2, q3, q4, q5⟩
      · have HF := hide (show ¬ GraphOk N es from fun hg => by have := hg.2 _ (List.mem_of_getElem? HX.out); unfold EdgeOk at this; simp only at this; omega)
        go_wp2
        go_ret
        exact ⟨isWrong2 HF.out, HBB.out.alloc (by omega) _⟩
      · have HF := hide (show ¬ GraphOk N es from fun hg => by have := hg.2 _ (List.mem_of_getElem? HX.out); unfold EdgeOk at this; simp only at this; omega)
        go_wp2
        go_ret
        exact ⟨isWrong2 HF.out, HBB.out.alloc (by omega) _⟩
      · have HF := hide (show ¬ GraphOk N es from fun hg => by have := hg.2 _ (List.mem_of_getElem? HX.out); unfold EdgeOk at this; simp only at this; omega)
        go_wp2
        go_ret
        exact ⟨isWrong2 HF.out, HBB.out.alloc (by omega) _⟩
      · have HF := hide (show ¬ GraphOk N es from fun hg => by have := hg.2 _ (List.mem_of_getElem? HX.out); unfold EdgeOk at this; simp only at this; omega)
        go_wp2
        go_ret
        exact ⟨isWrong2 HF.out, HBB.out.alloc (by omega) _⟩
      · have HF := hide (show ¬ GraphOk N es from fun hg => by have := hg.2 _ (List.mem_of_getElem? HX.out); unfold EdgeOk at this; simp only at this; omega)
        go_wp2
        go_ret
        exact ⟨isWrong2 HF.out, HBB.out.alloc (by omega) _⟩
      · have HF := hide (show ¬ GraphOk N es from fun hg => by have := hg.2 _ (List.mem_of_getElem? HX.out); unfold EdgeOk at this; simp only at this; omega)
        go_wp2
        go_ret
        exact ⟨isWrong2 HF.out, HBB.out.alloc (by omega) _⟩
      · go_wp2
        go_roundw
        case rel => exact ⟨k + 1, by omega, by go_num, hide fun j e hj he => by
         rcases (show j < k ∨ j = k by omega) with h4 | rfl
         · exact HA.out j e h4 he
         · have := HX.out; rw [he] at this; injection this with this; subst this; exact ⟨q0, q1, q2, q3, q4, q5⟩, hB.alloc hBs _⟩
        case measure => (simp [intOf] <;> omega)
    · obtain rfl : k = n := by omega
      have HF := hide (show GraphOk N es from ⟨⟨h1, h2, by rw [HL.out]; exact h3⟩, fun e he => by
       obtain ⟨j, hj, rfl⟩ := List.getElem_of_mem he
       exact HA.out j _ (by rw [HL.out] at hj; exact hj) (List.getElem?_eq_getElem hj)⟩)
      have HBB := hide (HB0.out.trans (hB.mono (by have := HW.out; omega)))
      clear h
      go_wp2
      go_ret
      exact ⟨isWrong0 HF.out, HBB.out⟩
end Go.Proofs.Ytagbikgfkakbfaa
namespace Go.Proofs.Ytagbikgfkakbfaa
open Go.RowKit
set_option linter.unusedSimpArgs false
set_option linter.unusedVariables false
theorem size_setCells' (b : Nat) : ∀ (vs : List Value) (o : Nat) (w : World), (w.setCells b o vs).heap.size = w.heap.size
 | [], _, _ => rfl
 | v :: r, o, w => by rw [World.setCells, size_setCells' b r]; simp
theorem below_setCells' {B : Nat} {a : World} (b : Nat) (hb : B ≤ b) : ∀ (vs : List Value) (o : Nat) {w : World}, Below B a w → Below B a (w.setCells b o vs)
 | [], _, _, h => h
 | v :: r, o, _, h => below_setCells' b hb r (o + 1) (h.setCell (p := ⟨b, o, none⟩) hb v)
theorem rev_own {w : World} {B e : Nat} {v : Value} {ns : List Int} (hk : 0 < ns.length) (hl : ns.length ≤ 17592186044416) (h : w.ownsRow B e 1 v ns.length (ns.map (Value.int .i64))) (hB : B ≤ w.heap.size) :
 ∃ g cap, v = .slice (some ⟨g, 0, none⟩) ns.length cap ∧ Calls Try.prog 28 #[.slice (some ⟨g, 0, none⟩) ns.length cap] w fun e w' => e = .returned (.tuple #[]) ∧ IntsAt w' (some ⟨g, 0, none⟩) ns.length cap ns.reverse ∧ Below B w w' := by
 obtain ⟨m, hm⟩ : ∃ m, ns.length = m + 1 := ⟨ns.length - 1, by omega⟩
 rw [hm] at h
 obtain ⟨g, cap, rfl, hg, hgs, hc, hcell, hfz⟩ := own_form h
 rw [← hm]
 refine ⟨g, cap, rfl, ?_⟩
 have hcell' : ∀ j, j < ns.length → w.cell? ⟨g, 0 + j, none⟩ = some (.int .i64 (ns.getD j 0)) := fun j hj => by
  rw [Nat.zero_add]
  refine hcell j _ ?_
  rw [List.getElem?_map, List.getElem?_eq_getElem hj, List.getD_eq_getElem?_getD, List.getElem?_eq_getElem hj]; rfl
 refine (Try.slices_Reverse_int_cells g 0 ns.length cap ns w (Nat.le_refl _) (by omega) hcell' (fun j _ => by rw [Nat.zero_add]; exact hfz j)).mono ?_
 rintro e w' ⟨rfl, q, rfl⟩
 refine ⟨rfl, ⟨by simp, by omega, hl, fun _ => ⟨_, rfl, ?_, fun j x hx => ?_⟩⟩, below_setCells' g hg _ _ (below_drewN (Below.refl _ _) q)⟩
 · rw [size_setCells']; simpa using hgs
 · have hj := (List.getElem?_eq_some_iff.1 hx).1
   rw [List.length_reverse] at hj
   have e1 : (⟨g, 0, none⟩ : Addr).add j = ⟨g, 0 + j, none⟩ := by unfold Addr.add; split <;> simp_all
   rw [e1]
   rw [List.take_length]
   have := World.cell?_setCells_in g (ns.reverse.map (Value.int .i64)) 0 (w.drewN q) (fun j hj => by
    have hj' : j < ns.length := by simpa using hj
    have := hcell' j hj'
    show (w.drewN q).cell? _ |>.isSome
    rw [World.cell?_drewN, this]; rfl) j (by simpa using hj)
   rw [this]
   simp only [List.getElem_map]
   rw [List.getElem?_eq_getElem (by simpa using hj)] at hx
   injection hx with hx
   rw [hx]
end Go.Proofs.Ytagbikgfkakbfaa
