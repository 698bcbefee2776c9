/-
  Lemmas and walks for the statement: BenchTellsW.
-/
import Derived.Test.YtjjikhaaimfneaaGreatDoorE51
namespace Go.Proofs.YtjjikhaaimfneaaGreatDoor
open Go.RowKit
set_option linter.unusedSimpArgs false
set_option linter.unusedVariables false
theorem tsay_len {s : List UInt8} {ratio r : Int} {ls : List (List UInt8)} (h : TSay s ratio ls r) : ls.length ≤ 2 := by
 obtain ⟨k0, k1, R, Q, J, e, hp, ho⟩ := h
 rcases ho with ⟨_, rfl, _⟩ | ⟨_, a0, m0, e0, a1, m1, e1, _, _, ⟨_, rfl, _⟩ | ⟨_, _, rfl, _⟩ | ⟨_, _, rfl, _⟩⟩ <;> simp
def bytesL (ls : List (List UInt8)) : List ByteArray := ls.map fun l => ⟨l.toArray⟩
theorem bytesL_len (ls : List (List UInt8)) : (bytesL ls).length = ls.length := by simp [bytesL]
theorem own_strs {w : World} {B : Nat} {e : TypeId} {v : Value} {ls : List (List UInt8)} (h : w.ownsRow B e 1 v ls.length (ls.map strV)) (h0 : ls.length ≠ 0) :
 ∃ g c, v = .slice (some ⟨g, 0, none⟩) ls.length c ∧ ∀ j, j < (bytesL ls).length → w.cell? ⟨g, 0 + j, none⟩ = some (.string ((bytesL ls).getD j ByteArray.empty)) := by
 rcases h.2 with ⟨rfl, h1⟩ | ⟨g, cap, cur, rfl, _, hg, hn, _, hs, hx⟩
 · exact absurd h1 h0
 · refine ⟨g, cap, rfl, fun j hj => ?_⟩
   rw [bytesL_len] at hj
   have e2 : w.cell? ⟨g, 0 + j, none⟩ = cur[j]? := by simp [World.cell?, hg]
   rw [e2]
   have e3 : (cur.toList.take (ls.length * 1))[j]? = some (.string ((bytesL ls).getD j ByteArray.empty)) := by
    rw [hx, List.getElem?_map, List.getD_eq_getElem?_getD, bytesL, List.getElem?_map, List.getElem?_eq_getElem hj]; rfl
   rw [List.getElem?_take, if_pos (by omega)] at e3
   simpa using e3
theorem equal_strs {w : World} {B B' : Nat} {e e' : TypeId} {v v' : Value} {ls : List (List UInt8)} (hl : ls.length ≤ 2) (h : w.ownsRow B e 1 v ls.length (ls.map strV)) (h' : w.ownsRow B' e' 1 v' ls.length (ls.map strV)) :
 Calls Tryz.prog 20 #[v, v'] w fun e w' => e = .returned (.bool true) ∧ Below w.heap.size w w' := by
 by_cases h0 : ls.length = 0
 · obtain ⟨a, c, rfl⟩ := sliceShape h
   obtain ⟨a', c', rfl⟩ := sliceShape h'
   rw [h0]
   refine (Tryz.slices_Equal_string_empty a a' c 0 c' w (by omega)).mono ?_
   rintro e w' ⟨rfl, rfl⟩
   exact ⟨by simp, Below.refl _ _⟩
 · obtain ⟨g, c, rfl, hc⟩ := own_strs h h0
   obtain ⟨g', c', rfl, hc'⟩ := own_strs h' h0
   refine (Tryz.slices_Equal_string g 0 ls.length c g' 0 ls.length c' (bytesL ls) (bytesL ls) w (by rw [bytesL_len]; exact Nat.le_refl _) (by rw [bytesL_len]; exact Nat.le_refl _) (by omega) (by omega) hc hc').mono ?_
   rintro e w' ⟨rfl, q, rfl⟩
   exact ⟨by simp, Go.below_drewN (Below.refl _ _) _⟩
set_option maxRecDepth 100000 in
set_option maxHeartbeats 8000000 in
theorem benchTellsW (w : World) (s : ByteArray) (ratio : Int) (hs : s.size ≤ 2000000) (hG : GL w) :
 Calls Tryz.prog 5 #[.string s, .int .i64 ratio] w fun e w' => e = .returned (.bool true) ∧ Below w.heap.size w w' := by
 have HG := hide hG
 clear hG
 go_enter Tryz.func5, Tryz.ntmps5
 go_wp2_with fail
 refine (tell_any s hs ratio w HG.out).mono ?_
 rintro e w1 ⟨⟨ls, r, v, B, rfl, hsay, hrow⟩, hA⟩
 have HB1 := hide hA
 have HS := hide hsay
 have HR1 := hide hrow
 clear hA hsay hrow
 go_wp2_with fail
 refine (utell_any s ratio w1 (HG.out.below HB1.out)).mono ?_
 rintro e w2 ⟨⟨ls', r', v', B', rfl, hsay, hrow⟩, hA⟩
 obtain ⟨rfl, rfl⟩ := tsay_one HS.out hsay
 have HR2 := hide hrow
 have HR3 := hide (own_below HR1.out hA)
 have HB2 := hide (HB1.out.trans (hA.mono HB1.out.size))
 clear hA hsay hrow HR1 HB1
 go_wp2_with fail
 refine (equal_strs (tsay_len HS.out) HR3.out HR2.out).mono ?_
 rintro e w3 ⟨rfl, hA⟩
 have HB3 := hide (HB2.out.trans (hA.mono HB2.out.size))
 clear hA
 go_wp2
 go_ret
 exact ⟨by first | rfl | simp, HB3.out⟩
end Go.Proofs.YtjjikhaaimfneaaGreatDoor
