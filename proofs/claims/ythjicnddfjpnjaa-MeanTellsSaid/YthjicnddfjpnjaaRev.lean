/-
  CONTRACT: slices.Reverse of a row of the call's own.
-/
import Derived.Test.YthjicnddfjpnjaaSl
import Derived.Test.YthjicnddfjpnjaaShelf
namespace Go.Proofs.Ythjicnddfjpnjaa
open Go.RowKit
set_option linter.unusedSimpArgs false
set_option linter.unusedVariables false

theorem size_setCells' (b : Nat) : ∀ (vs : List Value) (o : Nat) (w : World), (w.setCells b o vs).heap.size = w.heap.size
  | [], _, _ => rfl
  | v :: r, o, w => by rw [World.setCells, size_setCells' b r]; simp
theorem below_setCells' {B : Nat} {a : World} (b : Nat) (hb : B ≤ b) : ∀ (vs : List Value) (o : Nat) {w : World}, Below B a w → Below B a (w.setCells b o vs)
  | [], _, _, h => h
  | v :: r, o, _, h => below_setCells' b hb r (o + 1) (h.setCell (p := ⟨b, o, none⟩) hb v)
theorem rev_own {w : World} {B e : Nat} {v : Value} {ns : List Int} (hk : 0 < ns.length) (hl : ns.length ≤ 17592186044416) (h : w.ownsRow B e 1 v ns.length (ns.map (Value.int .i64))) (hB : B ≤ w.heap.size) :
    ∃ g cap, v = .slice (some ⟨g, 0, none⟩) ns.length cap ∧ Calls Try.prog 56 #[.slice (some ⟨g, 0, none⟩) ns.length cap] w fun e w' => e = .returned (.tuple #[]) ∧ IntsAt w' (some ⟨g, 0, none⟩) ns.length cap ns.reverse ∧ Below B w w' := by
  obtain ⟨m, hm⟩ : ∃ m, ns.length = m + 1 := ⟨ns.length - 1, by omega⟩
  rw [hm] at h
  obtain ⟨g, cap, rfl, hg, hgs, hc, hcell, hfz⟩ := own_form h
  rw [← hm]
  refine ⟨g, cap, rfl, ?_⟩
  have hcell' : ∀ j, j < ns.length → w.cell? ⟨g, 0 + j, none⟩ = some (.int .i64 (ns.getD j 0)) := fun j hj => by
    rw [Nat.zero_add]
    refine hcell j _ ?_
    rw [List.getElem?_map, List.getElem?_eq_getElem hj, List.getD_eq_getElem?_getD, List.getElem?_eq_getElem hj]; rfl
  refine (Try.slices_Reverse_int_cells g 0 ns.length cap ns w (Nat.le_refl _) (by omega) hcell' (fun j _ => by rw [Nat.zero_add]; exact hfz j)).mono ?_
  rintro e w' ⟨rfl, q, rfl⟩
  refine ⟨rfl, ⟨by simp, by omega, hl, fun _ => ⟨_, rfl, ?_, fun j x hx => ?_⟩⟩, below_setCells' g hg _ _ (below_drewN (Below.refl _ _) q)⟩
  · rw [size_setCells']; simpa using hgs
  · have hj := (List.getElem?_eq_some_iff.1 hx).1
    rw [List.length_reverse] at hj
    have e1 : (⟨g, 0, none⟩ : Addr).add j = ⟨g, 0 + j, none⟩ := by unfold Addr.add; split <;> simp_all
    rw [e1]
    rw [List.take_length]
    have := World.cell?_setCells_in g (ns.reverse.map (Value.int .i64)) 0 (w.drewN q) (fun j hj => by
      have hj' : j < ns.length := by simpa using hj
      have := hcell' j hj'
      show (w.drewN q).cell? _ |>.isSome
      rw [World.cell?_drewN, this]; rfl) j (by simpa using hj)
    rw [this]
    simp only [List.getElem_map]
    rw [List.getElem?_eq_getElem (by simpa using hj)] at hx
    injection hx with hx
    rw [hx]

end Go.Proofs.Ythjicnddfjpnjaa
