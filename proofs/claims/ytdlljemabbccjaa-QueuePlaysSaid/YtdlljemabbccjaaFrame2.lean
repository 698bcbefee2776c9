/-
  LEMMAS: a nil slice among the arguments. No program in sight.
-/
import Derived.Test.YtdlljemabbccjaaFrame
namespace Go.Proofs.Ytdlljemabbccjaa
open Go.RowKit Go.ChangeShapes Go.WideShapes
set_option linter.unusedSimpArgs false
set_option linter.unusedVariables false

section
variable {H : Type} {enc : TypeId × Value → H} {P : Program} {w : World} {base : Nat}
/-- nil is empty, with no room -/
theorem open_none {t e : TypeId} {a : Option Addr} {n c : Nat} {d : DataW H} {p : List MemPlace} (ht : P.underlying t = some (.slice e)) (he : P.underlying e = some (.int .i64)) (hcell : P.cellsOf e = 1)
    (h : DataW.Trod enc P w base (fun _ => true) true t (.slice a n c) d p) : a = none → n = 0 ∧ c = 0 := by
  rintro rfl
  obtain ⟨fuel, hf⟩ := h
  rcases open_ints ht he hcell hf with ⟨hcs, hx⟩ | ⟨x, l, c', zs, hcs, hbx, hl, hm, hz, hx, hc, hwz⟩
  · simp [Value.cells] at hcs
    exact hcs
  · simp [Value.cells] at hcs
end

end Go.Proofs.Ytdlljemabbccjaa
