/-
  WHAT THE LIBRARY's VARIABLES HOLD, and Fields, Itoa at what bench asks of them.
-/
import Derived.Test.YtjjikhaaimfneaaDoorMem
import Derived.Test.YtjjikhaaimfneaaDoorBP
import Derived.Test.YtjjikhaaimfneaaDoorShelf
import Derived.Lib.SmallJoins
namespace Go.Proofs.YtjjikhaaimfneaaDoor
open Go.RowKit
set_option linter.unusedSimpArgs false
set_option linter.unusedVariables false

/-- what the variables hold that are read -/
structure GL (w : World) : Prop where
  sp : Lib.TabIs Tryd.prog w "strings.asciiSpace" .u8 Lib.asciiSpaceTab
  pw : Lib.TabIs Tryd.prog w "internal/strconv.uint64pow10" .u64 Lib.pow10Tab
  ml : ∃ m : Int, w.cell? ⟨5, 0, none⟩ = some (.int .i64 m)
  es : ∃ ev, w.cell? ⟨2, 0, none⟩ = some ev ∧ (ev = .nilIface ∨ ∃ te pe, ev = .iface te pe)
  er : ∃ ev, w.cell? ⟨3, 0, none⟩ = some ev ∧ (ev = .nilIface ∨ ∃ te pe, ev = .iface te pe)
theorem cell_below {w w' : World} {b j : Nat} {v : Value} (h : w.cell? ⟨b, j, none⟩ = some v) (hb : Below w.heap.size w w') : w'.cell? ⟨b, j, none⟩ = some v := by
  have hlt := World.block_lt_of_cell? w _ h
  exact (World.cell?_of_block (a := ⟨b, j, none⟩) (hb.block b hlt)).trans h
theorem GL.below {w w' : World} (h : GL w) (hb : Below w.heap.size w w') : GL w' := by
  obtain ⟨h1, h2, ⟨m, h3⟩, ⟨e4, h4, h4'⟩, ⟨e5, h5, h5'⟩⟩ := h
  exact ⟨Joins.tab_stays (g := 0) (by kernel_rfl) h1 hb (Nat.le_refl _), Joins.tab_stays (g := 4) (by kernel_rfl) h2 hb (Nat.le_refl _), ⟨m, cell_below h3 hb⟩, ⟨e4, cell_below h4 hb, h4'⟩, ⟨e5, cell_below h5 hb, h5'⟩⟩
theorem fields_any (w : World) (h : GL w) : Calls Tryd.prog 15 #[.string ⟨#[118, 101, 103, 97, 115, 32, 99, 111, 112, 97, 32, 108, 101, 100, 98, 97, 116]⟩] w fun e w' => e = .returned (.slice (some ⟨w.heap.size, 0, none⟩) 3 3) ∧ w' = w.alloc (.cells #[.string ⟨veL.toArray⟩, .string ⟨coL.toArray⟩, .string ⟨leL.toArray⟩] 9) := by
  refine (Tryd.strings_Fields ⟨#[118, 101, 103, 97, 115, 32, 99, 111, 112, 97, 32, 108, 101, 100, 98, 97, 116]⟩ w (by decide) (fun j b hj => ?_) h.sp).mono ?_
  · have hm := List.mem_of_getElem? hj
    have : ∀ b ∈ ([118, 101, 103, 97, 115, 32, 99, 111, 112, 97, 32, 108, 101, 100, 98, 97, 116] : List UInt8), b.toNat < 128 := by decide
    exact this b hm
  · rintro e w' ⟨rfl, rfl⟩
    have e1 : Lib.fields (⟨#[118, 101, 103, 97, 115, 32, 99, 111, 112, 97, 32, 108, 101, 100, 98, 97, 116]⟩ : ByteArray).data.toList = [veL, coL, leL] := fields_names
    rw [e1]
    exact ⟨rfl, rfl⟩
theorem itoa_any (n : Int) (h0 : 0 ≤ n) (h1 : n < 100) (w : World) : Calls Tryd.prog 10 #[.int .i64 n] w fun e w' => e = .returned (.string ⟨(Lib.itoa n).toArray⟩) ∧ w' = w := by
  obtain ⟨i, rfl⟩ : ∃ i : Nat, n = (i : Int) := ⟨n.toNat, by omega⟩
  refine (Tryd.strconv_Itoa_small i (by omega) w).mono ?_
  rintro e w' ⟨rfl, rfl⟩
  refine ⟨?_, rfl⟩
  unfold Lib.itoa
  rw [if_neg (by omega)]
  rfl
end Go.Proofs.YtjjikhaaimfneaaDoor
