/-
  WALKS: the queue's tick.
-/
import Derived.Test.YtdlljemabbccjaaSl
import Derived.Test.YtdlljemabbccjaaMin
import Derived.Test.YtdlljemabbccjaaProg
import Derived.OneCell
namespace Go.Proofs.Ytdlljemabbccjaa
open Go.RowKit
set_option linter.unusedSimpArgs false
set_option linter.unusedVariables false

attribute [local go_sem] iteMin iteMax iteMinN iteMaxN

theorem cell3 {w : World} {b : Nat} {x y z : Value} {t : TypeId} (h : w.heap[b]? = some (.cells #[x, y, z] t (0, 0))) : w.cell? ⟨b, 0, none⟩ = some x ∧ w.cell? ⟨b, 1, none⟩ = some y ∧ w.cell? ⟨b, 2, none⟩ = some z ∧ (∀ j, w.frozen? ⟨b, j, none⟩ = false) := by
  refine ⟨?_, ?_, ?_, fun j => ?_⟩ <;> simp [World.cell?, World.frozen?, h]
theorem set3 {w : World} {b : Nat} {x y z u : Value} {t : TypeId} (h : w.heap[b]? = some (.cells #[x, y, z] t (0, 0))) : (w.setCell ⟨b, 2, none⟩ u).heap[b]? = some (.cells #[x, y, u] t (0, 0)) := by
  have hb := lt_of_block h
  simp [World.setCell, h, Array.getElem?_modify]
theorem grown_set (w : World) (b j : Nat) (u : Value) : w.grownBy (w.setCell ⟨b, j, none⟩ u) (some b) := by
  refine ⟨rfl, rfl, rfl, by simp [World.setCell], fun k hk hne => ?_⟩
  have hne' : ¬ b = k := fun e => hne (by rw [e])
  simp [World.setCell, Array.getElem?_modify, hne']
theorem grown_trans {a b c : World} {row : Option Nat} (h : a.grownBy b row) (h' : b.grownBy c row) : a.grownBy c row :=
  ⟨h'.os.trans h.os, h'.tape.trans h.tape, h'.output.trans h.output, Nat.le_trans h.size h'.size, fun k hk hne => (h'.block k (Nat.lt_of_lt_of_le hk h.size) hne).trans (h.block k hk hne)⟩
theorem grown_drewN (w : World) (m : Nat) (row : Option Nat) : w.grownBy (w.drewN m) row := ⟨rfl, rfl, rfl, Nat.le_refl _, fun _ _ _ => rfl⟩
theorem tick_world {w : World} {b : Nat} {x y z : Value} {t : TypeId} (a1 a2 a3 : Value) (m n : Nat) (h : w.heap[b]? = some (.cells #[x, y, z] t (0, 0))) :
    (((((w.setCell ⟨b, 2, none⟩ a1).drewN m).setCell ⟨b, 2, none⟩ a2).drewN n).setCell ⟨b, 2, none⟩ a3).heap[b]? = some (.cells #[x, y, a3] t (0, 0)) ∧
    w.grownBy (((((w.setCell ⟨b, 2, none⟩ a1).drewN m).setCell ⟨b, 2, none⟩ a2).drewN n).setCell ⟨b, 2, none⟩ a3) (some b) := by
  have h1 := set3 (u := a1) h
  have h2 := set3 (w := (w.setCell ⟨b, 2, none⟩ a1).drewN m) (u := a2) h1
  have h3 := set3 (w := ((((w.setCell ⟨b, 2, none⟩ a1).drewN m).setCell ⟨b, 2, none⟩ a2).drewN n)) (u := a3) h2
  exact ⟨h3, grown_trans (grown_trans (grown_trans (grown_trans (grown_set _ _ _ _) (grown_drewN _ _ _)) (grown_set _ _ _ _)) (grown_drewN _ _ _)) (grown_set _ _ _ _)⟩
set_option maxHeartbeats 4000000 in
theorem tick_any (b : Nat) (r m wt x : Int) (w : World) (hb : w.heap[b]? = some (.cells #[.int .i64 r, .int .i64 m, .int .i64 wt] 85 (0, 0))) (hr : 0 ≤ r ∧ r ≤ 1099511627776) (hm : 0 ≤ m ∧ m ≤ 1099511627776) (hw : 0 ≤ wt ∧ wt ≤ 1099511627776) (hx : 0 ≤ x ∧ x ≤ 1099511627776) :
    Calls Try.prog 66 #[.pointer (some ⟨b, 0, none⟩), .int .i64 x] w fun e w' => e = .returned (.tuple #[.int .i64 (min (wt + x) r), .int .i64 (max (wt + x - min (wt + x) r - m) 0)]) ∧ w'.heap[b]? = some (.cells #[.int .i64 r, .int .i64 m, .int .i64 (wt + x - min (wt + x) r - max (wt + x - min (wt + x) r - m) 0)] 85 (0, 0)) ∧ w.grownBy w' (some b) := by
  obtain ⟨c0, c1, c2, cf⟩ := cell3 hb
  obtain ⟨r0, r1⟩ := hr
  obtain ⟨m0, m1⟩ := hm
  obtain ⟨w0, w1⟩ := hw
  obtain ⟨x0, x1⟩ := hx
  have hf := cf 2
  have HB := hide hb
  clear cf hb
  go_enter Try.func66, Try.ntmps66
  go_wp2
  go_quiet (fail)
  go_wp2
  go_quiet (fail)
  go_wp2
  go_ret2
  exact ⟨rfl, tick_world _ _ _ _ _ HB.out⟩

end Go.Proofs.Ytdlljemabbccjaa
