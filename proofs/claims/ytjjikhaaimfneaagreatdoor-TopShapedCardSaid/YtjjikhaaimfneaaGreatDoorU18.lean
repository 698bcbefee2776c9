/-
  Lemmas and walks for the statement: Duel4, PlaySpec.
-/
import Derived.Test.YtjjikhaaimfneaaGreatDoorU17
import Derived.Deep.RegionHeld3
import Derived.Deep.DeepCutAuto
import Derived.BigRegion
import Derived.Test.YtjjikhaaimfneaaGreatDoorU16
namespace Go.Proofs.YtjjikhaaimfneaaGreatDoor
open Go.RowKit
set_option linter.unusedSimpArgs false
set_option linter.unusedVariables false
attribute [local go_sem] iteMin iteMax iteMinN iteMaxN
set_option maxRecDepth 100000 in
set_option maxHeartbeats 4000000 in
theorem start_bad (k0 k1 R Q J r : Int) (w : World) (hr : WrongSays k0 k1 R Q J r) (h0 : r ≠ 0) : Calls Tryz.prog 65 #[.agg #[.int .i64 k0, .int .i64 k1, .int .i64 R, .int .i64 Q, .int .i64 J]] w fun e w' => e = .returned (.tuple #[.agg #[.int .i64 0, .int .i64 0, .int .i64 0, .int .i64 0, .int .i64 0, .int .i64 0, .int .i64 0, .int .i64 0, .int .i64 0, .int .i64 0, .int .i64 0, .int .i64 0, .int .i64 0, .int .i64 0], .int .i64 r]) ∧ Below w.heap.size w w' := by
 have h0' : (r == 0) = false := by simp; omega
 obtain ⟨S, hS⟩ : ∃ S, w.heap.size = S := ⟨_, rfl⟩
 go_enter Tryz.func65, Tryz.ntmps65
 go_wp2_with fail
 obtain ⟨W, hW⟩ : ∃ W, W = (w.alloc (.cells #[.int .i64 k0, .int .i64 k1, .int .i64 R, .int .i64 Q, .int .i64 J] 49)).alloc (.cells #[.int .i64 0, .int .i64 0, .int .i64 0, .int .i64 0, .int .i64 0, .int .i64 0, .int .i64 0, .int .i64 0, .int .i64 0, .int .i64 0, .int .i64 0, .int .i64 0, .int .i64 0, .int .i64 0] 133) := ⟨_, rfl⟩
 rw [← hW]
 have b0 : Blk W S [.int .i64 k0, .int .i64 k1, .int .i64 R, .int .i64 Q, .int .i64 J] := by
  have := (Blk.new w [.int .i64 k0, .int .i64 k1, .int .i64 R, .int .i64 Q, .int .i64 J] 49).alloc (.cells #[.int .i64 0, .int .i64 0, .int .i64 0, .int .i64 0, .int .i64 0, .int .i64 0, .int .i64 0, .int .i64 0, .int .i64 0, .int .i64 0, .int .i64 0, .int .i64 0, .int .i64 0, .int .i64 0] 133)
  rw [hW]; simpa [hS] using this
 have b1 : Blk W (S + 1) [.int .i64 0, .int .i64 0, .int .i64 0, .int .i64 0, .int .i64 0, .int .i64 0, .int .i64 0, .int .i64 0, .int .i64 0, .int .i64 0, .int .i64 0, .int .i64 0, .int .i64 0, .int .i64 0] := by
  have := Blk.new (w.alloc (.cells #[.int .i64 k0, .int .i64 k1, .int .i64 R, .int .i64 Q, .int .i64 J] 49)) [.int .i64 0, .int .i64 0, .int .i64 0, .int .i64 0, .int .i64 0, .int .i64 0, .int .i64 0, .int .i64 0, .int .i64 0, .int .i64 0, .int .i64 0, .int .i64 0, .int .i64 0, .int .i64 0] 133
  rw [hW]; simpa [hS] using this
 have BS : Below S w W := by rw [hW, ← hS]; exact ((Below.refl _ _).alloc (Nat.le_refl _) _).alloc (by simp) _
 clear hW
 refine (dwrong_any k0 k1 R Q J W).mono ?_
 rintro e w1 ⟨⟨r', rfl, hr'⟩, hB1⟩
 obtain rfl := wrongSays_one hr hr'
 have P := b1.below hB1 b1.lt
 have BS := BS.trans (hB1.mono (by have := b0.lt; omega))
 clear b0 b1 hB1 hr' hr
 have p_0 := (P 0 _ rfl).1
 have p_f0 := (P 0 _ rfl).2
 have p_1 := (P 1 _ rfl).1
 have p_f1 := (P 1 _ rfl).2
 have p_2 := (P 2 _ rfl).1
 have p_f2 := (P 2 _ rfl).2
 have p_3 := (P 3 _ rfl).1
 have p_f3 := (P 3 _ rfl).2
 have p_4 := (P 4 _ rfl).1
 have p_f4 := (P 4 _ rfl).2
 have p_5 := (P 5 _ rfl).1
 have p_f5 := (P 5 _ rfl).2
 have p_6 := (P 6 _ rfl).1
 have p_f6 := (P 6 _ rfl).2
 have p_7 := (P 7 _ rfl).1
 have p_f7 := (P 7 _ rfl).2
 have p_8 := (P 8 _ rfl).1
 have p_f8 := (P 8 _ rfl).2
 have p_9 := (P 9 _ rfl).1
 have p_f9 := (P 9 _ rfl).2
 have p_10 := (P 10 _ rfl).1
 have p_f10 := (P 10 _ rfl).2
 have p_11 := (P 11 _ rfl).1
 have p_f11 := (P 11 _ rfl).2
 have p_12 := (P 12 _ rfl).1
 have p_f12 := (P 12 _ rfl).2
 have p_13 := (P 13 _ rfl).1
 have p_f13 := (P 13 _ rfl).2
 have HP := hide P; have HBS := hide BS
 clear P BS
 go_wp2
 obtain ⟨Z, hZ⟩ : ∃ Z, Z = ((((((((((((((w1.setCell ⟨S + 1, 0, none⟩ (.int .i64 0)).setCell ⟨S + 1, 1, none⟩ (.int .i64 0)).setCell ⟨S + 1, 2, none⟩ (.int .i64 0)).setCell ⟨S + 1, 3, none⟩ (.int .i64 0)).setCell ⟨S + 1, 4, none⟩ (.int .i64 0)).setCell ⟨S + 1, 5, none⟩ (.int .i64 0)).setCell ⟨S + 1, 6, none⟩ (.int .i64 0)).setCell ⟨S + 1, 7, none⟩ (.int .i64 0)).setCell ⟨S + 1, 8, none⟩ (.int .i64 0)).setCell ⟨S + 1, 9, none⟩ (.int .i64 0)).setCell ⟨S + 1, 10, none⟩ (.int .i64 0)).setCell ⟨S + 1, 11, none⟩ (.int .i64 0)).setCell ⟨S + 1, 12, none⟩ (.int .i64 0)).setCell ⟨S + 1, 13, none⟩ (.int .i64 0)) := ⟨_, rfl⟩
 have z : Blk Z (S + 1) [.int .i64 0, .int .i64 0, .int .i64 0, .int .i64 0, .int .i64 0, .int .i64 0, .int .i64 0, .int .i64 0, .int .i64 0, .int .i64 0, .int .i64 0, .int .i64 0, .int .i64 0, .int .i64 0] := by rw [hZ]; exact ((((((((((((((HP.out.set (j := 0) (by simp) (.int .i64 0)).set (j := 1) (by simp) (.int .i64 0)).set (j := 2) (by simp) (.int .i64 0)).set (j := 3) (by simp) (.int .i64 0)).set (j := 4) (by simp) (.int .i64 0)).set (j := 5) (by simp) (.int .i64 0)).set (j := 6) (by simp) (.int .i64 0)).set (j := 7) (by simp) (.int .i64 0)).set (j := 8) (by simp) (.int .i64 0)).set (j := 9) (by simp) (.int .i64 0)).set (j := 10) (by simp) (.int .i64 0)).set (j := 11) (by simp) (.int .i64 0)).set (j := 12) (by simp) (.int .i64 0)).set (j := 13) (by simp) (.int .i64 0))
 have zB : Below S w Z := by rw [hZ]; exact ((((((((((((((HBS.out.setCell (p := ⟨S + 1, 0, none⟩) (by simp only; omega) _).setCell (p := ⟨S + 1, 1, none⟩) (by simp only; omega) _).setCell (p := ⟨S + 1, 2, none⟩) (by simp only; omega) _).setCell (p := ⟨S + 1, 3, none⟩) (by simp only; omega) _).setCell (p := ⟨S + 1, 4, none⟩) (by simp only; omega) _).setCell (p := ⟨S + 1, 5, none⟩) (by simp only; omega) _).setCell (p := ⟨S + 1, 6, none⟩) (by simp only; omega) _).setCell (p := ⟨S + 1, 7, none⟩) (by simp only; omega) _).setCell (p := ⟨S + 1, 8, none⟩) (by simp only; omega) _).setCell (p := ⟨S + 1, 9, none⟩) (by simp only; omega) _).setCell (p := ⟨S + 1, 10, none⟩) (by simp only; omega) _).setCell (p := ⟨S + 1, 11, none⟩) (by simp only; omega) _).setCell (p := ⟨S + 1, 12, none⟩) (by simp only; omega) _).setCell (p := ⟨S + 1, 13, none⟩) (by simp only; omega) _)
 rw [← hZ]
 clear hZ
 have z_0 := (z 0 _ rfl).1
 have z_1 := (z 1 _ rfl).1
 have z_2 := (z 2 _ rfl).1
 have z_3 := (z 3 _ rfl).1
 have z_4 := (z 4 _ rfl).1
 have z_5 := (z 5 _ rfl).1
 have z_6 := (z 6 _ rfl).1
 have z_7 := (z 7 _ rfl).1
 have z_8 := (z 8 _ rfl).1
 have z_9 := (z 9 _ rfl).1
 have z_10 := (z 10 _ rfl).1
 have z_11 := (z 11 _ rfl).1
 have z_12 := (z 12 _ rfl).1
 have z_13 := (z 13 _ rfl).1
 refine bodyPost_ret (v := .tuple #[.agg #[.int .i64 0, .int .i64 0, .int .i64 0, .int .i64 0, .int .i64 0, .int .i64 0, .int .i64 0, .int .i64 0, .int .i64 0, .int .i64 0, .int .i64 0, .int .i64 0, .int .i64 0, .int .i64 0], .int .i64 r]) ?_ rfl ⟨rfl, ?_⟩
 · simp [results, Tryz.f65, go_sem, z_0, z_1, z_2, z_3, z_4, z_5, z_6, z_7, z_8, z_9, z_10, z_11, z_12, z_13]
 · first | exact zB | (rw [hS]; exact zB)
end Go.Proofs.YtjjikhaaimfneaaGreatDoor
namespace Go.Proofs.YtjjikhaaimfneaaGreatDoor
open Go.RowKit
set_option linter.unusedSimpArgs false
set_option linter.unusedVariables false
noncomputable def stepR (k0 k1 R Q J l0 l1 : Int) : List Int → List Int × List Int × Int
 | [a0, a1, a2, a3, a4, a5, b0, b1, b2, b3, b4, b5, x, y] => (Classical.choose (step_both2 k0 k1 R Q J a0 a1 a2 a3 a4 a5 b0 b1 b2 b3 b4 b5 x y l0 l1), Classical.choose (Classical.choose_spec (step_both2 k0 k1 R Q J a0 a1 a2 a3 a4 a5 b0 b1 b2 b3 b4 b5 x y l0 l1)), Classical.choose (Classical.choose_spec (Classical.choose_spec (step_both2 k0 k1 R Q J a0 a1 a2 a3 a4 a5 b0 b1 b2 b3 b4 b5 x y l0 l1))))
 | _ => (List.replicate 14 0, List.replicate 6 0, 0)
theorem stepR_is (k0 k1 R Q J a0 a1 a2 a3 a4 a5 b0 b1 b2 b3 b4 b5 x y l0 l1 : Int) : StepIs k0 k1 R Q J a0 a1 a2 a3 a4 a5 b0 b1 b2 b3 b4 b5 x y l0 l1 (stepR k0 k1 R Q J l0 l1 [a0, a1, a2, a3, a4, a5, b0, b1, b2, b3, b4, b5, x, y]).1 (stepR k0 k1 R Q J l0 l1 [a0, a1, a2, a3, a4, a5, b0, b1, b2, b3, b4, b5, x, y]).2.1 (stepR k0 k1 R Q J l0 l1 [a0, a1, a2, a3, a4, a5, b0, b1, b2, b3, b4, b5, x, y]).2.2 :=
 (Classical.choose_spec (Classical.choose_spec (Classical.choose_spec (step_both2 k0 k1 R Q J a0 a1 a2 a3 a4 a5 b0 b1 b2 b3 b4 b5 x y l0 l1)))).1
theorem stepR_good (k0 k1 R Q J a0 a1 a2 a3 a4 a5 b0 b1 b2 b3 b4 b5 x y l0 l1 : Int) : StepGood k0 k1 R Q J a0 a1 a2 a3 a4 a5 b0 b1 b2 b3 b4 b5 x y l0 l1 (stepR k0 k1 R Q J l0 l1 [a0, a1, a2, a3, a4, a5, b0, b1, b2, b3, b4, b5, x, y]).1 (stepR k0 k1 R Q J l0 l1 [a0, a1, a2, a3, a4, a5, b0, b1, b2, b3, b4, b5, x, y]).2.1 (stepR k0 k1 R Q J l0 l1 [a0, a1, a2, a3, a4, a5, b0, b1, b2, b3, b4, b5, x, y]).2.2 :=
 (Classical.choose_spec (Classical.choose_spec (Classical.choose_spec (step_both2 k0 k1 R Q J a0 a1 a2 a3 a4 a5 b0 b1 b2 b3 b4 b5 x y l0 l1)))).2
theorem stepR_len (k0 k1 R Q J l0 l1 : Int) (s : List Int) : (stepR k0 k1 R Q J l0 l1 s).1.length = 14 ∧ (stepR k0 k1 R Q J l0 l1 s).2.1.length = 6 ∧ (∀ z ∈ (stepR k0 k1 R Q J l0 l1 s).1, Sml z) ∧ (∀ z ∈ (stepR k0 k1 R Q J l0 l1 s).2.1, Sml z) := by
 by_cases h : s.length = 14
 · obtain ⟨a0, a1, a2, a3, a4, a5, b0, b1, b2, b3, b4, b5, x, y, rfl⟩ := len14 h
   obtain ⟨h1, h2, h3, h4, _, _⟩ := stepR_is k0 k1 R Q J a0 a1 a2 a3 a4 a5 b0 b1 b2 b3 b4 b5 x y l0 l1
   exact ⟨h1, h2, h3, h4⟩
 · have : stepR k0 k1 R Q J l0 l1 s = (List.replicate 14 0, List.replicate 6 0, 0) := by
    unfold stepR
    split
    · exact absurd rfl h
    · rfl
   rw [this]
   exact ⟨rfl, rfl, zero_sml _, zero_sml _⟩
def startI (k0 k1 : Int) : List Int := [k0, 1, -1, 0, 0, 0, k1, 1, -1, 0, 0, 0, 0, 0]
section
variable (k0 k1 R Q J : Int) (es : List P2)
def lateAt (k : Nat) : P2 := es.getD k ⟨0, 0⟩
noncomputable def stS : Nat → List Int
 | 0 => startI k0 k1
 | k + 1 => (stepR k0 k1 R Q J (lateAt es k).x (lateAt es k).y (stS k)).1
noncomputable def stU (k : Nat) : List Int := (stepR k0 k1 R Q J (lateAt es k).x (lateAt es k).y (stS k0 k1 R Q J es k)).2.1
noncomputable def stE (k : Nat) : Int := (stepR k0 k1 R Q J (lateAt es k).x (lateAt es k).y (stS k0 k1 R Q J es k)).2.2
def r6of (l : List Int) : R6 := ⟨l.getD 0 0, l.getD 1 0, l.getD 2 0, l.getD 3 0, l.getD 4 0, l.getD 5 0⟩
noncomputable def rounds6 (k : Nat) : List R6 := (List.range k).map fun j => r6of (stU k0 k1 R Q J es j)
def Small6 (r : R6) : Prop := Sml r.x0 ∧ Sml r.x1 ∧ Sml r.x2 ∧ Sml r.x3 ∧ Sml r.x4 ∧ Sml r.x5
def PlaySays (n : Nat) (L : List R6) (ss : List Int) (r : Int) : Prop :=
 ((∀ j, j < n → stE k0 k1 R Q J es j = 0) ∧ L = rounds6 k0 k1 R Q J es n ∧ ss = stS k0 k1 R Q J es n ∧ r = 0) ∨
 (∃ m, m < n ∧ (∀ j, j < m → stE k0 k1 R Q J es j = 0) ∧ stE k0 k1 R Q J es m ≠ 0 ∧ L = [] ∧ ss = List.replicate 14 0 ∧ r = stE k0 k1 R Q J es m)
def Played (n : Nat) (e : Ending) (w : World) : Prop := ∃ L ss r a c, PlaySays k0 k1 R Q J es n L ss r ∧ e = .returned (.tuple #[.slice a L.length c, .agg (ss.map (Value.int .i64)).toArray, .int .i64 r]) ∧ RoundsAt w a L.length c L
end
theorem Blk.grown {W W' : World} {row : Option Nat} {b : Nat} {vs : List Value} (h : Blk W b vs) (hg : W.grownBy W' row) (hne : some b ≠ row) : Blk W' b vs := fun j v hj => by
 have hl := World.block_lt_of_cell? W _ (h j v hj).1
 have he : W'.heap[b]? = W.heap[b]? := hg.block b hl hne
 exact ⟨(World.cell?_of_block (w := W) he).trans (h j v hj).1, (World.frozen?_of_block (w := W) he).trans (h j v hj).2⟩
end Go.Proofs.YtjjikhaaimfneaaGreatDoor
