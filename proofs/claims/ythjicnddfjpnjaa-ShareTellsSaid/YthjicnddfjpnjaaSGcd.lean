/-
  WALKS: share.gcd, and the reference's Lowest.
-/
import Derived.Test.YthjicnddfjpnjaaSRight
import Derived.BigRegion
namespace Go.Proofs.Ythjicnddfjpnjaa
open Go.RowKit
set_option linter.unusedSimpArgs false
set_option linter.unusedVariables false

attribute [local go_sem] iteMin iteMax iteMinN iteMaxN

theorem gcd_step (x y : Nat) : Nat.gcd y (x % y) = Nat.gcd x y := by rw [Nat.gcd_comm, ← Nat.gcd_rec, Nat.gcd_comm]
set_option maxRecDepth 100000 in
set_option maxHeartbeats 4000000 in
theorem gcd_any (a b : Nat) (w : World) : Calls Try.prog 31 #[.int .i64 (a : Int), .int .i64 (b : Int)] w fun e w' => e = .returned (.int .i64 ((Nat.gcd a b : Nat) : Int)) ∧ Below w.heap.size w w' := by
  go_enter Try.func31, Try.ntmps31
  go_wp2
  go_loopw [0, 1] (fun u v wr => ∃ x y : Nat, u = .int .i64 (x : Int) ∧ v = .int .i64 (y : Int) ∧ Hid (Nat.gcd x y = Nat.gcd a b) ∧ Below w.heap.size w wr) (fun _ v _ => (intOf v).toNat)
  case atStart => exact ⟨a, b, rfl, rfl, rfl, Below.refl _ _⟩
  case round =>
    obtain ⟨x, y, rfl, rfl, HG, hB⟩ := hrel
    by_cases hy : y = 0
    · subst hy
      have HF := hide (show (x : Int) = ((Nat.gcd a b : Nat) : Int) by rw [← HG.out, Nat.gcd_zero_right])
      go_wp2
      go_ret
      exact ⟨by rw [← HF.out]; rfl, hB⟩
    · have y0 : ¬ (y : Int) = 0 := by omega
      have y1 : ((y : Int) == 0) = false := by simp; omega
      have hrem : Int.tmod (x : Int) (y : Int) = ((x % y : Nat) : Int) := (Int.ofNat_tmod x y).symm
      have hlt : x % y < y := Nat.mod_lt _ (by omega)
      have HN := hide (show Nat.gcd y (x % y) = Nat.gcd a b by rw [gcd_step, HG.out])
      obtain ⟨z, hz⟩ : ∃ z, x % y = z := ⟨_, rfl⟩
      rw [hz] at hrem hlt HN
      have hHB := hide hB
      clear hz hB HG
      go_wp2
      go_region
      go_wp2
      go_roundw
      case rel => exact ⟨y, z, rfl, rfl, HN, by first | exact hHB.out.drew | exact hHB.out⟩
      case measure => (simp [intOf] <;> omega)
set_option maxRecDepth 100000 in
set_option maxHeartbeats 4000000 in
theorem lowest_any (a b : Nat) (w : World) (hb : 0 < b) (ha' : (a : Int) ≤ 4611686018427387904) (hb' : (b : Int) ≤ 4611686018427387904) : Calls Try.prog 32 #[.int .i64 (a : Int), .int .i64 (b : Int)] w fun e w' => e = .returned (.agg #[.int .i64 ((a / Nat.gcd a b : Nat) : Int), .int .i64 ((b / Nat.gcd a b : Nat) : Int)]) ∧ Below w.heap.size w w' := by
  obtain ⟨S, hS⟩ : ∃ S, w.heap.size = S := ⟨_, rfl⟩
  have hg0 : 0 < Nat.gcd a b := Nat.gcd_pos_of_pos_right _ hb
  obtain ⟨g, hg⟩ : ∃ g, Nat.gcd a b = g := ⟨_, rfl⟩
  have HGG := hide hg
  rw [hg] at hg0 ⊢
  have a0 : (0 : Int) ≤ (a : Int) := Int.natCast_nonneg _
  have hm : max (a : Int) (-(a : Int)) = (a : Int) := by omega
  have hw1 : IntKind.i64.wrap (-(a : Int)) = -(a : Int) := by rw [IntKind.wrap_i64]; omega
  have q1 : Int.tdiv (a : Int) (g : Int) = ((a / g : Nat) : Int) := (Int.ofNat_tdiv a g).symm
  have q2 : Int.tdiv (b : Int) (g : Int) = ((b / g : Nat) : Int) := (Int.ofNat_tdiv b g).symm
  have g1 : ¬ (g : Int) = 0 := by omega
  have g2 : ((g : Int) == 0) = false := by simp; omega
  have d1 : a / g ≤ a := Nat.div_le_self _ _
  have d2 : b / g ≤ b := Nat.div_le_self _ _
  obtain ⟨u, hu⟩ : ∃ u, a / g = u := ⟨_, rfl⟩
  obtain ⟨v, hv⟩ : ∃ v, b / g = v := ⟨_, rfl⟩
  rw [hu] at q1 d1 ⊢
  rw [hv] at q2 d2 ⊢
  have hw2 : IntKind.i64.wrap (u : Int) = (u : Int) := by rw [IntKind.wrap_i64]; omega
  have hw3 : IntKind.i64.wrap (v : Int) = (v : Int) := by rw [IntKind.wrap_i64]; omega
  clear hg hu hv
  go_enter Try.func32, Try.ntmps32
  go_wp2_with fail
  obtain ⟨W, hW⟩ : ∃ W, W = w.alloc (.cells #[.int .i64 0, .int .i64 0] 30) := ⟨_, rfl⟩
  rw [← hW]
  have b0 : W.cell? ⟨S, 0, none⟩ = some (.int .i64 0) := by rw [hW, ← hS]; simp [go_sem]
  have b1 : W.cell? ⟨S, 1, none⟩ = some (.int .i64 0) := by rw [hW, ← hS]; simp [go_sem]
  have fz : ∀ j, W.frozen? ⟨S, j, none⟩ = false := by intro j; rw [hW, ← hS]; simp [go_sem]
  have BS : Below S w W := by rw [hW, ← hS]; exact (Below.refl _ _).alloc (Nat.le_refl _) _
  have HBS := hide BS
  clear hW BS
  go_loopw [5, 6] (fun p q wr => ∃ x y : Nat, p = .int .i64 (x : Int) ∧ q = .int .i64 (y : Int) ∧ Hid (Nat.gcd x y = g) ∧ x ≤ 4611686018427387904 ∧ y ≤ 4611686018427387904 ∧ wr = W) (fun p q _ => (intOf p).toNat + (intOf q).toNat)
  case atStart => exact ⟨a, b, rfl, rfl, HGG, by omega, by omega, rfl⟩
  case round =>
    obtain ⟨x, y, rfl, rfl, HG, hx, hy, hwr⟩ := hrel
    have hwr2 := hwr.symm
    subst hwr2
    by_cases h0 : 0 < x ∧ 0 < y
    · obtain ⟨x0, y0⟩ := h0
      have x1 : (0 : Int) < (x : Int) := by omega
      have y1 : (0 : Int) < (y : Int) := by omega
      have x2 : ¬ (x : Int) = 0 := by omega
      have y2 : ¬ (y : Int) = 0 := by omega
      have x3 : ((x : Int) == 0) = false := by simp; omega
      have y3 : ((y : Int) == 0) = false := by simp; omega
      by_cases hxy : y < x
      · have h1 : (y : Int) < (x : Int) := by omega
        have hrem : Int.tmod (x : Int) (y : Int) = ((x % y : Nat) : Int) := (Int.ofNat_tmod x y).symm
        have hlt : x % y < y := Nat.mod_lt _ y0
        have HN := hide (show Nat.gcd (x % y) y = g by rw [Nat.gcd_comm, gcd_step, HG.out])
        obtain ⟨z, hz⟩ : ∃ z, x % y = z := ⟨_, rfl⟩
        rw [hz] at hrem hlt HN
        clear hz HG
        go_wp2
        go_roundw
        case rel => exact ⟨z, y, rfl, rfl, HN, by omega, hy, by first | rfl | trivial⟩
        case measure => (simp [intOf] <;> omega)
      · have h1 : ¬ (y : Int) < (x : Int) := by omega
        have hrem : Int.tmod (y : Int) (x : Int) = ((y % x : Nat) : Int) := (Int.ofNat_tmod y x).symm
        have hlt : y % x < x := Nat.mod_lt _ x0
        have HN := hide (show Nat.gcd x (y % x) = g by rw [gcd_step, Nat.gcd_comm, HG.out])
        obtain ⟨z, hz⟩ : ∃ z, y % x = z := ⟨_, rfl⟩
        rw [hz] at hrem hlt HN
        clear hz HG
        go_wp2
        go_roundw
        case rel => exact ⟨x, z, rfl, rfl, HN, hx, by omega, by first | rfl | trivial⟩
        case measure => (simp [intOf] <;> omega)
    · have hmx : max (x : Int) (y : Int) = (g : Int) := by
        have hG := HG.out
        rcases Nat.eq_zero_or_pos x with h | h
        · subst h; rw [Nat.gcd_zero_left] at hG; omega
        · obtain rfl : y = 0 := by omega
          rw [Nat.gcd_zero_right] at hG; omega
      have hcond : (x = 0 ∧ y = g) ∨ (x = g ∧ y = 0) := by
        have hG := HG.out
        rcases Nat.eq_zero_or_pos x with h | h
        · subst h; rw [Nat.gcd_zero_left] at hG; exact .inl ⟨rfl, hG⟩
        · obtain rfl : y = 0 := by omega
          rw [Nat.gcd_zero_right] at hG; exact .inr ⟨hG, rfl⟩
      have gp : (0 : Int) < (g : Int) := by omega
      clear h0 HG hmx
      rcases hcond with ⟨rfl, rfl⟩ | ⟨rfl, rfl⟩
      · go_wp2
        go_region
        go_wp2
        obtain ⟨Z, hZ⟩ : ∃ Z, Z = ((W.setCell ⟨S, 0, none⟩ (.int .i64 (u : Int))).setCell ⟨S, 1, none⟩ (.int .i64 (v : Int))).drew := ⟨_, rfl⟩
        have c0 : Z.cell? ⟨S, 0, none⟩ = some (.int .i64 (u : Int)) := by
          rw [hZ]; show ((W.setCell ⟨S, 0, none⟩ (.int .i64 (u : Int))).setCell ⟨S, 1, none⟩ (.int .i64 (v : Int))).cell? _ = _
          rw [World.cell?_setCell_other _ _ _ _ (fun e => by injection e with _ e; omega)]
          exact World.cell?_setCell_same' _ _ _ (by rw [b0]; rfl)
        have c1 : Z.cell? ⟨S, 1, none⟩ = some (.int .i64 (v : Int)) := by
          rw [hZ]; show ((W.setCell ⟨S, 0, none⟩ (.int .i64 (u : Int))).setCell ⟨S, 1, none⟩ (.int .i64 (v : Int))).cell? _ = _
          exact World.cell?_setCell_same' _ _ _ (by rw [World.cell?_setCell_other _ _ _ _ (fun e => by injection e with _ e; omega), b1]; rfl)
        have zB : Below S w Z := by rw [hZ]; exact ((HBS.out.setCell (p := ⟨S, 0, none⟩) (by simp only; omega) _).setCell (p := ⟨S, 1, none⟩) (by simp only; omega) _).drew
        rw [← hZ]
        clear hZ
        refine bodyPost_ret (v := .agg #[.int .i64 (u : Int), .int .i64 (v : Int)]) ?_ rfl ⟨rfl, ?_⟩
        · simp [results, Try.f32, go_sem, c0, c1]
        · first | exact zB | (rw [hS]; exact zB)
      · go_wp2
        go_region
        go_wp2
        obtain ⟨Z, hZ⟩ : ∃ Z, Z = ((W.setCell ⟨S, 0, none⟩ (.int .i64 (u : Int))).setCell ⟨S, 1, none⟩ (.int .i64 (v : Int))).drew := ⟨_, rfl⟩
        have c0 : Z.cell? ⟨S, 0, none⟩ = some (.int .i64 (u : Int)) := by
          rw [hZ]; show ((W.setCell ⟨S, 0, none⟩ (.int .i64 (u : Int))).setCell ⟨S, 1, none⟩ (.int .i64 (v : Int))).cell? _ = _
          rw [World.cell?_setCell_other _ _ _ _ (fun e => by injection e with _ e; omega)]
          exact World.cell?_setCell_same' _ _ _ (by rw [b0]; rfl)
        have c1 : Z.cell? ⟨S, 1, none⟩ = some (.int .i64 (v : Int)) := by
          rw [hZ]; show ((W.setCell ⟨S, 0, none⟩ (.int .i64 (u : Int))).setCell ⟨S, 1, none⟩ (.int .i64 (v : Int))).cell? _ = _
          exact World.cell?_setCell_same' _ _ _ (by rw [World.cell?_setCell_other _ _ _ _ (fun e => by injection e with _ e; omega), b1]; rfl)
        have zB : Below S w Z := by rw [hZ]; exact ((HBS.out.setCell (p := ⟨S, 0, none⟩) (by simp only; omega) _).setCell (p := ⟨S, 1, none⟩) (by simp only; omega) _).drew
        rw [← hZ]
        clear hZ
        refine bodyPost_ret (v := .agg #[.int .i64 (u : Int), .int .i64 (v : Int)]) ?_ rfl ⟨rfl, ?_⟩
        · simp [results, Try.f32, go_sem, c0, c1]
        · first | exact zB | (rw [hS]; exact zB)

end Go.Proofs.Ythjicnddfjpnjaa
