/-
  WALKS: mean.more, mean.lowest, the reference's Lowest.
-/
import Derived.Test.YthjicnddfjpnjaaMnP
import Derived.Test.YthjicnddfjpnjaaMin
import Derived.Test.YthjicnddfjpnjaaProg
import Derived.Test.YthjicnddfjpnjaaMem
import Derived.BigRegion
namespace Go.Proofs.Ythjicnddfjpnjaa
open Go.RowKit
set_option linter.unusedSimpArgs false
set_option linter.unusedVariables false

attribute [local go_sem] iteMin iteMax iteMinN iteMaxN

theorem gcd_step2 (x y : Nat) : Nat.gcd y (x % y) = Nat.gcd x y := by rw [Nat.gcd_comm, ← Nat.gcd_rec, Nat.gcd_comm]
/-- what both reckon with -/
theorem low_facts {a b : Int} (hb : 0 < b) (ha : -4611686018427387904 ≤ a ∧ a ≤ 4611686018427387904) (hb' : b ≤ 4611686018427387904) : ∃ (g n m : Nat) (u v : Int), Int.gcd a b = g ∧ Nat.gcd n m = g ∧ max a (-a) = (n : Int) ∧ b = (m : Int) ∧ 0 < m ∧ n ≤ 4611686018427387904 ∧ m ≤ 4611686018427387904 ∧ 0 < g ∧ g ≤ m ∧
    a / (g : Int) = u ∧ b / (g : Int) = v ∧ Int.tdiv a (g : Int) = u ∧ Int.tdiv b (g : Int) = v ∧ IntKind.i64.wrap u = u ∧ IntKind.i64.wrap v = v := by
  obtain ⟨m, rfl⟩ : ∃ m : Nat, b = (m : Int) := ⟨b.toNat, by omega⟩
  have hg : Int.gcd a m = Nat.gcd a.natAbs m := by rw [Int.gcd_eq_natAbs_gcd_natAbs]; rfl
  have gp : 0 < Int.gcd a m := gcd_pos_right hb
  have gm : Int.gcd a m ≤ m := by rw [hg]; exact Nat.gcd_le_right _ (by omega)
  obtain ⟨g, hgg⟩ : ∃ g, Int.gcd a m = g := ⟨_, rfl⟩
  have d1 : (g : Int) ∣ a := by rw [← hgg]; exact Int.gcd_dvd_left ..
  have d2 : (g : Int) ∣ (m : Int) := by rw [← hgg]; exact Int.gcd_dvd_right ..
  have key : ∀ z : Int, -4611686018427387904 ≤ z ∧ z ≤ 4611686018427387904 → (g : Int) ∣ z → -4611686018427387904 ≤ z / g ∧ z / g ≤ 4611686018427387904 := by
    intro z hz hd
    obtain ⟨u, hu⟩ := hd
    have g1 : (1 : Int) ≤ g := by omega
    rw [hu, Int.mul_ediv_cancel_left _ (by omega)]
    rcases Int.le_total 0 u with h | h
    · have := Int.mul_le_mul_of_nonneg_right g1 h
      omega
    · have := Int.mul_le_mul_of_nonneg_right g1 (show 0 ≤ -u by omega)
      have e9 : (g : Int) * -u = -(g * u) := Int.mul_neg _ _
      rw [e9] at this
      omega
  have k1 := key a ha d1
  have k2 := key m ⟨by omega, hb'⟩ d2
  refine ⟨g, a.natAbs, m, a / g, (m : Int) / g, hgg, by rw [← hg, hgg], by omega, rfl, by omega, by omega, by omega, by omega, by omega, rfl, rfl, Int.tdiv_eq_ediv_of_dvd d1, Int.tdiv_eq_ediv_of_dvd d2, ?_, ?_⟩
  · exact IntWalk.i64_in _ (by omega)
  · exact IntWalk.i64_in _ (by omega)
/-- the answer's two cells are written -/
def FracEnd (w : World) (S : Nat) (u v : Int) (Z : World) : Prop := Z.cell? ⟨S, 0, none⟩ = some (.int .i64 u) ∧ Z.cell? ⟨S, 1, none⟩ = some (.int .i64 v) ∧ Below S w Z
theorem frac_end0 {w wr : World} {S : Nat} {u v : Int} {x y : Value} (z0 : wr.cell? ⟨S, 0, none⟩ = some x) (z1 : wr.cell? ⟨S, 1, none⟩ = some y) (hB : Below S w wr) : FracEnd w S u v ((wr.setCell ⟨S, 0, none⟩ (.int .i64 u)).setCell ⟨S, 1, none⟩ (.int .i64 v)) := by
  refine ⟨?_, ?_, (hB.setCell (by simp only; omega) _).setCell (by simp only; omega) _⟩
  · rw [World.cell?_setCell_other _ _ _ _ (fun e => by injection e with _ e; omega)]
    exact World.cell?_setCell_same' _ _ _ (by rw [z0]; rfl)
  · exact World.cell?_setCell_same' _ _ _ (by rw [World.cell?_setCell_other _ _ _ _ (fun e => by injection e with _ e; omega), z1]; rfl)
theorem frac_end {w wr : World} {S : Nat} {u v : Int} {x y : Value} (z0 : wr.cell? ⟨S, 0, none⟩ = some x) (z1 : wr.cell? ⟨S, 1, none⟩ = some y) (hB : Below S w wr) : FracEnd w S u v ((wr.setCell ⟨S, 0, none⟩ (.int .i64 u)).setCell ⟨S, 1, none⟩ (.int .i64 v)).drew := by
  obtain ⟨h1, h2, h3⟩ := frac_end0 (u := u) (v := v) z0 z1 hB
  exact ⟨h1, h2, h3.drew⟩
theorem frac_end2 {w wr : World} {S : Nat} {u v : Int} {x y : Value} (z0 : wr.cell? ⟨S, 0, none⟩ = some x) (z1 : wr.cell? ⟨S, 1, none⟩ = some y) (hB : Below S w wr) : FracEnd w S u v ((wr.drew.setCell ⟨S, 0, none⟩ (.int .i64 u)).setCell ⟨S, 1, none⟩ (.int .i64 v)) :=
  frac_end0 (wr := wr.drew) z0 z1 hB.drew

set_option maxHeartbeats 2000000 in
theorem more_any (x y u v : Int) (w : World) (hx : -1000000000 ≤ x ∧ x ≤ 1000000000) (hu : -1000000000 ≤ u ∧ u ≤ 1000000000) (hy : 0 ≤ y ∧ y ≤ 300) (hv : 0 ≤ v ∧ v ≤ 300) :
    Calls Try.prog 40 #[.agg #[.int .i64 x, .int .i64 y], .agg #[.int .i64 u, .int .i64 v]] w fun e w' => e = .returned (.bool (decide (u * y < x * v))) ∧ Below w.heap.size w w' := by
  have key : ∀ p q : Int, -1000000000 ≤ p ∧ p ≤ 1000000000 → 0 ≤ q ∧ q ≤ 300 → -300000000000 ≤ p * q ∧ p * q ≤ 300000000000 := by
    intro p q hp hq
    have h1 : p * q ≤ 1000000000 * q := Int.mul_le_mul_of_nonneg_right hp.2 hq.1
    have h2 : -1000000000 * q ≤ p * q := Int.mul_le_mul_of_nonneg_right hp.1 hq.1
    omega
  have k1 := key x v hx hv
  have k2 := key u y hu hy
  have w1 : IntKind.i64.wrap (x * v) = x * v := IntWalk.i64_in _ (by omega)
  have w2 : IntKind.i64.wrap (u * y) = u * y := IntWalk.i64_in _ (by omega)
  have HB : Hid (Below w.heap.size w ((w.alloc (.cells #[.int .i64 x, .int .i64 y] 30)).alloc (.cells #[.int .i64 u, .int .i64 v] 30))) := hide (((Below.refl _ _).alloc (Nat.le_refl _) _).alloc (by simp) _)
  clear key k1 k2
  go_enter Try.func40, Try.ntmps40
  go_wp2
  all_goals
    go_ret
    exact ⟨by first | rfl | (simp [*]; done) | (congr 2; simp [*]; done), HB.out⟩

set_option maxRecDepth 100000 in
set_option maxHeartbeats 4000000 in
theorem mlowest_any (a b : Int) (w : World) (hb : 0 < b) (ha : -4611686018427387904 ≤ a ∧ a ≤ 4611686018427387904) (hb' : b ≤ 4611686018427387904) :
    Calls Try.prog 41 #[.int .i64 a, .int .i64 b] w fun e w' => e = .returned (.agg #[.int .i64 (a / (Int.gcd a b : Int)), .int .i64 (b / (Int.gcd a b : Int))]) ∧ Below w.heap.size w w' := by
  obtain ⟨S, hS⟩ : ∃ S, w.heap.size = S := ⟨_, rfl⟩
  obtain ⟨g, n, m, u, v, h1, h2, hmx, rfl, m0, n1, m1, hg0, hgm, e1, e2, q1, q2, hw2, hw3⟩ := low_facts hb ha hb'
  rw [h1, e1, e2]
  have HGG := hide h2
  have hw1 : IntKind.i64.wrap (-a) = -a := IntWalk.i64_in _ (by omega)
  have g1 : ¬ (g : Int) = 0 := by omega
  have g2 : ((g : Int) == 0) = false := by simp; omega
  clear h1 h2 e1 e2
  go_enter Try.func41, Try.ntmps41
  go_wp2_with fail
  obtain ⟨W, hW⟩ : ∃ W, W = w.alloc (.cells #[.int .i64 0, .int .i64 0] 30) := ⟨_, rfl⟩
  rw [← hW]
  have b0 : W.cell? ⟨S, 0, none⟩ = some (.int .i64 0) := by rw [hW, ← hS]; simp [go_sem]
  have b1 : W.cell? ⟨S, 1, none⟩ = some (.int .i64 0) := by rw [hW, ← hS]; simp [go_sem]
  have fz : ∀ j, W.frozen? ⟨S, j, none⟩ = false := by intro j; rw [hW, ← hS]; simp [go_sem]
  have BS : Below S w W := by rw [hW, ← hS]; exact (Below.refl _ _).alloc (Nat.le_refl _) _
  have HBS := hide BS
  clear hW BS
  go_loopw [5, 6] (fun p q wr => ∃ x y k : Nat, p = .int .i64 (x : Int) ∧ q = .int .i64 (y : Int) ∧ Hid (Nat.gcd x y = g) ∧ wr = W.drewN k) (fun _ q _ => (intOf q).toNat)
  case atStart => exact ⟨n, m, 0, rfl, rfl, HGG, rfl⟩
  case round =>
    obtain ⟨x, y, k, rfl, rfl, HG, hwr⟩ := hrel
    have z0 : wr.cell? ⟨S, 0, none⟩ = some (.int .i64 0) := by rw [hwr]; exact b0
    have z1 : wr.cell? ⟨S, 1, none⟩ = some (.int .i64 0) := by rw [hwr]; exact b1
    have zf : ∀ j, wr.frozen? ⟨S, j, none⟩ = false := by rw [hwr]; exact fz
    have hBW : Below S w wr := by rw [hwr]; exact below_drewN HBS.out k
    have HWR := hide hwr
    clear hwr
    by_cases hy : y = 0
    · subst hy
      have hx : x = g := by have := HG.out; rw [Nat.gcd_zero_right] at this; exact this
      subst hx
      clear HG
      go_wp2
      go_region
      go_wp2
      first
        | (obtain ⟨Z, hZ, c0, c1, zB⟩ : ∃ Z, Z = ((wr.setCell ⟨S, 0, none⟩ (.int .i64 u)).setCell ⟨S, 1, none⟩ (.int .i64 v)).drew ∧ FracEnd w S u v Z := ⟨_, rfl, frac_end z0 z1 hBW⟩
           rw [← hZ])
        | (obtain ⟨Z, hZ, c0, c1, zB⟩ : ∃ Z, Z = (wr.drew.setCell ⟨S, 0, none⟩ (.int .i64 u)).setCell ⟨S, 1, none⟩ (.int .i64 v) ∧ FracEnd w S u v Z := ⟨_, rfl, frac_end2 z0 z1 hBW⟩
           rw [← hZ])
      clear hZ
      refine bodyPost_ret (v := .agg #[.int .i64 u, .int .i64 v]) ?_ rfl ⟨rfl, ?_⟩
      · simp [results, Try.f41, go_sem, c0, c1]
      · first | exact zB | (rw [hS]; exact zB)
    · have y0 : ¬ (y : Int) = 0 := by omega
      have y1 : ((y : Int) == 0) = false := by simp; omega
      have hrem : Int.tmod (x : Int) (y : Int) = ((x % y : Nat) : Int) := (Int.ofNat_tmod x y).symm
      have hlt : x % y < y := Nat.mod_lt _ (by omega)
      have HN := hide (show Nat.gcd y (x % y) = g by rw [gcd_step2, HG.out])
      obtain ⟨z, hz⟩ : ∃ z, x % y = z := ⟨_, rfl⟩
      rw [hz] at hrem hlt HN
      clear hz HG
      go_wp2
      go_region
      go_wp2
      go_roundw
      case rel => exact ⟨y, z, k + 1, rfl, rfl, HN, by rw [HWR.out]; rfl⟩
      case measure => (simp [intOf] <;> omega)

set_option maxRecDepth 100000 in
set_option maxHeartbeats 4000000 in
theorem rlowest_any (a b : Int) (w : World) (hb : 0 < b) (ha : -4611686018427387904 ≤ a ∧ a ≤ 4611686018427387904) (hb' : b ≤ 4611686018427387904) :
    Calls Try.prog 32 #[.int .i64 a, .int .i64 b] w fun e w' => e = .returned (.agg #[.int .i64 (a / (Int.gcd a b : Int)), .int .i64 (b / (Int.gcd a b : Int))]) ∧ Below w.heap.size w w' := by
  obtain ⟨S, hS⟩ : ∃ S, w.heap.size = S := ⟨_, rfl⟩
  obtain ⟨g, n, m, u, v, h1, h2, hmx, rfl, m0, n1, m1, hg0, hgm, e1, e2, q1, q2, hw2, hw3⟩ := low_facts hb ha hb'
  rw [h1, e1, e2]
  have HGG := hide h2
  have hw1 : IntKind.i64.wrap (-a) = -a := IntWalk.i64_in _ (by omega)
  have g1 : ¬ (g : Int) = 0 := by omega
  have g2 : ((g : Int) == 0) = false := by simp; omega
  clear h1 h2 e1 e2
  go_enter Try.func32, Try.ntmps32
  go_wp2_with fail
  obtain ⟨W, hW⟩ : ∃ W, W = w.alloc (.cells #[.int .i64 0, .int .i64 0] 30) := ⟨_, rfl⟩
  rw [← hW]
  have b0 : W.cell? ⟨S, 0, none⟩ = some (.int .i64 0) := by rw [hW, ← hS]; simp [go_sem]
  have b1 : W.cell? ⟨S, 1, none⟩ = some (.int .i64 0) := by rw [hW, ← hS]; simp [go_sem]
  have fz : ∀ j, W.frozen? ⟨S, j, none⟩ = false := by intro j; rw [hW, ← hS]; simp [go_sem]
  have BS : Below S w W := by rw [hW, ← hS]; exact (Below.refl _ _).alloc (Nat.le_refl _) _
  have HBS := hide BS
  clear hW BS
  go_loopw [5, 6] (fun p q wr => ∃ x y : Nat, p = .int .i64 (x : Int) ∧ q = .int .i64 (y : Int) ∧ Hid (Nat.gcd x y = g) ∧ x ≤ 4611686018427387904 ∧ y ≤ 4611686018427387904 ∧ wr = W) (fun p q _ => (intOf p).toNat + (intOf q).toNat)
  case atStart => exact ⟨n, m, rfl, rfl, HGG, by omega, by omega, rfl⟩
  case round =>
    obtain ⟨x, y, rfl, rfl, HG, hx, hy, hwr⟩ := hrel
    have z0 : wr.cell? ⟨S, 0, none⟩ = some (.int .i64 0) := by rw [hwr]; exact b0
    have z1 : wr.cell? ⟨S, 1, none⟩ = some (.int .i64 0) := by rw [hwr]; exact b1
    have zf : ∀ j, wr.frozen? ⟨S, j, none⟩ = false := by rw [hwr]; exact fz
    have hBW : Below S w wr := by rw [hwr]; exact HBS.out
    have HWR := hide hwr
    clear hwr
    by_cases h0 : 0 < x ∧ 0 < y
    · obtain ⟨x0, y0⟩ := h0
      have x1 : (0 : Int) < (x : Int) := by omega
      have y1 : (0 : Int) < (y : Int) := by omega
      have x2 : ¬ (x : Int) = 0 := by omega
      have y2 : ¬ (y : Int) = 0 := by omega
      have x3 : ((x : Int) == 0) = false := by simp; omega
      have y3 : ((y : Int) == 0) = false := by simp; omega
      by_cases hxy : y < x
      · have h1 : (y : Int) < (x : Int) := by omega
        have hrem : Int.tmod (x : Int) (y : Int) = ((x % y : Nat) : Int) := (Int.ofNat_tmod x y).symm
        have hlt : x % y < y := Nat.mod_lt _ y0
        have HN := hide (show Nat.gcd (x % y) y = g by rw [Nat.gcd_comm, gcd_step2, HG.out])
        obtain ⟨z, hz⟩ : ∃ z, x % y = z := ⟨_, rfl⟩
        rw [hz] at hrem hlt HN
        clear hz HG
        go_wp2
        go_roundw
        case rel => exact ⟨z, y, rfl, rfl, HN, by omega, hy, HWR.out⟩
        case measure => (simp [intOf] <;> omega)
      · have h1 : ¬ (y : Int) < (x : Int) := by omega
        have hrem : Int.tmod (y : Int) (x : Int) = ((y % x : Nat) : Int) := (Int.ofNat_tmod y x).symm
        have hlt : y % x < x := Nat.mod_lt _ x0
        have HN := hide (show Nat.gcd x (y % x) = g by rw [gcd_step2, Nat.gcd_comm, HG.out])
        obtain ⟨z, hz⟩ : ∃ z, y % x = z := ⟨_, rfl⟩
        rw [hz] at hrem hlt HN
        clear hz HG
        go_wp2
        go_roundw
        case rel => exact ⟨x, z, rfl, rfl, HN, hx, by omega, HWR.out⟩
        case measure => (simp [intOf] <;> omega)
    · have hcond : (x = 0 ∧ y = g) ∨ (x = g ∧ y = 0) := by
        have hG := HG.out
        rcases Nat.eq_zero_or_pos x with h | h
        · subst h; rw [Nat.gcd_zero_left] at hG; exact .inl ⟨rfl, hG⟩
        · obtain rfl : y = 0 := by omega
          rw [Nat.gcd_zero_right] at hG; exact .inr ⟨hG, rfl⟩
      have gp : (0 : Int) < (g : Int) := by omega
      have gq : max (g : Int) 0 = (g : Int) := by omega
      have gq' : max 0 (g : Int) = (g : Int) := by omega
      clear h0 HG hmx
      rcases hcond with ⟨rfl, rfl⟩ | ⟨rfl, rfl⟩
      · go_wp2
        go_region
        go_wp2
        first
          | (obtain ⟨Z, hZ, c0, c1, zB⟩ : ∃ Z, Z = ((wr.setCell ⟨S, 0, none⟩ (.int .i64 u)).setCell ⟨S, 1, none⟩ (.int .i64 v)).drew ∧ FracEnd w S u v Z := ⟨_, rfl, frac_end z0 z1 hBW⟩
             rw [← hZ])
          | (obtain ⟨Z, hZ, c0, c1, zB⟩ : ∃ Z, Z = (wr.drew.setCell ⟨S, 0, none⟩ (.int .i64 u)).setCell ⟨S, 1, none⟩ (.int .i64 v) ∧ FracEnd w S u v Z := ⟨_, rfl, frac_end2 z0 z1 hBW⟩
             rw [← hZ])
        clear hZ
        refine bodyPost_ret (v := .agg #[.int .i64 u, .int .i64 v]) ?_ rfl ⟨rfl, ?_⟩
        · simp [results, Try.f32, go_sem, c0, c1]
        · first | exact zB | (rw [hS]; exact zB)
      · go_wp2
        go_region
        go_wp2
        first
          | (obtain ⟨Z, hZ, c0, c1, zB⟩ : ∃ Z, Z = ((wr.setCell ⟨S, 0, none⟩ (.int .i64 u)).setCell ⟨S, 1, none⟩ (.int .i64 v)).drew ∧ FracEnd w S u v Z := ⟨_, rfl, frac_end z0 z1 hBW⟩
             rw [← hZ])
          | (obtain ⟨Z, hZ, c0, c1, zB⟩ : ∃ Z, Z = (wr.drew.setCell ⟨S, 0, none⟩ (.int .i64 u)).setCell ⟨S, 1, none⟩ (.int .i64 v) ∧ FracEnd w S u v Z := ⟨_, rfl, frac_end2 z0 z1 hBW⟩
             rw [← hZ])
        clear hZ
        refine bodyPost_ret (v := .agg #[.int .i64 u, .int .i64 v]) ?_ rfl ⟨rfl, ?_⟩
        · simp [results, Try.f32, go_sem, c0, c1]
        · first | exact zB | (rw [hS]; exact zB)

end Go.Proofs.Ythjicnddfjpnjaa
