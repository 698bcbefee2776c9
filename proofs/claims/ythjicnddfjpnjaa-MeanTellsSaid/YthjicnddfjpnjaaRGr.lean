/-
  WALKS: the reference's RGreatest.
-/
import Derived.Test.YthjicnddfjpnjaaRAb
import Derived.Test.YthjicnddfjpnjaaMLow
import Derived.Test.YthjicnddfjpnjaaQWrong
namespace Go.Proofs.Ythjicnddfjpnjaa
open Go.RowKit
set_option linter.unusedSimpArgs false
set_option linter.unusedVariables false

attribute [local go_sem] iteMin iteMax iteMinN iteMaxN

/-- the least whole a with p b <= a q -/
def hiF (p : Int) (q : Nat) (b : Nat) : Int := -((-(p * b)) / (q : Int))
theorem hiF_is {p : Int} {q b : Nat} (hq : 0 < q) : p * b ≤ hiF p q b * q ∧ (hiF p q b - 1) * q < p * b := by
  unfold hiF
  have h1 := Int.emod_add_mul_ediv (-(p * b)) (q : Int)
  have h2 := Int.emod_nonneg (-(p * b)) (show (q : Int) ≠ 0 by omega)
  have h3 := Int.emod_lt_of_pos (-(p * b)) (show (0 : Int) < q by omega)
  generalize -(p * b) / (q : Int) = d at *
  generalize -(p * b) % (q : Int) = r at *
  have e1 : (-d) * (q : Int) = -(q * d) := by rw [Int.neg_mul, Int.mul_comm]
  have e2 : (-d - 1) * (q : Int) = -(q * d) - q := by rw [Int.sub_mul, e1]; omega
  rw [e1, e2]
  omega
theorem isHi_of {es : List PE} {N : Nat} {p : Int} {q : Nat} (hin : Inside N es) (hm : IsMean es p q) (b : Nat) (hb : 1 ≤ b) : IsHi es b (hiF p q b) := by
  obtain ⟨h1, h2⟩ := hiF_is (p := p) (b := b) hm.pos
  refine ⟨?_, ?_⟩
  · rw [above_iff hin hm (by omega)]; omega
  · rw [above_iff hin hm (by omega)]; exact h2
theorem isHi_one {es : List PE} {N : Nat} {p : Int} {q : Nat} (hin : Inside N es) (hm : IsMean es p q) {b : Nat} (hb : 1 ≤ b) {x : Int} (h1 : ¬ Above es x b) (h2 : Above es (x - 1) b) : x = hiF p q b := by
  obtain ⟨k1, k2⟩ := hiF_is (p := p) (b := b) hm.pos
  have hq := hm.pos
  rw [above_iff hin hm (by omega)] at h1 h2
  have a1 : x - 1 < hiF p q b := Int.lt_of_mul_lt_mul_right (Int.lt_of_lt_of_le h2 k1) (by omega)
  have a2 : hiF p q b - 1 < x := Int.lt_of_mul_lt_mul_right (Int.lt_of_lt_of_le k2 (Int.not_lt.1 h1)) (by omega)
  omega
theorem hiF_b {p : Int} {q b : Nat} (hq : 0 < q) (hp : -(q * 1048576 : Int) ≤ p ∧ p ≤ q * 1048576) (hb : b ≤ 300) : -1000000000 ≤ hiF p q b ∧ hiF p q b ≤ 1000000000 := by
  obtain ⟨h1, h2⟩ := hiF_is (p := p) (b := b) hq
  have k1 := Int.mul_le_mul_of_nonneg_right hp.1 (show (0 : Int) ≤ b by omega)
  have k2 := Int.mul_le_mul_of_nonneg_right hp.2 (show (0 : Int) ≤ b by omega)
  have e1 : (q * 1048576 : Int) * b = (1048576 * b) * q := by rw [Int.mul_comm (q : Int), Int.mul_right_comm]
  have e2 : -(q * 1048576 : Int) * b = -(1048576 * b) * q := by rw [Int.neg_mul, e1, Int.neg_mul]
  rw [e1] at k2
  rw [e2] at k1
  have a1 : -(1048576 * (b : Int)) ≤ hiF p q b := Int.le_of_mul_le_mul_right (Int.le_trans k1 h1) (show (0 : Int) < q by omega)
  have a2 : hiF p q b - 1 < 1048576 * b := Int.lt_of_mul_lt_mul_right (Int.lt_of_lt_of_le h2 k2) (by omega)
  omega
theorem refBest_b {his : Nat → Int} {N : Nat} (h : ∀ b : Nat, b ≤ N → -1000000000 ≤ his b ∧ his b ≤ 1000000000) : ∀ b, b ≤ N → (-1000000000 ≤ (refBest his b).1 ∧ (refBest his b).1 ≤ 1000000000) ∧ 0 ≤ (refBest his b).2 ∧ (refBest his b).2 ≤ b := by
  intro b
  induction b with
  | zero => intro _; simp [refBest]
  | succ b ih =>
    intro hb
    have ih := ih (by omega)
    have hdef : refBest his (b + 1) = (if (refBest his b).2 = 0 ∨ his (b + 1) * (refBest his b).2 < (refBest his b).1 * ((b + 1 : Nat) : Int) then (his (b + 1), ((b + 1 : Nat) : Int)) else refBest his b) := rfl
    rw [hdef]
    split
    · exact ⟨h (b + 1) hb, by dsimp only; omega, by dsimp only; omega⟩
    · exact ⟨ih.1, ih.2.1, by omega⟩
theorem mul_b {x y : Int} (hx : -1000000000 ≤ x ∧ x ≤ 1000000000) (hy : 0 ≤ y ∧ y ≤ 300) : -1000000000 * 300 ≤ x * y ∧ x * y ≤ 1000000000 * 300 := by
  have h1 : x * y ≤ 1000000000 * y := Int.mul_le_mul_of_nonneg_right hx.2 hy.1
  have h2 : -1000000000 * y ≤ x * y := Int.mul_le_mul_of_nonneg_right hx.1 hy.1
  omega
def FracEnd2 (w : World) (S : Nat) (u v : Int) (Z : World) : Prop := Z.cell? ⟨S + 1, 0, none⟩ = some (.int .i64 u) ∧ Z.cell? ⟨S + 1, 1, none⟩ = some (.int .i64 v) ∧ Below S w Z
theorem frac_endS {w wr : World} {S : Nat} {u v : Int} {x y : Value} (z0 : wr.cell? ⟨S + 1, 0, none⟩ = some x) (z1 : wr.cell? ⟨S + 1, 1, none⟩ = some y) (hB : Below S w wr) : FracEnd2 w S u v ((wr.setCell ⟨S + 1, 0, none⟩ (.int .i64 u)).setCell ⟨S + 1, 1, none⟩ (.int .i64 v)) := by
  refine ⟨?_, ?_, (hB.setCell (by simp only; omega) _).setCell (by simp only; omega) _⟩
  · rw [World.cell?_setCell_other _ _ _ _ (fun e => by injection e with _ e; omega)]
    exact World.cell?_setCell_same' _ _ _ (by rw [z0]; rfl)
  · exact World.cell?_setCell_same' _ _ _ (by rw [World.cell?_setCell_other _ _ _ _ (fun e => by injection e with _ e; omega), z1]; rfl)
theorem tdiv_mid {l h : Int} (hlh : l + 1 < h) : l < Int.tdiv (l + h) 2 ∧ Int.tdiv (l + h) 2 < h := by
  rcases Int.le_total 0 (l + h) with h0 | h0
  · rw [Int.tdiv_eq_ediv_of_nonneg h0]; omega
  · have e : Int.tdiv (l + h) 2 = -((-(l + h)) / 2) := by
      have h1 : l + h = -(-(l + h)) := by omega
      conv => lhs; rw [h1, Int.neg_tdiv]
      rw [Int.tdiv_eq_ediv_of_nonneg (by omega)]
    rw [e]; omega
/-- between two steps of RGreatest -/
structure RgI (w : World) (S N n c BB : Nat) (a : Option Addr) (f : Int × Int) (wr : World) : Prop where
  g0 : wr.cell? ⟨S, 0, none⟩ = some (.int .i64 N)
  g1 : wr.cell? ⟨S, 1, none⟩ = some (.slice a n c)
  r0 : wr.cell? ⟨S + 1, 0, none⟩ = some (.int .i64 0)
  r1 : wr.cell? ⟨S + 1, 1, none⟩ = some (.int .i64 0)
  rf : ∀ j, wr.frozen? ⟨S + 1, j, none⟩ = false
  b0 : wr.cell? ⟨BB, 0, none⟩ = some (.int .i64 f.1)
  b1 : wr.cell? ⟨BB, 1, none⟩ = some (.int .i64 f.2)
  bf : ∀ j, wr.frozen? ⟨BB, j, none⟩ = false
  bl : Below S w wr
  hS : S + 1 < BB
theorem RgI.below {w : World} {S N n c BB : Nat} {a : Option Addr} {f : Int × Int} {wr w' : World} (h : RgI w S N n c BB a f wr) (hb : Below wr.heap.size wr w') : RgI w S N n c BB a f w' := by
  have hB := World.block_lt_of_cell? wr _ h.b0
  have hS := h.hS
  simp only at hB
  have kc : ∀ {p : Addr} {v : Value}, wr.cell? p = some v → w'.cell? p = some v := fun {p v} e => (hb.cell (World.block_lt_of_cell? wr _ e)).trans e
  exact ⟨kc h.g0, kc h.g1, kc h.r0, kc h.r1, fun j => (hb.frozen (p := ⟨S + 1, j, none⟩) (by show S + 1 < _; omega)).trans (h.rf j), kc h.b0, kc h.b1, fun j => (hb.frozen (p := ⟨BB, j, none⟩) hB).trans (h.bf j), h.bl.trans (hb.mono (by have := World.block_lt_of_cell? wr _ h.r0; simp only at this; omega)), h.hS⟩
theorem RgI.put {w : World} {S N n c BB : Nat} {a : Option Addr} {f : Int × Int} {wr : World} (h : RgI w S N n c BB a f wr) (x y : Int) : RgI w S N n c BB a (x, y) ((wr.setCell ⟨BB, 0, none⟩ (.int .i64 x)).setCell ⟨BB, 1, none⟩ (.int .i64 y)) := by
  have hS := h.hS
  have o : ∀ {b j : Nat} {v : Value}, b ≠ BB → wr.cell? ⟨b, j, none⟩ = some v → ((wr.setCell ⟨BB, 0, none⟩ (.int .i64 x)).setCell ⟨BB, 1, none⟩ (.int .i64 y)).cell? ⟨b, j, none⟩ = some v := fun {b j v} hb e => by
    rw [World.cell?_setCell_other _ _ _ _ (fun e' => hb (by injection e' with e1; exact e1.symm)), World.cell?_setCell_other _ _ _ _ (fun e' => hb (by injection e' with e1; exact e1.symm))]; exact e
  refine ⟨o (by omega) h.g0, o (by omega) h.g1, o (by omega) h.r0, o (by omega) h.r1, fun j => by rw [World.frozen?_setCell, World.frozen?_setCell]; exact h.rf j, ?_, ?_, fun j => by rw [World.frozen?_setCell, World.frozen?_setCell]; exact h.bf j, (h.bl.setCell (by simp only; omega) _).setCell (by simp only; omega) _, h.hS⟩
  · rw [World.cell?_setCell_other _ _ _ _ (fun e => by injection e with _ e; omega)]
    exact World.cell?_setCell_same' _ _ _ (by rw [h.b0]; rfl)
  · exact World.cell?_setCell_same' _ _ _ (by rw [World.cell?_setCell_other _ _ _ _ (fun e => by injection e with _ e; omega), h.b1]; rfl)

set_option maxRecDepth 100000 in
set_option maxHeartbeats 4000000 in
theorem rgreat_bad (N : Int) (a : Option Addr) (n c : Nat) (es : List GE) (w : World) (h : EdgesAt w a n c es) (hg : ¬ GraphOk N es) :
    Calls Try.prog 20 #[.agg #[.int .i64 N, .slice a n c]] w fun e w' => e = .returned (.tuple #[.agg #[.int .i64 0, .int .i64 0], .int .i64 2]) ∧ Below w.heap.size w w' := by
  obtain ⟨S, hS⟩ : ∃ S, w.heap.size = S := ⟨_, rfl⟩
  have HG := hide hg; have HS := hide hS
  go_enter Try.func20, Try.ntmps20
  go_wp2_with fail
  obtain ⟨W, hW⟩ : ∃ W, W = (w.alloc (.cells #[.int .i64 N, .slice a n c] 39)).alloc (.cells #[.int .i64 0, .int .i64 0] 30) := ⟨_, rfl⟩
  rw [← hW]
  have hWB : Below S w W := by rw [hW, ← hS]; exact ((Below.refl _ _).alloc (Nat.le_refl _) _).alloc (by simp) _
  have hE := h.below (by rw [hS]; exact hWB)
  have b0 : W.cell? ⟨S + 1, 0, none⟩ = some (.int .i64 0) := by rw [hW, ← hS]; simp [go_sem, World.cell?_alloc_past]
  have b1 : W.cell? ⟨S + 1, 1, none⟩ = some (.int .i64 0) := by rw [hW, ← hS]; simp [go_sem, World.cell?_alloc_past]
  have fz : ∀ j, W.frozen? ⟨S + 1, j, none⟩ = false := by intro j; rw [hW, ← hS]; simp [go_sem]
  have hWs : S + 1 < W.heap.size := World.block_lt_of_cell? W _ b0
  clear hW h hg
  refine (qwrong_any _ _ _ _ _ W hE).mono ?_
  rintro e w1 ⟨⟨r, hr, rfl⟩, B1⟩
  obtain rfl : r = 2 := by rcases hr with ⟨_, h2⟩ | ⟨h1, _⟩; exact absurd h2 HG.out; exact h1
  have z0 := (B1.cell (p := ⟨S + 1, 0, none⟩) hWs).trans b0
  have z1 := (B1.cell (p := ⟨S + 1, 1, none⟩) hWs).trans b1
  have zf : ∀ j, w1.frozen? ⟨S + 1, j, none⟩ = false := fun j => (B1.frozen (p := ⟨S + 1, j, none⟩) hWs).trans (fz j)
  have hBW := hWB.trans (B1.mono (by omega))
  clear hr hE b0 b1 fz B1 hWB
  go_wp2
  obtain ⟨Z, hZ, c0, c1, zB⟩ : ∃ Z, Z = (w1.setCell ⟨S + 1, 0, none⟩ (.int .i64 0)).setCell ⟨S + 1, 1, none⟩ (.int .i64 0) ∧ FracEnd2 w S 0 0 Z := ⟨_, rfl, frac_endS z0 z1 hBW⟩
  rw [← hZ]
  refine bodyPost_ret (v := .tuple #[.agg #[.int .i64 0, .int .i64 0], .int .i64 2]) ?_ rfl ⟨rfl, ?_⟩
  · simp [results, Try.f20, go_sem, c0, c1]
  · rw [HS.out]; exact zB
set_option maxRecDepth 100000 in
set_option maxHeartbeats 8000000 in
theorem rgreat_ok (N : Nat) (a : Option Addr) (n c : Nat) (es : List GE) (w : World) (h : EdgesAt w a n c es) (hg : GraphOk (N : Int) es) :
    Calls Try.prog 20 #[.agg #[.int .i64 N, .slice a n c]] w fun e w' => (∃ x y r, e = .returned (.tuple #[.agg #[.int .i64 x, .int .i64 y], .int .i64 r]) ∧ GreatSays N es x y r) ∧ Below w.heap.size w w' := by
  obtain ⟨S, hS⟩ : ∃ S, w.heap.size = S := ⟨_, rfl⟩
  have HG := hide hg; have HS := hide hS; have HE0 := hide h
  have hN : N ≤ 300 := by have := hg.1.2.1; omega
  go_enter Try.func20, Try.ntmps20
  go_wp2_with fail
  obtain ⟨W, hW⟩ : ∃ W, W = (w.alloc (.cells #[.int .i64 N, .slice a n c] 39)).alloc (.cells #[.int .i64 0, .int .i64 0] 30) := ⟨_, rfl⟩
  rw [← hW]
  have hWB : Below S w W := by rw [hW, ← hS]; exact ((Below.refl _ _).alloc (Nat.le_refl _) _).alloc (by simp) _
  have hE := h.below (by rw [hS]; exact hWB)
  have b0 : W.cell? ⟨S + 1, 0, none⟩ = some (.int .i64 0) := by rw [hW, ← hS]; simp [go_sem, World.cell?_alloc_past]
  have b1 : W.cell? ⟨S + 1, 1, none⟩ = some (.int .i64 0) := by rw [hW, ← hS]; simp [go_sem, World.cell?_alloc_past]
  have a0 : W.cell? ⟨S, 0, none⟩ = some (.int .i64 N) := by rw [hW, ← hS]; simp [go_sem, World.cell?_alloc_past]
  have a1 : W.cell? ⟨S, 1, none⟩ = some (.slice a n c) := by rw [hW, ← hS]; simp [go_sem, World.cell?_alloc_past]
  have fz : ∀ j, W.frozen? ⟨S + 1, j, none⟩ = false := by intro j; rw [hW, ← hS]; simp [go_sem]
  have hWs : S + 1 < W.heap.size := World.block_lt_of_cell? W _ b0
  have hWs0 : S < W.heap.size := by omega
  clear hW h hg
  refine (qwrong_any _ _ _ _ _ W hE).mono ?_
  rintro e w1 ⟨⟨r, hr, rfl⟩, B1⟩
  obtain rfl : r = 0 := by rcases hr with ⟨h1, _⟩ | ⟨_, h2⟩; exact h1; exact absurd HG.out h2
  have z0 := (B1.cell (p := ⟨S + 1, 0, none⟩) hWs).trans b0
  have z1 := (B1.cell (p := ⟨S + 1, 1, none⟩) hWs).trans b1
  have y0 := (B1.cell (p := ⟨S, 0, none⟩) hWs0).trans a0
  have y1 := (B1.cell (p := ⟨S, 1, none⟩) hWs0).trans a1
  have zf : ∀ j, w1.frozen? ⟨S + 1, j, none⟩ = false := fun j => (B1.frozen (p := ⟨S + 1, j, none⟩) hWs).trans (fz j)
  have hB1 := hWB.trans (B1.mono (by omega))
  have hE1 := hE.below B1
  have hs1 : S + 1 < w1.heap.size := World.block_lt_of_cell? w1 _ z0
  clear hr hE b0 b1 a0 a1 fz B1 hWB hWs hWs0
  have HZF := hide zf
  clear zf
  go_wp2_with fail
  refine (rabove_any N _ _ _ es (-1048577) 1 w1 hE1 HG.out ⟨by omega, by omega⟩ ⟨by omega, by omega⟩).mono ?_
  rintro e w2 ⟨⟨t, rfl, ht⟩, B2⟩
  have z0 := (B2.cell (p := ⟨S + 1, 0, none⟩) hs1).trans z0
  have z1 := (B2.cell (p := ⟨S + 1, 1, none⟩) hs1).trans z1
  have y0 := (B2.cell (p := ⟨S, 0, none⟩) (by show S < _; omega)).trans y0
  have y1 := (B2.cell (p := ⟨S, 1, none⟩) (by show S < _; omega)).trans y1
  have zf : ∀ j, w2.frozen? ⟨S + 1, j, none⟩ = false := fun j => (B2.frozen (p := ⟨S + 1, j, none⟩) hs1).trans (HZF.out j)
  have hB2 := hB1.trans (B2.mono (by omega))
  have hE2 := hE1.below B2
  have hs2 : S + 1 < w2.heap.size := World.block_lt_of_cell? w2 _ z0
  clear hE1 hB1 HZF B2 hs1
  have HT := hide ht
  have HE2 := hide hE2
  have HB2 := hide hB2
  clear ht hE2 hB2
  cases t with
  | false =>
    go_wp2
    obtain ⟨Z, hZ, c0, c1, zB⟩ : ∃ Z, Z = (w2.setCell ⟨S + 1, 0, none⟩ (.int .i64 0)).setCell ⟨S + 1, 1, none⟩ (.int .i64 0) ∧ FracEnd2 w S 0 0 Z := ⟨_, rfl, frac_endS z0 z1 HB2.out⟩
    rw [← hZ]
    refine bodyPost_ret (v := .tuple #[.agg #[.int .i64 0, .int .i64 0], .int .i64 3]) ?_ rfl ⟨⟨0, 0, 3, rfl, .inr (.inl ⟨HG.out, fun hc => ?_, rfl, rfl, rfl⟩)⟩, ?_⟩
    · simp [results, Try.f20, go_sem, c0, c1]
    · have := HT.out.2 (above_least (pes_in HG.out) (wtOk_of HG.out) hc)
      cases this
    · rw [HS.out]; exact zB
  | true =>
    have hcyc : HasCyc es := by
      by_cases hc : HasCyc es
      · exact hc
      · exact absurd (HT.out.1 rfl) (above_none (pes_in HG.out) hc _ _)
    obtain ⟨p, q, hqN, hm⟩ := mean_of HG.out hcyc
    obtain ⟨BB, hBB⟩ : ∃ BB, w2.heap.size = BB := ⟨_, rfl⟩
    obtain ⟨X, hX⟩ : ∃ X, X = w2.alloc (.cells #[.int .i64 0, .int .i64 0] 30) := ⟨_, rfl⟩
    have H0 : Hid (RgI w S N n c BB a (refBest (hiF p q) 0) X) := by
      have kc : ∀ {b j : Nat} {v : Value}, w2.cell? ⟨b, j, none⟩ = some v → X.cell? ⟨b, j, none⟩ = some v := fun {b j v} e => by
        rw [hX]; exact (((Below.refl w2.heap.size w2).alloc (Nat.le_refl _) _).cell (World.block_lt_of_cell? w2 _ e)).trans e
      refine hide ⟨kc y0, kc y1, kc z0, kc z1, fun j => ?_, ?_, ?_, fun j => ?_, ?_, by omega⟩
      · rw [hX]; exact (((Below.refl w2.heap.size w2).alloc (Nat.le_refl _) _).frozen (p := ⟨S + 1, j, none⟩) hs2).trans (zf j)
      · rw [hX, ← hBB]; simp [go_sem, refBest]
      · rw [hX, ← hBB]; simp [go_sem, refBest]
      · rw [hX, ← hBB]; simp [go_sem]
      · rw [hX]; exact HB2.out.alloc (by omega) _
    have HM := hide hm
    have HC := hide hcyc
    clear hm hcyc z0 z1 y0 y1 zf
    go_wp2_with fail
    rw [← hX]
    clear hX hBB hs2
    go_loopw [6] (fun bv wr => ∃ b : Nat, 1 ≤ b ∧ b ≤ N + 1 ∧ bv = .int .i64 b ∧ Hid (RgI w S N n c BB a (refBest (hiF p q) (b - 1)) wr)) (fun bv _ => N + 1 - (intOf bv).toNat)
    case atStart => exact ⟨1, by omega, by omega, rfl, H0⟩
    case round =>
      clear H0 X
      obtain ⟨b, hb1, hbN, rfl, hrel⟩ := hrel
      have y0 := hrel.out.g0
      have b0' : (0 : Int) ≤ (b : Int) := Int.natCast_nonneg _
      by_cases hlt : b ≤ N
      · have hlt' : (b : Int) ≤ (N : Int) := by omega
        have f1 : IntKind.i64.wrap (-1048577 * (b : Int)) = -1048577 * (b : Int) := IntWalk.i64_in _ (by omega)
        have f2 : IntKind.i64.wrap (1048576 * (b : Int)) = 1048576 * (b : Int) := IntWalk.i64_in _ (by omega)
        have HA0 : Hid (Above (pes es) (-1048577 * (b : Int)) (b : Int)) := by
          refine hide ?_
          have h1 := above_least (pes_in HG.out) (wtOk_of HG.out) HC.out
          rw [above_iff (pes_in HG.out) HM.out (by omega)] at h1 ⊢
          have := Int.mul_lt_mul_of_pos_right h1 (show (0 : Int) < b by omega)
          rw [Int.mul_right_comm] at this
          simpa using this
        have HA1 : Hid (¬ Above (pes es) (1048576 * (b : Int)) (b : Int)) := by
          refine hide ?_
          rw [above_iff (pes_in HG.out) HM.out (by omega)]
          have h1 := (mean_b HG.out HM.out).2
          have := Int.mul_le_mul_of_nonneg_right h1 b0'
          rw [show (q : Int) * 1048576 * b = 1048576 * b * q by rw [Int.mul_comm (q : Int), Int.mul_right_comm]] at this
          omega
        have HREL0 := hrel
        clear hrel
        go_wp2_with fail
        go_loopw [7, 8] (fun lo hi wr => ∃ l h : Int, lo = .int .i64 l ∧ hi = .int .i64 h ∧ -1048577 * (b : Int) ≤ l ∧ l < h ∧ h ≤ 1048576 * (b : Int) ∧ Hid (Above (pes es) l b) ∧ Hid (¬ Above (pes es) h b) ∧ Hid (RgI w S N n c BB a (refBest (hiF p q) (b - 1)) wr)) (fun lo hi _ => (intOf hi - intOf lo).toNat)
        case atStart => exact ⟨_, _, rfl, rfl, by omega, by omega, by omega, HA0, HA1, HREL0⟩
        case round =>
          clear HREL0 HA0 HA1 y0 f1 f2
          obtain ⟨l, h, rfl, rfl, hl1, hlh, hh1, HAl, HAh, hrel⟩ := hrel
          have g0 := hrel.out.g0
          have g1 := hrel.out.g1
          have s1 : IntKind.i64.wrap (h - l) = h - l := IntWalk.i64_in _ (by omega)
          have s2 : IntKind.i64.wrap (l + h) = l + h := IntWalk.i64_in _ (by omega)
          by_cases hd : 1 < h - l
          · obtain ⟨hm1, hm2⟩ := tdiv_mid (show l + 1 < h by omega)
            obtain ⟨md, hmd⟩ : ∃ md, Int.tdiv (l + h) 2 = md := ⟨_, rfl⟩
            rw [hmd] at hm1 hm2
            have s3 : IntKind.i64.wrap md = md := IntWalk.i64_in _ (by omega)
            have hEr := HE0.out.below (by rw [HS.out]; exact hrel.out.bl)
            go_wp2_with fail
            refine (rabove_any N _ _ _ es md b wr hEr HG.out ⟨by omega, by omega⟩ ⟨by omega, by omega⟩).mono ?_
            rintro e w5 ⟨⟨t, rfl, ht⟩, B5⟩
            have HR5 := hide (hrel.out.below B5)
            have HTT := hide ht
            clear ht B5 hEr g0 g1
            cases t with
            | true =>
              go_wp2
              exact ⟨⟨md, h, rfl, rfl, by omega, hm2, hh1, hide (HTT.out.1 (by first | trivial | rfl)), HAh, HR5⟩, by simp [intOf]; omega⟩
            | false =>
              go_wp2
              exact ⟨⟨l, md, rfl, rfl, hl1, hm1, by omega, HAl, hide (fun hh => by have := HTT.out.2 hh; first | exact this | (simp at this)), HR5⟩, by simp [intOf]; omega⟩
          · obtain rfl : h = l + 1 := by omega
            have hhi := isHi_one (pes_in HG.out) HM.out hb1 HAh.out (by rw [show l + 1 - 1 = l by omega]; exact HAl.out)
            obtain ⟨b1, rfl⟩ : ∃ b1, b = b1 + 1 := ⟨b - 1, by omega⟩
            rw [show b1 + 1 - 1 = b1 by omega] at hrel
            have hdef : refBest (hiF p q) (b1 + 1) = (if (refBest (hiF p q) b1).2 = 0 ∨ hiF p q (b1 + 1) * (refBest (hiF p q) b1).2 < (refBest (hiF p q) b1).1 * ((b1 + 1 : Nat) : Int) then (hiF p q (b1 + 1), ((b1 + 1 : Nat) : Int)) else refBest (hiF p q) b1) := rfl
            have hrb := refBest_b (his := hiF p q) (N := N) (fun b hb => hiF_b HM.out.pos (mean_b HG.out HM.out) (by omega)) b1 (by omega)
            obtain ⟨⟨x, y⟩, hxy⟩ : ∃ f, refBest (hiF p q) b1 = f := ⟨_, rfl⟩
            rw [hxy] at hdef hrel hrb
            rw [← hhi] at hdef
            dsimp only at hdef hrb
            rw [show ((b1 + 1 : Nat) : Int) = (b1 : Int) + 1 by omega] at hdef
            have HD := hide hdef
            have e0 := hrel.out.b0
            have e1 := hrel.out.b1
            have ef0 := hrel.out.bf 0
            have ef1 := hrel.out.bf 1
            dsimp only at e0 e1
            have HHI := hide hhi
            have HREL := hrel
            clear hrel
            clear hdef hxy hhi
            by_cases hy : y = 0
            · subst hy
              have hN1 : Hid (refBest (hiF p q) (b1 + 1) = (l + 1, (b1 : Int) + 1)) := hide (by rw [HD.out, if_pos (.inl rfl)])
              go_wp2
              exact ⟨⟨b1 + 1 + 1, by omega, by omega, by simp, hide (by
                rw [show b1 + 1 + 1 - 1 = b1 + 1 by omega, hN1.out]
                have := HREL.out.put (l + 1) ((b1 : Int) + 1)
                simpa using this)⟩, by simp [intOf]; omega⟩
            · have hyb : ((y : Int) == 0) = false := by simpa using hy
              have q1 : -1000000000 * 300 ≤ (l + 1) * y ∧ (l + 1) * y ≤ 1000000000 * 300 := mul_b (by omega) (by omega)
              have q2 : -1000000000 * 300 ≤ x * ((b1 : Int) + 1) ∧ x * ((b1 : Int) + 1) ≤ 1000000000 * 300 := mul_b hrb.1 (by omega)
              have w1 : IntKind.i64.wrap ((l + 1) * y) = (l + 1) * y := IntWalk.i64_in _ (by omega)
              have w2 : IntKind.i64.wrap (x * ((b1 : Int) + 1)) = x * ((b1 : Int) + 1) := IntWalk.i64_in _ (by omega)
              by_cases hc : (l + 1) * y < x * ((b1 : Int) + 1)
              · have hN1 : Hid (refBest (hiF p q) (b1 + 1) = (l + 1, ((b1 : Int) + 1))) := hide (by rw [HD.out, if_pos (.inr hc)])
                have hcb : decide ((l + 1) * y < x * ((b1 : Int) + 1)) = true := decide_eq_true hc
                clear q1 q2
                go_wp2
                exact ⟨⟨b1 + 1 + 1, by omega, by omega, by simp, hide (by
                  rw [show b1 + 1 + 1 - 1 = b1 + 1 by omega, hN1.out]
                  have := HREL.out.put (l + 1) ((b1 : Int) + 1)
                  simpa using this)⟩, by simp [intOf]; omega⟩
              · have hN1 : Hid (refBest (hiF p q) (b1 + 1) = (x, y)) := hide (by rw [HD.out, if_neg (fun h => h.elim hy hc)])
                have hcb : decide ((l + 1) * y < x * ((b1 : Int) + 1)) = false := decide_eq_false hc
                clear q1 q2
                go_wp2
                exact ⟨⟨b1 + 1 + 1, by omega, by omega, by simp, hide (by
                  rw [show b1 + 1 + 1 - 1 = b1 + 1 by omega, hN1.out]
                  exact HREL.out)⟩, by simp [intOf]; omega⟩
      · obtain rfl : b = N + 1 := by omega
        rw [show N + 1 - 1 = N by omega] at hrel
        obtain ⟨hp0, hgr⟩ := great_ref HG.out HC.out (fun b hb _ => isHi_of (pes_in HG.out) HM.out b hb)
        have hrb := refBest_b (his := hiF p q) (N := N) (fun b hb => hiF_b HM.out.pos (mean_b HG.out HM.out) (by omega)) N (Nat.le_refl _)
        obtain ⟨⟨x, y⟩, hxy⟩ : ∃ f, refBest (hiF p q) N = f := ⟨_, rfl⟩
        rw [hxy] at hp0 hgr hrel hrb
        dsimp only at hp0 hgr hrb
        have e0 := hrel.out.b0
        have e1 := hrel.out.b1
        dsimp only at e0 e1
        have HGR := hide hgr
        have HREL := hrel
        clear hgr hrel hxy
        go_wp2_with fail
        refine (rlowest_any x y wr hp0 ⟨by omega, by omega⟩ (by omega)).mono ?_
        rintro e w5 ⟨rfl, B5⟩
        have HR5 := hide (HREL.out.below B5)
        have z0 := HR5.out.r0
        have z1 := HR5.out.r1
        have zf := HR5.out.rf
        obtain ⟨u, hu⟩ : ∃ u, x / (Int.gcd x y : Int) = u := ⟨_, rfl⟩
        obtain ⟨v, hv⟩ : ∃ v, y / (Int.gcd x y : Int) = v := ⟨_, rfl⟩
        rw [hu, hv]
        have HGR := hide (show GreatSays N es u v 0 by have := HGR.out; rw [hu, hv] at this; exact this)
        clear hu hv B5
        go_wp2
        obtain ⟨Z, hZ, c0, c1, zB⟩ : ∃ Z, Z = (w5.setCell ⟨S + 1, 0, none⟩ (.int .i64 u)).setCell ⟨S + 1, 1, none⟩ (.int .i64 v) ∧ FracEnd2 w S u v Z := ⟨_, rfl, frac_endS z0 z1 HR5.out.bl⟩
        rw [← hZ]
        refine bodyPost_ret (v := .tuple #[.agg #[.int .i64 u, .int .i64 v], .int .i64 0]) ?_ rfl ⟨⟨u, v, 0, rfl, HGR.out⟩, ?_⟩
        · simp [results, Try.f20, go_sem, c0, c1]
        · rw [HS.out]; exact zB

end Go.Proofs.Ythjicnddfjpnjaa
