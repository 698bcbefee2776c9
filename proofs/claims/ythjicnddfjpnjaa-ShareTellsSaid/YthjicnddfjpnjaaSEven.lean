/-
  WALKS: share.Even and NEven.
-/
import Derived.Test.YthjicnddfjpnjaaSGcd
import Derived.Test.YthjicnddfjpnjaaRegG
import Derived.Deep.DeepCutAuto
namespace Go.Proofs.Ythjicnddfjpnjaa
open Go.RowKit
set_option linter.unusedSimpArgs false
set_option linter.unusedVariables false

attribute [local go_sem] iteMin iteMax iteMinN iteMaxN

theorem wpAnyG_true {P : Program} {ops : Array Oper} {Q : Exit → Act → World → Prop} {md : Region.Mode} {c i : Nat} {oi : Oper} {v : Value} {fuel : Nat} {listed : Array Bool} {a : Act} {w : World} (hi : ops[i]? = some oi)
    (hs : Region.noSelect ops = true) (hf : Region.free md ops listed i = true) (hr : (Region.ready md ops listed).contains i = true) (hB : closedB md ops listed = true) (hc : decide (i ≠ c) = true)
    (hQ : ∀ c a w, Q (.panic c) (a.put oi.dst v) w → Q (.panic c) a w) (hy : YieldsIf P ops (fun _ => True) oi v a)
    (h : wpAnyG P md ops Q c (fun _ => True) fuel (listed.setIfInBounds i true) (a.put oi.dst v) w) : wpAnyG P md ops Q c (fun _ => True) (fuel + 1) listed a w :=
  wpAnyG_first hi (Region.noSelect_spec hs) (of_decide_eq_true hc) hQ (fun L w inv hL hS => trivial) fuel listed a w (closedB_spec hB) (Region.free_spec hi hf) (by simpa using hr) hy (fun _ => trivial) h
/-- what Even answers -/
def IsEven (xs : List Int) (u v r : Int) : Prop :=
  (¬ RightS xs ∧ u = 0 ∧ v = 0 ∧ r = 2) ∨ (RightS xs ∧ s1 (fun j => xs.getD j 0) xs.length = 0 ∧ u = 0 ∧ v = 0 ∧ r = 3) ∨
  (RightS xs ∧ s1 (fun j => xs.getD j 0) xs.length ≠ 0 ∧ ∃ a b : Nat, (a : Int) = s1 (fun j => xs.getD j 0) xs.length * s1 (fun j => xs.getD j 0) xs.length ∧ (b : Int) = (xs.length : Int) * s2 (fun j => xs.getD j 0) xs.length ∧ u = ((a / Nat.gcd a b : Nat) : Int) ∧ v = ((b / Nat.gcd a b : Nat) : Int) ∧ r = 0)
theorem isEven_one {xs : List Int} {u v r u' v' r' : Int} (h : IsEven xs u v r) (h' : IsEven xs u' v' r') : u = u' ∧ v = v' ∧ r = r' := by
  rcases h with ⟨a1, rfl, rfl, rfl⟩ | ⟨a1, a2, rfl, rfl, rfl⟩ | ⟨a1, a2, a, b, ha, hb, rfl, rfl, rfl⟩ <;> rcases h' with ⟨b1, rfl, rfl, rfl⟩ | ⟨b1, b2, rfl, rfl, rfl⟩ | ⟨b1, b2, a', b', ha', hb', rfl, rfl, rfl⟩
  · exact ⟨rfl, rfl, rfl⟩
  · exact absurd b1 a1
  · exact absurd b1 a1
  · exact absurd a1 b1
  · exact ⟨rfl, rfl, rfl⟩
  · exact absurd a2 b2
  · exact absurd a1 b1
  · exact absurd b2 a2
  · have e1 : a = a' := by omega
    have e2 : b = b' := by omega
    subst e1; subst e2
    exact ⟨rfl, rfl, rfl⟩
theorem sq_le {S : Int} (h0 : 0 ≤ S) (h1 : S ≤ 314572800) : 0 ≤ S * S ∧ S * S ≤ 98956046499840000 :=
  ⟨Int.mul_nonneg h0 h0, Int.le_trans (Int.mul_le_mul h1 h1 h0 (by omega)) (by decide)⟩
theorem s1_mono {f : Nat → Int} : ∀ n k, (∀ j, j < n → 0 ≤ f j ∧ f j ≤ 1048576) → k ≤ n → s1 f k ≤ s1 f n
  | 0, k, _, h => by obtain rfl : k = 0 := by omega
                     exact Int.le_refl _
  | n + 1, k, hf, h => by
    by_cases e : k = n + 1
    · subst e; exact Int.le_refl _
    · have := s1_mono (f := f) n k (fun j hj => hf j (by omega)) (by omega)
      have := hf n (by omega)
      simp only [s1]; omega
theorem len_s2 {n : Nat} {Q : Int} (hn : n ≤ 300) (h0 : 0 ≤ Q) (h1 : Q ≤ 329853488332800) : 0 ≤ (n : Int) * Q ∧ (n : Int) * Q ≤ 98956046499840000 :=
  ⟨Int.mul_nonneg (Int.natCast_nonneg _) h0, Int.le_trans (Int.mul_le_mul (show (n : Int) ≤ 300 by omega) h1 h0 (by omega)) (by decide)⟩
def EvenBack (xs : List Int) (e : Ending) : Prop := ∃ u v r, IsEven xs u v r ∧ e = .returned (.tuple #[.agg #[.int .i64 u, .int .i64 v], .int .i64 r])

set_option maxRecDepth 100000 in
set_option maxHeartbeats 4000000 in
theorem even_no (a : Option Addr) (n c : Nat) (xs : List Int) (w : World) (h : IntsAt w a n c xs) (hs : ¬ RightS xs) : Calls Try.prog 13 #[.slice a n c] w fun e w' => EvenBack xs e ∧ Below w.heap.size w w' := by
  obtain ⟨S, hS⟩ : ∃ S, w.heap.size = S := ⟨_, rfl⟩
  have HR := hide (fun (w' : World) (hw : Below w.heap.size w w') => sRight_any a n c xs w' (h.below hw))
  go_enter Try.func13, Try.ntmps13
  go_wp2_with fail
  obtain ⟨W, hW⟩ : ∃ W, W = w.alloc (.cells #[.int .i64 0, .int .i64 0] 30) := ⟨_, rfl⟩
  rw [← hW]
  have b0 : W.cell? ⟨S, 0, none⟩ = some (.int .i64 0) := by rw [hW, ← hS]; simp [go_sem]
  have b1 : W.cell? ⟨S, 1, none⟩ = some (.int .i64 0) := by rw [hW, ← hS]; simp [go_sem]
  have fz : ∀ j, W.frozen? ⟨S, j, none⟩ = false := by intro j; rw [hW, ← hS]; simp [go_sem]
  have BS : Below w.heap.size w W := by rw [hW]; exact (Below.refl _ _).alloc (Nat.le_refl _) _
  have hlt : S < W.heap.size := World.block_lt_of_cell? W _ b0
  have HBS := hide BS
  clear hW BS
  refine (callF (HR.out W HBS.out) hs).mono ?_
  rintro e w1 ⟨rfl, rfl⟩
  have hs' := hide hs
  have fz0 := fz 0
  have fz1 := fz 1
  clear HR h hs
  go_wp2
  obtain ⟨Z, hZ⟩ : ∃ Z, Z = ((W.setCell ⟨S, 0, none⟩ (.int .i64 0)).setCell ⟨S, 1, none⟩ (.int .i64 0)) := ⟨_, rfl⟩
  have c0 : Z.cell? ⟨S, 0, none⟩ = some (.int .i64 0) := by
    rw [hZ]; show ((W.setCell ⟨S, 0, none⟩ (.int .i64 0)).setCell ⟨S, 1, none⟩ (.int .i64 0)).cell? _ = _
    rw [World.cell?_setCell_other _ _ _ _ (fun e => by injection e with _ e; omega)]
    exact World.cell?_setCell_same' _ _ _ (by rw [b0]; rfl)
  have c1 : Z.cell? ⟨S, 1, none⟩ = some (.int .i64 0) := by
    rw [hZ]; show ((W.setCell ⟨S, 0, none⟩ (.int .i64 0)).setCell ⟨S, 1, none⟩ (.int .i64 0)).cell? _ = _
    exact World.cell?_setCell_same' _ _ _ (by rw [World.cell?_setCell_other _ _ _ _ (fun e => by injection e with _ e; omega), b1]; rfl)
  have zB : Below w.heap.size w Z := by rw [hZ]; exact ((HBS.out.setCell (p := ⟨S, 0, none⟩) (by simp only; omega) _).setCell (p := ⟨S, 1, none⟩) (by simp only; omega) _)
  rw [← hZ]
  clear hZ
  refine bodyPost_ret (v := .tuple #[.agg #[.int .i64 0, .int .i64 0], .int .i64 2]) ?_ rfl ⟨⟨0, 0, 2, .inl ⟨hs'.out, rfl, rfl, rfl⟩, rfl⟩, by first | exact zB | (rw [← hS]; exact zB)⟩
  simp [results, Try.f13, go_sem, c0, c1]

set_option maxRecDepth 100000 in
set_option maxHeartbeats 4000000 in
theorem neven_no (a : Option Addr) (n c : Nat) (xs : List Int) (w : World) (h : IntsAt w a n c xs) (hs : ¬ RightS xs) : Calls Try.prog 14 #[.slice a n c] w fun e w' => EvenBack xs e ∧ Below w.heap.size w w' := by
  obtain ⟨S, hS⟩ : ∃ S, w.heap.size = S := ⟨_, rfl⟩
  have HR := hide (fun (w' : World) (hw : Below w.heap.size w w') => nRight_any a n c xs w' (h.below hw))
  go_enter Try.func14, Try.ntmps14
  go_wp2_with fail
  obtain ⟨W, hW⟩ : ∃ W, W = w.alloc (.cells #[.int .i64 0, .int .i64 0] 30) := ⟨_, rfl⟩
  rw [← hW]
  have b0 : W.cell? ⟨S, 0, none⟩ = some (.int .i64 0) := by rw [hW, ← hS]; simp [go_sem]
  have b1 : W.cell? ⟨S, 1, none⟩ = some (.int .i64 0) := by rw [hW, ← hS]; simp [go_sem]
  have fz : ∀ j, W.frozen? ⟨S, j, none⟩ = false := by intro j; rw [hW, ← hS]; simp [go_sem]
  have BS : Below w.heap.size w W := by rw [hW]; exact (Below.refl _ _).alloc (Nat.le_refl _) _
  have hlt : S < W.heap.size := World.block_lt_of_cell? W _ b0
  have HBS := hide BS
  clear hW BS
  refine (callF (HR.out W HBS.out) hs).mono ?_
  rintro e w1 ⟨rfl, rfl⟩
  have hs' := hide hs
  have fz0 := fz 0
  have fz1 := fz 1
  clear HR h hs
  go_wp2
  obtain ⟨Z, hZ⟩ : ∃ Z, Z = ((W.setCell ⟨S, 0, none⟩ (.int .i64 0)).setCell ⟨S, 1, none⟩ (.int .i64 0)) := ⟨_, rfl⟩
  have c0 : Z.cell? ⟨S, 0, none⟩ = some (.int .i64 0) := by
    rw [hZ]; show ((W.setCell ⟨S, 0, none⟩ (.int .i64 0)).setCell ⟨S, 1, none⟩ (.int .i64 0)).cell? _ = _
    rw [World.cell?_setCell_other _ _ _ _ (fun e => by injection e with _ e; omega)]
    exact World.cell?_setCell_same' _ _ _ (by rw [b0]; rfl)
  have c1 : Z.cell? ⟨S, 1, none⟩ = some (.int .i64 0) := by
    rw [hZ]; show ((W.setCell ⟨S, 0, none⟩ (.int .i64 0)).setCell ⟨S, 1, none⟩ (.int .i64 0)).cell? _ = _
    exact World.cell?_setCell_same' _ _ _ (by rw [World.cell?_setCell_other _ _ _ _ (fun e => by injection e with _ e; omega), b1]; rfl)
  have zB : Below w.heap.size w Z := by rw [hZ]; exact ((HBS.out.setCell (p := ⟨S, 0, none⟩) (by simp only; omega) _).setCell (p := ⟨S, 1, none⟩) (by simp only; omega) _)
  rw [← hZ]
  clear hZ
  refine bodyPost_ret (v := .tuple #[.agg #[.int .i64 0, .int .i64 0], .int .i64 2]) ?_ rfl ⟨⟨0, 0, 2, .inl ⟨hs'.out, rfl, rfl, rfl⟩, rfl⟩, by first | exact zB | (rw [← hS]; exact zB)⟩
  simp [results, Try.f14, go_sem, c0, c1]

set_option maxRecDepth 100000 in
set_option maxHeartbeats 8000000 in
theorem even_ok (a : Option Addr) (n c : Nat) (xs : List Int) (w : World) (h : IntsAt w a n c xs) (hs : RightS xs) : Calls Try.prog 13 #[.slice a n c] w fun e w' => EvenBack xs e ∧ Below w.heap.size w w' := by
  obtain ⟨S, hS⟩ : ∃ S, w.heap.size = S := ⟨_, rfl⟩
  have HR := hide (fun (w' : World) (hw : Below w.heap.size w w') => sRight_any a n c xs w' (h.below hw))
  go_enter Try.func13, Try.ntmps13
  go_wp2_with fail
  obtain ⟨W, hW⟩ : ∃ W, W = w.alloc (.cells #[.int .i64 0, .int .i64 0] 30) := ⟨_, rfl⟩
  rw [← hW]
  have b0 : W.cell? ⟨S, 0, none⟩ = some (.int .i64 0) := by rw [hW, ← hS]; simp [go_sem]
  have b1 : W.cell? ⟨S, 1, none⟩ = some (.int .i64 0) := by rw [hW, ← hS]; simp [go_sem]
  have fz : ∀ j, W.frozen? ⟨S, j, none⟩ = false := by intro j; rw [hW, ← hS]; simp [go_sem]
  have BS : Below w.heap.size w W := by rw [hW]; exact (Below.refl _ _).alloc (Nat.le_refl _) _
  have hlt : S < W.heap.size := World.block_lt_of_cell? W _ b0
  have HBS := hide BS
  clear hW BS
  have HS := hide hs
  have hl := h.len
  have hn3 : n ≤ 300 := by rw [← hl]; exact hs.1
  obtain ⟨f, hf⟩ : ∃ f : Nat → Int, f = fun j => xs.getD j 0 := ⟨_, rfl⟩
  have HFF := hide hf
  have HRf := hide (show ∀ j, j < n → 0 ≤ f j ∧ f j ≤ 1048576 by rw [hf, ← hl]; exact right_f hs.2)
  refine (callT (HR.out W HBS.out) hs).mono ?_
  rintro e w1 ⟨rfl, rfl⟩
  have HI := hide (h.below HBS.out)
  have fz0 := fz 0
  have fz1 := fz 1
  clear HR h hs hf
  go_wp2
  go_loopw [4, 5, 16] (fun s q i wr => ∃ k : Nat, k ≤ n ∧ i = .int .i64 k ∧ s = .int .i64 (s1 f k) ∧ q = .int .i64 (s2 f k) ∧ wr = W) (fun _ _ i _ => n - (intOf i).toNat)
  case atStart => exact ⟨0, Nat.zero_le _, rfl, rfl, rfl, rfl⟩
  case round =>
    obtain ⟨k, hk, rfl, rfl, rfl, hwr⟩ := hrel
    have hwr2 := hwr.symm
    subst hwr2
    have k0 : (0 : Int) ≤ (k : Int) := Int.natCast_nonneg _
    have z1 := s1_bound (f := f) k (fun j hj => HRf.out j (by omega))
    have z2 := s2_bound (f := f) k (fun j hj => HRf.out j (by omega))
    by_cases hlt' : k < n
    · obtain ⟨ad, x, rfl, hbd, hc, HX⟩ := HI.out.getB (Below.refl _ _) hlt'
      have k1 : (k : Int) < (n : Int) := by omega
      have e : f k = x := by rw [HFF.out]; exact getD_of HX.out
      have hx := HRf.out k hlt'
      rw [e] at hx
      have hsq := sq_bound hx
      have E1 := hide (show s1 f (k + 1) = s1 f k + x by simp only [s1]; rw [e])
      have E2 := hide (show s2 f (k + 1) = s2 f k + x * x by simp only [s2]; rw [e])
      obtain ⟨X1, hX1⟩ : ∃ X1, s1 f k = X1 := ⟨_, rfl⟩
      obtain ⟨X2, hX2⟩ : ∃ X2, s2 f k = X2 := ⟨_, rfl⟩
      rw [hX1] at z1 E1 ⊢
      rw [hX2] at z2 E2 ⊢
      obtain ⟨xx, hxx⟩ : ∃ xx, x * x = xx := ⟨_, rfl⟩
      rw [hxx] at hsq E2
      have hw0 : IntKind.i64.wrap xx = xx := by rw [IntKind.wrap_i64]; omega
      have hw1 : IntKind.i64.wrap (X1 + x) = X1 + x := by rw [IntKind.wrap_i64]; omega
      have hw2 : IntKind.i64.wrap (X2 + xx) = X2 + xx := by rw [IntKind.wrap_i64]; omega
      clear hX1 hX2 e HX
      go_wp2
      go_roundw
      case rel => exact ⟨k + 1, by omega, by go_num, by rw [E1.out], by rw [E2.out], by first | rfl | trivial⟩
      case measure => (simp [intOf] <;> omega)
    · obtain rfl : n = k := by omega
      have hzz := s_zero (f := f) n (fun j hj => HRf.out j hj)
      obtain ⟨X1, hX1⟩ : ∃ X1, s1 f n = X1 := ⟨_, rfl⟩
      obtain ⟨X2, hX2⟩ : ∃ X2, s2 f n = X2 := ⟨_, rfl⟩
      have HX1 := hide hX1
      have HX2 := hide hX2
      rw [hX1] at z1 hzz ⊢
      rw [hX2] at z2 hzz ⊢
      clear hX1 hX2 HI
      by_cases h0 : X1 = 0
      · subst h0
        have HP := hide (show EvenBack xs (.returned (.tuple #[.agg #[.int .i64 0, .int .i64 0], .int .i64 3])) from ⟨0, 0, 3, .inr (.inl ⟨HS.out, by rw [← HFF.out, hl]; exact HX1.out, rfl, rfl, rfl⟩), rfl⟩)
        clear hzz z1 z2
        go_wp2
        obtain ⟨Z, hZ⟩ : ∃ Z, Z = ((W.setCell ⟨S, 0, none⟩ (.int .i64 0)).setCell ⟨S, 1, none⟩ (.int .i64 0)) := ⟨_, rfl⟩
        have c0 : Z.cell? ⟨S, 0, none⟩ = some (.int .i64 0) := by
          rw [hZ]; show ((W.setCell ⟨S, 0, none⟩ (.int .i64 0)).setCell ⟨S, 1, none⟩ (.int .i64 0)).cell? _ = _
          rw [World.cell?_setCell_other _ _ _ _ (fun e => by injection e with _ e; omega)]
          exact World.cell?_setCell_same' _ _ _ (by rw [b0]; rfl)
        have c1 : Z.cell? ⟨S, 1, none⟩ = some (.int .i64 0) := by
          rw [hZ]; show ((W.setCell ⟨S, 0, none⟩ (.int .i64 0)).setCell ⟨S, 1, none⟩ (.int .i64 0)).cell? _ = _
          exact World.cell?_setCell_same' _ _ _ (by rw [World.cell?_setCell_other _ _ _ _ (fun e => by injection e with _ e; omega), b1]; rfl)
        have zB : Below w.heap.size w Z := by rw [hZ]; exact ((HBS.out.setCell (p := ⟨S, 0, none⟩) (by simp only; omega) _).setCell (p := ⟨S, 1, none⟩) (by simp only; omega) _)
        rw [← hZ]
        clear hZ
        refine bodyPost_ret (v := .tuple #[.agg #[.int .i64 0, .int .i64 0], .int .i64 3]) ?_ rfl ⟨HP.out, by first | exact zB | (rw [← hS]; exact zB)⟩
        simp [results, Try.f13, go_sem, c0, c1]
      · have hX1n : (X1 == 0) = false := by simpa using h0
        have s0 := sq_le z1.1 (by omega)
        have l0 := len_s2 hn3 z2.1 (by omega)
        have X2p : 0 < X2 := by
          rcases Int.lt_or_le 0 X2 with h | h
          · exact h
          · exact absurd (hzz.2 (by omega)) h0
        have n0 : 0 < n := by
          rcases Nat.eq_zero_or_pos n with h | h
          · subst h; exact absurd HX1.out.symm (fun e => h0 (by rw [e]; rfl))
          · exact h
        obtain ⟨A, hA⟩ : ∃ A : Nat, X1 * X1 = (A : Int) := ⟨(X1 * X1).toNat, by omega⟩
        obtain ⟨B, hB⟩ : ∃ B : Nat, (n : Int) * X2 = (B : Int) := ⟨((n : Int) * X2).toNat, by omega⟩
        have hBp : 0 < B := by
          have : 0 < (n : Int) * X2 := Int.mul_pos (by omega) X2p
          omega
        rw [hA] at s0
        rw [hB] at l0
        have hg0 : 0 < Nat.gcd A B := Nat.gcd_pos_of_pos_right _ hBp
        obtain ⟨g, hg⟩ : ∃ g, Nat.gcd A B = g := ⟨_, rfl⟩
        rw [hg] at hg0
        have HG := hide (fun (w' : World) => show Calls Try.prog 31 #[.int .i64 (A : Int), .int .i64 (B : Int)] w' (fun e w'' => e = .returned (.int .i64 (g : Int)) ∧ Below w'.heap.size w' w'') by rw [← hg]; exact gcd_any A B w')
        have q1 : Int.tdiv (A : Int) (g : Int) = ((A / g : Nat) : Int) := (Int.ofNat_tdiv A g).symm
        have q2 : Int.tdiv (B : Int) (g : Int) = ((B / g : Nat) : Int) := (Int.ofNat_tdiv B g).symm
        have g1 : ¬ (g : Int) = 0 := by omega
        have g2 : ((g : Int) == 0) = false := by simp; omega
        have gp : (0 : Int) < (g : Int) := by omega
        have g4 : ¬ g = 0 := by omega
        have d1 : A / g ≤ A := Nat.div_le_self _ _
        have d2 : B / g ≤ B := Nat.div_le_self _ _
        have HP := hide (show EvenBack xs (.returned (.tuple #[.agg #[.int .i64 ((A / g : Nat) : Int), .int .i64 ((B / g : Nat) : Int)], .int .i64 0])) from ⟨_, _, 0, .inr (.inr ⟨HS.out, by rw [← HFF.out, hl, HX1.out]; exact h0, A, B, by rw [← HFF.out, hl, HX1.out]; exact hA.symm, by rw [← HFF.out, hl, HX2.out]; exact hB.symm, by rw [hg], by rw [hg], rfl⟩), rfl⟩)
        obtain ⟨u, hu⟩ : ∃ u, A / g = u := ⟨_, rfl⟩
        obtain ⟨v, hv⟩ : ∃ v, B / g = v := ⟨_, rfl⟩
        rw [hu] at q1 d1 HP
        rw [hv] at q2 d2 HP
        have hw1 : IntKind.i64.wrap (A : Int) = (A : Int) := by rw [IntKind.wrap_i64]; omega
        have hw2 : IntKind.i64.wrap (B : Int) = (B : Int) := by rw [IntKind.wrap_i64]; omega
        have hw3 : IntKind.i64.wrap (u : Int) = (u : Int) := by rw [IntKind.wrap_i64]; omega
        have hw4 : IntKind.i64.wrap (v : Int) = (v : Int) := by rw [IntKind.wrap_i64]; omega
        clear hzz z1 z2 hg hu hv X2p
        go_upto_region 12 with fail
        refine wp_region_G 3 (fun _ => True) (by kernel_rfl) ?_
        refine wpAnyG_true (i := 0) (v := ?v0) rfl (by kernel_rfl) (by kernel_rfl) (by kernel_rfl) (by kernel_rfl) (by kernel_rfl) (fun _ _ _ h => h) (Or.inl ⟨by rfl, ?hy0⟩) ?rest0
        case hy0 =>
          intro w _
          go_simp
          all_goals (with_reducible rfl)
        try simp only [Act.put, List.setIfInBounds_toArray, List.set_cons_zero, List.set_cons_succ]
        refine wpAnyG_true (i := 1) (v := ?v1) rfl (by kernel_rfl) (by kernel_rfl) (by kernel_rfl) (by kernel_rfl) (by kernel_rfl) (fun _ _ _ h => h) (Or.inl ⟨by rfl, ?hy1⟩) ?rest1
        case hy1 =>
          intro w _
          go_simp
          all_goals (with_reducible rfl)
        try simp only [Act.put, List.setIfInBounds_toArray, List.set_cons_zero, List.set_cons_succ]
        refine wpAnyG_true (i := 2) (v := ?v2) rfl (by kernel_rfl) (by kernel_rfl) (by kernel_rfl) (by kernel_rfl) (by kernel_rfl) (fun _ _ _ h => h) (Or.inl ⟨by rfl, ?hy2⟩) ?rest2
        case hy2 =>
          intro w _
          go_simp
          all_goals (with_reducible rfl)
        try simp only [Act.put, List.setIfInBounds_toArray, List.set_cons_zero, List.set_cons_succ]
        refine wpAnyG_true (i := 5) (v := ?v5) rfl (by kernel_rfl) (by kernel_rfl) (by kernel_rfl) (by kernel_rfl) (by kernel_rfl) (fun _ _ _ h => h) (Or.inl ⟨by rfl, ?hy5⟩) ?rest5
        case hy5 =>
          intro w _
          go_simp
          all_goals (with_reducible rfl)
        try simp only [Act.put, List.setIfInBounds_toArray, List.set_cons_zero, List.set_cons_succ]
        refine wpAnyG_true (i := 6) (v := ?v6) rfl (by kernel_rfl) (by kernel_rfl) (by kernel_rfl) (by kernel_rfl) (by kernel_rfl) (fun _ _ _ h => h) (Or.inl ⟨by rfl, ?hy6⟩) ?rest6
        case hy6 =>
          intro w _
          go_simp
          all_goals (with_reducible rfl)
        try simp only [Act.put, List.setIfInBounds_toArray, List.set_cons_zero, List.set_cons_succ]
        refine wpAnyG_true (i := 7) (v := ?v7) rfl (by kernel_rfl) (by kernel_rfl) (by kernel_rfl) (by kernel_rfl) (by kernel_rfl) (fun _ _ _ h => h) (Or.inl ⟨by rfl, ?hy7⟩) ?rest7
        case hy7 =>
          intro w _
          go_simp
          all_goals (with_reducible rfl)
        try simp only [Act.put, List.setIfInBounds_toArray, List.set_cons_zero, List.set_cons_succ]
        refine wpAnyG_one (i := 3) rfl (by kernel_rfl) (by kernel_rfl) (fun K hK => ?_)
        go_simp
        go_wp2_with (go_at_call 31; refine (HG.out _).mono ?_; rintro e w2 ⟨rfl, hB2⟩)
        refine hK.out _ _ ?_
        clear hK K
        try simp only [Act.put, List.setIfInBounds_toArray, List.set_cons_zero, List.set_cons_succ]
        refine wpAnyG_true (i := 4) (v := ?v4) rfl (by kernel_rfl) (by kernel_rfl) (by kernel_rfl) (by kernel_rfl) (by kernel_rfl) (fun _ _ _ h => h) (Or.inl ⟨by rfl, ?hy4⟩) ?rest4
        case hy4 =>
          intro w _
          go_simp
          all_goals (with_reducible rfl)
        try simp only [Act.put, List.setIfInBounds_toArray, List.set_cons_zero, List.set_cons_succ]
        refine wpAnyG_one (i := 8) rfl (by kernel_rfl) (by kernel_rfl) (fun K hK => ?_)
        go_simp
        go_wp2_with (go_at_call 31; refine (HG.out _).mono ?_; rintro e w3 ⟨rfl, hB3⟩)
        refine hK.out _ _ ?_
        clear hK K
        try simp only [Act.put, List.setIfInBounds_toArray, List.set_cons_zero, List.set_cons_succ]
        refine wpAnyG_true (i := 9) (v := ?v9) rfl (by kernel_rfl) (by kernel_rfl) (by kernel_rfl) (by kernel_rfl) (by kernel_rfl) (fun _ _ _ h => h) (Or.inl ⟨by rfl, ?hy9⟩) ?rest9
        case hy9 =>
          intro w _
          go_simp
          all_goals (with_reducible rfl)
        try simp only [Act.put, List.setIfInBounds_toArray, List.set_cons_zero, List.set_cons_succ]
        refine wpAnyG_true (i := 10) (v := ?v10) rfl (by kernel_rfl) (by kernel_rfl) (by kernel_rfl) (by kernel_rfl) (by kernel_rfl) (fun _ _ _ h => h) (Or.inl ⟨by rfl, ?hy10⟩) ?rest10
        case hy10 =>
          intro w _
          go_simp
          all_goals (with_reducible rfl)
        try simp only [Act.put, List.setIfInBounds_toArray, List.set_cons_zero, List.set_cons_succ]
        have hBB : Below W.heap.size W w3 := ((Below.refl W.heap.size W).drew.trans hB2).trans (hB3.mono (by have := hB2.size; first | exact this | (simp at this ⊢; omega)))
        have HBS := hide (HBS.out.trans (hBB.mono HBS.out.size))
        have b0 : w3.cell? ⟨S, 0, none⟩ = some (.int .i64 0) := (hBB.cell hlt).trans b0
        have b1 : w3.cell? ⟨S, 1, none⟩ = some (.int .i64 0) := (hBB.cell hlt).trans b1
        have fz0 : w3.frozen? ⟨S, 0, none⟩ = false := (hBB.frozen hlt).trans fz0
        have fz1 : w3.frozen? ⟨S, 1, none⟩ = false := (hBB.frozen hlt).trans fz1
        clear hBB hB2 hB3
        refine wpAnyG_one (i := 11) rfl (by kernel_rfl) (by kernel_rfl) (fun K hK => ?_)
        go_simp
        refine hK.out _ _ ?_
        clear hK K
        try simp only [Act.put, List.setIfInBounds_toArray, List.set_cons_zero, List.set_cons_succ]
        refine wpAnyG_one (i := 12) rfl (by kernel_rfl) (by kernel_rfl) (fun K hK => ?_)
        go_simp
        refine hK.out _ _ ?_
        clear hK K
        try simp only [Act.put, List.setIfInBounds_toArray, List.set_cons_zero, List.set_cons_succ]
        refine wpAnyG_done (by kernel_rfl) ?_ _
        go_wp2
        obtain ⟨Z, hZ⟩ : ∃ Z, Z = ((w3.setCell ⟨S, 0, none⟩ (.int .i64 (u : Int))).setCell ⟨S, 1, none⟩ (.int .i64 (v : Int))) := ⟨_, rfl⟩
        have c0 : Z.cell? ⟨S, 0, none⟩ = some (.int .i64 (u : Int)) := by
          rw [hZ]; show ((w3.setCell ⟨S, 0, none⟩ (.int .i64 (u : Int))).setCell ⟨S, 1, none⟩ (.int .i64 (v : Int))).cell? _ = _
          rw [World.cell?_setCell_other _ _ _ _ (fun e => by injection e with _ e; omega)]
          exact World.cell?_setCell_same' _ _ _ (by rw [b0]; rfl)
        have c1 : Z.cell? ⟨S, 1, none⟩ = some (.int .i64 (v : Int)) := by
          rw [hZ]; show ((w3.setCell ⟨S, 0, none⟩ (.int .i64 (u : Int))).setCell ⟨S, 1, none⟩ (.int .i64 (v : Int))).cell? _ = _
          exact World.cell?_setCell_same' _ _ _ (by rw [World.cell?_setCell_other _ _ _ _ (fun e => by injection e with _ e; omega), b1]; rfl)
        have zB : Below w.heap.size w Z := by rw [hZ]; exact ((HBS.out.setCell (p := ⟨S, 0, none⟩) (by simp only; omega) _).setCell (p := ⟨S, 1, none⟩) (by simp only; omega) _)
        rw [← hZ]
        clear hZ
        refine bodyPost_ret (v := .tuple #[.agg #[.int .i64 (u : Int), .int .i64 (v : Int)], .int .i64 0]) ?_ rfl ⟨HP.out, by first | exact zB | (rw [← hS]; exact zB)⟩
        simp [results, Try.f13, go_sem, c0, c1]

set_option maxRecDepth 100000 in
set_option maxHeartbeats 8000000 in
theorem neven_ok (a : Option Addr) (n c : Nat) (xs : List Int) (w : World) (h : IntsAt w a n c xs) (hs : RightS xs) : Calls Try.prog 14 #[.slice a n c] w fun e w' => EvenBack xs e ∧ Below w.heap.size w w' := by
  obtain ⟨S, hS⟩ : ∃ S, w.heap.size = S := ⟨_, rfl⟩
  have HR := hide (fun (w' : World) (hw : Below w.heap.size w w') => nRight_any a n c xs w' (h.below hw))
  go_enter Try.func14, Try.ntmps14
  go_wp2_with fail
  obtain ⟨W, hW⟩ : ∃ W, W = w.alloc (.cells #[.int .i64 0, .int .i64 0] 30) := ⟨_, rfl⟩
  rw [← hW]
  have b0 : W.cell? ⟨S, 0, none⟩ = some (.int .i64 0) := by rw [hW, ← hS]; simp [go_sem]
  have b1 : W.cell? ⟨S, 1, none⟩ = some (.int .i64 0) := by rw [hW, ← hS]; simp [go_sem]
  have fz : ∀ j, W.frozen? ⟨S, j, none⟩ = false := by intro j; rw [hW, ← hS]; simp [go_sem]
  have BS : Below w.heap.size w W := by rw [hW]; exact (Below.refl _ _).alloc (Nat.le_refl _) _
  have hlt : S < W.heap.size := World.block_lt_of_cell? W _ b0
  have HBS := hide BS
  clear hW BS
  have HS := hide hs
  have hl := h.len
  have hn3 : n ≤ 300 := by rw [← hl]; exact hs.1
  obtain ⟨f, hf⟩ : ∃ f : Nat → Int, f = fun j => xs.getD j 0 := ⟨_, rfl⟩
  have HFF := hide hf
  have HRf := hide (show ∀ j, j < n → 0 ≤ f j ∧ f j ≤ 1048576 by rw [hf, ← hl]; exact right_f hs.2)
  refine (callT (HR.out W HBS.out) hs).mono ?_
  rintro e w1 ⟨rfl, rfl⟩
  have HI := hide (h.below HBS.out)
  have fz0 := fz 0
  have fz1 := fz 1
  clear HR h hs hf
  have HB1 := hide (s1_bound (f := f) n (fun j hj => HRf.out j hj))
  obtain ⟨T, hT⟩ : ∃ T, s1 f n = T := ⟨_, rfl⟩
  have HT := hide hT
  have t0 : 0 ≤ T ∧ T ≤ 314572800 := by have := HB1.out; omega
  have hTT := sq_le t0.1 t0.2
  clear hT
  go_wp2
  go_loopw [4, 5, 16] (fun s q i wr => ∃ k : Nat, k ≤ n ∧ i = .int .i64 k ∧ s = .int .i64 (s1 f k * T) ∧ q = .int .i64 ((n : Int) * s2 f k) ∧ wr = W) (fun _ _ i _ => n - (intOf i).toNat)
  case atStart => exact ⟨0, Nat.zero_le _, rfl, by simp [s1], by simp [s2], rfl⟩
  case round =>
    obtain ⟨k, hk, rfl, rfl, rfl, hwr⟩ := hrel
    have hwr2 := hwr.symm
    subst hwr2
    have k0 : (0 : Int) ≤ (k : Int) := Int.natCast_nonneg _
    have z1 := s1_bound (f := f) k (fun j hj => HRf.out j (by omega))
    have z2 := s2_bound (f := f) k (fun j hj => HRf.out j (by omega))
    by_cases hlt' : k < n
    · obtain ⟨ad, x, rfl, hbd, hc, HX⟩ := HI.out.getB (Below.refl _ _) hlt'
      have k1 : (k : Int) < (n : Int) := by omega
      have e : f k = x := by rw [HFF.out]; exact getD_of HX.out
      have hx := HRf.out k hlt'
      rw [e] at hx
      have hsq := sq_bound hx
      have E1 := hide (show s1 f (k + 1) * T = s1 f k * T + x * T by simp only [s1]; rw [e, Int.add_mul])
      have E2 := hide (show (n : Int) * s2 f (k + 1) = (n : Int) * s2 f k + (n : Int) * (x * x) by simp only [s2]; rw [e, Int.mul_add])
      have hle1 : s1 f (k + 1) ≤ T := by rw [← HT.out]; exact s1_mono n (k + 1) (fun j hj => HRf.out j hj) (by omega)
      have p0 : 0 ≤ s1 f k * T := Int.mul_nonneg z1.1 t0.1
      have p1 : s1 f k * T + x * T ≤ T * T := by rw [← E1.out]; exact Int.mul_le_mul_of_nonneg_right hle1 t0.1
      have r2 := len_s2 hn3 (s2_bound (f := f) (k + 1) (fun j hj => HRf.out j (by omega))).1 (by have := (s2_bound (f := f) (k + 1) (fun j hj => HRf.out j (by omega))).2; omega)
      rw [E2.out] at r2
      have r3 : 0 ≤ (n : Int) * s2 f k := Int.mul_nonneg (Int.natCast_nonneg _) z2.1
      have r4 : 0 ≤ (n : Int) * (x * x) := Int.mul_nonneg (Int.natCast_nonneg _) hsq.1
      obtain ⟨Y1, hY1⟩ : ∃ Y1, s1 f k * T = Y1 := ⟨_, rfl⟩
      obtain ⟨Y2, hY2⟩ : ∃ Y2, (n : Int) * s2 f k = Y2 := ⟨_, rfl⟩
      rw [hY1] at p0 p1 E1 ⊢
      rw [hY2] at r2 r3 E2 ⊢
      have HEk := hide e
      have HX1 := hide (show x * s1 f 0 = 0 by simp [s1])
      clear hY1 hY2 e HX
      go_wp2
      go_loopw [4, 22] (fun s i wr => ∃ j : Nat, j ≤ n ∧ i = .int .i64 j ∧ s = .int .i64 (Y1 + x * s1 f j) ∧ wr = W) (fun _ i _ => n - (intOf i).toNat)
      case atStart => exact ⟨0, Nat.zero_le _, rfl, by rw [HX1.out]; simp, rfl⟩
      case round =>
        obtain ⟨j, hj, rfl, rfl, hwr⟩ := hrel
        have hwr2 := hwr.symm
        subst hwr2
        have j0 : (0 : Int) ≤ (j : Int) := Int.natCast_nonneg _
        have y1 := s1_bound (f := f) j (fun i hi => HRf.out i (by omega))
        by_cases hlt2 : j < n
        · obtain ⟨ad2, y, e2', hbd2, hc2, HY⟩ := HI.out.getB (Below.refl _ _) hlt2
          injection e2' with e2'
          subst e2'
          have j1 : (j : Int) < (n : Int) := by omega
          have e3 : f j = y := by rw [HFF.out]; exact getD_of HY.out
          have hy := HRf.out j hlt2
          rw [e3] at hy
          have E3 := hide (show Y1 + x * s1 f (j + 1) = Y1 + x * s1 f j + x * y by simp only [s1]; rw [e3, Int.mul_add]; omega)
          have hle2 : s1 f (j + 1) ≤ T := by rw [← HT.out]; exact s1_mono n (j + 1) (fun i hi => HRf.out i hi) (by omega)
          have v1 : x * s1 f (j + 1) ≤ x * T := Int.mul_le_mul_of_nonneg_left hle2 hx.1
          have v2 : 0 ≤ x * s1 f j := Int.mul_nonneg hx.1 y1.1
          have v3 : 0 ≤ x * y := Int.mul_nonneg hx.1 hy.1
          have v4 : x * s1 f (j + 1) = x * s1 f j + x * y := by simp only [s1]; rw [e3, Int.mul_add]
          obtain ⟨V1, hV1⟩ : ∃ V1, x * s1 f j = V1 := ⟨_, rfl⟩
          obtain ⟨xy, hxy⟩ : ∃ xy, x * y = xy := ⟨_, rfl⟩
          rw [v4] at v1
          rw [hV1] at v1 v2 E3 ⊢
          rw [hxy] at v1 v3 E3
          have hw0 : IntKind.i64.wrap xy = xy := by rw [IntKind.wrap_i64]; omega
          have hw1 : IntKind.i64.wrap (Y1 + V1 + xy) = Y1 + V1 + xy := by rw [IntKind.wrap_i64]; omega
          clear hV1 v4 e3 HY
          go_wp2
          go_roundw
          case rel => exact ⟨j + 1, by omega, by go_num, by rw [E3.out], by first | rfl | trivial⟩
          case measure => (simp [intOf] <;> omega)
        · obtain rfl : n = j := by omega
          obtain ⟨xx, hxx⟩ : ∃ xx, x * x = xx := ⟨_, rfl⟩
          rw [HT.out]
          rw [hxx] at hsq r2 r4 E2
          have hcm : xx * (n : Int) = (n : Int) * xx := Int.mul_comm _ _
          obtain ⟨nx, hnx⟩ : ∃ nx, (n : Int) * xx = nx := ⟨_, rfl⟩
          rw [hnx] at hcm r2 r4 E2
          obtain ⟨Y3, hY3⟩ : ∃ Y3, Y1 + x * T = Y3 := ⟨_, rfl⟩
          rw [hY3] at E1 ⊢
          have hw0 : IntKind.i64.wrap xx = xx := by rw [IntKind.wrap_i64]; omega
          have hw1 : IntKind.i64.wrap nx = nx := by rw [IntKind.wrap_i64]; omega
          have hw2 : IntKind.i64.wrap (Y2 + nx) = Y2 + nx := by rw [IntKind.wrap_i64]; omega
          clear hnx hY3
          go_wp2
          go_roundw
          case rel => exact ⟨k + 1, by omega, by go_num, by rw [E1.out], by rw [E2.out], by first | rfl | trivial⟩
          case measure => (simp [intOf] <;> omega)
    · obtain rfl : n = k := by omega
      have hzz := s_zero (f := f) n (fun j hj => HRf.out j hj)
      obtain ⟨X2, hX2⟩ : ∃ X2, s2 f n = X2 := ⟨_, rfl⟩
      have HX1 := HT
      have HX2 := hide hX2
      rw [HT.out] at z1 hzz ⊢
      rw [hX2] at z2 hzz ⊢
      clear hX2 HI
      have l0 := len_s2 hn3 z2.1 (by omega)
      by_cases h0 : T = 0
      · have h2 : X2 = 0 := hzz.1 h0
        have HP := hide (show EvenBack xs (.returned (.tuple #[.agg #[.int .i64 0, .int .i64 0], .int .i64 3])) from ⟨0, 0, 3, .inr (.inl ⟨HS.out, by rw [← HFF.out, hl, HX1.out]; exact h0, rfl, rfl, rfl⟩), rfl⟩)
        rw [h2, h0]
        have hmz : (n : Int) * 0 = 0 := Int.mul_zero _
        clear hzz z1 z2 h2 l0 hTT
        go_wp2
        obtain ⟨Z, hZ⟩ : ∃ Z, Z = ((W.setCell ⟨S, 0, none⟩ (.int .i64 0)).setCell ⟨S, 1, none⟩ (.int .i64 0)) := ⟨_, rfl⟩
        have c0 : Z.cell? ⟨S, 0, none⟩ = some (.int .i64 0) := by
          rw [hZ]; show ((W.setCell ⟨S, 0, none⟩ (.int .i64 0)).setCell ⟨S, 1, none⟩ (.int .i64 0)).cell? _ = _
          rw [World.cell?_setCell_other _ _ _ _ (fun e => by injection e with _ e; omega)]
          exact World.cell?_setCell_same' _ _ _ (by rw [b0]; rfl)
        have c1 : Z.cell? ⟨S, 1, none⟩ = some (.int .i64 0) := by
          rw [hZ]; show ((W.setCell ⟨S, 0, none⟩ (.int .i64 0)).setCell ⟨S, 1, none⟩ (.int .i64 0)).cell? _ = _
          exact World.cell?_setCell_same' _ _ _ (by rw [World.cell?_setCell_other _ _ _ _ (fun e => by injection e with _ e; omega), b1]; rfl)
        have zB : Below w.heap.size w Z := by rw [hZ]; exact ((HBS.out.setCell (p := ⟨S, 0, none⟩) (by simp only; omega) _).setCell (p := ⟨S, 1, none⟩) (by simp only; omega) _)
        rw [← hZ]
        clear hZ
        refine bodyPost_ret (v := .tuple #[.agg #[.int .i64 0, .int .i64 0], .int .i64 3]) ?_ rfl ⟨HP.out, by first | exact zB | (rw [← hS]; exact zB)⟩
        simp [results, Try.f14, go_sem, c0, c1]
      · have X2p : 0 < X2 := by
          rcases Int.lt_or_le 0 X2 with h | h
          · exact h
          · exact absurd (hzz.2 (by omega)) h0
        have n0 : 0 < n := by
          rcases Nat.eq_zero_or_pos n with h | h
          · subst h; exact absurd HX1.out.symm (fun e => h0 (by rw [e]; rfl))
          · exact h
        obtain ⟨A, hA⟩ : ∃ A : Nat, T * T = (A : Int) := ⟨(T * T).toNat, by omega⟩
        obtain ⟨B, hB⟩ : ∃ B : Nat, (n : Int) * X2 = (B : Int) := ⟨((n : Int) * X2).toNat, by omega⟩
        have hBp : 0 < B := by
          have : 0 < (n : Int) * X2 := Int.mul_pos (by omega) X2p
          omega
        rw [hA] at hTT
        rw [hB] at l0
        have HG := hide (fun (w' : World) => lowest_any A B w' hBp (by omega) (by omega))
        have hb0 : ((B : Int) == 0) = false := by simp; omega
        have hb1 : ¬ (B : Int) = 0 := by omega
        have HP := hide (show EvenBack xs (.returned (.tuple #[.agg #[.int .i64 ((A / Nat.gcd A B : Nat) : Int), .int .i64 ((B / Nat.gcd A B : Nat) : Int)], .int .i64 0])) from ⟨_, _, 0, .inr (.inr ⟨HS.out, by rw [← HFF.out, hl, HX1.out]; exact h0, A, B, by rw [← HFF.out, hl, HX1.out]; exact hA.symm, by rw [← HFF.out, hl, HX2.out]; exact hB.symm, rfl, rfl, rfl⟩), rfl⟩)
        rw [hA, hB]
        obtain ⟨u, hu⟩ : ∃ u, A / Nat.gcd A B = u := ⟨_, rfl⟩
        obtain ⟨v, hv⟩ : ∃ v, B / Nat.gcd A B = v := ⟨_, rfl⟩
        rw [hu, hv] at HP
        rw [hu, hv] at HG
        clear hzz z1 z2 hu hv X2p hA hB
        go_wp2_with fail
        refine (HG.out _).mono ?_
        rintro e w3 ⟨rfl, hBB⟩
        have HBS := hide (HBS.out.trans (hBB.mono HBS.out.size))
        have b0 : w3.cell? ⟨S, 0, none⟩ = some (.int .i64 0) := (hBB.cell hlt).trans b0
        have b1 : w3.cell? ⟨S, 1, none⟩ = some (.int .i64 0) := (hBB.cell hlt).trans b1
        have fz0 : w3.frozen? ⟨S, 0, none⟩ = false := (hBB.frozen hlt).trans fz0
        have fz1 : w3.frozen? ⟨S, 1, none⟩ = false := (hBB.frozen hlt).trans fz1
        clear hBB
        go_wp2
        obtain ⟨Z, hZ⟩ : ∃ Z, Z = ((w3.setCell ⟨S, 0, none⟩ (.int .i64 (u : Int))).setCell ⟨S, 1, none⟩ (.int .i64 (v : Int))) := ⟨_, rfl⟩
        have c0 : Z.cell? ⟨S, 0, none⟩ = some (.int .i64 (u : Int)) := by
          rw [hZ]; show ((w3.setCell ⟨S, 0, none⟩ (.int .i64 (u : Int))).setCell ⟨S, 1, none⟩ (.int .i64 (v : Int))).cell? _ = _
          rw [World.cell?_setCell_other _ _ _ _ (fun e => by injection e with _ e; omega)]
          exact World.cell?_setCell_same' _ _ _ (by rw [b0]; rfl)
        have c1 : Z.cell? ⟨S, 1, none⟩ = some (.int .i64 (v : Int)) := by
          rw [hZ]; show ((w3.setCell ⟨S, 0, none⟩ (.int .i64 (u : Int))).setCell ⟨S, 1, none⟩ (.int .i64 (v : Int))).cell? _ = _
          exact World.cell?_setCell_same' _ _ _ (by rw [World.cell?_setCell_other _ _ _ _ (fun e => by injection e with _ e; omega), b1]; rfl)
        have zB : Below w.heap.size w Z := by rw [hZ]; exact ((HBS.out.setCell (p := ⟨S, 0, none⟩) (by simp only; omega) _).setCell (p := ⟨S, 1, none⟩) (by simp only; omega) _)
        rw [← hZ]
        clear hZ
        refine bodyPost_ret (v := .tuple #[.agg #[.int .i64 (u : Int), .int .i64 (v : Int)], .int .i64 0]) ?_ rfl ⟨HP.out, by first | exact zB | (rw [← hS]; exact zB)⟩
        simp [results, Try.f14, go_sem, c0, c1]

end Go.Proofs.Ythjicnddfjpnjaa
