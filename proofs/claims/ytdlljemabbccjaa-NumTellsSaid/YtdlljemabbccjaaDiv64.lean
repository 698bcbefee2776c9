/-
  WALKS: math/bits.Div64.
-/
import Derived.Test.YtdlljemabbccjaaPDiv
import Derived.Test.YtdlljemabbccjaaSl
import Derived.Test.YtdlljemabbccjaaShelf
import Derived.Lib.ItoaNum
namespace Go.Proofs.Ytdlljemabbccjaa
open Go.RowKit
set_option linter.unusedSimpArgs false
set_option linter.unusedVariables false

/-- how far a number is shifted -/
theorem shift_of (y : Nat) (h0 : 0 < y) (h : y ≤ 1152921504606846976) : ∃ s : Nat, (64 : Int) - (Lib.bitLen y : Int) = (s : Int) ∧ 3 ≤ s ∧ s ≤ 63 ∧ 9223372036854775808 ≤ y * 2 ^ s ∧ y * 2 ^ s < 18446744073709551616 := by
  have hb := Lib.bitLenAux_bounds 64 y (by omega) (by omega)
  have hl := Lib.bitLen_le y 61 (by omega) (by omega)
  obtain ⟨h1, h2, h3⟩ := hb
  have e : Lib.bitLenAux 64 y = Lib.bitLen y := rfl
  rw [e] at h1 h2 h3
  refine ⟨64 - Lib.bitLen y, by omega, by omega, by omega, ?_, ?_⟩
  · have := Nat.mul_le_mul_right (2 ^ (64 - Lib.bitLen y)) h2
    rw [← Nat.pow_add, show Lib.bitLen y - 1 + (64 - Lib.bitLen y) = 63 by omega] at this
    exact this
  · have := Nat.mul_lt_mul_of_pos_right h3 (Nat.two_pow_pos (64 - Lib.bitLen y))
    rw [← Nat.pow_add, show Lib.bitLen y + (64 - Lib.bitLen y) = 64 by omega] at this
    exact this
theorem lz_any (y s : Nat) (h : y ≤ 1152921504606846976) (hs : (64 : Int) - (Lib.bitLen y : Int) = (s : Int)) (w : World) :
    Calls Try.prog 91 #[.int .u64 y] w fun e w' => e = .returned (.int .i64 s) ∧ w' = w := by
  have := Try.bits_LeadingZeros64 y w (by omega) (by omega)
  rw [show ((y : Int)).toNat = y from rfl, hs] at this
  exact this

theorem wrapU (a : Nat) (h : a < 18446744073709551616) : IntKind.u64.wrap (a : Int) = (a : Int) := by rw [IntKind.wrap_u64]; omega
theorem wrapUm (a : Nat) : IntKind.u64.wrap (a : Int) = ((a % 18446744073709551616 : Nat) : Int) := by rw [IntKind.wrap_u64]; omega
theorem powN (a s : Nat) : (a : Int) * 2 ^ s = ((a * 2 ^ s : Nat) : Int) := by rw [Int.natCast_mul, Int.natCast_pow]; rfl
theorem lowN (a : Nat) (ha : a < 18446744073709551616) : bits .and .u64 (a : Int) 4294967295 = ((a % 4294967296 : Nat) : Int) := by
  have h := bits_and_u64_nat a 4294967295 ha (by omega)
  rw [show a &&& 4294967295 = a % 4294967296 from Nat.and_two_pow_sub_one_eq_mod a 32] at h
  exact h
theorem hiN (a : Nat) : (a : Int) / 4294967296 = ((a / 4294967296 : Nat) : Int) := by omega
theorem orN (a b : Nat) (ha : a < 18446744073709551616) (hb : b < 18446744073709551616) (h : a ||| b = a + b) : bits .or .u64 (a : Int) (b : Int) = ((a + b : Nat) : Int) := by rw [bits_or_u64_nat a b ha hb, h]
theorem retU {a b : Int} (h : a = b) : Value.int .u64 a = Value.int .u64 b := by rw [h]
theorem divN {U A : Nat} (hU : U < 18446744073709551616) : IntKind.u64.wrap ((U : Int) / (A : Int)) = ((U / A : Nat) : Int) := by
  rw [← Int.natCast_ediv]
  exact wrapU _ (Nat.lt_of_le_of_lt (Nat.div_le_self _ _) hU)
theorem subN' {U A : Nat} (hU : U < 18446744073709551616) : IntKind.u64.wrap ((U : Int) - IntKind.u64.wrap (((U / A : Nat) : Int) * (A : Int))) = ((U % A : Nat) : Int) := by
  have h := Nat.div_add_mod U A
  have e : ((U / A : Nat) : Int) * (A : Int) = ((A * (U / A) : Nat) : Int) := by rw [← Int.natCast_mul, Nat.mul_comm]
  have hl : A * (U / A) ≤ U := by omega
  rw [e, wrapU _ (by omega), IntKind.wrap_u64]
  generalize A * (U / A) = P at *
  generalize U % A = R at *
  omega

theorem modN {U C Y q : Nat} (h0 : 0 < Y) (hY : Y < 18446744073709551616) (h : q = (U * 4294967296 + C) / Y) : IntKind.u64.wrap (IntKind.u64.wrap (IntKind.u64.wrap ((U : Int) * 4294967296) + (C : Int)) - IntKind.u64.wrap ((q : Int) * (Y : Int))) = (((U * 4294967296 + C) % Y : Nat) : Int) := by
  have hd := Nat.div_add_mod (U * 4294967296 + C) Y
  rw [← h] at hd
  have hl := Nat.mod_lt (U * 4294967296 + C) h0
  have e : (q : Int) * (Y : Int) = ((Y * q : Nat) : Int) := by rw [← Int.natCast_mul, Nat.mul_comm]
  rw [e]
  simp only [IntKind.wrap_u64]
  generalize Y * q = P at *
  generalize (U * 4294967296 + C) % Y = R at *
  omega
theorem quoN {U X Y C D A B dg dg2 R1 hi lo y : Nat} (h : (U * 4294967296 + X / 4294967296) / Y * 4294967296 + ((U * 4294967296 + X / 4294967296) % Y * 4294967296 + X % 4294967296) / Y = (hi * 18446744073709551616 + lo) / y)
    (he : X / 4294967296 = C ∧ X % 4294967296 = D) (hy : Y = A * 4294967296 + B) (h1 : dg = (U * 4294967296 + C) / (A * 4294967296 + B)) (h2 : dg2 = (R1 * 4294967296 + D) / (A * 4294967296 + B)) (h3 : (U * 4294967296 + C) % Y = R1)
    (_ : Y < 18446744073709551616) (hh : hi < y) (hl : lo < 18446744073709551616) (_ : 0 < y) : IntKind.u64.wrap (IntKind.u64.wrap ((dg : Int) * 4294967296) + (dg2 : Int)) = (((hi * 18446744073709551616 + lo) / y : Nat) : Int) := by
  rw [← hy] at h1 h2
  rw [he.1, he.2, h3, ← h1, ← h2] at h
  have hq : (hi * 18446744073709551616 + lo) / y < 18446744073709551616 := by
    refine (Nat.div_lt_iff_lt_mul (by omega)).2 ?_
    have := Nat.mul_le_mul_right 18446744073709551616 (show hi + 1 ≤ y from hh)
    rw [Nat.mul_comm 18446744073709551616 y]
    omega
  rw [← h] at hq ⊢
  simp only [IntKind.wrap_u64]
  omega
theorem retT {a b r : Int} (h : a = b) : Ending.returned (.tuple #[.int .u64 a, .int .u64 r]) = .returned (.tuple #[.int .u64 b, .int .u64 r]) := by rw [h]

set_option maxRecDepth 100000 in
set_option maxHeartbeats 400000 in
theorem div64_big (hi lo y Qn : Nat) (hQn : Hid ((hi * 18446744073709551616 + lo) / y = Qn)) (w : World) (h0 : 0 < hi) (h1 : hi < y) (hy : y ≤ 1152921504606846976) (hlo : lo < 18446744073709551616) :
    Calls Try.prog 59 #[.int .u64 hi, .int .u64 lo, .int .u64 y] w fun e w' => (∃ r : Int, e = .returned (.tuple #[.int .u64 (Qn : Int), .int .u64 r])) ∧ w' = w := by
  obtain ⟨s, hs, s3, s63, m1, m2⟩ := shift_of y (by omega) hy
  have HS := hide hs
  have HM := hide (And.intro m1 m2)
  clear hs m1 m2
  obtain ⟨m1, m2⟩ := HM.out
  obtain ⟨Y, hY⟩ : ∃ Y, y * 2 ^ s = Y := ⟨_, rfl⟩
  have eY : IntKind.u64.wrap ((y : Int) * 2 ^ s) = (Y : Int) := by rw [powN, hY, wrapU _ (by omega)]
  obtain ⟨U, hU⟩ : ∃ U, hi * 2 ^ s + lo / 2 ^ (64 - s) = U := ⟨_, rfl⟩
  have hH : hi * 2 ^ s < 18446744073709551616 := Nat.lt_of_le_of_lt (Nat.mul_le_mul_right _ (Nat.le_of_lt h1)) m2
  have hUlt : U < Y := by
    have hw := words hi lo s (by omega)
    rw [hU] at hw
    have h2 : (hi * 2 ^ 64 + lo) * 2 ^ s < y * 2 ^ 64 * 2 ^ s := by
      refine Nat.mul_lt_mul_of_pos_right ?_ (Nat.two_pow_pos s)
      have : (2 : Nat) ^ 64 = 18446744073709551616 := by decide
      rw [this]; omega
    rw [← hw, Nat.mul_right_comm, hY] at h2
    exact Nat.lt_of_mul_lt_mul_right (Nat.lt_of_le_of_lt (Nat.le_add_right _ _) h2)
  have eU : bits .or .u64 (IntKind.u64.wrap ((hi : Int) * 2 ^ s)) ((lo : Int) / 2 ^ (64 - s)) = (U : Int) := by
    have e2 : (lo : Int) / 2 ^ (64 - s) = ((lo / 2 ^ (64 - s) : Nat) : Int) := by rw [Int.natCast_ediv, Int.natCast_pow]; rfl
    rw [powN, wrapU _ hH, e2, orN _ _ hH (Nat.lt_of_le_of_lt (Nat.div_le_self _ _) hlo) (up_word hi lo s (by omega) hlo), hU]
  obtain ⟨X, hX⟩ : ∃ X, lo * 2 ^ s % 2 ^ 64 = X := ⟨_, rfl⟩
  have hXlt : X < 18446744073709551616 := by rw [← hX]; exact Nat.mod_lt _ (by decide)
  have eX : IntKind.u64.wrap ((lo : Int) * 2 ^ s) = (X : Int) := by rw [powN, wrapUm, ← hX]
  have hDW := div_words hi lo y s U X (by omega) (by omega) hU.symm hX.symm
  rw [hY] at hDW
  rw [hY] at m1 m2
  have HDW := hide hDW
  have HY := hide hY
  obtain ⟨A, hA⟩ : ∃ A, Y / 4294967296 = A := ⟨_, rfl⟩
  obtain ⟨B, hB⟩ : ∃ B, Y % 4294967296 = B := ⟨_, rfl⟩
  obtain ⟨C, hC⟩ : ∃ C, X / 4294967296 = C := ⟨_, rfl⟩
  obtain ⟨D, hD⟩ : ∃ D, X % 4294967296 = D := ⟨_, rfl⟩
  have eA : (Y : Int) / 4294967296 = (A : Int) := by rw [hiN, hA]
  have eB : bits .and .u64 (Y : Int) 4294967295 = (B : Int) := by rw [lowN _ m2, hB]
  have eC : (X : Int) / 4294967296 = (C : Int) := by rw [hiN, hC]
  have eD : bits .and .u64 (X : Int) 4294967295 = (D : Int) := by rw [lowN _ hXlt, hD]
  have hA1 : 2147483648 ≤ A ∧ A < 4294967296 := by omega
  have hB1 : B < 4294967296 := by omega
  have hC1 : C < 4294967296 := by omega
  have hD1 : D < 4294967296 := by omega
  have hYAB : Y = A * 4294967296 + B := by omega
  have HN := hide (And.intro hA1 (And.intro hB1 (And.intro hC1 (And.intro hD1 (And.intro hYAB hUlt)))))
  have HE := hide (And.intro hC hD)
  have HU64 := hide (show U < 18446744073709551616 by omega)
  have gA : ¬ ((A : Int) = 0) := by omega
  have HYL := hide m2
  have HLO := hide hlo
  have HYP : Hid (0 < y) := hide (by omega)
  clear hA hB hC hD hU hX hXlt hUlt hH m1 m2 hY hDW hYAB hA1 hB1 hC1 hD1 hlo
  have g1 : ¬ ((y : Int) = 0) := by omega
  have g2 : ¬ ((y : Int) ≤ (hi : Int)) := by omega
  have g3 : ¬ ((hi : Int) = 0) := by omega
  have s3' : (3 : Int) ≤ (s : Int) := by omega
  have s63' : (s : Int) ≤ 63 := by omega
  go_enter Try.func59, Try.ntmps59
  go_wp2_with (go_at_call 91; refine (lz_any y s hy HS.out _).mono ?_; rintro e w1 ⟨rfl, rfl⟩)
  have HHY := hide hy
  have HH1 := hide h1
  clear eY eU eX eA eB eC eD hy h1 h0
  go_loopw [15, 16] (fun  x z wz => ∃ q r : Nat, x = .int .u64 q ∧ z = .int .u64 r ∧ Hid (KInv A B U C q r) ∧ r < 4294967296 ∧ wz = w1) (fun  _ z _ => 8589934592 - (intOf z).toNat)
  case atStart =>
    refine ⟨U / A, U % A, retU (divN HU64.out), retU (by rw [divN HU64.out, subN' HU64.out]), hide (KInv.start HN.out.1.1 HN.out.1.2 HN.out.2.1 (by have := HN.out; omega) HN.out.2.2.1), Nat.lt_trans (Nat.mod_lt _ (by have := HN.out; omega)) HN.out.1.2, rfl⟩
  case round =>
    obtain ⟨q, r, rfl, rfl, HK, hr, rfl⟩ := hrel
    have HR := hide hr
    have hr1 : (r : Int) < 4294967296 := by omega
    have hr0 : (0 : Int) ≤ (r : Int) := by omega
    have hq0 : (0 : Int) ≤ (q : Int) := by omega
    obtain ⟨P, hP⟩ : ∃ P, q * B = P := ⟨_, rfl⟩
    have HP := hide hP
    have hA1 := HN.out.1
    have hB1 := HN.out.2.1
    have hCC : C < 4294967296 := HN.out.2.2.1
    have hUY : U < Y := HN.out.2.2.2.2.2
    have hYAB := HN.out.2.2.2.2.1
    have eV : IntKind.u64.wrap (4294967296 * (r : Int) + (C : Int)) = 4294967296 * (r : Int) + (C : Int) := by rw [IntKind.wrap_u64]; omega
    have step := fun hc => HK.out.step hA1.1 hB1 (by rw [← hYAB]; exact hUY) hCC hc
    rw [hP] at step
    have HST := hide step
    clear hr hP step
    rcases Nat.lt_or_ge q 4294967296 with hq | hq
    · have hq1 : ¬ ((4294967296 : Int) ≤ (q : Int)) := by omega
      have hPl : P < 18446744073709551616 := by
        rw [← HP.out]
        have := Nat.mul_le_mul (show q ≤ 4294967295 by omega) (show B ≤ 4294967295 by omega)
        omega
      have eP : IntKind.u64.wrap ((q : Int) * (B : Int)) = (P : Int) := by rw [← HP.out, ← Int.natCast_mul, HP.out]; exact wrapU _ hPl
      have HQ := hide hq
      clear hq hPl
      rcases Nat.lt_or_ge (4294967296 * r + C) P with hc | hc
      · have hc1 : 4294967296 * (r : Int) + (C : Int) < (P : Int) := by omega
        have HC := hide hc
        clear hc
        obtain ⟨t1, t2, t3⟩ := HST.out (.inr HC.out)
        obtain ⟨q', hq', HQ'⟩ : ∃ q' : Nat, (q : Int) - 1 = (q' : Int) ∧ Hid (q - 1 = q') := ⟨q - 1, by omega, rfl⟩
        obtain ⟨r', hr', HR'⟩ : ∃ r' : Nat, (r : Int) + (A : Int) = (r' : Int) ∧ Hid (r + A = r') := ⟨r + A, by omega, rfl⟩
        have T2 := hide t2
        have T3 := hide t3
        have w1' : IntKind.u64.wrap (q' : Int) = (q' : Int) := wrapU _ (by have := HQ'.out; omega)
        have w2' : IntKind.u64.wrap (r' : Int) = (r' : Int) := wrapU _ (by have := HR'.out; have := HR.out; omega)
        have hA0 : 2147483648 ≤ A := HN.out.1.1
        have HA0 := hide hA0
        clear t1 t2 t3 hA1 hB1 hCC hUY hYAB hA0
        rcases Nat.lt_or_ge r' 4294967296 with hb | hb
        · have hb1 : ¬ ((4294967296 : Int) ≤ (r' : Int)) := by omega
          have HB' := hide hb
          clear hb
          go_wp2
          go_roundw
          case rel => exact ⟨q', r', rfl, rfl, hide (by rw [← HQ'.out, ← HR'.out]; exact T3.out), HB'.out, by first | rfl | trivial⟩
          case measure => (have := HR'.out; have := HA0.out; have := HR.out; have := HB'.out; simp [intOf] <;> omega)
        · have hb1 : (4294967296 : Int) ≤ (r' : Int) := by omega
          have HB' := hide hb
          clear hb
          obtain ⟨dg, rfl⟩ : ∃ dg, dg = q' := ⟨_, rfl⟩
          have Hdg : Hid (dg = (U * 4294967296 + C) / (A * 4294967296 + B)) := by
            have := T3.out.out_ HA0.out HN.out.2.1 T2.out (by rw [HR'.out]; exact HB'.out)
            rw [HQ'.out] at this
            exact this
          obtain ⟨R1, hR1⟩ : ∃ R1, (U * 4294967296 + C) % Y = R1 := ⟨_, rfl⟩
          have HR1D := hide hR1
          have HR1 : Hid (R1 < Y) := hide (by rw [← hR1]; exact Nat.mod_lt _ (by have := HN.out; omega))
          have HR64 : Hid (R1 < 18446744073709551616) := hide (by have := HR1.out; have := HYL.out; omega)
          have eR : IntKind.u64.wrap (IntKind.u64.wrap (IntKind.u64.wrap ((U : Int) * 4294967296) + (C : Int)) - IntKind.u64.wrap ((dg : Int) * (Y : Int))) = (R1 : Int) := by
            rw [← hR1]; exact modN (by have := HN.out; omega) HYL.out (by rw [HN.out.2.2.2.2.1]; exact Hdg.out)
          have gR0 : (0 : Int) ≤ (R1 : Int) := by omega
          have gA0 : (0 : Int) ≤ (A : Int) := by omega
          clear hR1
          go_wp2
          clear eR eV
          (try clear eP)
          (try clear hq1)
          (try clear hc1)
          (try clear hb1)
          (try clear hr')
          (try clear hq')
          (try clear w1')
          (try clear w2')
          (try clear hr0)
          (try clear hr1)
          go_loopw [18, 16] (fun  x z wz => ∃ q r : Nat, x = .int .u64 q ∧ z = .int .u64 r ∧ Hid (KInv A B R1 D q r) ∧ r < 4294967296 ∧ wz = wr) (fun  _ z _ => 8589934592 - (intOf z).toNat)
          case atStart =>
            refine ⟨R1 / A, R1 % A, retU (divN HR64.out), retU (by rw [divN HR64.out, subN' HR64.out]), hide (KInv.start HN.out.1.1 HN.out.1.2 HN.out.2.1 (by have := HN.out; have := HR1.out; omega) HN.out.2.2.2.1), Nat.lt_trans (Nat.mod_lt _ (by have := HN.out; omega)) HN.out.1.2, rfl⟩
          case round =>
            obtain ⟨q, r, rfl, rfl, HK, hr, rfl⟩ := hrel
            have HR := hide hr
            have hr1 : (r : Int) < 4294967296 := by omega
            have hr0 : (0 : Int) ≤ (r : Int) := by omega
            have hq0 : (0 : Int) ≤ (q : Int) := by omega
            obtain ⟨P, hP⟩ : ∃ P, q * B = P := ⟨_, rfl⟩
            have HP := hide hP
            have hA1 := HN.out.1
            have hB1 := HN.out.2.1
            have hCC : D < 4294967296 := HN.out.2.2.2.1
            have hUY : R1 < Y := HR1.out
            have hYAB := HN.out.2.2.2.2.1
            have eV : IntKind.u64.wrap (4294967296 * (r : Int) + (D : Int)) = 4294967296 * (r : Int) + (D : Int) := by rw [IntKind.wrap_u64]; omega
            have step := fun hc => HK.out.step hA1.1 hB1 (by rw [← hYAB]; exact hUY) hCC hc
            rw [hP] at step
            have HST := hide step
            clear hr hP step
            rcases Nat.lt_or_ge q 4294967296 with hq | hq
            · have hq1 : ¬ ((4294967296 : Int) ≤ (q : Int)) := by omega
              have hPl : P < 18446744073709551616 := by
                rw [← HP.out]
                have := Nat.mul_le_mul (show q ≤ 4294967295 by omega) (show B ≤ 4294967295 by omega)
                omega
              have eP : IntKind.u64.wrap ((q : Int) * (B : Int)) = (P : Int) := by rw [← HP.out, ← Int.natCast_mul, HP.out]; exact wrapU _ hPl
              have HQ := hide hq
              clear hq hPl
              rcases Nat.lt_or_ge (4294967296 * r + D) P with hc | hc
              · have hc1 : 4294967296 * (r : Int) + (D : Int) < (P : Int) := by omega
                have HC := hide hc
                clear hc
                obtain ⟨t1, t2, t3⟩ := HST.out (.inr HC.out)
                obtain ⟨q', hq', HQ'⟩ : ∃ q' : Nat, (q : Int) - 1 = (q' : Int) ∧ Hid (q - 1 = q') := ⟨q - 1, by omega, rfl⟩
                obtain ⟨r', hr', HR'⟩ : ∃ r' : Nat, (r : Int) + (A : Int) = (r' : Int) ∧ Hid (r + A = r') := ⟨r + A, by omega, rfl⟩
                have T2 := hide t2
                have T3 := hide t3
                have w1' : IntKind.u64.wrap (q' : Int) = (q' : Int) := wrapU _ (by have := HQ'.out; omega)
                have w2' : IntKind.u64.wrap (r' : Int) = (r' : Int) := wrapU _ (by have := HR'.out; have := HR.out; omega)
                have hA0 : 2147483648 ≤ A := HN.out.1.1
                have HA0 := hide hA0
                clear t1 t2 t3 hA1 hB1 hCC hUY hYAB hA0
                rcases Nat.lt_or_ge r' 4294967296 with hb | hb
                · have hb1 : ¬ ((4294967296 : Int) ≤ (r' : Int)) := by omega
                  have HB' := hide hb
                  clear hb
                  go_wp2
                  go_roundw
                  case rel => exact ⟨q', r', rfl, rfl, hide (by rw [← HQ'.out, ← HR'.out]; exact T3.out), HB'.out, by first | rfl | trivial⟩
                  case measure => (have := HR'.out; have := HA0.out; have := HR.out; have := HB'.out; simp [intOf] <;> omega)
                · have hb1 : (4294967296 : Int) ≤ (r' : Int) := by omega
                  have HB' := hide hb
                  clear hb
                  obtain ⟨dg2, rfl⟩ : ∃ dg, dg = q' := ⟨_, rfl⟩
                  have Hdg2 : Hid (dg2 = (R1 * 4294967296 + D) / (A * 4294967296 + B)) := by
                    have := T3.out.out_ HA0.out HN.out.2.1 T2.out (by rw [HR'.out]; exact HB'.out)
                    rw [HQ'.out] at this
                    exact this
                  go_wp2
                  go_ret2
                  refine ⟨⟨_, retT (by rw [← hQn.out]; exact quoN HDW.out HE.out HN.out.2.2.2.2.1 Hdg.out Hdg2.out HR1D.out HYL.out HH1.out HLO.out HYP.out)⟩, by first | rfl | trivial⟩
              · have hc1 : ¬ (4294967296 * (r : Int) + (D : Int) < (P : Int)) := by omega
                have HC := hide hc
                clear hc
                obtain ⟨dg2, rfl⟩ : ∃ dg, dg = q := ⟨_, rfl⟩
                have Hdg2 : Hid (dg2 = (R1 * 4294967296 + D) / (A * 4294967296 + B)) := HK.out.exit HN.out.1.1 (by rw [HP.out]; exact HC.out)
                clear hA1 hB1 hCC hUY hYAB
                go_wp2
                go_ret2
                refine ⟨⟨_, retT (by rw [← hQn.out]; exact quoN HDW.out HE.out HN.out.2.2.2.2.1 Hdg.out Hdg2.out HR1D.out HYL.out HH1.out HLO.out HYP.out)⟩, by first | rfl | trivial⟩
            · have hq1 : (4294967296 : Int) ≤ (q : Int) := by omega
              have HC := hide hq
              clear hq
              obtain ⟨t1, t2, t3⟩ := HST.out (.inl HC.out)
              obtain ⟨q', hq', HQ'⟩ : ∃ q' : Nat, (q : Int) - 1 = (q' : Int) ∧ Hid (q - 1 = q') := ⟨q - 1, by omega, rfl⟩
              obtain ⟨r', hr', HR'⟩ : ∃ r' : Nat, (r : Int) + (A : Int) = (r' : Int) ∧ Hid (r + A = r') := ⟨r + A, by omega, rfl⟩
              have T2 := hide t2
              have T3 := hide t3
              have w1' : IntKind.u64.wrap (q' : Int) = (q' : Int) := wrapU _ (by have := HQ'.out; omega)
              have w2' : IntKind.u64.wrap (r' : Int) = (r' : Int) := wrapU _ (by have := HR'.out; have := HR.out; omega)
              have hA0 : 2147483648 ≤ A := HN.out.1.1
              have HA0 := hide hA0
              clear t1 t2 t3 hA1 hB1 hCC hUY hYAB hA0
              rcases Nat.lt_or_ge r' 4294967296 with hb | hb
              · have hb1 : ¬ ((4294967296 : Int) ≤ (r' : Int)) := by omega
                have HB' := hide hb
                clear hb
                go_wp2
                go_roundw
                case rel => exact ⟨q', r', rfl, rfl, hide (by rw [← HQ'.out, ← HR'.out]; exact T3.out), HB'.out, by first | rfl | trivial⟩
                case measure => (have := HR'.out; have := HA0.out; have := HR.out; have := HB'.out; simp [intOf] <;> omega)
              · have hb1 : (4294967296 : Int) ≤ (r' : Int) := by omega
                have HB' := hide hb
                clear hb
                obtain ⟨dg2, rfl⟩ : ∃ dg, dg = q' := ⟨_, rfl⟩
                have Hdg2 : Hid (dg2 = (R1 * 4294967296 + D) / (A * 4294967296 + B)) := by
                  have := T3.out.out_ HA0.out HN.out.2.1 T2.out (by rw [HR'.out]; exact HB'.out)
                  rw [HQ'.out] at this
                  exact this
                go_wp2
                go_ret2
                refine ⟨⟨_, retT (by rw [← hQn.out]; exact quoN HDW.out HE.out HN.out.2.2.2.2.1 Hdg.out Hdg2.out HR1D.out HYL.out HH1.out HLO.out HYP.out)⟩, by first | rfl | trivial⟩
      · have hc1 : ¬ (4294967296 * (r : Int) + (C : Int) < (P : Int)) := by omega
        have HC := hide hc
        clear hc
        obtain ⟨dg, rfl⟩ : ∃ dg, dg = q := ⟨_, rfl⟩
        have Hdg : Hid (dg = (U * 4294967296 + C) / (A * 4294967296 + B)) := HK.out.exit HN.out.1.1 (by rw [HP.out]; exact HC.out)
        clear hA1 hB1 hCC hUY hYAB
        obtain ⟨R1, hR1⟩ : ∃ R1, (U * 4294967296 + C) % Y = R1 := ⟨_, rfl⟩
        have HR1D := hide hR1
        have HR1 : Hid (R1 < Y) := hide (by rw [← hR1]; exact Nat.mod_lt _ (by have := HN.out; omega))
        have HR64 : Hid (R1 < 18446744073709551616) := hide (by have := HR1.out; have := HYL.out; omega)
        have eR : IntKind.u64.wrap (IntKind.u64.wrap (IntKind.u64.wrap ((U : Int) * 4294967296) + (C : Int)) - IntKind.u64.wrap ((dg : Int) * (Y : Int))) = (R1 : Int) := by
          rw [← hR1]; exact modN (by have := HN.out; omega) HYL.out (by rw [HN.out.2.2.2.2.1]; exact Hdg.out)
        have gR0 : (0 : Int) ≤ (R1 : Int) := by omega
        have gA0 : (0 : Int) ≤ (A : Int) := by omega
        clear hR1
        go_wp2
        clear eR eV
        (try clear eP)
        (try clear hq1)
        (try clear hc1)
        (try clear hb1)
        (try clear hr')
        (try clear hq')
        (try clear w1')
        (try clear w2')
        (try clear hr0)
        (try clear hr1)
        go_loopw [18, 16] (fun  x z wz => ∃ q r : Nat, x = .int .u64 q ∧ z = .int .u64 r ∧ Hid (KInv A B R1 D q r) ∧ r < 4294967296 ∧ wz = wr) (fun  _ z _ => 8589934592 - (intOf z).toNat)
        case atStart =>
          refine ⟨R1 / A, R1 % A, retU (divN HR64.out), retU (by rw [divN HR64.out, subN' HR64.out]), hide (KInv.start HN.out.1.1 HN.out.1.2 HN.out.2.1 (by have := HN.out; have := HR1.out; omega) HN.out.2.2.2.1), Nat.lt_trans (Nat.mod_lt _ (by have := HN.out; omega)) HN.out.1.2, rfl⟩
        case round =>
          obtain ⟨q, r, rfl, rfl, HK, hr, rfl⟩ := hrel
          have HR := hide hr
          have hr1 : (r : Int) < 4294967296 := by omega
          have hr0 : (0 : Int) ≤ (r : Int) := by omega
          have hq0 : (0 : Int) ≤ (q : Int) := by omega
          obtain ⟨P, hP⟩ : ∃ P, q * B = P := ⟨_, rfl⟩
          have HP := hide hP
          have hA1 := HN.out.1
          have hB1 := HN.out.2.1
          have hCC : D < 4294967296 := HN.out.2.2.2.1
          have hUY : R1 < Y := HR1.out
          have hYAB := HN.out.2.2.2.2.1
          have eV : IntKind.u64.wrap (4294967296 * (r : Int) + (D : Int)) = 4294967296 * (r : Int) + (D : Int) := by rw [IntKind.wrap_u64]; omega
          have step := fun hc => HK.out.step hA1.1 hB1 (by rw [← hYAB]; exact hUY) hCC hc
          rw [hP] at step
          have HST := hide step
          clear hr hP step
          rcases Nat.lt_or_ge q 4294967296 with hq | hq
          · have hq1 : ¬ ((4294967296 : Int) ≤ (q : Int)) := by omega
            have hPl : P < 18446744073709551616 := by
              rw [← HP.out]
              have := Nat.mul_le_mul (show q ≤ 4294967295 by omega) (show B ≤ 4294967295 by omega)
              omega
            have eP : IntKind.u64.wrap ((q : Int) * (B : Int)) = (P : Int) := by rw [← HP.out, ← Int.natCast_mul, HP.out]; exact wrapU _ hPl
            have HQ := hide hq
            clear hq hPl
            rcases Nat.lt_or_ge (4294967296 * r + D) P with hc | hc
            · have hc1 : 4294967296 * (r : Int) + (D : Int) < (P : Int) := by omega
              have HC := hide hc
              clear hc
              obtain ⟨t1, t2, t3⟩ := HST.out (.inr HC.out)
              obtain ⟨q', hq', HQ'⟩ : ∃ q' : Nat, (q : Int) - 1 = (q' : Int) ∧ Hid (q - 1 = q') := ⟨q - 1, by omega, rfl⟩
              obtain ⟨r', hr', HR'⟩ : ∃ r' : Nat, (r : Int) + (A : Int) = (r' : Int) ∧ Hid (r + A = r') := ⟨r + A, by omega, rfl⟩
              have T2 := hide t2
              have T3 := hide t3
              have w1' : IntKind.u64.wrap (q' : Int) = (q' : Int) := wrapU _ (by have := HQ'.out; omega)
              have w2' : IntKind.u64.wrap (r' : Int) = (r' : Int) := wrapU _ (by have := HR'.out; have := HR.out; omega)
              have hA0 : 2147483648 ≤ A := HN.out.1.1
              have HA0 := hide hA0
              clear t1 t2 t3 hA1 hB1 hCC hUY hYAB hA0
              rcases Nat.lt_or_ge r' 4294967296 with hb | hb
              · have hb1 : ¬ ((4294967296 : Int) ≤ (r' : Int)) := by omega
                have HB' := hide hb
                clear hb
                go_wp2
                go_roundw
                case rel => exact ⟨q', r', rfl, rfl, hide (by rw [← HQ'.out, ← HR'.out]; exact T3.out), HB'.out, by first | rfl | trivial⟩
                case measure => (have := HR'.out; have := HA0.out; have := HR.out; have := HB'.out; simp [intOf] <;> omega)
              · have hb1 : (4294967296 : Int) ≤ (r' : Int) := by omega
                have HB' := hide hb
                clear hb
                obtain ⟨dg2, rfl⟩ : ∃ dg, dg = q' := ⟨_, rfl⟩
                have Hdg2 : Hid (dg2 = (R1 * 4294967296 + D) / (A * 4294967296 + B)) := by
                  have := T3.out.out_ HA0.out HN.out.2.1 T2.out (by rw [HR'.out]; exact HB'.out)
                  rw [HQ'.out] at this
                  exact this
                go_wp2
                go_ret2
                refine ⟨⟨_, retT (by rw [← hQn.out]; exact quoN HDW.out HE.out HN.out.2.2.2.2.1 Hdg.out Hdg2.out HR1D.out HYL.out HH1.out HLO.out HYP.out)⟩, by first | rfl | trivial⟩
            · have hc1 : ¬ (4294967296 * (r : Int) + (D : Int) < (P : Int)) := by omega
              have HC := hide hc
              clear hc
              obtain ⟨dg2, rfl⟩ : ∃ dg, dg = q := ⟨_, rfl⟩
              have Hdg2 : Hid (dg2 = (R1 * 4294967296 + D) / (A * 4294967296 + B)) := HK.out.exit HN.out.1.1 (by rw [HP.out]; exact HC.out)
              clear hA1 hB1 hCC hUY hYAB
              go_wp2
              go_ret2
              refine ⟨⟨_, retT (by rw [← hQn.out]; exact quoN HDW.out HE.out HN.out.2.2.2.2.1 Hdg.out Hdg2.out HR1D.out HYL.out HH1.out HLO.out HYP.out)⟩, by first | rfl | trivial⟩
          · have hq1 : (4294967296 : Int) ≤ (q : Int) := by omega
            have HC := hide hq
            clear hq
            obtain ⟨t1, t2, t3⟩ := HST.out (.inl HC.out)
            obtain ⟨q', hq', HQ'⟩ : ∃ q' : Nat, (q : Int) - 1 = (q' : Int) ∧ Hid (q - 1 = q') := ⟨q - 1, by omega, rfl⟩
            obtain ⟨r', hr', HR'⟩ : ∃ r' : Nat, (r : Int) + (A : Int) = (r' : Int) ∧ Hid (r + A = r') := ⟨r + A, by omega, rfl⟩
            have T2 := hide t2
            have T3 := hide t3
            have w1' : IntKind.u64.wrap (q' : Int) = (q' : Int) := wrapU _ (by have := HQ'.out; omega)
            have w2' : IntKind.u64.wrap (r' : Int) = (r' : Int) := wrapU _ (by have := HR'.out; have := HR.out; omega)
            have hA0 : 2147483648 ≤ A := HN.out.1.1
            have HA0 := hide hA0
            clear t1 t2 t3 hA1 hB1 hCC hUY hYAB hA0
            rcases Nat.lt_or_ge r' 4294967296 with hb | hb
            · have hb1 : ¬ ((4294967296 : Int) ≤ (r' : Int)) := by omega
              have HB' := hide hb
              clear hb
              go_wp2
              go_roundw
              case rel => exact ⟨q', r', rfl, rfl, hide (by rw [← HQ'.out, ← HR'.out]; exact T3.out), HB'.out, by first | rfl | trivial⟩
              case measure => (have := HR'.out; have := HA0.out; have := HR.out; have := HB'.out; simp [intOf] <;> omega)
            · have hb1 : (4294967296 : Int) ≤ (r' : Int) := by omega
              have HB' := hide hb
              clear hb
              obtain ⟨dg2, rfl⟩ : ∃ dg, dg = q' := ⟨_, rfl⟩
              have Hdg2 : Hid (dg2 = (R1 * 4294967296 + D) / (A * 4294967296 + B)) := by
                have := T3.out.out_ HA0.out HN.out.2.1 T2.out (by rw [HR'.out]; exact HB'.out)
                rw [HQ'.out] at this
                exact this
              go_wp2
              go_ret2
              refine ⟨⟨_, retT (by rw [← hQn.out]; exact quoN HDW.out HE.out HN.out.2.2.2.2.1 Hdg.out Hdg2.out HR1D.out HYL.out HH1.out HLO.out HYP.out)⟩, by first | rfl | trivial⟩
    · have hq1 : (4294967296 : Int) ≤ (q : Int) := by omega
      have HC := hide hq
      clear hq
      obtain ⟨t1, t2, t3⟩ := HST.out (.inl HC.out)
      obtain ⟨q', hq', HQ'⟩ : ∃ q' : Nat, (q : Int) - 1 = (q' : Int) ∧ Hid (q - 1 = q') := ⟨q - 1, by omega, rfl⟩
      obtain ⟨r', hr', HR'⟩ : ∃ r' : Nat, (r : Int) + (A : Int) = (r' : Int) ∧ Hid (r + A = r') := ⟨r + A, by omega, rfl⟩
      have T2 := hide t2
      have T3 := hide t3
      have w1' : IntKind.u64.wrap (q' : Int) = (q' : Int) := wrapU _ (by have := HQ'.out; omega)
      have w2' : IntKind.u64.wrap (r' : Int) = (r' : Int) := wrapU _ (by have := HR'.out; have := HR.out; omega)
      have hA0 : 2147483648 ≤ A := HN.out.1.1
      have HA0 := hide hA0
      clear t1 t2 t3 hA1 hB1 hCC hUY hYAB hA0
      rcases Nat.lt_or_ge r' 4294967296 with hb | hb
      · have hb1 : ¬ ((4294967296 : Int) ≤ (r' : Int)) := by omega
        have HB' := hide hb
        clear hb
        go_wp2
        go_roundw
        case rel => exact ⟨q', r', rfl, rfl, hide (by rw [← HQ'.out, ← HR'.out]; exact T3.out), HB'.out, by first | rfl | trivial⟩
        case measure => (have := HR'.out; have := HA0.out; have := HR.out; have := HB'.out; simp [intOf] <;> omega)
      · have hb1 : (4294967296 : Int) ≤ (r' : Int) := by omega
        have HB' := hide hb
        clear hb
        obtain ⟨dg, rfl⟩ : ∃ dg, dg = q' := ⟨_, rfl⟩
        have Hdg : Hid (dg = (U * 4294967296 + C) / (A * 4294967296 + B)) := by
          have := T3.out.out_ HA0.out HN.out.2.1 T2.out (by rw [HR'.out]; exact HB'.out)
          rw [HQ'.out] at this
          exact this
        obtain ⟨R1, hR1⟩ : ∃ R1, (U * 4294967296 + C) % Y = R1 := ⟨_, rfl⟩
        have HR1D := hide hR1
        have HR1 : Hid (R1 < Y) := hide (by rw [← hR1]; exact Nat.mod_lt _ (by have := HN.out; omega))
        have HR64 : Hid (R1 < 18446744073709551616) := hide (by have := HR1.out; have := HYL.out; omega)
        have eR : IntKind.u64.wrap (IntKind.u64.wrap (IntKind.u64.wrap ((U : Int) * 4294967296) + (C : Int)) - IntKind.u64.wrap ((dg : Int) * (Y : Int))) = (R1 : Int) := by
          rw [← hR1]; exact modN (by have := HN.out; omega) HYL.out (by rw [HN.out.2.2.2.2.1]; exact Hdg.out)
        have gR0 : (0 : Int) ≤ (R1 : Int) := by omega
        have gA0 : (0 : Int) ≤ (A : Int) := by omega
        clear hR1
        go_wp2
        clear eR eV
        (try clear eP)
        (try clear hq1)
        (try clear hc1)
        (try clear hb1)
        (try clear hr')
        (try clear hq')
        (try clear w1')
        (try clear w2')
        (try clear hr0)
        (try clear hr1)
        go_loopw [18, 16] (fun  x z wz => ∃ q r : Nat, x = .int .u64 q ∧ z = .int .u64 r ∧ Hid (KInv A B R1 D q r) ∧ r < 4294967296 ∧ wz = wr) (fun  _ z _ => 8589934592 - (intOf z).toNat)
        case atStart =>
          refine ⟨R1 / A, R1 % A, retU (divN HR64.out), retU (by rw [divN HR64.out, subN' HR64.out]), hide (KInv.start HN.out.1.1 HN.out.1.2 HN.out.2.1 (by have := HN.out; have := HR1.out; omega) HN.out.2.2.2.1), Nat.lt_trans (Nat.mod_lt _ (by have := HN.out; omega)) HN.out.1.2, rfl⟩
        case round =>
          obtain ⟨q, r, rfl, rfl, HK, hr, rfl⟩ := hrel
          have HR := hide hr
          have hr1 : (r : Int) < 4294967296 := by omega
          have hr0 : (0 : Int) ≤ (r : Int) := by omega
          have hq0 : (0 : Int) ≤ (q : Int) := by omega
          obtain ⟨P, hP⟩ : ∃ P, q * B = P := ⟨_, rfl⟩
          have HP := hide hP
          have hA1 := HN.out.1
          have hB1 := HN.out.2.1
          have hCC : D < 4294967296 := HN.out.2.2.2.1
          have hUY : R1 < Y := HR1.out
          have hYAB := HN.out.2.2.2.2.1
          have eV : IntKind.u64.wrap (4294967296 * (r : Int) + (D : Int)) = 4294967296 * (r : Int) + (D : Int) := by rw [IntKind.wrap_u64]; omega
          have step := fun hc => HK.out.step hA1.1 hB1 (by rw [← hYAB]; exact hUY) hCC hc
          rw [hP] at step
          have HST := hide step
          clear hr hP step
          rcases Nat.lt_or_ge q 4294967296 with hq | hq
          · have hq1 : ¬ ((4294967296 : Int) ≤ (q : Int)) := by omega
            have hPl : P < 18446744073709551616 := by
              rw [← HP.out]
              have := Nat.mul_le_mul (show q ≤ 4294967295 by omega) (show B ≤ 4294967295 by omega)
              omega
            have eP : IntKind.u64.wrap ((q : Int) * (B : Int)) = (P : Int) := by rw [← HP.out, ← Int.natCast_mul, HP.out]; exact wrapU _ hPl
            have HQ := hide hq
            clear hq hPl
            rcases Nat.lt_or_ge (4294967296 * r + D) P with hc | hc
            · have hc1 : 4294967296 * (r : Int) + (D : Int) < (P : Int) := by omega
              have HC := hide hc
              clear hc
              obtain ⟨t1, t2, t3⟩ := HST.out (.inr HC.out)
              obtain ⟨q', hq', HQ'⟩ : ∃ q' : Nat, (q : Int) - 1 = (q' : Int) ∧ Hid (q - 1 = q') := ⟨q - 1, by omega, rfl⟩
              obtain ⟨r', hr', HR'⟩ : ∃ r' : Nat, (r : Int) + (A : Int) = (r' : Int) ∧ Hid (r + A = r') := ⟨r + A, by omega, rfl⟩
              have T2 := hide t2
              have T3 := hide t3
              have w1' : IntKind.u64.wrap (q' : Int) = (q' : Int) := wrapU _ (by have := HQ'.out; omega)
              have w2' : IntKind.u64.wrap (r' : Int) = (r' : Int) := wrapU _ (by have := HR'.out; have := HR.out; omega)
              have hA0 : 2147483648 ≤ A := HN.out.1.1
              have HA0 := hide hA0
              clear t1 t2 t3 hA1 hB1 hCC hUY hYAB hA0
              rcases Nat.lt_or_ge r' 4294967296 with hb | hb
              · have hb1 : ¬ ((4294967296 : Int) ≤ (r' : Int)) := by omega
                have HB' := hide hb
                clear hb
                go_wp2
                go_roundw
                case rel => exact ⟨q', r', rfl, rfl, hide (by rw [← HQ'.out, ← HR'.out]; exact T3.out), HB'.out, by first | rfl | trivial⟩
                case measure => (have := HR'.out; have := HA0.out; have := HR.out; have := HB'.out; simp [intOf] <;> omega)
              · have hb1 : (4294967296 : Int) ≤ (r' : Int) := by omega
                have HB' := hide hb
                clear hb
                obtain ⟨dg2, rfl⟩ : ∃ dg, dg = q' := ⟨_, rfl⟩
                have Hdg2 : Hid (dg2 = (R1 * 4294967296 + D) / (A * 4294967296 + B)) := by
                  have := T3.out.out_ HA0.out HN.out.2.1 T2.out (by rw [HR'.out]; exact HB'.out)
                  rw [HQ'.out] at this
                  exact this
                go_wp2
                go_ret2
                refine ⟨⟨_, retT (by rw [← hQn.out]; exact quoN HDW.out HE.out HN.out.2.2.2.2.1 Hdg.out Hdg2.out HR1D.out HYL.out HH1.out HLO.out HYP.out)⟩, by first | rfl | trivial⟩
            · have hc1 : ¬ (4294967296 * (r : Int) + (D : Int) < (P : Int)) := by omega
              have HC := hide hc
              clear hc
              obtain ⟨dg2, rfl⟩ : ∃ dg, dg = q := ⟨_, rfl⟩
              have Hdg2 : Hid (dg2 = (R1 * 4294967296 + D) / (A * 4294967296 + B)) := HK.out.exit HN.out.1.1 (by rw [HP.out]; exact HC.out)
              clear hA1 hB1 hCC hUY hYAB
              go_wp2
              go_ret2
              refine ⟨⟨_, retT (by rw [← hQn.out]; exact quoN HDW.out HE.out HN.out.2.2.2.2.1 Hdg.out Hdg2.out HR1D.out HYL.out HH1.out HLO.out HYP.out)⟩, by first | rfl | trivial⟩
          · have hq1 : (4294967296 : Int) ≤ (q : Int) := by omega
            have HC := hide hq
            clear hq
            obtain ⟨t1, t2, t3⟩ := HST.out (.inl HC.out)
            obtain ⟨q', hq', HQ'⟩ : ∃ q' : Nat, (q : Int) - 1 = (q' : Int) ∧ Hid (q - 1 = q') := ⟨q - 1, by omega, rfl⟩
            obtain ⟨r', hr', HR'⟩ : ∃ r' : Nat, (r : Int) + (A : Int) = (r' : Int) ∧ Hid (r + A = r') := ⟨r + A, by omega, rfl⟩
            have T2 := hide t2
            have T3 := hide t3
            have w1' : IntKind.u64.wrap (q' : Int) = (q' : Int) := wrapU _ (by have := HQ'.out; omega)
            have w2' : IntKind.u64.wrap (r' : Int) = (r' : Int) := wrapU _ (by have := HR'.out; have := HR.out; omega)
            have hA0 : 2147483648 ≤ A := HN.out.1.1
            have HA0 := hide hA0
            clear t1 t2 t3 hA1 hB1 hCC hUY hYAB hA0
            rcases Nat.lt_or_ge r' 4294967296 with hb | hb
            · have hb1 : ¬ ((4294967296 : Int) ≤ (r' : Int)) := by omega
              have HB' := hide hb
              clear hb
              go_wp2
              go_roundw
              case rel => exact ⟨q', r', rfl, rfl, hide (by rw [← HQ'.out, ← HR'.out]; exact T3.out), HB'.out, by first | rfl | trivial⟩
              case measure => (have := HR'.out; have := HA0.out; have := HR.out; have := HB'.out; simp [intOf] <;> omega)
            · have hb1 : (4294967296 : Int) ≤ (r' : Int) := by omega
              have HB' := hide hb
              clear hb
              obtain ⟨dg2, rfl⟩ : ∃ dg, dg = q' := ⟨_, rfl⟩
              have Hdg2 : Hid (dg2 = (R1 * 4294967296 + D) / (A * 4294967296 + B)) := by
                have := T3.out.out_ HA0.out HN.out.2.1 T2.out (by rw [HR'.out]; exact HB'.out)
                rw [HQ'.out] at this
                exact this
              go_wp2
              go_ret2
              refine ⟨⟨_, retT (by rw [← hQn.out]; exact quoN HDW.out HE.out HN.out.2.2.2.2.1 Hdg.out Hdg2.out HR1D.out HYL.out HH1.out HLO.out HYP.out)⟩, by first | rfl | trivial⟩

end Go.Proofs.Ytdlljemabbccjaa
