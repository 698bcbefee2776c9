/-
  PLAIN: dividing two words by one, digit by digit (as math/bits does it). No program in sight.
-/
namespace Go.Proofs.Ytdlljemabbccjaa
set_option linter.unusedSimpArgs false
set_option linter.unusedVariables false

/-- one digit: q is no less than the digit, and what is left over q -/
structure KInv (a b u d q r : Nat) : Prop where
  sum : q * a + r = u
  up : (u * 4294967296 + d) / (a * 4294967296 + b) ≤ q
  le : q ≤ 4294967298
section
variable {a b u d q r : Nat}
theorem k_mul (a b q : Nat) : q * (a * 4294967296 + b) = q * a * 4294967296 + q * b := by rw [Nat.mul_add, Nat.mul_assoc]
theorem KInv.start (h1 : 2147483648 ≤ a) (h2 : a < 4294967296) (hb : b < 4294967296) (hu : u < a * 4294967296 + b) (hd : d < 4294967296) : KInv a b u d (u / a) (u % a) := by
  have hdm := Nat.div_add_mod u a
  have hml := Nat.mod_lt u (show 0 < a by omega)
  have hc : u / a * a = a * (u / a) := Nat.mul_comm _ _
  refine ⟨by omega, ?_, ?_⟩
  · have h3 : u * 4294967296 + d < (u / a + 1) * (a * 4294967296 + b) := by
      rw [k_mul, Nat.add_mul, Nat.add_mul]
      generalize u / a * a = A at *
      generalize u / a * b = B at *
      omega
    have := (Nat.div_lt_iff_lt_mul (show 0 < a * 4294967296 + b by omega)).2 h3
    omega
  · have h3 : u / a < 4294967298 := by
      refine (Nat.div_lt_iff_lt_mul (by omega)).2 ?_
      omega
    omega
theorem KInv.step (h : KInv a b u d q r) (h1 : 2147483648 ≤ a) (hb : b < 4294967296) (hu : u < a * 4294967296 + b) (hd : d < 4294967296) (hc : 4294967296 ≤ q ∨ 4294967296 * r + d < q * b) :
    1 ≤ q ∧ q - 1 ≤ 4294967297 ∧ KInv a b u d (q - 1) (r + a) := by
  obtain ⟨s, p, l⟩ := h
  have hq : 1 ≤ q := by
    rcases hc with hc | hc
    · omega
    · rcases Nat.eq_zero_or_pos q with h0 | h0
      · subst h0; omega
      · exact h0
  obtain ⟨t, rfl⟩ : ∃ t, q = t + 1 := ⟨q - 1, by omega⟩
  have h3 : u * 4294967296 + d < (t + 1) * (a * 4294967296 + b) := by
    rcases hc with hc | hc
    · have h4 : 4294967296 * (a * 4294967296 + b) ≤ (t + 1) * (a * 4294967296 + b) := Nat.mul_le_mul_right _ hc
      omega
    · rw [k_mul]
      generalize (t + 1) * a = A at *
      generalize (t + 1) * b = B at *
      omega
  have h5 := (Nat.div_lt_iff_lt_mul (show 0 < a * 4294967296 + b by omega)).2 h3
  have h6 : (t + 1) * a = t * a + a := by rw [Nat.add_mul, Nat.one_mul]
  refine ⟨hq, by omega, ⟨by rw [Nat.add_sub_cancel]; omega, by omega, by omega⟩⟩
theorem KInv.exit (h : KInv a b u d q r) (h1 : 2147483648 ≤ a) (hq : q * b ≤ 4294967296 * r + d) : q = (u * 4294967296 + d) / (a * 4294967296 + b) := by
  obtain ⟨s, p, l⟩ := h
  refine Nat.le_antisymm ((Nat.le_div_iff_mul_le (by omega)).2 ?_) p
  rw [k_mul]
  generalize q * a = A at *
  generalize q * b = B at *
  omega
theorem KInv.out_ (h : KInv a b u d q r) (h1 : 2147483648 ≤ a) (hb : b < 4294967296) (hq : q ≤ 4294967297) (hr : 4294967296 ≤ r) : q = (u * 4294967296 + d) / (a * 4294967296 + b) := by
  refine h.exit h1 ?_
  have h2 : q * b ≤ 4294967297 * 4294967295 := Nat.mul_le_mul hq (by omega)
  omega
end

/-- two digits are the quotient -/
theorem two_digits (U1 un0 y' : Nat) (hy : 0 < y') : U1 / y' * 4294967296 + (U1 % y' * 4294967296 + un0) / y' = (U1 * 4294967296 + un0) / y' := by
  have h := Nat.div_add_mod U1 y'
  have e : U1 * 4294967296 + un0 = y' * (U1 / y' * 4294967296) + (U1 % y' * 4294967296 + un0) := by
    have : y' * (U1 / y' * 4294967296) = y' * (U1 / y') * 4294967296 := by rw [Nat.mul_assoc]
    generalize y' * (U1 / y') = A at *
    omega
  rw [e, Nat.mul_add_div hy]
/-- both words shifted: the upper one -/
theorem up_word (hi lo s : Nat) (hs : s ≤ 64) (hlo : lo < 2 ^ 64) : (hi * 2 ^ s) ||| (lo / 2 ^ (64 - s)) = hi * 2 ^ s + lo / 2 ^ (64 - s) := by
  have h : lo / 2 ^ (64 - s) < 2 ^ s := by
    refine (Nat.div_lt_iff_lt_mul (Nat.two_pow_pos _)).2 ?_
    rw [← Nat.pow_add, show s + (64 - s) = 64 by omega]; exact hlo
  have := Nat.shiftLeft_add_eq_or_of_lt h hi
  rw [Nat.shiftLeft_eq] at this
  exact this.symm
theorem words (hi lo s : Nat) (hs : s ≤ 64) : (hi * 2 ^ s + lo / 2 ^ (64 - s)) * 2 ^ 64 + lo * 2 ^ s % 2 ^ 64 = (hi * 2 ^ 64 + lo) * 2 ^ s := by
  have e1 : lo / 2 ^ (64 - s) = lo * 2 ^ s / 2 ^ 64 := by
    rw [show (2 : Nat) ^ 64 = 2 ^ (64 - s) * 2 ^ s by rw [← Nat.pow_add, show 64 - s + s = 64 by omega], Nat.mul_div_mul_right _ _ (Nat.two_pow_pos s)]
  rw [e1]
  have h := Nat.div_add_mod (lo * 2 ^ s) (2 ^ 64)
  have e2 : (hi * 2 ^ 64 + lo) * 2 ^ s = hi * 2 ^ s * 2 ^ 64 + lo * 2 ^ s := by rw [Nat.add_mul, Nat.mul_right_comm]
  rw [e2, Nat.add_mul]
  generalize lo * 2 ^ s = L at *
  generalize hi * 2 ^ s = H at *
  omega
theorem e_lin {x32 x10 V : Nat} (h : x32 * 18446744073709551616 + x10 = V) : (x32 * 4294967296 + x10 / 4294967296) * 4294967296 + x10 % 4294967296 = V := by
  have hd := Nat.div_add_mod x10 4294967296
  generalize x10 / 4294967296 = A at *
  generalize x10 % 4294967296 = B at *
  rw [Nat.add_mul, Nat.mul_assoc, show 4294967296 * 4294967296 = 18446744073709551616 from rfl, ← h, ← hd, Nat.add_assoc, Nat.mul_comm A]
/-- all of it -/
theorem div_words (hi lo y s un32 un10 : Nat) (hy : 0 < y) (hs : s ≤ 64) (h32 : un32 = hi * 2 ^ s + lo / 2 ^ (64 - s)) (h10 : un10 = lo * 2 ^ s % 2 ^ 64) :
    (un32 * 4294967296 + un10 / 4294967296) / (y * 2 ^ s) * 4294967296 + ((un32 * 4294967296 + un10 / 4294967296) % (y * 2 ^ s) * 4294967296 + un10 % 4294967296) / (y * 2 ^ s) = (hi * 18446744073709551616 + lo) / y := by
  rw [two_digits _ _ _ (Nat.mul_pos hy (Nat.two_pow_pos s))]
  have h := words hi lo s hs
  rw [← h32, ← h10] at h
  have hp : (2 : Nat) ^ 64 = 18446744073709551616 := by decide
  rw [hp] at h
  have e := e_lin h
  rw [e, Nat.mul_div_mul_right _ _ (Nat.two_pow_pos s)]

end Go.Proofs.Ytdlljemabbccjaa
