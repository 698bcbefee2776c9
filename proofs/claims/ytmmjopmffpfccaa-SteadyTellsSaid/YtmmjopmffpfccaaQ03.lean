/-
  Lemmas and walks for the statement: Veg.
-/
import Derived.Test.YtmmjopmffpfccaaQ02
namespace Go.Proofs.Ytmmjopmffpfccaa
open Go.RowKit
set_option linter.unusedSimpArgs false
set_option linter.unusedVariables false
def vegRight (c : Ctl) : Bool := decide (c.kind = 1 ∧ 1 ≤ c.win ∧ c.win ≤ 12 ∧ -1 ≤ c.base ∧ c.base ≤ 1099511627776 ∧ c.way = 0 ∧ c.spd = 0 ∧ c.part = 0)
set_option maxHeartbeats 1000000 in
theorem vegRight_any (k n b y s p : Int) (w : World) :
 Calls Try.prog 37 #[.agg #[.int .i64 k, .int .i64 n, .int .i64 b, .int .i64 y, .int .i64 s, .int .i64 p]] w fun e w' => e = .returned (.bool (vegRight ⟨k, n, b, y, s, p⟩)) ∧ Below w.heap.size w w' := by
 go_enter Try.func37, Try.ntmps37
 go_wp2
 all_goals (go_ret; refine ⟨?_, (Below.refl _ _).alloc (Nat.le_refl _) _⟩)
 all_goals (refine congrArg (fun x : Bool => Ending.returned (Value.bool x)) ?_)
 all_goals (rw [Bool.eq_iff_iff]; simp only [vegRight]; simp)
 all_goals omega
set_option maxHeartbeats 2000000 in
theorem kRight_any (k n b y s p : Int) (w : World) :
 Calls Try.prog 56 #[.agg #[.int .i64 k, .int .i64 n, .int .i64 b, .int .i64 y, .int .i64 s, .int .i64 p]] w fun e w' => e = .returned (.bool (vegRight ⟨k, n, b, y, s, p⟩)) ∧ Below w.heap.size w w' := by
 by_cases hk : k = 1
 · subst hk
   by_cases hkn : n < 1 ∨ 12 < n ∨ b < -1 ∨ 1099511627776 < b
   · have E := hide (show vegRight ⟨1, n, b, y, s, p⟩ = false by simp [vegRight]; omega)
     have K := hide hkn
     clear hkn
     go_enter Try.func56, Try.ntmps56
     go_wp2_with (go_at_call 63; refine (known_no _ _ _ _ _ _ _ K.out).mono ?_; rintro e w1 ⟨rfl, hb⟩)
     go_ret
     exact ⟨(by rw [E.out]; rfl), ((Below.refl _ _).alloc (Nat.le_refl _) _).trans (hb.mono (by simp))⟩
   · have h1 : 1 ≤ n := by omega
     have h2 : n ≤ 12 := by omega
     have h3 : -1 ≤ b := by omega
     have h4 : b ≤ 1099511627776 := by omega
     clear hkn
     go_enter Try.func56, Try.ntmps56
     go_wp2_with (go_at_call 63; refine (known_yes _ _ _ _ _ _ _ h1 h2 h3 h4).mono ?_; rintro e w1 ⟨rfl, hb⟩; obtain ⟨hc, hf⟩ := bcell hb)
     all_goals (go_ret; refine ⟨?_, ((Below.refl _ _).alloc (Nat.le_refl _) _).trans (hb.mono (by simp))⟩)
     all_goals (refine congrArg (fun x : Bool => Ending.returned (Value.bool x)) ?_)
     all_goals (rw [Bool.eq_iff_iff]; simp only [vegRight]; simp)
     all_goals omega
 · have E := hide (show vegRight ⟨k, n, b, y, s, p⟩ = false by simp [vegRight]; omega)
   have hk' : ((k : Int) == 1) = false := by simpa using hk
   clear hk
   go_enter Try.func56, Try.ntmps56
   go_wp2
   go_ret
   exact ⟨(by rw [E.out]; rfl), (Below.refl _ _).alloc (Nat.le_refl _) _⟩
theorem vegRight_t (k n b y s p : Int) (h : vegRight ⟨k, n, b, y, s, p⟩ = true) (w : World) : Calls Try.prog 37 #[.agg #[.int .i64 k, .int .i64 n, .int .i64 b, .int .i64 y, .int .i64 s, .int .i64 p]] w fun e w' => e = .returned (.bool true) ∧ Below w.heap.size w w' :=
 (vegRight_any k n b y s p w).mono fun _ _ ⟨a, h'⟩ => ⟨by rw [a, h], h'⟩
theorem vegRight_f (k n b y s p : Int) (h : vegRight ⟨k, n, b, y, s, p⟩ = false) (w : World) : Calls Try.prog 37 #[.agg #[.int .i64 k, .int .i64 n, .int .i64 b, .int .i64 y, .int .i64 s, .int .i64 p]] w fun e w' => e = .returned (.bool false) ∧ Below w.heap.size w w' :=
 (vegRight_any k n b y s p w).mono fun _ _ ⟨a, h'⟩ => ⟨by rw [a, h], h'⟩
theorem kRight_t (k n b y s p : Int) (h : vegRight ⟨k, n, b, y, s, p⟩ = true) (w : World) : Calls Try.prog 56 #[.agg #[.int .i64 k, .int .i64 n, .int .i64 b, .int .i64 y, .int .i64 s, .int .i64 p]] w fun e w' => e = .returned (.bool true) ∧ Below w.heap.size w w' :=
 (kRight_any k n b y s p w).mono fun _ _ ⟨a, h'⟩ => ⟨by rw [a, h], h'⟩
theorem kRight_f (k n b y s p : Int) (h : vegRight ⟨k, n, b, y, s, p⟩ = false) (w : World) : Calls Try.prog 56 #[.agg #[.int .i64 k, .int .i64 n, .int .i64 b, .int .i64 y, .int .i64 s, .int .i64 p]] w fun e w' => e = .returned (.bool false) ∧ Below w.heap.size w w' :=
 (kRight_any k n b y s p w).mono fun _ _ ⟨a, h'⟩ => ⟨by rw [a, h], h'⟩
set_option maxHeartbeats 1000000 in
theorem vegNew_any (n : Int) (w : World) :
 Calls Try.prog 36 #[.int .i64 n] w fun e w' => e = .returned (.agg #[.int .i64 1, .int .i64 (clipW n), .int .i64 (-1), .int .i64 0, .int .i64 0, .int .i64 0]) ∧ Below w.heap.size w w' := by
 go_enter Try.func36, Try.ntmps36
 go_wp2
 all_goals (refine bodyPost_ret (v := .agg #[.int .i64 1, .int .i64 (clipW n), .int .i64 (-1), .int .i64 0, .int .i64 0, .int .i64 0]) (by simp [results, Try.results36, go_sem]; unfold clipW; split <;> (try split) <;> omega) rfl ⟨rfl, ?_⟩)
 all_goals (repeat' (first | (with_reducible exact Below.refl _ _) | (with_reducible refine Below.alloc ?_ ?_ _) | (with_reducible refine Below.setCell ?_ ?_ _) | (with_reducible refine Below.drewN ?_ _) | (with_reducible refine Below.drew ?_) | omega | (simp; done) | (simp; omega)))
end Go.Proofs.Ytmmjopmffpfccaa
