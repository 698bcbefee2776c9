/-
  Lemmas and walks for the statement: Led.
-/
import Derived.Test.YtmmjopmffpfccaaProg
import Derived.Test.YtmmjopmffpfccaaQ01
namespace Go.Proofs.Ytmmjopmffpfccaa
set_option linter.unusedSimpArgs false
set_option linter.unusedVariables false
open Go.RowKit
set_option maxHeartbeats 1000000 in
theorem ledRight_any (k n b y s p : Int) (w : World) :
 Calls Try.prog 43 #[.agg #[.int .i64 k, .int .i64 n, .int .i64 b, .int .i64 y, .int .i64 s, .int .i64 p]] w fun e w' => e = .returned (.bool (ledRight ⟨k, n, b, y, s, p⟩)) ∧ Below w.heap.size w w' := by
 go_enter Try.func43, Try.ntmps43
 go_wp2
 all_goals (go_ret; refine ⟨?_, (Below.refl _ _).alloc (Nat.le_refl _) _⟩)
 all_goals (refine congrArg (fun x : Bool => Ending.returned (Value.bool x)) ?_)
 all_goals (rw [Bool.eq_iff_iff]; simp only [ledRight]; simp)
 all_goals omega
theorem clip_any (n : Int) (w : World) :
 Calls Try.prog 58 #[.int .i64 n] w fun e w' => e = .returned (.int .i64 (clipW n)) ∧ w = w' := by
 go_enter Try.func58, Try.ntmps58
 go_wp2
 all_goals (go_ret; refine ⟨?_, rfl⟩)
 all_goals (refine congrArg (fun x : Int => Ending.returned (.int .i64 x)) ?_)
 all_goals (unfold clipW; split <;> (try split) <;> omega)
theorem clip_in (n : Int) (w : World) (h1 : 1 ≤ n) (h2 : n ≤ 12) : Calls Try.prog 58 #[.int .i64 n] w fun e w' => e = .returned (.int .i64 n) ∧ w = w' :=
 (clip_any n w).mono fun _ _ ⟨a, b⟩ => ⟨by rw [a]; unfold clipW; rw [if_neg (by omega), if_neg (by omega)], b⟩
theorem clip_lo (n : Int) (w : World) (h1 : n < 1) : Calls Try.prog 58 #[.int .i64 n] w fun e w' => e = .returned (.int .i64 1) ∧ w = w' :=
 (clip_any n w).mono fun _ _ ⟨a, b⟩ => ⟨by rw [a]; unfold clipW; rw [if_pos (by omega)], b⟩
theorem clip_hi (n : Int) (w : World) (h1 : 12 < n) : Calls Try.prog 58 #[.int .i64 n] w fun e w' => e = .returned (.int .i64 12) ∧ w = w' :=
 (clip_any n w).mono fun _ _ ⟨a, b⟩ => ⟨by rw [a]; unfold clipW; rw [if_neg (by omega), if_pos (by omega)], b⟩
set_option maxHeartbeats 1000000 in
theorem known_any (k n b y s p : Int) (w : World) :
 Calls Try.prog 63 #[.agg #[.int .i64 k, .int .i64 n, .int .i64 b, .int .i64 y, .int .i64 s, .int .i64 p]] w fun e w' => e = .returned (.bool (knownB ⟨k, n, b, y, s, p⟩)) ∧ Below w.heap.size w w' := by
 have hfin : ∀ v : Bool, (v = true ↔ (1 ≤ n ∧ n ≤ 12 ∧ -1 ≤ b ∧ b ≤ 1099511627776)) → knownB ⟨k, n, b, y, s, p⟩ = v := fun v hv => by rw [Bool.eq_iff_iff, hv]; simp [knownB]
 rcases (show n < 1 ∨ 12 < n ∨ (1 ≤ n ∧ n ≤ 12) by omega) with h1 | h1 | ⟨h1, h2⟩
 · have E := hide (hfin false (by simp; omega))
   clear hfin
   have hb : ((n : Int) == 1) = false := by simp; omega
   go_enter Try.func63, Try.ntmps63
   go_wp2
   go_quiet ((go_at_call 58; exact quietL (clip_lo _ _ h1)))
   go_wp2
   go_ret
   exact ⟨(by rw [E.out]; rfl), Below.drewN ((Below.refl _ _).alloc (Nat.le_refl _) _) _⟩
 · have E := hide (hfin false (by simp; omega))
   clear hfin
   have hb : ((n : Int) == 12) = false := by simp; omega
   go_enter Try.func63, Try.ntmps63
   go_wp2
   go_quiet ((go_at_call 58; exact quietL (clip_hi _ _ h1)))
   go_wp2
   go_ret
   exact ⟨(by rw [E.out]; rfl), Below.drewN ((Below.refl _ _).alloc (Nat.le_refl _) _) _⟩
 · rcases (show b < -1 ∨ 1099511627776 < b ∨ (-1 ≤ b ∧ b ≤ 1099511627776) by omega) with h3 | h3 | ⟨h3, h4⟩
   · have E := hide (hfin false (by simp; omega))
     clear hfin
     have hd : decide (-1 ≤ b) = false := by simp; omega
     go_enter Try.func63, Try.ntmps63
     go_wp2
     go_quiet ((go_at_call 58; exact quietL (clip_in _ _ h1 h2)))
     go_wp2
     go_ret
     exact ⟨(by rw [E.out]; rfl), Below.drewN ((Below.refl _ _).alloc (Nat.le_refl _) _) _⟩
   · have E := hide (hfin false (by simp; omega))
     clear hfin
     have hd : decide (b ≤ 1099511627776) = false := by simp; omega
     have hd0 : decide (-1 ≤ b) = true := by simp; omega
     go_enter Try.func63, Try.ntmps63
     go_wp2
     go_quiet ((go_at_call 58; exact quietL (clip_in _ _ h1 h2)))
     go_wp2
     go_ret
     exact ⟨(by rw [E.out]; rfl), Below.drewN ((Below.refl _ _).alloc (Nat.le_refl _) _) _⟩
   · have E := hide (hfin true (by simp; omega))
     clear hfin
     go_enter Try.func63, Try.ntmps63
     go_wp2
     go_quiet ((go_at_call 58; exact quietL (clip_in _ _ h1 h2)))
     go_wp2
     go_ret
     exact ⟨(by rw [E.out]; rfl), Below.drewN ((Below.refl _ _).alloc (Nat.le_refl _) _) _⟩
theorem known_yes (k n b y s p : Int) (w : World) (h1 : 1 ≤ n) (h2 : n ≤ 12) (h3 : -1 ≤ b) (h4 : b ≤ 1099511627776) :
 Calls Try.prog 63 #[.agg #[.int .i64 k, .int .i64 n, .int .i64 b, .int .i64 y, .int .i64 s, .int .i64 p]] w fun e w' => e = .returned (.bool true) ∧ Below w.heap.size w w' :=
 (known_any k n b y s p w).mono fun _ _ ⟨a, h⟩ => ⟨by rw [a]; exact retBI (by simp [knownB]; omega), h⟩
theorem known_no (k n b y s p : Int) (w : World) (h : n < 1 ∨ 12 < n ∨ b < -1 ∨ 1099511627776 < b) :
 Calls Try.prog 63 #[.agg #[.int .i64 k, .int .i64 n, .int .i64 b, .int .i64 y, .int .i64 s, .int .i64 p]] w fun e w' => e = .returned (.bool false) ∧ Below w.heap.size w w' :=
 (known_any k n b y s p w).mono fun _ _ ⟨a, h'⟩ => ⟨by rw [a]; exact retBI (by simp [knownB]; omega), h'⟩
set_option maxHeartbeats 1000000 in
theorem mRight_any (k n b y s p : Int) (w : World) :
 Calls Try.prog 60 #[.agg #[.int .i64 k, .int .i64 n, .int .i64 b, .int .i64 y, .int .i64 s, .int .i64 p]] w fun e w' => e = .returned (.bool (ledRight ⟨k, n, b, y, s, p⟩)) ∧ Below w.heap.size w w' := by
 by_cases hk : k = 3
 · subst hk
   by_cases hkn : n < 1 ∨ 12 < n ∨ b < -1 ∨ 1099511627776 < b
   · have E := hide (show ledRight ⟨3, n, b, y, s, p⟩ = false by simp [ledRight]; omega)
     have K := hide hkn
     clear hkn
     go_enter Try.func60, Try.ntmps60
     go_wp2_with (go_at_call 63; refine (known_no _ _ _ _ _ _ _ K.out).mono ?_; rintro e w1 ⟨rfl, hb⟩)
     go_ret
     exact ⟨(by rw [E.out]; rfl), ((Below.refl _ _).alloc (Nat.le_refl _) _).trans (hb.mono (by simp))⟩
   · have h1 : 1 ≤ n := by omega
     have h2 : n ≤ 12 := by omega
     have h3 : -1 ≤ b := by omega
     have h4 : b ≤ 1099511627776 := by omega
     clear hkn
     rcases (show n < 12 ∨ n = 12 by omega) with h5 | rfl
     · have h6 : n / 12 = 0 := by omega
       go_enter Try.func60, Try.ntmps60
       go_wp2_with (go_at_call 63; refine (known_yes _ _ _ _ _ _ _ h1 h2 h3 h4).mono ?_; rintro e w1 ⟨rfl, hb⟩; obtain ⟨hc, hf⟩ := bcell hb)
       all_goals (go_ret; refine ⟨?_, ((Below.refl _ _).alloc (Nat.le_refl _) _).trans (hb.mono (by simp))⟩)
       all_goals (refine congrArg (fun x : Bool => Ending.returned (Value.bool x)) ?_)
       all_goals (rw [Bool.eq_iff_iff]; simp only [ledRight]; simp)
       all_goals omega
     · go_enter Try.func60, Try.ntmps60
       go_wp2_with (go_at_call 63; refine (known_yes _ _ _ _ _ _ _ h1 h2 h3 h4).mono ?_; rintro e w1 ⟨rfl, hb⟩; obtain ⟨hc, hf⟩ := bcell hb)
       all_goals (go_ret; refine ⟨?_, ((Below.refl _ _).alloc (Nat.le_refl _) _).trans (hb.mono (by simp))⟩)
       all_goals (refine congrArg (fun x : Bool => Ending.returned (Value.bool x)) ?_)
       all_goals (rw [Bool.eq_iff_iff]; simp only [ledRight]; simp)
       all_goals omega
 · have E := hide (show ledRight ⟨k, n, b, y, s, p⟩ = false by simp [ledRight]; omega)
   have hk' : ((k : Int) == 3) = false := by simpa using hk
   clear hk
   go_enter Try.func60, Try.ntmps60
   go_wp2
   go_ret
   exact ⟨(by rw [E.out]; rfl), (Below.refl _ _).alloc (Nat.le_refl _) _⟩
theorem ledRight_t (k n b y s p : Int) (h : ledRight ⟨k, n, b, y, s, p⟩ = true) (w : World) :
 Calls Try.prog 43 #[.agg #[.int .i64 k, .int .i64 n, .int .i64 b, .int .i64 y, .int .i64 s, .int .i64 p]] w fun e w' => e = .returned (.bool true) ∧ Below w.heap.size w w' :=
 (ledRight_any k n b y s p w).mono fun _ _ ⟨a, h'⟩ => ⟨by rw [a, h], h'⟩
theorem ledRight_f (k n b y s p : Int) (h : ledRight ⟨k, n, b, y, s, p⟩ = false) (w : World) :
 Calls Try.prog 43 #[.agg #[.int .i64 k, .int .i64 n, .int .i64 b, .int .i64 y, .int .i64 s, .int .i64 p]] w fun e w' => e = .returned (.bool false) ∧ Below w.heap.size w w' :=
 (ledRight_any k n b y s p w).mono fun _ _ ⟨a, h'⟩ => ⟨by rw [a, h], h'⟩
end Go.Proofs.Ytmmjopmffpfccaa
