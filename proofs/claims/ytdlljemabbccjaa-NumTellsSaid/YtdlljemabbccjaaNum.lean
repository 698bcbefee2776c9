/-
  WALKS: num.Fit, Plus, Less, and the reference's.
-/
import Derived.Test.YtdlljemabbccjaaPNum
import Derived.Test.YtdlljemabbccjaaProg
namespace Go.Proofs.Ytdlljemabbccjaa
open Go.RowKit
set_option linter.unusedSimpArgs false
set_option linter.unusedVariables false

set_option maxHeartbeats 1000000 in
theorem fit_any (a : Int) (w : World) :
    Calls Try.prog 13 #[.int .i64 a] w fun e w' => e = .returned (.int .i64 (fitI a)) ∧ w = w' := by
  go_enter Try.func13, Try.ntmps13
  go_wp2
  all_goals (go_ret; refine ⟨retI ?_, rfl⟩)
  all_goals (unfold fitI; omega)


set_option maxHeartbeats 1000000 in
theorem rfit_any (a : Int) (w : World) :
    Calls Try.prog 14 #[.int .i64 a] w fun e w' => e = .returned (.int .i64 (fitI a)) ∧ w = w' := by
  go_enter Try.func14, Try.ntmps14
  go_wp2
  all_goals (go_ret; refine ⟨retI ?_, rfl⟩)
  all_goals (unfold fitI; omega)


set_option maxHeartbeats 1000000 in
theorem plus_any (a b : Int) (w : World) :
    Calls Try.prog 15 #[.int .i64 a, .int .i64 b] w fun e w' => e = .returned (.int .i64 (plusI a b)) ∧ w = w' := by
  have f1 := fit_ge a; have f2 := fit_le a; have f3 := fit_ge b; have f4 := fit_le b
  go_enter Try.func15, Try.ntmps15
  go_wp2_with (go_at_call 13; refine (fit_any _ _).mono ?_; rintro e w1 ⟨rfl, rfl⟩)
  all_goals (go_ret; refine ⟨retI ?_, rfl⟩)
  all_goals (unfold plusI; omega)


set_option maxHeartbeats 1000000 in
theorem less_any (a b : Int) (w : World) :
    Calls Try.prog 17 #[.int .i64 a, .int .i64 b] w fun e w' => e = .returned (.int .i64 (lessI a b)) ∧ w = w' := by
  have f1 := fit_ge a; have f2 := fit_le a; have f3 := fit_ge b; have f4 := fit_le b
  rcases (show fitI b = 1152921504606846976 ∨ (fitI b < 1152921504606846976 ∧ fitI a < fitI b) ∨ (fitI b < 1152921504606846976 ∧ fitI b ≤ fitI a ∧ fitI a = 1152921504606846976) ∨ (fitI b ≤ fitI a ∧ fitI a < 1152921504606846976) by omega) with h | ⟨h, h'⟩ | ⟨h, h', h''⟩ | ⟨h, h'⟩
  · have E := hide (show lessI a b = 0 by unfold lessI; omega)
    have b1 : (fitI b == 1152921504606846976) = true := by simp; omega
    have Q := hide (show True by first | trivial | omega)
    clear h
    go_enter Try.func17, Try.ntmps17
    go_wp2_with (go_at_call 13; refine (fit_any _ _).mono ?_; rintro e w1 ⟨rfl, rfl⟩)
    all_goals (go_ret; refine ⟨retI ?_, rfl⟩)
    all_goals (rw [E.out]; try (have := Q.out; omega))
  · have E := hide (show lessI a b = 0 by unfold lessI; omega)
    have b1 : (fitI b == 1152921504606846976) = false := by simp; omega
    have Q := hide (show True by first | trivial | omega)
    go_enter Try.func17, Try.ntmps17
    go_wp2_with (go_at_call 13; refine (fit_any _ _).mono ?_; rintro e w1 ⟨rfl, rfl⟩)
    all_goals (go_ret; refine ⟨retI ?_, rfl⟩)
    all_goals (rw [E.out]; try (have := Q.out; omega))
  · have E := hide (show lessI a b = 1152921504606846976 by unfold lessI; omega)
    have b1 : (fitI b == 1152921504606846976) = false := by simp; omega
    have b2 : (fitI a == 1152921504606846976) = true := by simp; omega
    have Q := hide (show fitI a = 1152921504606846976 by first | trivial | omega)
    clear h''
    go_enter Try.func17, Try.ntmps17
    go_wp2_with (go_at_call 13; refine (fit_any _ _).mono ?_; rintro e w1 ⟨rfl, rfl⟩)
    all_goals (go_ret; refine ⟨retI ?_, rfl⟩)
    all_goals (rw [E.out]; try (have := Q.out; omega))
  · have E := hide (show lessI a b = fitI a - fitI b by unfold lessI; omega)
    have b1 : (fitI b == 1152921504606846976) = false := by simp; omega
    have b2 : (fitI a == 1152921504606846976) = false := by simp; omega
    have Q := hide (show True by first | trivial | omega)
    go_enter Try.func17, Try.ntmps17
    go_wp2_with (go_at_call 13; refine (fit_any _ _).mono ?_; rintro e w1 ⟨rfl, rfl⟩)
    all_goals (go_ret; refine ⟨retI ?_, rfl⟩)
    all_goals (rw [E.out]; try (have := Q.out; omega))


set_option maxHeartbeats 1000000 in
theorem rplus_any (a b : Int) (w : World) :
    Calls Try.prog 16 #[.int .i64 a, .int .i64 b] w fun e w' => e = .returned (.int .i64 (plusI a b)) ∧ w = w' := by
  have f1 := fit_ge a; have f2 := fit_le a; have f3 := fit_ge b; have f4 := fit_le b
  go_enter Try.func16, Try.ntmps16
  go_wp2_with (go_at_call 14; refine (rfit_any _ _).mono ?_; rintro e w1 ⟨rfl, rfl⟩)
  all_goals (go_ret; refine ⟨retI ?_, rfl⟩)
  all_goals (unfold plusI; omega)


set_option maxHeartbeats 1000000 in
theorem rless_any (a b : Int) (w : World) :
    Calls Try.prog 18 #[.int .i64 a, .int .i64 b] w fun e w' => e = .returned (.int .i64 (lessI a b)) ∧ w = w' := by
  have f1 := fit_ge a; have f2 := fit_le a; have f3 := fit_ge b; have f4 := fit_le b
  rcases (show fitI b = 1152921504606846976 ∨ (fitI b < 1152921504606846976 ∧ fitI a < fitI b) ∨ (fitI b < 1152921504606846976 ∧ fitI b ≤ fitI a ∧ fitI a = 1152921504606846976) ∨ (fitI b ≤ fitI a ∧ fitI a < 1152921504606846976) by omega) with h | ⟨h, h'⟩ | ⟨h, h', h''⟩ | ⟨h, h'⟩
  · have E := hide (show lessI a b = 0 by unfold lessI; omega)
    have b1 : (fitI b == 1152921504606846976) = true := by simp; omega
    have Q := hide (show True by first | trivial | omega)
    clear h
    go_enter Try.func18, Try.ntmps18
    go_wp2_with (go_at_call 14; refine (rfit_any _ _).mono ?_; rintro e w1 ⟨rfl, rfl⟩)
    all_goals (go_ret; refine ⟨retI ?_, rfl⟩)
    all_goals (rw [E.out]; try (have := Q.out; omega))
  · have E := hide (show lessI a b = 0 by unfold lessI; omega)
    have b1 : (fitI b == 1152921504606846976) = false := by simp; omega
    have Q := hide (show True by first | trivial | omega)
    go_enter Try.func18, Try.ntmps18
    go_wp2_with (go_at_call 14; refine (rfit_any _ _).mono ?_; rintro e w1 ⟨rfl, rfl⟩)
    all_goals (go_ret; refine ⟨retI ?_, rfl⟩)
    all_goals (rw [E.out]; try (have := Q.out; omega))
  · have E := hide (show lessI a b = 1152921504606846976 by unfold lessI; omega)
    have b1 : (fitI b == 1152921504606846976) = false := by simp; omega
    have b2 : (fitI a == 1152921504606846976) = true := by simp; omega
    have Q := hide (show fitI a = 1152921504606846976 by first | trivial | omega)
    clear h''
    go_enter Try.func18, Try.ntmps18
    go_wp2_with (go_at_call 14; refine (rfit_any _ _).mono ?_; rintro e w1 ⟨rfl, rfl⟩)
    all_goals (go_ret; refine ⟨retI ?_, rfl⟩)
    all_goals (rw [E.out]; try (have := Q.out; omega))
  · have E := hide (show lessI a b = fitI a - fitI b by unfold lessI; omega)
    have b1 : (fitI b == 1152921504606846976) = false := by simp; omega
    have b2 : (fitI a == 1152921504606846976) = false := by simp; omega
    have Q := hide (show True by first | trivial | omega)
    go_enter Try.func18, Try.ntmps18
    go_wp2_with (go_at_call 14; refine (rfit_any _ _).mono ?_; rintro e w1 ⟨rfl, rfl⟩)
    all_goals (go_ret; refine ⟨retI ?_, rfl⟩)
    all_goals (rw [E.out]; try (have := Q.out; omega))


end Go.Proofs.Ytdlljemabbccjaa
