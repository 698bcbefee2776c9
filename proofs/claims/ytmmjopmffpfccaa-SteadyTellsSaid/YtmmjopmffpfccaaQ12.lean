/-
  Lemmas and walks for the statement: Lmore.
-/
import Derived.Test.YtmmjopmffpfccaaQ02
namespace Go.Proofs.Ytmmjopmffpfccaa
open Go.RowKit
set_option linter.unusedSimpArgs false
set_option linter.unusedVariables false
def upN (n p : Int) : Int := if n = 12 then 12 else if p = 3 then n + 1 else n
def upP (n p : Int) : Int := if n = 12 then p else if p = 3 then 0 else p + 1
def dnN (n p : Int) : Int := if p = 0 then (if n = 1 then 1 else n - 1) else n
def dnP (n p : Int) : Int := if p = 0 then (if n = 1 then 0 else 3) else p - 1
set_option maxHeartbeats 1000000 in
theorem lmore_up (k n b y s p : Int) (h1 : 1 ≤ n) (h2 : n ≤ 12) (h3 : 0 ≤ p) (h4 : p < 4) (w : World) :
 Calls Try.prog 61 #[.agg #[.int .i64 k, .int .i64 n, .int .i64 b, .int .i64 y, .int .i64 s, .int .i64 p], .int .i64 1] w fun e w' => e = .returned (.agg #[.int .i64 k, .int .i64 (upN n p), .int .i64 b, .int .i64 y, .int .i64 s, .int .i64 (upP n p)]) ∧ Below w.heap.size w w' := by
 rcases (show n = 12 ∨ (n < 12 ∧ p = 3) ∨ (n < 12 ∧ p < 3) by omega) with h | ⟨h, h'⟩ | ⟨h, h'⟩
 · subst h
   have hp : ((p : Int) == 4) = false := by simp; omega
   go_enter Try.func61, Try.ntmps61
   go_wp2
   all_goals (refine bodyPost_ret (v := .agg #[.int .i64 k, .int .i64 (upN 12 p), .int .i64 b, .int .i64 y, .int .i64 s, .int .i64 (upP 12 p)]) ?_ rfl ⟨rfl, ?_⟩)
   all_goals first | ((repeat' (first | (with_reducible exact Below.refl _ _) | (with_reducible refine Below.alloc ?_ ?_ _) | (with_reducible refine Below.setCell ?_ ?_ _) | (with_reducible refine Below.drewN ?_ _) | (with_reducible refine Below.drew ?_) | omega | (simp; done) | (simp; omega))); done) | skip
   all_goals (simp [results, Try.results61, go_sem, upN, upP])
 · subst h'
   have hne : ¬ n = 12 := by omega
   go_enter Try.func61, Try.ntmps61
   go_wp2
   all_goals (refine bodyPost_ret (v := .agg #[.int .i64 k, .int .i64 (upN n 3), .int .i64 b, .int .i64 y, .int .i64 s, .int .i64 (upP n 3)]) ?_ rfl ⟨rfl, ?_⟩)
   all_goals first | ((repeat' (first | (with_reducible exact Below.refl _ _) | (with_reducible refine Below.alloc ?_ ?_ _) | (with_reducible refine Below.setCell ?_ ?_ _) | (with_reducible refine Below.drewN ?_ _) | (with_reducible refine Below.drew ?_) | omega | (simp; done) | (simp; omega))); done) | skip
   all_goals (simp [results, Try.results61, go_sem, upN, upP, hne])
 · have hp : ((p + 1 : Int) == 4) = false := by simp; omega
   have hne : ¬ n = 12 := by omega
   have hne' : ¬ p = 3 := by omega
   go_enter Try.func61, Try.ntmps61
   go_wp2
   all_goals (refine bodyPost_ret (v := .agg #[.int .i64 k, .int .i64 (upN n p), .int .i64 b, .int .i64 y, .int .i64 s, .int .i64 (upP n p)]) ?_ rfl ⟨rfl, ?_⟩)
   all_goals first | ((repeat' (first | (with_reducible exact Below.refl _ _) | (with_reducible refine Below.alloc ?_ ?_ _) | (with_reducible refine Below.setCell ?_ ?_ _) | (with_reducible refine Below.drewN ?_ _) | (with_reducible refine Below.drew ?_) | omega | (simp; done) | (simp; omega))); done) | skip
   all_goals (simp [results, Try.results61, go_sem, upN, upP, hne, hne'])
set_option maxHeartbeats 1000000 in
theorem lmore_dn (k n b y s p : Int) (h1 : 1 ≤ n) (h2 : n ≤ 12) (h3 : 0 ≤ p) (h4 : p < 4) (w : World) :
 Calls Try.prog 61 #[.agg #[.int .i64 k, .int .i64 n, .int .i64 b, .int .i64 y, .int .i64 s, .int .i64 p], .int .i64 (-1)] w fun e w' => e = .returned (.agg #[.int .i64 k, .int .i64 (dnN n p), .int .i64 b, .int .i64 y, .int .i64 s, .int .i64 (dnP n p)]) ∧ Below w.heap.size w w' := by
 rcases (show (p = 0 ∧ n = 1) ∨ (p = 0 ∧ 1 < n) ∨ (0 < p) by omega) with ⟨h, h'⟩ | ⟨h, h'⟩ | h
 · subst h; subst h'
   go_enter Try.func61, Try.ntmps61
   go_wp2
   all_goals (refine bodyPost_ret (v := .agg #[.int .i64 k, .int .i64 (dnN 1 0), .int .i64 b, .int .i64 y, .int .i64 s, .int .i64 (dnP 1 0)]) ?_ rfl ⟨rfl, ?_⟩)
   all_goals first | ((repeat' (first | (with_reducible exact Below.refl _ _) | (with_reducible refine Below.alloc ?_ ?_ _) | (with_reducible refine Below.setCell ?_ ?_ _) | (with_reducible refine Below.drewN ?_ _) | (with_reducible refine Below.drew ?_) | omega | (simp; done) | (simp; omega))); done) | skip
   all_goals (simp [results, Try.results61, go_sem, dnN, dnP])
 · subst h
   have hne : ¬ n = 1 := by omega
   go_enter Try.func61, Try.ntmps61
   go_wp2
   all_goals (refine bodyPost_ret (v := .agg #[.int .i64 k, .int .i64 (dnN n 0), .int .i64 b, .int .i64 y, .int .i64 s, .int .i64 (dnP n 0)]) ?_ rfl ⟨rfl, ?_⟩)
   all_goals first | ((repeat' (first | (with_reducible exact Below.refl _ _) | (with_reducible refine Below.alloc ?_ ?_ _) | (with_reducible refine Below.setCell ?_ ?_ _) | (with_reducible refine Below.drewN ?_ _) | (with_reducible refine Below.drew ?_) | omega | (simp; done) | (simp; omega))); done) | skip
   all_goals (simp [results, Try.results61, go_sem, dnN, dnP, hne])
 · have hp : ((p - 1 : Int) == 4) = false := by simp; omega
   have hne : ¬ p = 0 := by omega
   go_enter Try.func61, Try.ntmps61
   go_wp2
   all_goals (refine bodyPost_ret (v := .agg #[.int .i64 k, .int .i64 (dnN n p), .int .i64 b, .int .i64 y, .int .i64 s, .int .i64 (dnP n p)]) ?_ rfl ⟨rfl, ?_⟩)
   all_goals first | ((repeat' (first | (with_reducible exact Below.refl _ _) | (with_reducible refine Below.alloc ?_ ?_ _) | (with_reducible refine Below.setCell ?_ ?_ _) | (with_reducible refine Below.drewN ?_ _) | (with_reducible refine Below.drew ?_) | omega | (simp; done) | (simp; omega))); done) | skip
   all_goals (simp [results, Try.results61, go_sem, dnN, dnP, hne])
end Go.Proofs.Ytmmjopmffpfccaa
