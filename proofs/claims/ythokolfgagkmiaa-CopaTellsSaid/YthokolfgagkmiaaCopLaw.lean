/-
  THE WALK of CopaTells.
-/
import Derived.Test.YthokolfgagkmiaaCopNU
import Derived.Test.YthokolfgagkmiaaCopND
import Derived.Test.YthokolfgagkmiaaLNU
import Derived.Test.YthokolfgagkmiaaLND
namespace Go.Proofs.Ythokolfgagkmiaa
open Go.RowKit
set_option linter.unusedSimpArgs false
set_option linter.unusedVariables false

set_option maxHeartbeats 4000000 in
theorem cop_walk (k n b y s p : Int) (d : Int) (m : Int) (k' n' b' y' s' p' e' q : Int) (t : Bool) (hq : (m < 1 ∧ q = 1) ∨ (12 < m ∧ q = 12) ∨ (1 ≤ m ∧ m ≤ 12 ∧ q = m))
    (h1 : ∀ w : World, Calls Try.prog 25 #[.agg #[.int .i64 k, .int .i64 n, .int .i64 b, .int .i64 y, .int .i64 s, .int .i64 p], .int .i64 d] w fun e w' => e = .returned (.tuple #[.agg #[.int .i64 k', .int .i64 n', .int .i64 b', .int .i64 y', .int .i64 s', .int .i64 p'], .int .i64 e']) ∧ Below w.heap.size w w')
    (h2 : ∀ w : World, Calls Try.prog 26 #[.agg #[.int .i64 k, .int .i64 n, .int .i64 b, .int .i64 y, .int .i64 s, .int .i64 p], .int .i64 d] w fun e w' => e = .returned (.tuple #[.agg #[.int .i64 k', .int .i64 n', .int .i64 b', .int .i64 y', .int .i64 s', .int .i64 p'], .int .i64 e']) ∧ Below w.heap.size w w')
    (h3 : ∀ w : World, Calls Try.prog 28 #[.agg #[.int .i64 k, .int .i64 n, .int .i64 b, .int .i64 y, .int .i64 s, .int .i64 p]] w fun e w' => e = .returned (.bool t) ∧ Below w.heap.size w w')
    (h4 : ∀ w : World, Calls Try.prog 29 #[.agg #[.int .i64 k, .int .i64 n, .int .i64 b, .int .i64 y, .int .i64 s, .int .i64 p]] w fun e w' => e = .returned (.bool t) ∧ Below w.heap.size w w')
    (h5 : ∀ w : World, Calls Try.prog 27 #[.int .i64 m] w fun e w' => e = .returned (.agg #[.int .i64 2, .int .i64 q, .int .i64 (-1), .int .i64 0, .int .i64 0, .int .i64 0]) ∧ Below w.heap.size w w') (w : World) :
    Calls Try.prog 5 #[.agg #[.int .i64 k, .int .i64 n, .int .i64 b, .int .i64 y, .int .i64 s, .int .i64 p], .int .i64 d, .int .i64 m] w fun e w' => e = .returned (.bool true) ∧ Below w.heap.size w w' := by
  have H1 := hide h1
  have H2 := hide h2
  have H3 := hide h3
  have H4 := hide h4
  have H5 := hide h5
  clear h1 h2 h3 h4 h5
  rcases hq with ⟨q1, rfl⟩ | ⟨q1, rfl⟩ | ⟨q1, q2, rfl⟩
  all_goals
   go_enter Try.func5, Try.ntmps5
   go_wp2_with (first | (go_at_call 25; refine (H1.out _).mono ?_; rintro e w1 ⟨rfl, hb1⟩; have hz1 := hb1.size; simp at hz1; have g1 : w.heap.size < w1.heap.size := (by omega); obtain ⟨c0, c1, c2, c3, c4, c5⟩ : w1.cell? ⟨w.heap.size, 0, none⟩ = some (.int .i64 k) ∧ w1.cell? ⟨w.heap.size, 1, none⟩ = some (.int .i64 n) ∧ w1.cell? ⟨w.heap.size, 2, none⟩ = some (.int .i64 b) ∧ w1.cell? ⟨w.heap.size, 3, none⟩ = some (.int .i64 y) ∧ w1.cell? ⟨w.heap.size, 4, none⟩ = some (.int .i64 s) ∧ w1.cell? ⟨w.heap.size, 5, none⟩ = some (.int .i64 p) := (by refine ⟨?_, ?_, ?_, ?_, ?_, ?_⟩ <;> (rw [hb1.cell (by first | omega | (simp; done) | (simp; omega))]; try (simp [go_sem, World.cell?_alloc_past])))) | (go_at_call 26; refine (H2.out _).mono ?_; rintro e w2 ⟨rfl, hb2⟩; have hz2 := hb2.size; simp at hz2; have g2 : w.heap.size < w2.heap.size := (by omega); have g3 : w1.heap.size < w2.heap.size := (by omega); obtain ⟨d0, d1, d2, d3, d4, d5⟩ : w2.cell? ⟨w.heap.size, 0, none⟩ = some (.int .i64 k) ∧ w2.cell? ⟨w.heap.size, 1, none⟩ = some (.int .i64 n) ∧ w2.cell? ⟨w.heap.size, 2, none⟩ = some (.int .i64 b) ∧ w2.cell? ⟨w.heap.size, 3, none⟩ = some (.int .i64 y) ∧ w2.cell? ⟨w.heap.size, 4, none⟩ = some (.int .i64 s) ∧ w2.cell? ⟨w.heap.size, 5, none⟩ = some (.int .i64 p) := (by refine ⟨?_, ?_, ?_, ?_, ?_, ?_⟩ <;> (rw [hb2.cell (by first | omega | (simp; done) | (simp; omega))]; try (simp [go_sem, World.cell?_alloc_past, g1, c0, c1, c2, c3, c4, c5]))); obtain ⟨f0, f1, f2, f3, f4, f5⟩ : w2.cell? ⟨w1.heap.size, 0, none⟩ = some (.int .i64 k') ∧ w2.cell? ⟨w1.heap.size, 1, none⟩ = some (.int .i64 n') ∧ w2.cell? ⟨w1.heap.size, 2, none⟩ = some (.int .i64 b') ∧ w2.cell? ⟨w1.heap.size, 3, none⟩ = some (.int .i64 y') ∧ w2.cell? ⟨w1.heap.size, 4, none⟩ = some (.int .i64 s') ∧ w2.cell? ⟨w1.heap.size, 5, none⟩ = some (.int .i64 p') := (by refine ⟨?_, ?_, ?_, ?_, ?_, ?_⟩ <;> (rw [hb2.cell (by first | omega | (simp; done) | (simp; omega))]; try (simp [go_sem, World.cell?_alloc_past])))))
   obtain ⟨W3, hW3⟩ : ∃ W3, W3 = w2.alloc (.cells #[.int .i64 k', .int .i64 n', .int .i64 b', .int .i64 y', .int .i64 s', .int .i64 p'] 23) := ⟨_, rfl⟩
   have hB3 : Below w.heap.size w W3 := by rw [hW3]; (repeat' (first | (with_reducible exact Below.refl _ _) | (with_reducible refine Below.alloc ?_ ?_ _) | (with_reducible refine Below.setCell ?_ ?_ _) | (with_reducible refine Below.drewN ?_ _) | (with_reducible refine Below.drew ?_) | (with_reducible refine Below.trans ?_ (hb2.mono ?_)) | (with_reducible refine Below.trans ?_ (hb1.mono ?_)) | omega | (simp; done) | (simp; omega)))
   have hs3 : w2.heap.size < W3.heap.size := by rw [hW3]; simp
   have hS : W3.cell? ⟨w.heap.size, 0, none⟩ = some (.int .i64 k) ∧ W3.cell? ⟨w.heap.size, 1, none⟩ = some (.int .i64 n) ∧ W3.cell? ⟨w.heap.size, 2, none⟩ = some (.int .i64 b) ∧ W3.cell? ⟨w.heap.size, 3, none⟩ = some (.int .i64 y) ∧ W3.cell? ⟨w.heap.size, 4, none⟩ = some (.int .i64 s) ∧ W3.cell? ⟨w.heap.size, 5, none⟩ = some (.int .i64 p) ∧ W3.cell? ⟨w1.heap.size, 0, none⟩ = some (.int .i64 k') ∧ W3.cell? ⟨w1.heap.size, 1, none⟩ = some (.int .i64 n') ∧ W3.cell? ⟨w1.heap.size, 2, none⟩ = some (.int .i64 b') ∧ W3.cell? ⟨w1.heap.size, 3, none⟩ = some (.int .i64 y') ∧ W3.cell? ⟨w1.heap.size, 4, none⟩ = some (.int .i64 s') ∧ W3.cell? ⟨w1.heap.size, 5, none⟩ = some (.int .i64 p') ∧ W3.cell? ⟨w2.heap.size, 0, none⟩ = some (.int .i64 k') ∧ W3.cell? ⟨w2.heap.size, 1, none⟩ = some (.int .i64 n') ∧ W3.cell? ⟨w2.heap.size, 2, none⟩ = some (.int .i64 b') ∧ W3.cell? ⟨w2.heap.size, 3, none⟩ = some (.int .i64 y') ∧ W3.cell? ⟨w2.heap.size, 4, none⟩ = some (.int .i64 s') ∧ W3.cell? ⟨w2.heap.size, 5, none⟩ = some (.int .i64 p') := by rw [hW3]; refine ⟨?_, ?_, ?_, ?_, ?_, ?_, ?_, ?_, ?_, ?_, ?_, ?_, ?_, ?_, ?_, ?_, ?_, ?_⟩ <;> simp [go_sem, g1, g2, g3, World.cell?_alloc_past, c0, c1, c2, c3, c4, c5, d0, d1, d2, d3, d4, d5, f0, f1, f2, f3, f4, f5]
   rw [← hW3]
   clear hW3 c0 c1 c2 c3 c4 c5 d0 d1 d2 d3 d4 d5 f0 f1 f2 f3 f4 f5
   have HB3 := hide hB3
   clear hB3 hb1 hb2
   obtain ⟨S0, S1, S2, S3, S4, S5, S6, S7, S8, S9, S10, S11, S12, S13, S14, S15, S16, S17⟩ := hS
   have F : ∀ q : Beyond W3, q.w.cell? ⟨w.heap.size, 0, none⟩ = some (.int .i64 k) ∧ q.w.cell? ⟨w.heap.size, 1, none⟩ = some (.int .i64 n) ∧ q.w.cell? ⟨w.heap.size, 2, none⟩ = some (.int .i64 b) ∧ q.w.cell? ⟨w.heap.size, 3, none⟩ = some (.int .i64 y) ∧ q.w.cell? ⟨w.heap.size, 4, none⟩ = some (.int .i64 s) ∧ q.w.cell? ⟨w.heap.size, 5, none⟩ = some (.int .i64 p) ∧ q.w.cell? ⟨w1.heap.size, 0, none⟩ = some (.int .i64 k') ∧ q.w.cell? ⟨w1.heap.size, 1, none⟩ = some (.int .i64 n') ∧ q.w.cell? ⟨w1.heap.size, 2, none⟩ = some (.int .i64 b') ∧ q.w.cell? ⟨w1.heap.size, 3, none⟩ = some (.int .i64 y') ∧ q.w.cell? ⟨w1.heap.size, 4, none⟩ = some (.int .i64 s') ∧ q.w.cell? ⟨w1.heap.size, 5, none⟩ = some (.int .i64 p') ∧ q.w.cell? ⟨w2.heap.size, 0, none⟩ = some (.int .i64 k') ∧ q.w.cell? ⟨w2.heap.size, 1, none⟩ = some (.int .i64 n') ∧ q.w.cell? ⟨w2.heap.size, 2, none⟩ = some (.int .i64 b') ∧ q.w.cell? ⟨w2.heap.size, 3, none⟩ = some (.int .i64 y') ∧ q.w.cell? ⟨w2.heap.size, 4, none⟩ = some (.int .i64 s') ∧ q.w.cell? ⟨w2.heap.size, 5, none⟩ = some (.int .i64 p') := fun q => ⟨q.cell (by first | omega | (simp; done) | (simp; omega)) S0, q.cell (by first | omega | (simp; done) | (simp; omega)) S1, q.cell (by first | omega | (simp; done) | (simp; omega)) S2, q.cell (by first | omega | (simp; done) | (simp; omega)) S3, q.cell (by first | omega | (simp; done) | (simp; omega)) S4, q.cell (by first | omega | (simp; done) | (simp; omega)) S5, q.cell (by first | omega | (simp; done) | (simp; omega)) S6, q.cell (by first | omega | (simp; done) | (simp; omega)) S7, q.cell (by first | omega | (simp; done) | (simp; omega)) S8, q.cell (by first | omega | (simp; done) | (simp; omega)) S9, q.cell (by first | omega | (simp; done) | (simp; omega)) S10, q.cell (by first | omega | (simp; done) | (simp; omega)) S11, q.cell (by first | omega | (simp; done) | (simp; omega)) S12, q.cell (by first | omega | (simp; done) | (simp; omega)) S13, q.cell (by first | omega | (simp; done) | (simp; omega)) S14, q.cell (by first | omega | (simp; done) | (simp; omega)) S15, q.cell (by first | omega | (simp; done) | (simp; omega)) S16, q.cell (by first | omega | (simp; done) | (simp; omega)) S17⟩
   clear S0 S1 S2 S3 S4 S5 S6 S7 S8 S9 S10 S11 S12 S13 S14 S15 S16 S17
   simp only [forall_and] at F
   obtain ⟨F0, F1, F2, F3, F4, F5, F6, F7, F8, F9, F10, F11, F12, F13, F14, F15, F16, F17⟩ := F
   refine wp_region_beyond (by kernel_rfl) (by kernel_rfl) ?_
   repeat (first | go_big_quiet_step (first | (go_at_call 27; exact beyondCall (H5.out _)) | (go_at_call 28; exact beyondCall (H3.out _)) | (go_at_call 29; exact beyondCall (H4.out _))) | quiet_step (first | (go_at_call 27; exact beyondCall (H5.out _)) | (go_at_call 28; exact beyondCall (H3.out _)) | (go_at_call 29; exact beyondCall (H4.out _))))
   refine wpQuiet_nil ?_
   intro _ hw'
   obtain ⟨pq, hw''⟩ := hw'
   subst hw''
   go_wp2
   go_ret
   exact ⟨rfl, HB3.out.trans (pq.h.mono HB3.out.size)⟩

end Go.Proofs.Ythokolfgagkmiaa
