/-
  THE WALK of BucketPasses.
-/
import Derived.Test.YthokolfgagkmiaaBPass
import Derived.Test.YthokolfgagkmiaaFPass
import Derived.Test.YthokolfgagkmiaaEqual
namespace Go.Proofs.Ythokolfgagkmiaa
open Go.RowKit
set_option linter.unusedSimpArgs false
set_option linter.unusedVariables false

def GivesB (f : FuncId) (R B : Int) (xs zs : List Int) : Prop := ∀ (a : Option Addr) (n c : Nat) (w : World), IntsAt w a n c xs → (a = none → n = 0 ∧ c = 0) → n + 2 ≤ 17592186044416 →
    Calls Try.prog f #[.agg #[.int .i64 R, .int .i64 B], .slice a n c] w fun e w' => ∃ b m d, e = .returned (.slice b m d) ∧ IntsAt w' b m d zs ∧ Below w.heap.size w w'
theorem bBoth (R B : Int) (xs : List Int) : ∃ zs, GivesB 42 R B xs zs ∧ GivesB 43 R B xs zs := by
  by_cases hr : RightB R B xs
  · exact ⟨passB R B xs, fun a n c w h _ _ => bPass_ok R B a n c xs w h hr, fun a n c w h hno _ => fPass_ok R B a n c xs w h hno hr⟩
  · exact ⟨[], fun a n c w h _ _ => (bPass_bad R B a n c xs w h hr).mono fun _ _ ⟨h1, h2⟩ => ⟨none, 0, 0, h1, IntsAt.nil_ _, h2⟩,
      fun a n c w h hno hl => (fPass_bad R B a n c xs w h hno hl hr).mono fun _ _ ⟨h1, h2⟩ => ⟨none, 0, 0, h1, IntsAt.nil_ _, h2⟩⟩

set_option maxRecDepth 100000 in
set_option maxHeartbeats 4000000 in
theorem bucketPassesW (w : World) (R B : Int) (a : Option Addr) (n c : Nat) (xs : List Int) (h : IntsAt w a n c xs) (hno : a = none → n = 0 ∧ c = 0) (hlim : n + 2 ≤ 17592186044416) :
    Calls Try.prog 8 #[.agg #[.int .i64 R, .int .i64 B], .slice a n c] w fun e w' => e = .returned (.bool true) ∧ Below w.heap.size w w' := by
  obtain ⟨zs, P3, P4⟩ := bBoth R B xs
  obtain ⟨W, hWW⟩ : ∃ W, W = w.alloc (.cells #[.int .i64 R, .int .i64 B] 38) := ⟨_, rfl⟩
  have hWB : Below w.heap.size w W := by rw [hWW]; exact (Below.refl _ _).alloc (Nat.le_refl _) _
  have hWs : W.heap.size = w.heap.size + 1 := by rw [hWW]; simp
  have b0 : W.cell? ⟨w.heap.size, 0, none⟩ = some (.int .i64 R) := by rw [hWW]; simp [go_sem]
  have b1 : W.cell? ⟨w.heap.size, 1, none⟩ = some (.int .i64 B) := by rw [hWW]; simp [go_sem]
  have hI := h.below hWB
  have hd : decide (zs = zs) = true := by simp
  clear h
  go_enter Try.func8, Try.ntmps8
  go_wp2_with fail
  rw [← hWW]
  clear hWW
  go_region_held3 (fun w' => w'.cell? ⟨w.heap.size, 0, none⟩ = some (.int .i64 R) ∧ w'.cell? ⟨w.heap.size, 1, none⟩ = some (.int .i64 B)) (first | (go_keep; done) | ((try dsimp only); (try go_split_ands); apply And.intro <;> skip; all_goals (first | assumption | (go_keep; done))) | ((try dsimp only); (try go_split_ands); refine ⟨?_, ?_⟩ <;> (first | assumption | (go_keep; done) | (have := B3; refine (B3.cell ?_).trans ?_ <;> first | assumption | (show w.heap.size < _; first | omega | (simp; omega))) | (have := B4; refine (B4.cell ?_).trans ?_ <;> first | assumption | (show w.heap.size < _; first | omega | (simp; omega))) | (have := B5; refine (B5.cell ?_).trans ?_ <;> first | assumption | (show w.heap.size < _; first | omega | (simp; omega))))))
    (first | (go_at_call 42; refine (P3 _ _ _ _ (hI.below (by (repeat' (first | (with_reducible exact Below.refl _ _) | (with_reducible refine Below.alloc ?_ ?_ _) | (with_reducible refine Below.setCell ?_ ?_ _) | (with_reducible refine Below.drewN ?_ _) | (with_reducible refine Below.drew ?_) | (with_reducible refine Below.trans ?_ (B4.mono ?_)) | (with_reducible refine Below.trans ?_ (B3.mono ?_)) | omega | (simp; done) | (simp; omega))))) hno hlim).mono ?_; rintro e w3 ⟨p3, m3, q3, rfl, I3, B3⟩; have S3 : w.heap.size + 1 ≤ w3.heap.size := (by have h3 := B3.size; have h4 : W.drew.heap.size = w.heap.size + 1 := (by simpa using hWs); omega)) | (go_at_call 43; refine (P4 _ _ _ _ (hI.below (by (repeat' (first | (with_reducible exact Below.refl _ _) | (with_reducible refine Below.alloc ?_ ?_ _) | (with_reducible refine Below.setCell ?_ ?_ _) | (with_reducible refine Below.drewN ?_ _) | (with_reducible refine Below.drew ?_) | (with_reducible refine Below.trans ?_ (B4.mono ?_)) | (with_reducible refine Below.trans ?_ (B3.mono ?_)) | omega | (simp; done) | (simp; omega))))) hno hlim).mono ?_; rintro e w4 ⟨p4, m4, q4, rfl, I4, B4⟩; have S4 : w.heap.size + 1 ≤ w4.heap.size := Nat.le_trans S3 B4.size) | (go_at_call 32; refine (equal_any _ _ _ _ _ _ _ _ _ (I3.below (by (repeat' (first | (with_reducible exact Below.refl _ _) | (with_reducible refine Below.alloc ?_ ?_ _) | (with_reducible refine Below.setCell ?_ ?_ _) | (with_reducible refine Below.drewN ?_ _) | (with_reducible refine Below.drew ?_) | (with_reducible refine Below.trans ?_ (B4.mono ?_)) | (with_reducible refine Below.trans ?_ (B3.mono ?_)) | omega | (simp; done) | (simp; omega))))) (I4.below (by (repeat' (first | (with_reducible exact Below.refl _ _) | (with_reducible refine Below.alloc ?_ ?_ _) | (with_reducible refine Below.setCell ?_ ?_ _) | (with_reducible refine Below.drewN ?_ _) | (with_reducible refine Below.drew ?_) | (with_reducible refine Below.trans ?_ (B4.mono ?_)) | (with_reducible refine Below.trans ?_ (B3.mono ?_)) | omega | (simp; done) | (simp; omega)))))).mono ?_; rintro e w5 ⟨rfl, B5⟩; have S5 : w.heap.size + 1 ≤ w5.heap.size := Nat.le_trans S4 B5.size))
  go_wp2
  go_ret
  exact ⟨by first | rfl | simp, (((hWB.drew).trans (B3.mono (by simp; omega))).trans (B4.mono (by omega))).trans (B5.mono (by omega))⟩

end Go.Proofs.Ythokolfgagkmiaa
