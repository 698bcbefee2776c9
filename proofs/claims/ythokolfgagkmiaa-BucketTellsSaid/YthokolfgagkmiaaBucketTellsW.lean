/-
  THE WALK of BucketTells.
-/
import Derived.Test.YthokolfgagkmiaaBKeeps
import Derived.Test.YthokolfgagkmiaaFKeeps
import Derived.Test.YthokolfgagkmiaaFLine
import Derived.Test.YthokolfgagkmiaaFLineBad
import Derived.Test.YthokolfgagkmiaaEqual
namespace Go.Proofs.Ythokolfgagkmiaa
open Go.RowKit
set_option linter.unusedSimpArgs false
set_option linter.unusedVariables false

def GivesR (f : FuncId) (R B : Int) (xs : List Int) (r : Bool) : Prop := ∀ (a : Option Addr) (n c : Nat) (w : World), IntsAt w a n c xs → (a = none → n = 0 ∧ c = 0) → n + 2 ≤ 17592186044416 →
    Calls Try.prog f #[.agg #[.int .i64 R, .int .i64 B], .slice a n c] w fun e w' => e = .returned (.bool r) ∧ Below w.heap.size w w'
def GivesL (f : FuncId) (R B n : Int) (zs : List Int) : Prop := ∀ (w : World),
    Calls Try.prog f #[.agg #[.int .i64 R, .int .i64 B], .int .i64 n] w fun e w' => ∃ b m d, e = .returned (.slice b m d) ∧ IntsAt w' b m d zs ∧ Below w.heap.size w w'
theorem rightBoth (R B : Int) (xs : List Int) : ∃ r, GivesR 67 R B xs r ∧ GivesR 68 R B xs r := by
  by_cases hr : RightB R B xs
  · exact ⟨true, fun a n c w h _ _ => callT (bRight_any _ _ _ _ _ _ _ h) hr, fun a n c w h hno hl => callT (fRight_any _ _ _ _ _ _ _ h hno hl) hr⟩
  · exact ⟨false, fun a n c w h _ _ => callF (bRight_any _ _ _ _ _ _ _ h) hr, fun a n c w h hno hl => callF (fRight_any _ _ _ _ _ _ _ h hno hl) hr⟩
theorem lineBoth (R B n : Int) : ∃ zs, GivesL 69 R B n zs ∧ GivesL 70 R B n zs := by
  obtain ⟨N, hN⟩ := ticks_ex n
  by_cases hr : RightB R B []
  · exact ⟨lineB R B N, fun w => bLine_ok _ _ _ _ _ hr hN, fun w => fLine_ok _ _ _ _ _ hr hN⟩
  · exact ⟨[], fun w => (bLine_bad _ _ _ _ hr).mono fun _ _ ⟨h1, h2⟩ => ⟨none, 0, 0, h1, IntsAt.nil_ _, h2⟩, fun w => (fLine_bad _ _ _ _ hr).mono fun _ _ ⟨h1, h2⟩ => ⟨none, 0, 0, h1, IntsAt.nil_ _, h2⟩⟩
theorem keepsBoth (R B : Int) (xs : List Int) : ∃ r, GivesR 71 R B xs r ∧ GivesR 72 R B xs r := by
  by_cases hr : RightB R B xs
  · by_cases hk : KeepsB R B xs
    · exact ⟨true, fun a n c w h _ _ => callT (bKeeps_ok _ _ _ _ _ _ _ h hr) hk, fun a n c w h hno hl => callT (fKeeps_ok _ _ _ _ _ _ _ h hno hr) hk⟩
    · exact ⟨false, fun a n c w h _ _ => callF (bKeeps_ok _ _ _ _ _ _ _ h hr) hk, fun a n c w h hno hl => callF (fKeeps_ok _ _ _ _ _ _ _ h hno hr) hk⟩
  · exact ⟨false, fun a n c w h _ _ => bKeeps_bad _ _ _ _ _ _ _ h hr, fun a n c w h hno hl => fKeeps_bad _ _ _ _ _ _ _ h hno hl hr⟩

set_option maxRecDepth 100000 in
set_option maxHeartbeats 4000000 in
theorem bucketTellsW (w : World) (R B : Int) (n0 : Int) (a : Option Addr) (n c : Nat) (xs : List Int) (h : IntsAt w a n c xs) (hno : a = none → n = 0 ∧ c = 0) (hlim : n + 2 ≤ 17592186044416) :
    Calls Try.prog 13 #[.agg #[.int .i64 R, .int .i64 B], .int .i64 n0, .slice a n c] w fun e w' => e = .returned (.bool true) ∧ Below w.heap.size w w' := by
  obtain ⟨r1, P1, P2⟩ := rightBoth R B xs
  obtain ⟨zs, P3, P4⟩ := lineBoth R B n0
  obtain ⟨r2, P6, P7⟩ := keepsBoth R B xs
  obtain ⟨W, hWW⟩ : ∃ W, W = w.alloc (.cells #[.int .i64 R, .int .i64 B] 38) := ⟨_, rfl⟩
  have hWB : Below w.heap.size w W := by rw [hWW]; exact (Below.refl _ _).alloc (Nat.le_refl _) _
  have hWs : W.heap.size = w.heap.size + 1 := by rw [hWW]; simp
  have b0 : W.cell? ⟨w.heap.size, 0, none⟩ = some (.int .i64 R) := by rw [hWW]; simp [go_sem]
  have b1 : W.cell? ⟨w.heap.size, 1, none⟩ = some (.int .i64 B) := by rw [hWW]; simp [go_sem]
  have hI := h.below hWB
  have HC : Hid (∀ w', Below W.heap.size W w' → w'.cell? ⟨w.heap.size, 0, none⟩ = some (.int .i64 R) ∧ w'.cell? ⟨w.heap.size, 1, none⟩ = some (.int .i64 B)) := hide fun w' hb => ⟨(hb.cell (by show w.heap.size < _; omega)).trans b0, (hb.cell (by show w.heap.size < _; omega)).trans b1⟩
  have hd : decide (zs = zs) = true := by simp
  have e1 : (r1 == r1) = true := by simp
  have e2 : (r2 == r2) = true := by simp
  clear h
  go_enter Try.func13, Try.ntmps13
  go_wp2_with fail
  rw [← hWW]
  clear hWW
  go_region_held3 (fun w' => w'.cell? ⟨w.heap.size, 0, none⟩ = some (.int .i64 R) ∧ w'.cell? ⟨w.heap.size, 1, none⟩ = some (.int .i64 B)) (((try dsimp only); exact HC.out _ (by (repeat' (first | (with_reducible exact Below.refl _ _) | (with_reducible refine Below.alloc ?_ ?_ _) | (with_reducible refine Below.setCell ?_ ?_ _) | (with_reducible refine Below.drewN ?_ _) | (with_reducible refine Below.drew ?_) | (with_reducible refine Below.trans ?_ (B7.mono ?_)) | (with_reducible refine Below.trans ?_ (B6.mono ?_)) | (with_reducible refine Below.trans ?_ (B5.mono ?_)) | (with_reducible refine Below.trans ?_ (B4.mono ?_)) | (with_reducible refine Below.trans ?_ (B3.mono ?_)) | (with_reducible refine Below.trans ?_ (B2.mono ?_)) | (with_reducible refine Below.trans ?_ (B1.mono ?_)) | omega | (simp; done) | (simp; omega))))))
    (first | (go_at_call 67; refine (P1 _ _ _ _ (hI.below (by (repeat' (first | (with_reducible exact Below.refl _ _) | (with_reducible refine Below.alloc ?_ ?_ _) | (with_reducible refine Below.setCell ?_ ?_ _) | (with_reducible refine Below.drewN ?_ _) | (with_reducible refine Below.drew ?_) | (with_reducible refine Below.trans ?_ (B7.mono ?_)) | (with_reducible refine Below.trans ?_ (B6.mono ?_)) | (with_reducible refine Below.trans ?_ (B5.mono ?_)) | (with_reducible refine Below.trans ?_ (B4.mono ?_)) | (with_reducible refine Below.trans ?_ (B3.mono ?_)) | (with_reducible refine Below.trans ?_ (B2.mono ?_)) | (with_reducible refine Below.trans ?_ (B1.mono ?_)) | omega | (simp; done) | (simp; omega))))) hno hlim).mono ?_; rintro e w1 ⟨rfl, B1⟩; have S1 := B1.size; (try simp at S1)) | (go_at_call 68; refine (P2 _ _ _ _ (hI.below (by (repeat' (first | (with_reducible exact Below.refl _ _) | (with_reducible refine Below.alloc ?_ ?_ _) | (with_reducible refine Below.setCell ?_ ?_ _) | (with_reducible refine Below.drewN ?_ _) | (with_reducible refine Below.drew ?_) | (with_reducible refine Below.trans ?_ (B7.mono ?_)) | (with_reducible refine Below.trans ?_ (B6.mono ?_)) | (with_reducible refine Below.trans ?_ (B5.mono ?_)) | (with_reducible refine Below.trans ?_ (B4.mono ?_)) | (with_reducible refine Below.trans ?_ (B3.mono ?_)) | (with_reducible refine Below.trans ?_ (B2.mono ?_)) | (with_reducible refine Below.trans ?_ (B1.mono ?_)) | omega | (simp; done) | (simp; omega))))) hno hlim).mono ?_; rintro e w2 ⟨rfl, B2⟩; have S2 := B2.size; (try simp at S2)) | (go_at_call 69; refine (P3 _).mono ?_; rintro e w3 ⟨p3, m3, q3, rfl, I3, B3⟩; have S3 := B3.size; (try simp at S3)) | (go_at_call 70; refine (P4 _).mono ?_; rintro e w4 ⟨p4, m4, q4, rfl, I4, B4⟩; have S4 := B4.size; (try simp at S4)) | (go_at_call 32; refine (equal_any _ _ _ _ _ _ _ _ _ (I3.below (by (repeat' (first | (with_reducible exact Below.refl _ _) | (with_reducible refine Below.alloc ?_ ?_ _) | (with_reducible refine Below.setCell ?_ ?_ _) | (with_reducible refine Below.drewN ?_ _) | (with_reducible refine Below.drew ?_) | (with_reducible refine Below.trans ?_ (B7.mono ?_)) | (with_reducible refine Below.trans ?_ (B6.mono ?_)) | (with_reducible refine Below.trans ?_ (B5.mono ?_)) | (with_reducible refine Below.trans ?_ (B4.mono ?_)) | (with_reducible refine Below.trans ?_ (B3.mono ?_)) | (with_reducible refine Below.trans ?_ (B2.mono ?_)) | (with_reducible refine Below.trans ?_ (B1.mono ?_)) | omega | (simp; done) | (simp; omega))))) (I4.below (by (repeat' (first | (with_reducible exact Below.refl _ _) | (with_reducible refine Below.alloc ?_ ?_ _) | (with_reducible refine Below.setCell ?_ ?_ _) | (with_reducible refine Below.drewN ?_ _) | (with_reducible refine Below.drew ?_) | (with_reducible refine Below.trans ?_ (B7.mono ?_)) | (with_reducible refine Below.trans ?_ (B6.mono ?_)) | (with_reducible refine Below.trans ?_ (B5.mono ?_)) | (with_reducible refine Below.trans ?_ (B4.mono ?_)) | (with_reducible refine Below.trans ?_ (B3.mono ?_)) | (with_reducible refine Below.trans ?_ (B2.mono ?_)) | (with_reducible refine Below.trans ?_ (B1.mono ?_)) | omega | (simp; done) | (simp; omega)))))).mono ?_; rintro e w5 ⟨rfl, B5⟩; have S5 := B5.size; (try simp at S5)) | (go_at_call 71; refine (P6 _ _ _ _ (hI.below (by (repeat' (first | (with_reducible exact Below.refl _ _) | (with_reducible refine Below.alloc ?_ ?_ _) | (with_reducible refine Below.setCell ?_ ?_ _) | (with_reducible refine Below.drewN ?_ _) | (with_reducible refine Below.drew ?_) | (with_reducible refine Below.trans ?_ (B7.mono ?_)) | (with_reducible refine Below.trans ?_ (B6.mono ?_)) | (with_reducible refine Below.trans ?_ (B5.mono ?_)) | (with_reducible refine Below.trans ?_ (B4.mono ?_)) | (with_reducible refine Below.trans ?_ (B3.mono ?_)) | (with_reducible refine Below.trans ?_ (B2.mono ?_)) | (with_reducible refine Below.trans ?_ (B1.mono ?_)) | omega | (simp; done) | (simp; omega))))) hno hlim).mono ?_; rintro e w6 ⟨rfl, B6⟩; have S6 := B6.size; (try simp at S6)) | (go_at_call 72; refine (P7 _ _ _ _ (hI.below (by (repeat' (first | (with_reducible exact Below.refl _ _) | (with_reducible refine Below.alloc ?_ ?_ _) | (with_reducible refine Below.setCell ?_ ?_ _) | (with_reducible refine Below.drewN ?_ _) | (with_reducible refine Below.drew ?_) | (with_reducible refine Below.trans ?_ (B7.mono ?_)) | (with_reducible refine Below.trans ?_ (B6.mono ?_)) | (with_reducible refine Below.trans ?_ (B5.mono ?_)) | (with_reducible refine Below.trans ?_ (B4.mono ?_)) | (with_reducible refine Below.trans ?_ (B3.mono ?_)) | (with_reducible refine Below.trans ?_ (B2.mono ?_)) | (with_reducible refine Below.trans ?_ (B1.mono ?_)) | omega | (simp; done) | (simp; omega))))) hno hlim).mono ?_; rintro e w7 ⟨rfl, B7⟩; have S7 := B7.size; (try simp at S7)))
  go_wp2
  go_ret
  exact ⟨by first | rfl | simp, hWB.trans ((by (repeat' (first | (with_reducible exact Below.refl _ _) | (with_reducible refine Below.alloc ?_ ?_ _) | (with_reducible refine Below.setCell ?_ ?_ _) | (with_reducible refine Below.drewN ?_ _) | (with_reducible refine Below.drew ?_) | (with_reducible refine Below.trans ?_ (B7.mono ?_)) | (with_reducible refine Below.trans ?_ (B6.mono ?_)) | (with_reducible refine Below.trans ?_ (B5.mono ?_)) | (with_reducible refine Below.trans ?_ (B4.mono ?_)) | (with_reducible refine Below.trans ?_ (B3.mono ?_)) | (with_reducible refine Below.trans ?_ (B2.mono ?_)) | (with_reducible refine Below.trans ?_ (B1.mono ?_)) | omega | (simp; done) | (simp; omega))) : Below W.heap.size W w7).mono (by omega))⟩

end Go.Proofs.Ythokolfgagkmiaa
