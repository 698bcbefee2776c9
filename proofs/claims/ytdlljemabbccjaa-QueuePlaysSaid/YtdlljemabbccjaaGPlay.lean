/-
  WALKS: the reference's GPlay; both where the numbers are not right.
-/
import Derived.Test.YtdlljemabbccjaaPlay
import Derived.Test.YtdlljemabbccjaaFRight
namespace Go.Proofs.Ytdlljemabbccjaa
open Go.RowKit
set_option linter.unusedSimpArgs false
set_option linter.unusedVariables false

attribute [local go_sem] iteMin iteMax iteMinN iteMaxN

set_option maxHeartbeats 1000000 in
theorem play_bad (r m : Int) (a : Option Addr) (n c : Nat) (xs : List Int) (w : World) (h : IntsAt w a n c xs) (hr : ¬ RightB r m xs) :
    Calls Try.prog 28 #[.int .i64 r, .int .i64 m, .slice a n c] w fun e w' => Three [] [] [] e w' ∧ Below w.heap.size w w' := by
  have HR := hide hr
  clear hr
  go_enter Try.func28, Try.ntmps28
  go_wp2_with fail
  refine (callF (right_ok _ _ _ _ _ _ _ h) HR.out).mono ?_
  rintro e w1 ⟨rfl, B1⟩
  go_wp2
  go_ret3
  exact ⟨⟨_, _, _, _, _, _, _, _, _, rfl, IntsAt.nil_ _, IntsAt.nil_ _, IntsAt.nil_ _⟩, B1⟩
set_option maxHeartbeats 1000000 in
theorem gplay_bad (r m : Int) (a : Option Addr) (n c : Nat) (xs : List Int) (w : World) (h : IntsAt w a n c xs) (hno : a = none → n = 0 ∧ c = 0) (hlim : n + 2 ≤ 17592186044416) (hr : ¬ RightB r m xs) :
    Calls Try.prog 29 #[.int .i64 r, .int .i64 m, .slice a n c] w fun e w' => Three [] [] [] e w' ∧ Below w.heap.size w w' := by
  have HR := hide hr
  clear hr
  go_enter Try.func29, Try.ntmps29
  go_wp2_with fail
  refine (callF (fRight_any _ _ _ _ _ _ _ h hno hlim) HR.out).mono ?_
  rintro e w1 ⟨rfl, B1⟩
  go_wp2
  go_ret3
  exact ⟨⟨_, _, _, _, _, _, _, _, _, rfl, IntsAt.nil_ _, IntsAt.nil_ _, IntsAt.nil_ _⟩, B1⟩

set_option maxRecDepth 100000 in
set_option maxHeartbeats 8000000 in
theorem gplay_ok (r m : Int) (a : Option Addr) (n c : Nat) (xs : List Int) (w : World) (h : IntsAt w a n c xs) (hno : a = none → n = 0 ∧ c = 0) (hr : RightB r m xs) :
    Calls Try.prog 29 #[.int .i64 r, .int .i64 m, .slice a n c] w fun e w' => Three (goL r m xs) (loL r m xs) (waL r m xs) e w' ∧ Below w.heap.size w w' := by
  obtain ⟨i0, hi0, hz0, hz1, hz2⟩ := info_parts intInfoQ
  have HR := hide hr
  have HL := hide h.len
  have HQ1 := hide (show (goL r m xs).length = n by rw [goL_len, h.len])
  have HQ2 := hide (show (loL r m xs).length = n by rw [loL_len, h.len])
  have HQ3 := hide (show (waL r m xs).length = n by rw [waL_len, h.len])
  have hn : n < 300 := by rw [← HL.out]; exact hr.2.2.1
  obtain ⟨hr0, hr1⟩ := hr.1
  obtain ⟨hm0, hm1⟩ := hr.2.1
  clear hr
  go_enter Try.func29, Try.ntmps29
  go_wp2_with fail
  refine (callT (fRight_any _ _ _ _ _ _ _ h hno (by omega)) HR.out).mono ?_
  rintro e w1 ⟨rfl, B1⟩
  obtain ⟨Bq, hBq⟩ : ∃ Bq, w1.heap.size = Bq := ⟨_, rfl⟩
  have HB1 := hide B1
  have hq0 : w.heap.size ≤ Bq := by have := B1.size; omega
  have hq1 : Bq ≤ w1.heap.size := by omega
  have HI := hide h
  clear h B1 hBq
  go_wp2
  go_loopw [6, 7, 8, 9, 22] (fun v1 v2 v3 q i wr => ∃ k : Nat, k ≤ n ∧ i = .int .i64 k ∧ q = .int .i64 (qW r m xs k) ∧ R3 wr Bq 3 (goL r m xs) (loL r m xs) (waL r m xs) v1 k v2 k v3 k ∧ Below w.heap.size w wr ∧ Bq ≤ wr.heap.size) (fun _ _ _ _ i _ => n - (intOf i).toNat)
  case atStart => exact ⟨0, Nat.zero_le _, rfl, rfl, ⟨own_start _ _ _ _, own_start _ _ _ _, own_start _ _ _ _, Ap.nil _, Ap.nil _, Ap.nil _⟩, HB1.out, hq1⟩
  case round =>
    clear HB1 hq1
    obtain ⟨k, hk, rfl, rfl, R3w, hB3, hBs⟩ := hrel
    have k0 : (0 : Int) ≤ (k : Int) := Int.natCast_nonneg _
    by_cases hlt : k < n
    · have k1 : (k : Int) < (n : Int) := by omega
      obtain ⟨ad, x, rfl, hbd, hc, HX⟩ := HI.out.getB hB3 hlt
      obtain ⟨qb1, qb2⟩ := qW_b HR.out k
      obtain ⟨xb1, xb2⟩ := small_at HR.out.2.2.2 HX.out
      have E4 := hide (show min (max (qW r m xs k + x - r) 0) m = qW r m xs (k + 1) by simp only [qW]; rw [getD_of HX.out]; omega)
      have E1 := hide (show qW r m xs k + x - max (qW r m xs k + x - r) 0 = (goL r m xs).getD k 0 by rw [← goL_get (by rw [HL.out]; exact hlt)]; unfold qG; rw [getD_of HX.out]; omega)
      have E2 := hide (show max (qW r m xs k + x - r) 0 - min (max (qW r m xs k + x - r) 0) m = (loL r m xs).getD k 0 by rw [← loL_get (by rw [HL.out]; exact hlt)]; unfold qL; rw [getD_of HX.out]; omega)
      have E3 := hide (show min (max (qW r m xs k + x - r) 0) m = (waL r m xs).getD k 0 by rw [E4.out]; exact waL_get (by rw [HL.out]; exact hlt))
      obtain ⟨Q, hQ⟩ : ∃ Q, qW r m xs k = Q := ⟨_, rfl⟩
      rw [hQ] at qb1 qb2 ⊢
      have E1 := hide (by have := E1.out; rw [hQ] at this; exact this)
      have E2 := hide (by have := E2.out; rw [hQ] at this; exact this)
      have E3 := hide (by have := E3.out; rw [hQ] at this; exact this)
      have E4 := hide (by have := E4.out; rw [hQ] at this; exact this)
      obtain ⟨S3, hS3⟩ : ∃ S3, wr.heap.size = S3 := ⟨_, rfl⟩
      have HS3 := hide hS3
      clear hQ hS3
      go_wp2_with (first | (at_builtin; refine wpList_append_lies _ (by rfl) (.tmp 36) (.tmp 40) _ (by rfl) Bq 3 i0 (.int .i64 0) 1 8 Try.underlying24 hi0 hz0 hz1 hz2 rfl (by decide) u6 k _ (by rfl) (R3.o1 (by (repeat' (first | (with_reducible assumption) | (with_reducible refine R3.alloc ?_ _) | (with_reducible refine R3.drew ?_))) : R3 _ Bq 3 (goL r m xs) (loL r m xs) (waL r m xs) u6 k u7 k u8 k)) _ 1 1 [.int .i64 (Q + x - max (Q + x - r) 0)] (by rfl) rfl (news_list (by (repeat' (first | (with_reducible assumption) | (with_reducible refine news_drew ?_) | (with_reducible refine news_new ?_) | (with_reducible refine news_alloc ?_) | (with_reducible refine hfA _ _ ?_ ?_) | (with_reducible refine hfB _ _ ?_ ?_) | omega | (simp; done) | (simp; omega))))) (by simp [Value.oneCell']) (by decide) (by unfold maxLen; omega) (by omega) (by first | omega | (simp; omega)) _ rfl ?_; intro g1 cap1 wa1 ho1 hg1 hat1 hlt1; have T1 := R3.push1 (by (repeat' (first | (with_reducible assumption) | (with_reducible refine R3.alloc ?_ _) | (with_reducible refine R3.drew ?_))) : R3 _ Bq 3 (goL r m xs) (loL r m xs) (waL r m xs) u6 k u7 k u8 k) (by rw [HQ1.out]; omega) E1.out ho1 hg1 hat1 (Nat.le_refl _); have hfA := (fun (b : Nat) (u : Value) => far_row (b := b) (u := u) R3w.o1 hg1 HS3.out); have hs1 := hg1.size; (try simp at hs1)) | (at_builtin; refine wpList_append_lies _ (by rfl) (.tmp 42) (.tmp 46) _ (by rfl) Bq 3 i0 (.int .i64 0) 1 8 Try.underlying24 hi0 hz0 hz1 hz2 rfl (by decide) u7 k _ (by rfl) (R3.o2 (by (repeat' (first | (with_reducible assumption) | (with_reducible refine R3.alloc ?_ _) | (with_reducible refine R3.drew ?_))) : R3 _ Bq 3 (goL r m xs) (loL r m xs) (waL r m xs) (.slice (some ⟨g1, 0, none⟩) (k + 1) cap1) (k + 1) u7 k u8 k)) _ 1 1 [.int .i64 (max (Q + x - r) 0 - min (max (Q + x - r) 0) m)] (by rfl) rfl (news_list (by (repeat' (first | (with_reducible assumption) | (with_reducible refine news_drew ?_) | (with_reducible refine news_new ?_) | (with_reducible refine news_alloc ?_) | (with_reducible refine hfA _ _ ?_ ?_) | (with_reducible refine hfB _ _ ?_ ?_) | omega | (simp; done) | (simp; omega))))) (by simp [Value.oneCell']) (by decide) (by unfold maxLen; omega) (by omega) (by first | omega | (simp; omega)) _ rfl ?_; intro g2 cap2 wa2 ho2 hg2 hat2 hlt2; have T2 := R3.push2 (by (repeat' (first | (with_reducible assumption) | (with_reducible refine R3.alloc ?_ _) | (with_reducible refine R3.drew ?_))) : R3 _ Bq 3 (goL r m xs) (loL r m xs) (waL r m xs) (.slice (some ⟨g1, 0, none⟩) (k + 1) cap1) (k + 1) u7 k u8 k) (by rw [HQ2.out]; omega) E2.out ho2 hg2 hat2 (Nat.le_refl _); have hfB := (fun (b : Nat) (u : Value) => far_row (b := b) (u := u) R3w.o2 hg2 HS3.out); have hs2 := hg2.size; (try simp at hs2)) | (at_builtin; refine wpList_append_lies _ (by rfl) (.tmp 48) (.tmp 50) _ (by rfl) Bq 3 i0 (.int .i64 0) 1 8 Try.underlying24 hi0 hz0 hz1 hz2 rfl (by decide) u8 k _ (by rfl) (R3.o3 (by (repeat' (first | (with_reducible assumption) | (with_reducible refine R3.alloc ?_ _) | (with_reducible refine R3.drew ?_))) : R3 _ Bq 3 (goL r m xs) (loL r m xs) (waL r m xs) (.slice (some ⟨g1, 0, none⟩) (k + 1) cap1) (k + 1) (.slice (some ⟨g2, 0, none⟩) (k + 1) cap2) (k + 1) u8 k)) _ 1 1 [.int .i64 (min (max (Q + x - r) 0) m)] (by rfl) rfl (news_list (by (repeat' (first | (with_reducible assumption) | (with_reducible refine news_drew ?_) | (with_reducible refine news_new ?_) | (with_reducible refine news_alloc ?_) | (with_reducible refine hfA _ _ ?_ ?_) | (with_reducible refine hfB _ _ ?_ ?_) | omega | (simp; done) | (simp; omega))))) (by simp [Value.oneCell']) (by decide) (by unfold maxLen; omega) (by omega) (by first | omega | (simp; omega)) _ rfl ?_; intro g3 cap3 wa3 ho3 hg3 hat3 hlt3; have T3 := R3.push3 (by (repeat' (first | (with_reducible assumption) | (with_reducible refine R3.alloc ?_ _) | (with_reducible refine R3.drew ?_))) : R3 _ Bq 3 (goL r m xs) (loL r m xs) (waL r m xs) (.slice (some ⟨g1, 0, none⟩) (k + 1) cap1) (k + 1) (.slice (some ⟨g2, 0, none⟩) (k + 1) cap2) (k + 1) u8 k) (by rw [HQ3.out]; omega) E3.out ho3 hg3 hat3 (Nat.le_refl _); have hs3 := hg3.size; (try simp at hs3)))
      have HF2 := hide (by (repeat' (first | (with_reducible assumption) | (with_reducible refine Below.drew ?_) | (with_reducible refine Below.alloc ?_ ?_ _) | (with_reducible refine bel_row R3w.o3 hg3 ?_ ?_ ?_) | (with_reducible refine bel_row R3w.o2 hg2 ?_ ?_ ?_) | (with_reducible refine bel_row R3w.o1 hg1 ?_ ?_ ?_) | omega | (simp; done) | (simp; omega))) : Below w.heap.size w wa3)
      have HF3 := hide T3
      have HF4 := hide (by omega : Bq ≤ wa3.heap.size)
      clear T1 T2 T3 hfA hfB ho1 ho2 ho3 hg1 hg2 hg3 hB3 R3w
      go_wp2
      go_roundw
      case rel => exact ⟨k + 1, by omega, by go_num, by rw [E4.out], HF3.out, HF2.out, HF4.out⟩
      case measure => (simp [intOf] <;> omega)
    · obtain rfl : k = n := by omega
      have HT := hide (three_of R3w HQ1.out HQ2.out HQ3.out (by omega))
      clear R3w
      go_wp2
      go_ret3
      exact ⟨HT.out, hB3⟩

end Go.Proofs.Ytdlljemabbccjaa
