/-
  WALKS: queue.Play.
-/
import Derived.Test.YtdlljemabbccjaaPQueue
import Derived.Test.YtdlljemabbccjaaR3
import Derived.Test.YtdlljemabbccjaaTick
import Derived.Deep.AppendLies
namespace Go.Proofs.Ytdlljemabbccjaa
open Go.RowKit
set_option linter.unusedSimpArgs false
set_option linter.unusedVariables false

attribute [local go_sem] iteMin iteMax iteMinN iteMaxN

theorem intInfoQ : (Try.prog.info? 3).map (fun i => (i.zero, i.size, i.bytes)) = some (some (.int .i64 0), 1, 8) := by kernel_rfl

theorem right_ok (r m : Int) (a : Option Addr) (n c : Nat) (xs : List Int) (w : World) (h : IntsAt w a n c xs) :
    Calls Try.prog 30 #[.int .i64 r, .int .i64 m, .slice a n c] w fun e w' => IsB (RightB r m xs) e ∧ Below w.heap.size w w' := by
  go_enter Try.func30, Try.ntmps30
  go_wp2_with fail
  refine (bRight_any _ _ _ _ _ _ _ h).mono ?_
  rintro e w1 ⟨⟨b, hb, rfl⟩, B1⟩
  go_wp2
  go_ret
  exact ⟨⟨b, hb, rfl⟩, B1⟩

/-- three lists are handed back -/
def Three (A B C : List Int) (e : Ending) (w' : World) : Prop := ∃ b1 n1 d1 b2 n2 d2 b3 n3 d3, e = .returned (.tuple #[.slice b1 n1 d1, .slice b2 n2 d2, .slice b3 n3 d3]) ∧ IntsAt w' b1 n1 d1 A ∧ IntsAt w' b2 n2 d2 B ∧ IntsAt w' b3 n3 d3 C
theorem three_of {w : World} {B e k : Nat} {A1 A2 A3 : List Int} {v1 v2 v3 : Value} (h : R3 w B e A1 A2 A3 v1 k v2 k v3 k) (h1 : A1.length = k) (h2 : A2.length = k) (h3 : A3.length = k) (hk : k ≤ 17592186044416) : Three A1 A2 A3 (.returned (.tuple #[v1, v2, v3])) w := by
  obtain ⟨a1, c1, rfl, I1⟩ := IntsAt.of_own (own_all h1.symm h.o1) (by omega)
  obtain ⟨a2, c2, rfl, I2⟩ := IntsAt.of_own (own_all h2.symm h.o2) (by omega)
  obtain ⟨a3, c3, rfl, I3⟩ := IntsAt.of_own (own_all h3.symm h.o3) (by omega)
  exact ⟨_, _, _, _, _, _, _, _, _, rfl, I1, I2, I3⟩

set_option maxRecDepth 100000 in
set_option maxHeartbeats 8000000 in
theorem play_ok (r m : Int) (a : Option Addr) (n c : Nat) (xs : List Int) (w : World) (h : IntsAt w a n c xs) (hr : RightB r m xs) :
    Calls Try.prog 28 #[.int .i64 r, .int .i64 m, .slice a n c] w fun e w' => Three (goL r m xs) (loL r m xs) (waL r m xs) e w' ∧ Below w.heap.size w w' := by
  obtain ⟨i0, hi0, hz0, hz1, hz2⟩ := info_parts intInfoQ
  have HR := hide hr
  have HL := hide h.len
  have HQ1 := hide (show (goL r m xs).length = n by rw [goL_len, h.len])
  have HQ2 := hide (show (loL r m xs).length = n by rw [loL_len, h.len])
  have HQ3 := hide (show (waL r m xs).length = n by rw [waL_len, h.len])
  have hn : n < 300 := by rw [← HL.out]; exact hr.2.2.1
  have hrr := hide hr.1
  have hmm := hide hr.2.1
  clear hr
  go_enter Try.func28, Try.ntmps28
  go_wp2_with fail
  refine (callT (right_ok _ _ _ _ _ _ _ h) HR.out).mono ?_
  rintro e w1 ⟨rfl, B1⟩
  have hs1 := B1.size
  obtain ⟨Bq, hBq⟩ : ∃ Bq, w1.heap.size = Bq := ⟨_, rfl⟩
  have HBq := hide hBq
  have hbox : (w1.alloc (.cells #[.int .i64 r, .int .i64 m, .int .i64 0] 85)).heap[Bq]? = some (.cells #[.int .i64 r, .int .i64 m, .int .i64 0] 85 (0, 0)) := by rw [← hBq]; exact heap_alloc_new w1 _
  have hB0 : Below w.heap.size w (w1.alloc (.cells #[.int .i64 r, .int .i64 m, .int .i64 0] 85)) := B1.alloc hs1 _
  have hq0 : w.heap.size ≤ Bq := by omega
  have HBOX := hide hbox
  have HB0 := hide hB0
  have hsz : (w1.alloc (.cells #[.int .i64 r, .int .i64 m, .int .i64 0] 85)).heap.size = Bq + 1 := by simp [hBq]
  have HSZ := hide hsz
  have HI := hide h
  clear h B1 hbox hB0 hsz
  go_wp2
  obtain ⟨wz, hwz⟩ : ∃ wz, wz = w1.alloc (.cells #[.int .i64 r, .int .i64 m, .int .i64 0] 85) := ⟨_, rfl⟩
  rw [← hwz]
  have HBOX := hide (by have := HBOX.out; rw [← hwz] at this; exact this)
  have HB0 := hide (by have := HB0.out; rw [← hwz] at this; exact this)
  have HSZ := hide (by have := HSZ.out; rw [← hwz] at this; exact this)
  clear hwz hBq HBq hs1
  go_loopw [6, 7, 8, 25] (fun v1 v2 v3 i wr => ∃ k : Nat, k ≤ n ∧ i = .int .i64 k ∧ R3 wr (Bq + 1) 3 (goL r m xs) (loL r m xs) (waL r m xs) v1 k v2 k v3 k ∧ Hid (wr.heap[Bq]? = some (.cells #[.int .i64 r, .int .i64 m, .int .i64 (qW r m xs k)] 85 (0, 0))) ∧ Below w.heap.size w wr ∧ Bq + 1 ≤ wr.heap.size) (fun _ _ _ i _ => n - (intOf i).toNat)
  case atStart => exact ⟨0, Nat.zero_le _, rfl, ⟨own_start _ _ _ _, own_start _ _ _ _, own_start _ _ _ _, Ap.nil _, Ap.nil _, Ap.nil _⟩, HBOX, HB0.out, by have := HSZ.out; omega⟩
  case round =>
    clear HBOX HB0 HSZ
    obtain ⟨k, hk, rfl, R0, HB, hB, hBs⟩ := hrel
    have k0 : (0 : Int) ≤ (k : Int) := Int.natCast_nonneg _
    by_cases hlt : k < n
    · have k1 : (k : Int) < (n : Int) := by omega
      obtain ⟨ad, x, rfl, hbd, hc, HX⟩ := HI.out.getB hB hlt
      have hqb := hide (qW_b HR.out k)
      have hxb := hide (small_at HR.out.2.2.2 HX.out)
      have hqb2 := hide (qW_b HR.out (k + 1))
      have E1 := hide (show min (qW r m xs k + x) r = (goL r m xs).getD k 0 by rw [← goL_get (by rw [HL.out]; exact hlt)]; unfold qG; rw [getD_of HX.out])
      have E2 := hide (show max (qW r m xs k + x - min (qW r m xs k + x) r - m) 0 = (loL r m xs).getD k 0 by rw [← loL_get (by rw [HL.out]; exact hlt)]; unfold qL; rw [getD_of HX.out])
      have E3 := hide (show qW r m xs (k + 1) = (waL r m xs).getD k 0 from waL_get (by rw [HL.out]; exact hlt))
      have E4 := hide (show qW r m xs k + x - min (qW r m xs k + x) r - max (qW r m xs k + x - min (qW r m xs k + x) r - m) 0 = qW r m xs (k + 1) by simp only [qW]; rw [getD_of HX.out])
      go_wp2_with fail
      refine (tick_any _ _ _ _ _ _ HB.out hrr.out hmm.out ⟨hqb.out.1, by have := hqb.out.2; have := hmm.out.2; omega⟩ hxb.out).mono ?_
      rintro e w3 ⟨rfl, hq3, hg3⟩
      rw [E4.out] at hq3
      obtain ⟨W, hW⟩ : ∃ W, qW r m xs (k + 1) = W := ⟨_, rfl⟩
      rw [hW] at hq3
      have E3 := hide (by have := E3.out; rw [hW] at this; exact this)
      have HW := hide hW
      obtain ⟨V1, hV1⟩ : ∃ V1, min (qW r m xs k + x) r = V1 := ⟨_, rfl⟩
      have E1 := hide (by have := E1.out; rw [hV1] at this; exact this)
      rw [hV1]
      obtain ⟨V2, hV2⟩ : ∃ V2, max (qW r m xs k + x - V1 - m) 0 = V2 := ⟨_, rfl⟩
      have E2 := hide (by have := E2.out; rw [hV1, hV2] at this; exact this)
      rw [hV2]
      have R3w := R0.kept hg3 (by omega)
      have hs3 := hg3.size
      obtain ⟨_, _, c2, _⟩ := cell3 hq3
      have HQ3b := hide hq3
      have HG3 := hide hg3
      have hB3 : Below w.heap.size w w3 := hB.grown hg3 (by omega) (fun g hg => by injection hg with hg; omega)
      clear R0 HB hB hW hV1 hV2 E4 hqb hq3 hg3 hc hbd
      have h3l : Bq + 1 ≤ w3.heap.size := by omega
      have hq0' : w.heap.size ≤ Bq + 1 := by omega
      obtain ⟨S3, hS3⟩ : ∃ S3, w3.heap.size = S3 := ⟨_, rfl⟩
      have HS3 := hide hS3
      go_wp2_with fail
      go_region_held3 (fun w' => w'.cell? ⟨Bq, 2, none⟩ = some (.int .i64 W)) (first | ((try dsimp only); (repeat' (first | (with_reducible assumption) | (with_reducible refine drew_cell ?_) | (with_reducible refine alloc_cell ?_))); done) | (go_keep; done) | ((try dsimp only); exact box_row R3w.o3 hg3 (by omega) (by assumption)) | ((try dsimp only); exact box_row R3w.o2 hg2 (by omega) (by assumption)) | ((try dsimp only); exact box_row R3w.o1 hg1 (by omega) (by assumption))) (first | (refine step_append_lies _ (by rfl) (.tmp 35) (.tmp 37) _ (by rfl) (Bq + 1) 3 i0 (.int .i64 0) 1 8 Try.underlying24 hi0 hz0 hz1 hz2 rfl (by decide) u6 k _ (by rfl) (R3.o1 (by (repeat' (first | (with_reducible assumption) | (with_reducible refine R3.alloc ?_ _) | (with_reducible refine R3.drew ?_))) : R3 _ (Bq + 1) 3 (goL r m xs) (loL r m xs) (waL r m xs) u6 k u7 k u8 k)) _ 1 1 [.int .i64 (V1)] (by rfl) rfl (news_list (by (repeat' (first | (with_reducible assumption) | (with_reducible refine news_drew ?_) | (with_reducible refine news_new ?_) | (with_reducible refine news_alloc ?_) | (with_reducible refine hfA _ _ ?_ ?_) | (with_reducible refine hfB _ _ ?_ ?_) | omega | (simp; done) | (simp; omega))))) (by simp [Value.oneCell']) (by decide) (by unfold maxLen; omega) (by omega) (by first | omega | (simp; omega)) _ rfl ?_; intro g1 cap1 wa1 ho1 hg1 hat1 hlt1; have T1 := R3.push1 (by (repeat' (first | (with_reducible assumption) | (with_reducible refine R3.alloc ?_ _) | (with_reducible refine R3.drew ?_))) : R3 _ (Bq + 1) 3 (goL r m xs) (loL r m xs) (waL r m xs) u6 k u7 k u8 k) (by rw [HQ1.out]; omega) E1.out ho1 hg1 hat1 (Nat.le_refl _); have hfA := (fun (b : Nat) (u : Value) => far_row (b := b) (u := u) R3w.o1 hg1 HS3.out); have hs1 := hg1.size; (try simp at hs1)) | (refine step_append_lies _ (by rfl) (.tmp 39) (.tmp 41) _ (by rfl) (Bq + 1) 3 i0 (.int .i64 0) 1 8 Try.underlying24 hi0 hz0 hz1 hz2 rfl (by decide) u7 k _ (by rfl) (R3.o2 (by (repeat' (first | (with_reducible assumption) | (with_reducible refine R3.alloc ?_ _) | (with_reducible refine R3.drew ?_))) : R3 _ (Bq + 1) 3 (goL r m xs) (loL r m xs) (waL r m xs) (.slice (some ⟨g1, 0, none⟩) (k + 1) cap1) (k + 1) u7 k u8 k)) _ 1 1 [.int .i64 (V2)] (by rfl) rfl (news_list (by (repeat' (first | (with_reducible assumption) | (with_reducible refine news_drew ?_) | (with_reducible refine news_new ?_) | (with_reducible refine news_alloc ?_) | (with_reducible refine hfA _ _ ?_ ?_) | (with_reducible refine hfB _ _ ?_ ?_) | omega | (simp; done) | (simp; omega))))) (by simp [Value.oneCell']) (by decide) (by unfold maxLen; omega) (by omega) (by first | omega | (simp; omega)) _ rfl ?_; intro g2 cap2 wa2 ho2 hg2 hat2 hlt2; have T2 := R3.push2 (by (repeat' (first | (with_reducible assumption) | (with_reducible refine R3.alloc ?_ _) | (with_reducible refine R3.drew ?_))) : R3 _ (Bq + 1) 3 (goL r m xs) (loL r m xs) (waL r m xs) (.slice (some ⟨g1, 0, none⟩) (k + 1) cap1) (k + 1) u7 k u8 k) (by rw [HQ2.out]; omega) E2.out ho2 hg2 hat2 (Nat.le_refl _); have hfB := (fun (b : Nat) (u : Value) => far_row (b := b) (u := u) R3w.o2 hg2 HS3.out); have hs2 := hg2.size; (try simp at hs2)) | (refine step_append_lies _ (by rfl) (.tmp 43) (.tmp 48) _ (by rfl) (Bq + 1) 3 i0 (.int .i64 0) 1 8 Try.underlying24 hi0 hz0 hz1 hz2 rfl (by decide) u8 k _ (by rfl) (R3.o3 (by (repeat' (first | (with_reducible assumption) | (with_reducible refine R3.alloc ?_ _) | (with_reducible refine R3.drew ?_))) : R3 _ (Bq + 1) 3 (goL r m xs) (loL r m xs) (waL r m xs) (.slice (some ⟨g1, 0, none⟩) (k + 1) cap1) (k + 1) (.slice (some ⟨g2, 0, none⟩) (k + 1) cap2) (k + 1) u8 k)) _ 1 1 [.int .i64 (W)] (by rfl) rfl (news_list (by (repeat' (first | (with_reducible assumption) | (with_reducible refine news_drew ?_) | (with_reducible refine news_new ?_) | (with_reducible refine news_alloc ?_) | (with_reducible refine hfA _ _ ?_ ?_) | (with_reducible refine hfB _ _ ?_ ?_) | omega | (simp; done) | (simp; omega))))) (by simp [Value.oneCell']) (by decide) (by unfold maxLen; omega) (by omega) (by first | omega | (simp; omega)) _ rfl ?_; intro g3 cap3 wa3 ho3 hg3 hat3 hlt3; have T3 := R3.push3 (by (repeat' (first | (with_reducible assumption) | (with_reducible refine R3.alloc ?_ _) | (with_reducible refine R3.drew ?_))) : R3 _ (Bq + 1) 3 (goL r m xs) (loL r m xs) (waL r m xs) (.slice (some ⟨g1, 0, none⟩) (k + 1) cap1) (k + 1) (.slice (some ⟨g2, 0, none⟩) (k + 1) cap2) (k + 1) u8 k) (by rw [HQ3.out]; omega) E3.out ho3 hg3 hat3 (Nat.le_refl _); have hs3 := hg3.size; (try simp at hs3)))
      all_goals
        have hq3 := HQ3b.out
        have HF1 := hide (by (repeat' (first | (with_reducible assumption) | (with_reducible refine blk_drew ?_) | (with_reducible refine blk_alloc ?_) | (with_reducible refine blk_row R3w.o3 hg3 (by omega) ?_) | (with_reducible refine blk_row R3w.o2 hg2 (by omega) ?_) | (with_reducible refine blk_row R3w.o1 hg1 (by omega) ?_))) : wa3.heap[Bq]? = some (.cells #[.int .i64 r, .int .i64 m, .int .i64 W] 85 (0, 0)))
        have HF2 := hide (by (repeat' (first | (with_reducible assumption) | (with_reducible refine Below.drew ?_) | (with_reducible refine Below.alloc ?_ ?_ _) | (with_reducible refine bel_row R3w.o3 hg3 ?_ ?_ ?_) | (with_reducible refine bel_row R3w.o2 hg2 ?_ ?_ ?_) | (with_reducible refine bel_row R3w.o1 hg1 ?_ ?_ ?_) | omega | (simp; done) | (simp; omega))) : Below w.heap.size w wa3)
        have HF3 := hide T3
        have HF4 := hide (by omega : Bq + 1 ≤ wa3.heap.size)
        clear hq3 T1 T2 T3 hfA hfB ho1 ho2 ho3 hg1 hg2 hg3 hB3 R3w
        go_wp2
        go_roundw
        case rel => exact ⟨k + 1, by omega, by go_num, HF3.out, by rw [HW.out]; exact HF1, HF2.out, HF4.out⟩
        case measure => (simp [intOf] <;> omega)
    · obtain rfl : k = n := by omega
      have HT := hide (three_of R0 HQ1.out HQ2.out HQ3.out (by omega))
      clear R0
      go_wp2
      go_ret3
      exact ⟨HT.out, hB⟩

end Go.Proofs.Ytdlljemabbccjaa
