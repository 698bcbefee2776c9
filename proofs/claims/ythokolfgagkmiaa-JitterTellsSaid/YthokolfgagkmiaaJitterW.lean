/-
  THE WALK of JitterTells.
-/
import Derived.Test.YthokolfgagkmiaaJDel
import Derived.Test.YthokolfgagkmiaaJPass
import Derived.Test.YthokolfgagkmiaaIPass
import Derived.Test.YthokolfgagkmiaaEqual
namespace Go.Proofs.Ythokolfgagkmiaa
open Go.RowKit
set_option linter.unusedSimpArgs false
set_option linter.unusedVariables false

def GivesJ (f : FuncId) (xs ys zs : List Int) : Prop := ∀ (a a' : Option Addr) (n n' c c' : Nat) (w : World), IntsAt w a n c xs → IntsAt w a' n' c' ys →
    Calls Try.prog f #[.slice a n c, .slice a' n' c'] w fun e w' => ∃ b m d, e = .returned (.slice b m d) ∧ IntsAt w' b m d zs ∧ Below w.heap.size w w'
theorem jBoth (xs ys : List Int) : ∃ zs, GivesJ 64 xs ys zs ∧ GivesJ 65 xs ys zs := by
  by_cases hr : RightJ xs ys
  · exact ⟨passJ xs ys, fun a a' n n' c c' w h h' => jPass_ok a a' n n' c c' xs ys w h h' hr, fun a a' n n' c c' w h h' => iPass_ok a a' n n' c c' xs ys w h h' hr⟩
  · exact ⟨[], fun a a' n n' c c' w h h' => (jPass_bad a a' n n' c c' xs ys w h h' hr).mono fun _ _ ⟨h1, h2⟩ => ⟨none, 0, 0, h1, IntsAt.nil_ _, h2⟩,
      fun a a' n n' c c' w h h' => (iPass_bad a a' n n' c c' xs ys w h h' hr).mono fun _ _ ⟨h1, h2⟩ => ⟨none, 0, 0, h1, IntsAt.nil_ _, h2⟩⟩

set_option maxRecDepth 100000 in
set_option maxHeartbeats 4000000 in
theorem jitterW (a a' : Option Addr) (n n' c c' : Nat) (xs ys : List Int) (w : World) (h : IntsAt w a n c xs) (h' : IntsAt w a' n' c' ys) :
    Calls Try.prog 12 #[.slice a n c, .slice a' n' c'] w fun e w' => e = .returned (.bool true) ∧ Below w.heap.size w w' := by
  obtain ⟨i0, hi0, hz0, hz1, hz2⟩ := info_parts intInfo
  have hn := h.lim
  have hn' := h'.lim
  have hl := h.len
  have hl' := h'.len
  have hlen := del_len xs ys
  rcases Nat.lt_or_ge n' n with hle | hle
  · have hq : (delJ xs ys).length = n' := by rw [hlen, hl, hl']; omega
    have HQ := hide hq
    clear hlen hl hl' hq
    go_enter Try.func12, Try.ntmps12
    go_wp2
    go_loopw [5, 12] (fun v i wr => ∃ k : Nat, k ≤ n' ∧ i = .int .i64 k ∧ wr.ownsRow w.heap.size 3 1 v k (((delJ xs ys).take k).map (Value.int .i64)) ∧ Below w.heap.size w wr) (fun _ i _ => n' - (intOf i).toNat)
    case atStart => exact ⟨0, Nat.zero_le _, rfl, own_start _ _ _ _, Below.refl _ _⟩
    case round =>
      obtain ⟨k, hk, rfl, hown, hB⟩ := hrel
      by_cases hlt : k < n'
      · obtain ⟨ad, x, rfl, hbd, hc, HX⟩ := h.getB hB (show k < n by omega)
        obtain ⟨ad', y, rfl, hbd', hc', HY⟩ := h'.getB hB (show k < n' by omega)
        have HZ := hide (del_get xs ys k x y HX.out HY.out)
        have k0 : (0 : Int) ≤ (k : Int) := Int.natCast_nonneg _
        have k1 : (k : Int) < (n : Int) := by omega
        have k2 : (k : Int) < (n' : Int) := by omega
        have hBs := hB.size
        clear h h'
        go_wp2
        go_region_held3 (fun w' => w'.cell? (ad.add k) = some (.int .i64 x) ∧ w'.cell? (ad'.add k) = some (.int .i64 y)) (first | ((try dsimp only); go_split_ands; refine ⟨grown_cell hgrow hown hbd (by simp; omega) (by assumption), grown_cell hgrow hown hbd' (by simp; omega) (by assumption)⟩) | (go_keep; done))
          (first | (refine step_append_lies _ (by rfl) _ _ _ (by rfl) w.heap.size 3 i0 (.int .i64 0) 1 8 Try.underlying30 hi0 hz0 hz1 hz2 rfl (by decide) _ k _ (by rfl) ((hown.alloc _).drew) ⟨wr.heap.size, 0, none⟩ 1 1 [.int .i64 (IntKind.i64.wrap (y - x))] (by rfl) (by rfl) (World.news_of_block (cs := #[.int .i64 (IntKind.i64.wrap (y - x))]) (t := 3) (fr := (0, 0)) (heap_alloc_new wr _)) (by simp [Value.oneCell']) (by decide) (by unfold maxLen; omega) (by omega) (by simp; omega) (wr.heap.size + 1) (by simp) ?_; intro gg cap w1 hown1 hgrow hat hglt))
        go_wp2
        go_roundw
        case rel => exact ⟨k + 1, by omega, by go_num, own_next (by rw [HQ.out]; omega) HZ.out hown1, ((hB.alloc hBs _).drew).grown hgrow (by simp; omega) (own_row hown)⟩
        case measure => simp [intOf]; omega
      · obtain ⟨b, d, hv, hI⟩ := IntsAt.of_own (own_all (by rw [HQ.out]; omega) hown) (by rw [HQ.out]; omega)
        subst hv
        clear hown
        have i0 := h.below hB
        have i1 := h'.below hB
        clear h h'
        go_wp2_with fail
        refine (jRight_any _ _ _ _ _ _ _ _ _ i0 i1).mono ?_
        rintro e w1 ⟨⟨r, hr, rfl⟩, B1⟩
        have C1 := hB.trans (B1.mono hB.size)
        have i0 := i0.below B1
        have i1 := i1.below B1
        have hI := hI.below B1
        have HR := hide hr
        clear hr
        go_wp2_with fail
        refine (iRight_any _ _ _ _ _ _ _ _ _ i0 i1).mono ?_
        rintro e w2 ⟨⟨r', hr', rfl⟩, B2⟩
        obtain rfl : r = r' := by rw [Bool.eq_iff_iff, HR.out, hr']
        clear hr'
        have C2 := C1.trans (B2.mono C1.size)
        have i0 := i0.below B2
        have i1 := i1.below B2
        have hI := hI.below B2
        obtain ⟨zs, P3, P4⟩ := jBoth xs ys
        go_wp2_with fail
        refine (P3 _ _ _ _ _ _ _ i0 i1).mono ?_
        rintro e w3 ⟨p3, m3, q3, rfl, I3, B3⟩
        have C3 := C2.trans (B3.mono C2.size)
        have i0 := i0.below B3
        have i1 := i1.below B3
        have hI := hI.below B3
        go_wp2_with fail
        refine (P4 _ _ _ _ _ _ _ i0 i1).mono ?_
        rintro e w4 ⟨p4, m4, q4, rfl, I4, B4⟩
        have C4 := C3.trans (B4.mono C3.size)
        have I3 := I3.below B4
        have i0 := i0.below B4
        have i1 := i1.below B4
        have hI := hI.below B4
        clear P3 P4
        go_wp2_with fail
        refine (equal_any _ _ _ _ _ _ _ _ _ I3 I4).mono ?_
        rintro e w5 ⟨rfl, B5⟩
        have C5 := C4.trans (B5.mono C4.size)
        have i0 := i0.below B5
        have i1 := i1.below B5
        have hI := hI.below B5
        clear I3 I4
        go_wp2_with fail
        refine (delays_any _ _ _ _ _ _ _ _ _ i0 i1).mono ?_
        rintro e w6 ⟨p6, m6, q6, rfl, I6, B6⟩
        have C6 := C5.trans (B6.mono C5.size)
        have hI := hI.below B6
        clear i0 i1
        go_wp2_with fail
        refine (equal_any _ _ _ _ _ _ _ _ _ I6 hI).mono ?_
        rintro e w7 ⟨rfl, B7⟩
        have C7 := C6.trans (B7.mono C6.size)
        go_wp2
        go_ret
        exact ⟨by simp, C7⟩
  · have hq : (delJ xs ys).length = n := by rw [hlen, hl, hl']; omega
    have HQ := hide hq
    clear hlen hl hl' hq
    go_enter Try.func12, Try.ntmps12
    go_wp2
    go_loopw [5, 12] (fun v i wr => ∃ k : Nat, k ≤ n ∧ i = .int .i64 k ∧ wr.ownsRow w.heap.size 3 1 v k (((delJ xs ys).take k).map (Value.int .i64)) ∧ Below w.heap.size w wr) (fun _ i _ => n - (intOf i).toNat)
    case atStart => exact ⟨0, Nat.zero_le _, rfl, own_start _ _ _ _, Below.refl _ _⟩
    case round =>
      obtain ⟨k, hk, rfl, hown, hB⟩ := hrel
      by_cases hlt : k < n
      · obtain ⟨ad, x, rfl, hbd, hc, HX⟩ := h.getB hB (show k < n by omega)
        obtain ⟨ad', y, rfl, hbd', hc', HY⟩ := h'.getB hB (show k < n' by omega)
        have HZ := hide (del_get xs ys k x y HX.out HY.out)
        have k0 : (0 : Int) ≤ (k : Int) := Int.natCast_nonneg _
        have k1 : (k : Int) < (n : Int) := by omega
        have k2 : (k : Int) < (n' : Int) := by omega
        have hBs := hB.size
        clear h h'
        go_wp2
        go_region_held3 (fun w' => w'.cell? (ad.add k) = some (.int .i64 x) ∧ w'.cell? (ad'.add k) = some (.int .i64 y)) (first | ((try dsimp only); go_split_ands; refine ⟨grown_cell hgrow hown hbd (by simp; omega) (by assumption), grown_cell hgrow hown hbd' (by simp; omega) (by assumption)⟩) | (go_keep; done))
          (first | (refine step_append_lies _ (by rfl) _ _ _ (by rfl) w.heap.size 3 i0 (.int .i64 0) 1 8 Try.underlying30 hi0 hz0 hz1 hz2 rfl (by decide) _ k _ (by rfl) ((hown.alloc _).drew) ⟨wr.heap.size, 0, none⟩ 1 1 [.int .i64 (IntKind.i64.wrap (y - x))] (by rfl) (by rfl) (World.news_of_block (cs := #[.int .i64 (IntKind.i64.wrap (y - x))]) (t := 3) (fr := (0, 0)) (heap_alloc_new wr _)) (by simp [Value.oneCell']) (by decide) (by unfold maxLen; omega) (by omega) (by simp; omega) (wr.heap.size + 1) (by simp) ?_; intro gg cap w1 hown1 hgrow hat hglt))
        go_wp2
        go_roundw
        case rel => exact ⟨k + 1, by omega, by go_num, own_next (by rw [HQ.out]; omega) HZ.out hown1, ((hB.alloc hBs _).drew).grown hgrow (by simp; omega) (own_row hown)⟩
        case measure => simp [intOf]; omega
      · obtain ⟨b, d, hv, hI⟩ := IntsAt.of_own (own_all (by rw [HQ.out]; omega) hown) (by rw [HQ.out]; omega)
        subst hv
        clear hown
        have i0 := h.below hB
        have i1 := h'.below hB
        clear h h'
        go_wp2_with fail
        refine (jRight_any _ _ _ _ _ _ _ _ _ i0 i1).mono ?_
        rintro e w1 ⟨⟨r, hr, rfl⟩, B1⟩
        have C1 := hB.trans (B1.mono hB.size)
        have i0 := i0.below B1
        have i1 := i1.below B1
        have hI := hI.below B1
        have HR := hide hr
        clear hr
        go_wp2_with fail
        refine (iRight_any _ _ _ _ _ _ _ _ _ i0 i1).mono ?_
        rintro e w2 ⟨⟨r', hr', rfl⟩, B2⟩
        obtain rfl : r = r' := by rw [Bool.eq_iff_iff, HR.out, hr']
        clear hr'
        have C2 := C1.trans (B2.mono C1.size)
        have i0 := i0.below B2
        have i1 := i1.below B2
        have hI := hI.below B2
        obtain ⟨zs, P3, P4⟩ := jBoth xs ys
        go_wp2_with fail
        refine (P3 _ _ _ _ _ _ _ i0 i1).mono ?_
        rintro e w3 ⟨p3, m3, q3, rfl, I3, B3⟩
        have C3 := C2.trans (B3.mono C2.size)
        have i0 := i0.below B3
        have i1 := i1.below B3
        have hI := hI.below B3
        go_wp2_with fail
        refine (P4 _ _ _ _ _ _ _ i0 i1).mono ?_
        rintro e w4 ⟨p4, m4, q4, rfl, I4, B4⟩
        have C4 := C3.trans (B4.mono C3.size)
        have I3 := I3.below B4
        have i0 := i0.below B4
        have i1 := i1.below B4
        have hI := hI.below B4
        clear P3 P4
        go_wp2_with fail
        refine (equal_any _ _ _ _ _ _ _ _ _ I3 I4).mono ?_
        rintro e w5 ⟨rfl, B5⟩
        have C5 := C4.trans (B5.mono C4.size)
        have i0 := i0.below B5
        have i1 := i1.below B5
        have hI := hI.below B5
        clear I3 I4
        go_wp2_with fail
        refine (delays_any _ _ _ _ _ _ _ _ _ i0 i1).mono ?_
        rintro e w6 ⟨p6, m6, q6, rfl, I6, B6⟩
        have C6 := C5.trans (B6.mono C5.size)
        have hI := hI.below B6
        clear i0 i1
        go_wp2_with fail
        refine (equal_any _ _ _ _ _ _ _ _ _ I6 hI).mono ?_
        rintro e w7 ⟨rfl, B7⟩
        have C7 := C6.trans (B7.mono C6.size)
        go_wp2
        go_ret
        exact ⟨by simp, C7⟩

theorem jitterTellsWalk (w : World) (a0 : Option Addr) (n0 c0 : Nat) (xs0 : List Int) (i0 : IntsAt w a0 n0 c0 xs0) (u0 : ∀ x ∈ xs0, (Lit.int .i64 x).wf = true) (b0 : n0 * 8 ≤ 140737488351232) (a1 : Option Addr) (n1 c1 : Nat) (xs1 : List Int) (i1 : IntsAt w a1 n1 c1 xs1) (u1 : ∀ x ∈ xs1, (Lit.int .i64 x).wf = true) (b1 : n1 * 8 ≤ 140737488351232) :
    Calls Try.prog 12 #[.slice a0 n0 c0, .slice a1 n1 c1] w fun e w' => e = .returned (.bool true) ∧ Below w.heap.size w w' := jitterW _ _ _ _ _ _ _ _ w i0 i1

end Go.Proofs.Ythokolfgagkmiaa
