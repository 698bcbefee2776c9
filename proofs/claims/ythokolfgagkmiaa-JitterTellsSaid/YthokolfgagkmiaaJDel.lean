/-
  WALKS: jitter.Delays.
-/
import Derived.Test.YthokolfgagkmiaaNum
import Derived.Test.YthokolfgagkmiaaZip
namespace Go.Proofs.Ythokolfgagkmiaa
open Go.RowKit
set_option linter.unusedSimpArgs false
set_option linter.unusedVariables false

def delJ : List Int → List Int → List Int
  | x :: xs, y :: ys => IntKind.i64.wrap (y - x) :: delJ xs ys
  | _, _ => []
theorem del_len : ∀ xs ys : List Int, (delJ xs ys).length = min xs.length ys.length := by
  intro xs
  induction xs with
  | nil => intro ys; simp [delJ]
  | cons x xs ih =>
    intro ys
    cases ys with
    | nil => simp [delJ]
    | cons y ys => simp [delJ, ih]
theorem del_get : ∀ (xs ys : List Int) (k : Nat) (x y : Int), xs[k]? = some x → ys[k]? = some y → IntKind.i64.wrap (y - x) = (delJ xs ys).getD k 0 := by
  intro xs
  induction xs with
  | nil => intro ys k x y h; simp at h
  | cons a xs ih =>
    intro ys k x y h h'
    cases ys with
    | nil => simp at h'
    | cons b ys =>
      cases k with
      | zero => simp at h h'; subst h; subst h'; rfl
      | succ k => simpa [delJ] using ih ys k x y (by simpa using h) (by simpa using h')

set_option maxRecDepth 100000 in
set_option maxHeartbeats 4000000 in
theorem delays_any (a a' : Option Addr) (n n' c c' : Nat) (xs ys : List Int) (w : World) (h : IntsAt w a n c xs) (h' : IntsAt w a' n' c' ys) :
    Calls Try.prog 66 #[.slice a n c, .slice a' n' c'] w fun e w' => ∃ b m d, e = .returned (.slice b m d) ∧ IntsAt w' b m d (delJ xs ys) ∧ Below w.heap.size w w' := by
  obtain ⟨i0, hi0, hz0, hz1, hz2⟩ := info_parts intInfo
  have hn := h.lim
  have hn' := h'.lim
  have hl := h.len
  have hl' := h'.len
  have hlen := del_len xs ys
  rcases Nat.lt_or_ge n' n with hle | hle
  · have hq : (delJ xs ys).length = n' := by rw [hlen, hl, hl']; omega
    have HQ := hide hq
    clear hlen hl hl' hq
    go_enter Try.func66, Try.ntmps66
    go_wp2
    go_loopw [5, 12] (fun v i wr => ∃ k : Nat, k ≤ n' ∧ i = .int .i64 k ∧ wr.ownsRow w.heap.size 3 1 v k (((delJ xs ys).take k).map (Value.int .i64)) ∧ Below w.heap.size w wr) (fun _ i _ => n' - (intOf i).toNat)
    case atStart => exact ⟨0, Nat.zero_le _, rfl, own_start _ _ _ _, Below.refl _ _⟩
    case round =>
      obtain ⟨k, hk, rfl, hown, hB⟩ := hrel
      by_cases hlt : k < n'
      · obtain ⟨ad, x, rfl, hbd, hc, HX⟩ := h.getB hB (show k < n by omega)
        obtain ⟨ad', y, rfl, hbd', hc', HY⟩ := h'.getB hB (show k < n' by omega)
        have HZ := hide (del_get xs ys k x y HX.out HY.out)
        have k0 : (0 : Int) ≤ (k : Int) := Int.natCast_nonneg _
        have k1 : (k : Int) < (n : Int) := by omega
        have k2 : (k : Int) < (n' : Int) := by omega
        have hBs := hB.size
        clear h h'
        go_wp2
        go_region_held3 (fun w' => w'.cell? (ad.add k) = some (.int .i64 x) ∧ w'.cell? (ad'.add k) = some (.int .i64 y)) (first | ((try dsimp only); go_split_ands; refine ⟨grown_cell hgrow hown hbd (by simp; omega) (by assumption), grown_cell hgrow hown hbd' (by simp; omega) (by assumption)⟩) | (go_keep; done))
          (first | (refine step_append_lies _ (by rfl) _ _ _ (by rfl) w.heap.size 3 i0 (.int .i64 0) 1 8 Try.underlying30 hi0 hz0 hz1 hz2 rfl (by decide) _ k _ (by rfl) ((hown.alloc _).drew) ⟨wr.heap.size, 0, none⟩ 1 1 [.int .i64 (IntKind.i64.wrap (y - x))] (by rfl) (by rfl) (World.news_of_block (cs := #[.int .i64 (IntKind.i64.wrap (y - x))]) (t := 3) (fr := (0, 0)) (heap_alloc_new wr _)) (by simp [Value.oneCell']) (by decide) (by unfold maxLen; omega) (by omega) (by simp; omega) (wr.heap.size + 1) (by simp) ?_; intro gg cap w1 hown1 hgrow hat hglt))
        go_wp2
        go_roundw
        case rel => exact ⟨k + 1, by omega, by go_num, own_next (by rw [HQ.out]; omega) HZ.out hown1, ((hB.alloc hBs _).drew).grown hgrow (by simp; omega) (own_row hown)⟩
        case measure => simp [intOf]; omega
      · obtain ⟨b, d, hv, hI⟩ := IntsAt.of_own (own_all (by rw [HQ.out]; omega) hown) (by rw [HQ.out]; omega)
        subst hv
        clear hown
        clear h h'
        go_wp2
        go_ret
        exact ⟨b, _, d, rfl, hI, hB⟩
  · have hq : (delJ xs ys).length = n := by rw [hlen, hl, hl']; omega
    have HQ := hide hq
    clear hlen hl hl' hq
    go_enter Try.func66, Try.ntmps66
    go_wp2
    go_loopw [5, 12] (fun v i wr => ∃ k : Nat, k ≤ n ∧ i = .int .i64 k ∧ wr.ownsRow w.heap.size 3 1 v k (((delJ xs ys).take k).map (Value.int .i64)) ∧ Below w.heap.size w wr) (fun _ i _ => n - (intOf i).toNat)
    case atStart => exact ⟨0, Nat.zero_le _, rfl, own_start _ _ _ _, Below.refl _ _⟩
    case round =>
      obtain ⟨k, hk, rfl, hown, hB⟩ := hrel
      by_cases hlt : k < n
      · obtain ⟨ad, x, rfl, hbd, hc, HX⟩ := h.getB hB (show k < n by omega)
        obtain ⟨ad', y, rfl, hbd', hc', HY⟩ := h'.getB hB (show k < n' by omega)
        have HZ := hide (del_get xs ys k x y HX.out HY.out)
        have k0 : (0 : Int) ≤ (k : Int) := Int.natCast_nonneg _
        have k1 : (k : Int) < (n : Int) := by omega
        have k2 : (k : Int) < (n' : Int) := by omega
        have hBs := hB.size
        clear h h'
        go_wp2
        go_region_held3 (fun w' => w'.cell? (ad.add k) = some (.int .i64 x) ∧ w'.cell? (ad'.add k) = some (.int .i64 y)) (first | ((try dsimp only); go_split_ands; refine ⟨grown_cell hgrow hown hbd (by simp; omega) (by assumption), grown_cell hgrow hown hbd' (by simp; omega) (by assumption)⟩) | (go_keep; done))
          (first | (refine step_append_lies _ (by rfl) _ _ _ (by rfl) w.heap.size 3 i0 (.int .i64 0) 1 8 Try.underlying30 hi0 hz0 hz1 hz2 rfl (by decide) _ k _ (by rfl) ((hown.alloc _).drew) ⟨wr.heap.size, 0, none⟩ 1 1 [.int .i64 (IntKind.i64.wrap (y - x))] (by rfl) (by rfl) (World.news_of_block (cs := #[.int .i64 (IntKind.i64.wrap (y - x))]) (t := 3) (fr := (0, 0)) (heap_alloc_new wr _)) (by simp [Value.oneCell']) (by decide) (by unfold maxLen; omega) (by omega) (by simp; omega) (wr.heap.size + 1) (by simp) ?_; intro gg cap w1 hown1 hgrow hat hglt))
        go_wp2
        go_roundw
        case rel => exact ⟨k + 1, by omega, by go_num, own_next (by rw [HQ.out]; omega) HZ.out hown1, ((hB.alloc hBs _).drew).grown hgrow (by simp; omega) (own_row hown)⟩
        case measure => simp [intOf]; omega
      · obtain ⟨b, d, hv, hI⟩ := IntsAt.of_own (own_all (by rw [HQ.out]; omega) hown) (by rw [HQ.out]; omega)
        subst hv
        clear hown
        clear h h'
        go_wp2
        go_ret
        exact ⟨b, _, d, rfl, hI, hB⟩

end Go.Proofs.Ythokolfgagkmiaa
