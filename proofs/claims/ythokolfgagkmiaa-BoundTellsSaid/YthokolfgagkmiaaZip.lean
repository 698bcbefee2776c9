/-
  WALKS: curve.zip.
-/
import Derived.Test.YthokolfgagkmiaaNum
import Derived.Test.YthokolfgagkmiaaSl
namespace Go.Proofs.Ythokolfgagkmiaa
open Go.RowKit
set_option linter.unusedSimpArgs false
set_option linter.unusedVariables false

theorem intInfo : (Try.prog.info? 3).map (fun i => (i.zero, i.size, i.bytes)) = some (some (.int .i64 0), 1, 8) := by kernel_rfl

def zipI (H : Int → Int → Int) : List Int → List Int → List Int
  | x :: xs, y :: ys => H (fitI x) (fitI y) :: zipI H xs ys
  | _, _ => []
theorem zipI_len (H : Int → Int → Int) : ∀ xs ys : List Int, (zipI H xs ys).length = min xs.length ys.length := by
  intro xs
  induction xs with
  | nil => intro ys; simp [zipI]
  | cons x xs ih =>
    intro ys
    cases ys with
    | nil => simp [zipI]
    | cons y ys => simp [zipI, ih]
theorem zipI_get (H : Int → Int → Int) : ∀ (xs ys : List Int) (k : Nat) (x y : Int), xs[k]? = some x → ys[k]? = some y → H (fitI x) (fitI y) = (zipI H xs ys).getD k 0 := by
  intro xs
  induction xs with
  | nil => intro ys k x y h; simp at h
  | cons a xs ih =>
    intro ys k x y h h'
    cases ys with
    | nil => simp at h'
    | cons b ys =>
      cases k with
      | zero => simp at h h'; subst h; subst h'; rfl
      | succ k => simpa [zipI] using ih ys k x y (by simpa using h) (by simpa using h')
def minI (a b : Int) : Int := if a ≤ b then a else b

set_option maxHeartbeats 1000000 in
theorem lower1_any (a b : Int) (w : World) : Calls Try.prog 88 #[.int .i64 a, .int .i64 b] w fun e w' => e = .returned (.int .i64 (minI a b)) ∧ w = w' := by
  go_enter Try.func88, Try.ntmps88
  go_wp2
  all_goals (go_ret; refine ⟨retI ?_, rfl⟩)
  all_goals (unfold minI; omega)

set_option maxRecDepth 100000 in
set_option maxHeartbeats 2000000 in
theorem zipLower (a a' : Option Addr) (n n' c c' : Nat) (xs ys : List Int) (w : World) (h : IntsAt w a n c xs) (h' : IntsAt w a' n' c' ys) :
    Calls Try.prog 87 #[.slice a n c, .slice a' n' c', .func (.func 88) #[] #[]] w fun e w' => ∃ b m d, e = .returned (.slice b m d) ∧ IntsAt w' b m d (zipI minI xs ys) ∧ Below w.heap.size w w' := by
  obtain ⟨i0, hi0, hz0, hz1, hz2⟩ := info_parts intInfo
  have hn := h.lim
  have hn' := h'.lim
  have hl := h.len
  have hl' := h'.len
  have hlen := zipI_len minI xs ys
  rcases Nat.lt_or_ge n' n with hle | hle
  · have hq : (zipI minI xs ys).length = n' := by rw [hlen, hl, hl']; omega
    have HQ := hide hq
    clear hlen hl hl' hq
    go_enter Try.func87, Try.ntmps87
    go_wp2
    go_loopw [7, 14] (fun v i wr => ∃ k : Nat, k ≤ n' ∧ i = .int .i64 k ∧ wr.ownsRow w.heap.size 3 1 v k (((zipI minI xs ys).take k).map (Value.int .i64)) ∧ Below w.heap.size w wr) (fun _ i _ => n' - (intOf i).toNat)
    case atStart => exact ⟨0, Nat.zero_le _, rfl, own_start _ _ _ _, Below.refl _ _⟩
    case round =>
      obtain ⟨k, hk, rfl, hown, hB⟩ := hrel
      by_cases hlt : k < n'
      · obtain ⟨ad, x, rfl, hbd, hc, HX⟩ := h.getB hB (show k < n by omega)
        obtain ⟨ad', y, rfl, hbd', hc', HY⟩ := h'.getB hB (show k < n' by omega)
        clear h h'
        have HZ := hide (zipI_get minI xs ys k x y HX.out HY.out)
        have k0 : (0 : Int) ≤ (k : Int) := Int.natCast_nonneg _
        have k1 : (k : Int) < (n : Int) := by omega
        have k2 : (k : Int) < (n' : Int) := by omega
        have hBs := hB.size
        go_wp2
        go_region_held3 (fun w' => w'.cell? (ad.add k) = some (.int .i64 x) ∧ w'.cell? (ad'.add k) = some (.int .i64 y)) (first | ((try dsimp only); go_split_ands; refine ⟨grown_cell hgrow hown hbd (by simp; omega) (by assumption), grown_cell hgrow hown hbd' (by simp; omega) (by assumption)⟩) | (go_keep; done))
          (first | (go_at_call 85; refine (fit_any _ _).mono ?_; rintro e w1 ⟨rfl, rfl⟩) | (go_at_call 88; refine (lower1_any _ _ _).mono ?_; rintro e w1 ⟨rfl, rfl⟩) | (refine step_append_lies _ (by rfl) _ _ _ (by rfl) w.heap.size 3 i0 (.int .i64 0) 1 8 Try.underlying30 hi0 hz0 hz1 hz2 rfl (by decide) _ k _ (by rfl) ((hown.alloc _).drew) ⟨wr.heap.size, 0, none⟩ 1 1 [.int .i64 (minI (fitI x) (fitI y))] (by rfl) (by rfl) (World.news_of_block (cs := #[.int .i64 (minI (fitI x) (fitI y))]) (t := 3) (fr := (0, 0)) (heap_alloc_new wr _)) (by simp [Value.oneCell']) (by decide) (by unfold maxLen; omega) (by omega) (by simp; omega) (wr.heap.size + 1) (by simp) ?_; intro gg cap w1 hown1 hgrow hat hglt))
        go_wp2
        go_roundw
        case rel => exact ⟨k + 1, by omega, by go_num, own_next (by rw [HQ.out]; omega) HZ.out hown1, ((hB.alloc hBs _).drew).grown hgrow (by simp; omega) (own_row hown)⟩
        case measure => simp [intOf]; omega
      · obtain ⟨b, d, hv, hI⟩ := IntsAt.of_own (own_all (by rw [HQ.out]; omega) hown) (by rw [HQ.out]; omega)
        subst hv
        clear h h' hown
        go_wp2
        go_ret
        exact ⟨b, _, d, rfl, hI, hB⟩
  · have hq : (zipI minI xs ys).length = n := by rw [hlen, hl, hl']; omega
    have HQ := hide hq
    clear hlen hl hl' hq
    go_enter Try.func87, Try.ntmps87
    go_wp2
    go_loopw [7, 14] (fun v i wr => ∃ k : Nat, k ≤ n ∧ i = .int .i64 k ∧ wr.ownsRow w.heap.size 3 1 v k (((zipI minI xs ys).take k).map (Value.int .i64)) ∧ Below w.heap.size w wr) (fun _ i _ => n - (intOf i).toNat)
    case atStart => exact ⟨0, Nat.zero_le _, rfl, own_start _ _ _ _, Below.refl _ _⟩
    case round =>
      obtain ⟨k, hk, rfl, hown, hB⟩ := hrel
      by_cases hlt : k < n
      · obtain ⟨ad, x, rfl, hbd, hc, HX⟩ := h.getB hB (show k < n by omega)
        obtain ⟨ad', y, rfl, hbd', hc', HY⟩ := h'.getB hB (show k < n' by omega)
        clear h h'
        have HZ := hide (zipI_get minI xs ys k x y HX.out HY.out)
        have k0 : (0 : Int) ≤ (k : Int) := Int.natCast_nonneg _
        have k1 : (k : Int) < (n : Int) := by omega
        have k2 : (k : Int) < (n' : Int) := by omega
        have hBs := hB.size
        go_wp2
        go_region_held3 (fun w' => w'.cell? (ad.add k) = some (.int .i64 x) ∧ w'.cell? (ad'.add k) = some (.int .i64 y)) (first | ((try dsimp only); go_split_ands; refine ⟨grown_cell hgrow hown hbd (by simp; omega) (by assumption), grown_cell hgrow hown hbd' (by simp; omega) (by assumption)⟩) | (go_keep; done))
          (first | (go_at_call 85; refine (fit_any _ _).mono ?_; rintro e w1 ⟨rfl, rfl⟩) | (go_at_call 88; refine (lower1_any _ _ _).mono ?_; rintro e w1 ⟨rfl, rfl⟩) | (refine step_append_lies _ (by rfl) _ _ _ (by rfl) w.heap.size 3 i0 (.int .i64 0) 1 8 Try.underlying30 hi0 hz0 hz1 hz2 rfl (by decide) _ k _ (by rfl) ((hown.alloc _).drew) ⟨wr.heap.size, 0, none⟩ 1 1 [.int .i64 (minI (fitI x) (fitI y))] (by rfl) (by rfl) (World.news_of_block (cs := #[.int .i64 (minI (fitI x) (fitI y))]) (t := 3) (fr := (0, 0)) (heap_alloc_new wr _)) (by simp [Value.oneCell']) (by decide) (by unfold maxLen; omega) (by omega) (by simp; omega) (wr.heap.size + 1) (by simp) ?_; intro gg cap w1 hown1 hgrow hat hglt))
        go_wp2
        go_roundw
        case rel => exact ⟨k + 1, by omega, by go_num, own_next (by rw [HQ.out]; omega) HZ.out hown1, ((hB.alloc hBs _).drew).grown hgrow (by simp; omega) (own_row hown)⟩
        case measure => simp [intOf]; omega
      · obtain ⟨b, d, hv, hI⟩ := IntsAt.of_own (own_all (by rw [HQ.out]; omega) hown) (by rw [HQ.out]; omega)
        subst hv
        clear h h' hown
        go_wp2
        go_ret
        exact ⟨b, _, d, rfl, hI, hB⟩

end Go.Proofs.Ythokolfgagkmiaa
