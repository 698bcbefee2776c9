/-
  WALKS: curve.Steps.
-/
import Derived.Test.YthokolfgagkmiaaNum
import Derived.Test.YthokolfgagkmiaaPCurve
import Derived.IntWalk
namespace Go.Proofs.Ythokolfgagkmiaa
open Go.RowKit
set_option linter.unusedSimpArgs false
set_option linter.unusedVariables false

theorem intInfoS : (Try.prog.info? 3).map (fun i => (i.zero, i.size, i.bytes)) = some (some (.int .i64 0), 1, 8) := by kernel_rfl

set_option maxRecDepth 100000 in
set_option maxHeartbeats 2000000 in
theorem steps_any (a : Option Addr) (n c : Nat) (xs : List Int) (w : World) (h : IntsAt w a n c xs) :
    Calls Try.prog 58 #[.slice a n c] w fun e w' => ∃ b m d, e = .returned (.slice b m d) ∧ IntsAt w' b m d (stepsI xs) ∧ Below w.heap.size w w' := by
  obtain ⟨i0, hi0, hz0, hz1, hz2⟩ := info_parts intInfoS
  have HQ := hide (show (stepsI xs).length = n - 1 by rw [steps_len, h.len])
  have hlim := h.lim
  go_enter Try.func58, Try.ntmps58
  go_wp2
  go_loopw [3, 4] (fun v i wr => ∃ k : Nat, k ≤ n - 1 ∧ i = .int .i64 ((k : Int) + 1) ∧ wr.ownsRow w.heap.size 3 1 v k (((stepsI xs).take k).map (Value.int .i64)) ∧ Below w.heap.size w wr) (fun _ i _ => n - (intOf i).toNat)
  case atStart => exact ⟨0, Nat.zero_le _, rfl, own_start _ _ _ _, Below.refl _ _⟩
  case round =>
    obtain ⟨k, hk, rfl, hown, hB⟩ := hrel
    by_cases hlt : k + 1 < n
    · obtain ⟨ad, x, rfl, hbd, hc, HX⟩ := h.getS hB hlt
      obtain ⟨ad2, y, he2, hbd', hc', HY⟩ := h.getB hB (show k < n by omega)
      injection he2 with he2
      subst he2
      have k0 : (0 : Int) ≤ (k : Int) := Int.natCast_nonneg _
      have k1 : (k : Int) + 1 < (n : Int) := by omega
      have k2 : (k : Int) < (n : Int) := by omega
      have k3 : (0 : Int) ≤ (k : Int) + 1 := by omega
      have hBs := hB.size
      have HZ := hide (steps_get xs k x y HX.out HY.out)
      have f63 : k + 1 ≤ maxLen := by unfold maxLen; omega
      have fby : (k + 1) * 8 ≤ 140737488355328 := by omega
      have fsz : w.heap.size ≤ wr.heap.size + 1 := by omega
      clear h
      go_wp2
      have hw1 : IntKind.i64.wrap ((k : Int) + 1 - 1) = (k : Int) := by rw [show (k : Int) + 1 - 1 = k by omega]; exact IntWalk.i64_in _ (by omega)
      have hw2 : IntKind.i64.wrap (k : Int) = (k : Int) := IntWalk.i64_in _ (by omega)
      have hw3 : ((k : Int) + 1).toNat = k + 1 := by omega
      go_region_held3 (fun w' => w'.cell? ⟨ad.block, ad.off + (k + 1), none⟩ = some (.int .i64 x) ∧ w'.cell? (ad.add k) = some (.int .i64 y)) (first | ((try dsimp only); go_split_ands; refine ⟨grown_cell hgrow hown (by exact hbd) (by simpa using fsz) (by assumption), grown_cell hgrow hown hbd' (by simpa using fsz) (by assumption)⟩) | (go_keep; done))
        (first | (go_at_call 91; refine (less_any _ _ _).mono ?_; rintro e w1 ⟨rfl, rfl⟩) | (refine step_append_lies _ (by rfl) _ _ _ (by rfl) w.heap.size 3 i0 (.int .i64 0) 1 8 Try.underlying30 hi0 hz0 hz1 hz2 rfl (by decide) _ k _ (by rfl) ((hown.alloc _).drew) ⟨wr.heap.size, 0, none⟩ 1 1 [.int .i64 (lessI x y)] (by rfl) (by rfl) (World.news_of_block (cs := #[.int .i64 (lessI x y)]) (t := 3) (fr := (0, 0)) (heap_alloc_new wr _)) (by simp [Value.oneCell']) (by decide) f63 fby (by simpa using fsz) (wr.heap.size + 1) (by simp) ?_; intro gg cap w1 hown1 hgrow hat hglt))
      clear hw1 hw2 hw3
      go_wp2
      go_roundw
      case rel => exact ⟨k + 1, by omega, by go_num, own_next (by rw [HQ.out]; omega) HZ.out hown1, ((hB.alloc hBs _).drew).grown hgrow (by simp; omega) (own_row hown)⟩
      case measure => simp [intOf]; omega
    · obtain ⟨b, d, hv, hI⟩ := IntsAt.of_own (own_all (by rw [HQ.out]; omega) hown) (by rw [HQ.out]; omega)
      subst hv
      clear h hown
      go_wp2
      go_ret
      exact ⟨b, _, d, rfl, hI, hB⟩

end Go.Proofs.Ythokolfgagkmiaa
