/-
  WALKS: slices.Repeat at one int.
-/
import Derived.Test.YthjicnddfjpnjaaTab
import Derived.Test.YthjicnddfjpnjaaShelf
import Derived.Test.YthjicnddfjpnjaaMin
import Derived.OwnWalk
import Derived.Laws.CopyOwn
import Derived.IntWalk
namespace Go.Proofs.Ythjicnddfjpnjaa
open Go.RowKit
set_option linter.unusedSimpArgs false
set_option linter.unusedVariables false

attribute [local go_sem] iteMin iteMax iteMinN iteMaxN

theorem intInfoRp : (Try.prog.info? 3).map (fun i => (i.zero, i.size, i.bytes)) = some (some (.int .i64 0), 1, 8) := by kernel_rfl

theorem own_block {w : World} {B e g N cap : Nat} {xs : List Value} (h : w.ownsRow B e 1 (.slice (some ⟨g, 0, none⟩) N cap) N xs) (hc : cap = N) : w.heap[g]? = some (.cells xs.toArray e (0, 0)) := by
  subst hc
  rcases h.2 with ⟨h1, _⟩ | ⟨g', cap', cur, hv, _, hg, _, _, hs, hx⟩
  · cases h1
  · injection hv with e1 _ e3
    injection e1 with e1
    injection e1 with e1
    subst e1; subst e3
    rw [hg, ← hx]
    have e4 : cur.toList.take (cap * 1) = cur.toList := List.take_of_length_le (by simp; omega)
    rw [e4]
theorem splice_rep (x z : Value) (k c m : Nat) : splice (List.replicate k x ++ List.replicate (c + m) z) k (List.replicate c x) = List.replicate (k + c) x ++ List.replicate m z := by
  unfold splice
  rw [List.take_append_of_le_length (by simp), List.take_of_length_le (by simp), List.drop_append]
  simp only [List.length_replicate, List.drop_replicate]
  rw [show k - (k + c) = 0 by omega, show c + m - (k + c - k) = m by omega, List.replicate_zero, List.nil_append, ← List.append_assoc, List.replicate_append_replicate]
theorem made_rep (N : Nat) : (madeCells (Value.int .i64 0).cells (N * 1)).toList = List.replicate N (Value.int .i64 0) := by
  rw [show (Value.int .i64 0).cells = #[Value.int .i64 0] from rfl, toList_madeCells_one, Nat.mul_one]
theorem rep_one (n : Nat) (x : Int) : ∀ u ∈ List.replicate n (Value.int .i64 x), u.oneCell' = true := by
  intro u hu
  rw [(List.mem_replicate.1 hu).2]; rfl
theorem cell_block {w : World} {g : Nat} {cur : Array Value} {t : TypeId} (h : w.heap[g]? = some (.cells cur t (0, 0))) (j : Nat) : w.cell? ⟨g, j, none⟩ = cur[j]? := by simp [World.cell?, h]
theorem one_news {w : World} {ad : Addr} {v : Value} (h : w.cell? ad = some v) : ∀ (j : Nat) (u : Value), [v][j]? = some u → w.cell? (ad.add j) = some u := by
  intro j u hj
  have hj0 : j = 0 := by
    have := (List.getElem?_eq_some_iff.1 hj).1
    simp at this; omega
  subst hj0
  simp at hj; subst hj
  rw [show ad.add 0 = ad by unfold Addr.add; simp]; exact h
/-- so many of one number: a new block -/
def RepAt (w w' : World) (x : Int) (N : Nat) (e : Ending) : Prop := ∃ g, e = .returned (.slice (some ⟨g, 0, none⟩) N N) ∧ w.heap.size ≤ g ∧ w'.heap[g]? = some (.cells (List.replicate N (Value.int .i64 x)).toArray 3 (0, 0))

theorem intSizeRp : (Try.prog.info? 3).map (·.size) = some 1 := by kernel_rfl
theorem mul_one_any (N : Nat) (w : World) (h : N ≤ 300) : Calls Try.prog 55 #[.int .u64 1, .int .u64 N] w fun e w' => e = .returned (.tuple #[.int .u64 0, .int .u64 N]) ∧ w' = w := by
  have e1 : 1 * N / 18446744073709551616 = 0 := by omega
  have e2 : 1 * N % 18446744073709551616 = N := by omega
  have := Try.bits_Mul 1 N (by omega) (by omega) w
  rw [e1, e2] at this
  exact this
set_option maxRecDepth 100000 in
set_option maxHeartbeats 4000000 in
theorem repeat_zero (ad : Addr) (x : Int) (w : World) :
    Calls Try.prog 44 #[.slice (some ad) 1 1, .int .i64 0] w fun e w' => RepAt w w' x 0 e ∧ Below w.heap.size w w' := by
  obtain ⟨i0, hi0, hz0, hz1, hz2⟩ := info_parts intInfoRp
  have HI := intSizeRp
  go_enter Try.func44, Try.ntmps44
  go_wp2_with fail
  refine (mul_one_any 0 _ (by omega)).mono ?_
  rintro e w' ⟨rfl, rfl⟩
  go_wp2_with (first | (at_make; refine wpList_make_full _ rfl _ _ 23 rfl w'.heap.size 3 i0 (.int .i64 0) 1 Try.underlying23 hi0 hz0 hz1 .i64 .i64 _ _ 0 rfl rfl rfl rfl (by rw [hz2]; omega) (by unfold maxLen; omega) (Nat.le_refl _) ?_; intro w1 hown hgrow) | (with_reducible refine wpList_copy_nothing rfl _ _ 23 23 rfl 3 Try.underlying23 HI _ _ _ _ _ _ rfl rfl rfl ?_))
  refine wp_loop_rounds 1 ?_
  rw [rounds_succ]
  go_wp2
  go_ret
  rw [made_rep] at hown
  exact ⟨⟨w'.heap.size, rfl, Nat.le_refl _, own_block hown rfl⟩, (Below.refl _ _).grown hgrow (Nat.le_refl _) (fun k hk => by cases hk)⟩
set_option maxRecDepth 100000 in
set_option maxHeartbeats 1000000 in
theorem repeat_pos (ad : Addr) (x : Int) (N : Nat) (w : World) (hN : 0 < N) (hN2 : N ≤ 300) (hc : w.cell? ad = some (.int .i64 x)) :
    Calls Try.prog 44 #[.slice (some ad) 1 1, .int .i64 N] w fun e w' => RepAt w w' x N e ∧ Below w.heap.size w w' := by
  obtain ⟨i0, hi0, hz0, hz1, hz2⟩ := info_parts intInfoRp
  have HI := intSizeRp
  have h0 : (0 : Int) ≤ (N : Int) := Int.natCast_nonneg _
  have h1 : (N : Int) ≤ 300 := by omega
  have hb := World.block_lt_of_cell? w _ hc
  obtain ⟨G, hG⟩ : ∃ G, w.heap.size = G := ⟨_, rfl⟩
  have HG := hide hG
  have HC := hide hc
  clear hc
  have P1 := hide (show [Value.int .i64 x].length = Nat.min 1 N from (Nat.min_eq_left (show 1 ≤ N by omega)).symm)
  have P3 := hide (show 0 + [Value.int .i64 x].length ≤ (List.replicate N (Value.int .i64 0)).length by simp; omega)
  have P4 := hide (show ∀ v ∈ [Value.int .i64 x], v.oneCell' = true from rep_one 1 x)
  go_enter Try.func44, Try.ntmps44
  go_wp2_with fail
  refine (mul_one_any N _ hN2).mono ?_
  rintro e w' ⟨rfl, rfl⟩
  go_wp2_with (first | (at_make; refine wpList_make_full _ rfl _ _ 23 rfl G 3 i0 (.int .i64 0) 1 Try.underlying23 hi0 hz0 hz1 .i64 .i64 _ _ N rfl rfl rfl rfl (by rw [hz2]; omega) (by unfold maxLen; omega) (by omega) ?_; intro w1 hown hgrow; rw [made_rep, hG] at hown; have hblk := own_block hown rfl; have hB1 : Below G w' w1 := (Below.refl G w').grown hgrow (by omega) (fun k hk => (by cases hk)); have hca : w1.cell? ad = some (.int .i64 x) := (hB1.cell (by omega)).trans HC.out; clear hown hgrow) | (with_reducible refine wpList_copy_splice rfl _ _ 23 23 rfl 3 Try.underlying23 HI _ _ _ _ _ _ rfl rfl G 0 (List.replicate N (Value.int .i64 0)) 3 hblk [.int .i64 x] P1.out (fun _ => ⟨rfl, ad, rfl, one_news hca⟩) P3.out P4.out G w' hB1 (Nat.le_refl _) ?_; intro w2 hb2 hB2; clear hblk hca hB1))
  have HB2 := hide (show w2.heap[G]? = some (.cells (List.replicate 1 (Value.int .i64 x) ++ List.replicate (N - 1) (Value.int .i64 0)).toArray 3 (0, 0)) by
    have h9 := hb2.out
    have e9 := splice_rep (Value.int .i64 x) (Value.int .i64 0) 0 1 (N - 1)
    rw [show 1 + (N - 1) = N by omega, List.replicate_zero, List.nil_append] at e9
    rw [show [Value.int .i64 x] = List.replicate 1 (Value.int .i64 x) from rfl, e9] at h9
    exact h9)
  clear hb2
  go_wp2
  go_loopw [8] (fun v wr => ∃ k : Nat, 1 ≤ k ∧ k ≤ N ∧ v = .int .i64 k ∧ Hid (wr.heap[G]? = some (.cells (List.replicate k (Value.int .i64 x) ++ List.replicate (N - k) (Value.int .i64 0)).toArray 3 (0, 0))) ∧ Below G w' wr) (fun v _ => N - (intOf v).toNat)
  case atStart => exact ⟨1, Nat.le_refl _, hN, rfl, HB2, hB2⟩
  case round =>
    clear HB2 hB2
    obtain ⟨k, hk1, hk, rfl, HB, hB⟩ := hrel
    have k0 : (0 : Int) ≤ (k : Int) := Int.natCast_nonneg _
    by_cases hlt : k < N
    · have q1 : (k : Int) < (N : Int) := by omega
      have q2 : (k : Int) ≤ (N : Int) := by omega
      have q3 : k ≤ N := by omega
      have q4 : ¬ (N = k) := by omega
      obtain ⟨c, hc⟩ : ∃ c, c = min k (N - k) := ⟨_, rfl⟩
      have HCC := hide hc
      have HBLK := hide (show wr.drew.heap[G]? = some (.cells (List.replicate k (Value.int .i64 x) ++ List.replicate (N - k) (Value.int .i64 0)).toArray 3 (0, 0)) from HB.out)
      have hBd : Below G w' wr.drew := hB.drew
      have F1 := hide (show (List.replicate c (Value.int .i64 x)).length = Nat.min k (N - k) by rw [List.length_replicate]; exact hc)
      have F2 := hide (show ∀ (j : Nat) (v : Value), (List.replicate c (Value.int .i64 x))[j]? = some v → wr.drew.cell? ((⟨G, 0, none⟩ : Addr).add j) = some v from fun j v hj => by
        have hjc : j < c := by have := (List.getElem?_eq_some_iff.1 hj).1; simpa using this
        rw [show (⟨G, 0, none⟩ : Addr).add j = ⟨G, j, none⟩ by unfold Addr.add; split <;> simp_all]
        rw [List.getElem?_replicate, if_pos hjc] at hj
        rw [← hj]
        have h9 : wr.drew.heap[G]? = _ := HBLK.out
        rw [cell_block h9]
        simp only [List.getElem?_toArray]
        rw [List.getElem?_append_left (by simp; omega), List.getElem?_replicate, if_pos (by omega)])
      have F3 := hide (show k + (List.replicate c (Value.int .i64 x)).length ≤ (List.replicate k (Value.int .i64 x) ++ List.replicate (N - k) (Value.int .i64 0)).length by simp only [List.length_append, List.length_replicate]; omega)
      have HS := hide (splice_rep (Value.int .i64 x) (Value.int .i64 0) k c (N - k - c))
      have hca : wr.cell? ad = some (.int .i64 x) := (hB.cell (by omega)).trans HC.out
      have HBd := hide hBd
      have kz : (k : Int) + (c : Int) ≤ 600 := by omega
      have c0 : (0 : Int) ≤ (c : Int) := Int.natCast_nonneg _
      have hwc : IntKind.i64.wrap ((k : Int) + (c : Int)) = (k : Int) + (c : Int) := IntWalk.i64_in _ (by omega)
      clear hc hBd
      go_wp2_with fail
      go_region_held3 (fun w' => w'.cell? ad = some (.int .i64 x)) (first | (go_keep; done) | ((try dsimp only); exact (HB4.cell (by omega)).trans HC.out)) ((refine step_copy_splice rfl _ _ 23 23 rfl 3 Try.underlying23 HI _ _ _ _ _ _ rfl rfl G k (List.replicate k (Value.int .i64 x) ++ List.replicate (N - k) (Value.int .i64 0)) 3 HBLK.out (List.replicate c (Value.int .i64 x)) F1.out (fun _ => ⟨rfl, ⟨G, 0, none⟩, rfl, F2.out⟩) F3.out (rep_one _ _) G w' HBd.out (Nat.le_refl _) ?_; intro w4 hb4 HB4))
      have HNX := hide (show w4.heap[G]? = some (.cells (List.replicate (k + c) (Value.int .i64 x) ++ List.replicate (N - (k + c)) (Value.int .i64 0)).toArray 3 (0, 0)) by
        have h9 := hb4.out
        have h8 := HS.out
        rw [show c + (N - k - c) = N - k by have := HCC.out; omega] at h8
        rw [h8, show N - k - c = N - (k + c) by omega] at h9
        exact h9)
      have HKC := hide (show k + c ≤ N ∧ k < k + c by have := HCC.out; omega)
      clear hb4 hwc
      go_wp2
      go_roundw
      case rel => exact ⟨k + c, by omega, HKC.out.1, by first | go_num | (simp; done), HNX, HB4⟩
      case measure => (have := HKC.out; simp [intOf] <;> omega)
    · obtain rfl : k = N := by omega
      have HF := hide (show wr.heap[G]? = some (.cells (List.replicate k (Value.int .i64 x)).toArray 3 (0, 0)) by
        have h9 := HB.out
        rw [Nat.sub_self, List.replicate_zero, List.append_nil] at h9; exact h9)
      go_wp2
      go_ret
      exact ⟨⟨G, rfl, by rw [HG.out]; exact Nat.le_refl _, HF.out⟩, by rw [HG.out]; exact hB⟩
theorem repeat_any (ad : Addr) (x : Int) (N : Nat) (w : World) (hN2 : N ≤ 300) (hc : w.cell? ad = some (.int .i64 x)) :
    Calls Try.prog 44 #[.slice (some ad) 1 1, .int .i64 N] w fun e w' => RepAt w w' x N e ∧ Below w.heap.size w w' := by
  rcases Nat.eq_zero_or_pos N with h0 | h0
  · subst h0; exact repeat_zero ad x w
  · exact repeat_pos ad x N w h0 hN2 hc

end Go.Proofs.Ythjicnddfjpnjaa
