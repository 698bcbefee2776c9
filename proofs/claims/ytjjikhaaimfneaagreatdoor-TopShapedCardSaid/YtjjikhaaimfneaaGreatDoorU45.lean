/-
  Lemmas and walks for the statement: BUParse, Repeat, Solve, Rev.
-/
import Derived.Test.YtjjikhaaimfneaaGreatDoorU44
import Derived.Test.YtjjikhaaimfneaaGreatDoorU30
import Derived.Test.YtjjikhaaimfneaaGreatDoorU43
import Derived.Test.YtjjikhaaimfneaaGreatDoorU02
import Derived.OwnWalk
import Derived.Laws.CopyOwn
import Derived.IntWalk
import Derived.Test.YtjjikhaaimfneaaGreatDoorU31
import Derived.Deep.RegionHeld3
import Derived.Deep.DeepCutAuto
import Derived.Laws.MakeOwn
import Derived.Test.YtjjikhaaimfneaaGreatDoorU01
namespace Go.Proofs.YtjjikhaaimfneaaGreatDoor
open Go.RowKit
set_option linter.unusedSimpArgs false
set_option linter.unusedVariables false
def NoA (s : List UInt8) (n : Nat) : Prop := ∀ k0 k1 R Q J, ROk k0 k1 R Q J → (k0 - 1) * 3 + (k1 - 1) < (n : Int) → s ≠ textL k0 k1 R Q J
def NoB (s : List UInt8) (n : Nat) (r : Int) : Prop := NoA s n ∧ ∀ k0 k1 R Q J, ROk k0 k1 R Q J → (k0 - 1) * 3 + (k1 - 1) = (n : Int) → R < r → s ≠ textL k0 k1 R Q J
def NoC (s : List UInt8) (n : Nat) (r : Int) (q : Nat) : Prop := NoB s n r ∧ ∀ k0 k1 R Q J, ROk k0 k1 R Q J → (k0 - 1) * 3 + (k1 - 1) = (n : Int) → R = r → Q < (q : Int) → s ≠ textL k0 k1 R Q J
def NoD (s : List UInt8) (n : Nat) (r : Int) (q j : Nat) : Prop := NoC s n r q ∧ ∀ k0 k1 R Q J, ROk k0 k1 R Q J → (k0 - 1) * 3 + (k1 - 1) = (n : Int) → R = r → Q = (q : Int) → J < (j : Int) → s ≠ textL k0 k1 R Q J
end Go.Proofs.YtjjikhaaimfneaaGreatDoor
namespace Go.Proofs.YtjjikhaaimfneaaGreatDoor
open Go.RowKit
set_option linter.unusedSimpArgs false
set_option linter.unusedVariables false
attribute [local go_sem] iteMin iteMax iteMinN iteMaxN
theorem intInfoRp : (Tryz.prog.info? 3).map (fun i => (i.zero, i.size, i.bytes)) = some (some (.int .i64 0), 1, 8) := by kernel_rfl
theorem own_block {w : World} {B e g N cap : Nat} {xs : List Value} (h : w.ownsRow B e 1 (.slice (some ⟨g, 0, none⟩) N cap) N xs) (hc : cap = N) : w.heap[g]? = some (.cells xs.toArray e (0, 0)) := by
 subst hc
 rcases h.2 with ⟨h1, _⟩ | ⟨g', cap', cur, hv, _, hg, _, _, hs, hx⟩
 · cases h1
 · injection hv with e1 _ e3
   injection e1 with e1
   injection e1 with e1
   subst e1; subst e3
   rw [hg, ← hx]
   have e4 : cur.toList.take (cap * 1) = cur.toList := List.take_of_length_le (by simp; omega)
   rw [e4]
theorem splice_rep (x z : Value) (k c m : Nat) : splice (List.replicate k x ++ List.replicate (c + m) z) k (List.replicate c x) = List.replicate (k + c) x ++ List.replicate m z := by
 unfold splice
 rw [List.take_append_of_le_length (by simp), List.take_of_length_le (by simp), List.drop_append]
 simp only [List.length_replicate, List.drop_replicate]
 rw [show k - (k + c) = 0 by omega, show c + m - (k + c - k) = m by omega, List.replicate_zero, List.nil_append, ← List.append_assoc, List.replicate_append_replicate]
theorem made_rep (N : Nat) : (madeCells (Value.int .i64 0).cells (N * 1)).toList = List.replicate N (Value.int .i64 0) := by
 rw [show (Value.int .i64 0).cells = #[Value.int .i64 0] from rfl, toList_madeCells_one, Nat.mul_one]
theorem rep_one (n : Nat) (x : Int) : ∀ u ∈ List.replicate n (Value.int .i64 x), u.oneCell' = true := by
 intro u hu
 rw [(List.mem_replicate.1 hu).2]; rfl
theorem cell_block {w : World} {g : Nat} {cur : Array Value} {t : TypeId} (h : w.heap[g]? = some (.cells cur t (0, 0))) (j : Nat) : w.cell? ⟨g, j, none⟩ = cur[j]? := by simp [World.cell?, h]
theorem one_news {w : World} {ad : Addr} {v : Value} (h : w.cell? ad = some v) : ∀ (j : Nat) (u : Value), [v][j]? = some u → w.cell? (ad.add j) = some u := by
 intro j u hj
 have hj0 : j = 0 := by
  have := (List.getElem?_eq_some_iff.1 hj).1
  simp at this; omega
 subst hj0
 simp at hj; subst hj
 rw [show ad.add 0 = ad by unfold Addr.add; simp]; exact h
def RepAt (w w' : World) (x : Int) (N : Nat) (e : Ending) : Prop := ∃ g, e = .returned (.slice (some ⟨g, 0, none⟩) N N) ∧ w.heap.size ≤ g ∧ w'.heap[g]? = some (.cells (List.replicate N (Value.int .i64 x)).toArray 3 (0, 0))
theorem intSizeRp : (Tryz.prog.info? 3).map (·.size) = some 1 := by kernel_rfl
theorem mul_one_any (N : Nat) (w : World) (h : N ≤ 300) : Calls Tryz.prog 91 #[.int .u64 1, .int .u64 N] w fun e w' => e = .returned (.tuple #[.int .u64 0, .int .u64 N]) ∧ w' = w := by
 have e1 : 1 * N / 18446744073709551616 = 0 := by omega
 have e2 : 1 * N % 18446744073709551616 = N := by omega
 have := Tryz.bits_Mul 1 N (by omega) (by omega) w
 rw [e1, e2] at this
 exact this
set_option maxRecDepth 100000 in
set_option maxHeartbeats 4000000 in
theorem repeat_zero (ad : Addr) (x : Int) (w : World) :
 Calls Tryz.prog 69 #[.slice (some ad) 1 1, .int .i64 0] w fun e w' => RepAt w w' x 0 e ∧ Below w.heap.size w w' := by
 obtain ⟨i0, hi0, hz0, hz1, hz2⟩ := info_parts intInfoRp
 have HI := intSizeRp
 go_enter Tryz.func69, Tryz.ntmps69
 go_wp2_with fail
 refine (mul_one_any 0 _ (by omega)).mono ?_
 rintro e w' ⟨rfl, rfl⟩
 go_wp2_with (first | (at_make; refine wpList_make_full _ rfl _ _ 24 rfl w'.heap.size 3 i0 (.int .i64 0) 1 Tryz.underlying24 hi0 hz0 hz1 .i64 .i64 _ _ 0 rfl rfl rfl rfl (by rw [hz2]; omega) (by unfold maxLen; omega) (Nat.le_refl _) ?_; intro w1 hown hgrow) | (with_reducible refine wpList_copy_nothing rfl _ _ 24 24 rfl 3 Tryz.underlying24 HI _ _ _ _ _ _ rfl rfl rfl ?_))
 refine wp_loop_rounds 1 ?_
 rw [rounds_succ]
 go_wp2
 go_ret
 rw [made_rep] at hown
 exact ⟨⟨w'.heap.size, rfl, Nat.le_refl _, own_block hown rfl⟩, (Below.refl _ _).grown hgrow (Nat.le_refl _) (fun k hk => by cases hk)⟩
set_option maxRecDepth 100000 in
set_option maxHeartbeats 1000000 in
theorem repeat_pos (ad : Addr) (x : Int) (N : Nat) (w : World) (hN : 0 < N) (hN2 : N ≤ 300) (hc : w.cell? ad = some (.int .i64 x)) :
 Calls Tryz.prog 69 #[.slice (some ad) 1 1, .int .i64 N] w fun e w' => RepAt w w' x N e ∧ Below w.heap.size w w' := by
 obtain ⟨i0, hi0, hz0, hz1, hz2⟩ := info_parts intInfoRp
 have HI := intSizeRp
 have h0 : (0 : Int) ≤ (N : Int) := Int.natCast_nonneg _
 have h1 : (N : Int) ≤ 300 := by omega
 have hb := World.block_lt_of_cell? w _ hc
 obtain ⟨G, hG⟩ : ∃ G, w.heap.size = G := ⟨_, rfl⟩
 have HG := hide hG
 have HC := hide hc
 clear hc
 have P1 := hide (show [Value.int .i64 x].length = Nat.min 1 N from (Nat.min_eq_left (show 1 ≤ N by omega)).symm)
 have P3 := hide (show 0 + [Value.int .i64 x].length ≤ (List.replicate N (Value.int .i64 0)).length by simp; omega)
 have P4 := hide (show ∀ v ∈ [Value.int .i64 x], v.oneCell' = true from rep_one 1 x)
 go_enter Tryz.func69, Tryz.ntmps69
 go_wp2_with fail
 refine (mul_one_any N _ hN2).mono ?_
 rintro e w' ⟨rfl, rfl⟩
 go_wp2_with (first | (at_make; refine wpList_make_full _ rfl _ _ 24 rfl G 3 i0 (.int .i64 0) 1 Tryz.underlying24 hi0 hz0 hz1 .i64 .i64 _ _ N rfl rfl rfl rfl (by rw [hz2]; omega) (by unfold maxLen; omega) (by omega) ?_; intro w1 hown hgrow; rw [made_rep, hG] at hown; have hblk := own_block hown rfl; have hB1 : Below G w' w1 := (Below.refl G w').grown hgrow (by omega) (fun k hk => (by cases hk)); have hca : w1.cell? ad = some (.int .i64 x) := (hB1.cell (by omega)).trans HC.out; clear hown hgrow) | (with_reducible refine wpList_copy_splice rfl _ _ 24 24 rfl 3 Tryz.underlying24 HI _ _ _ _ _ _ rfl rfl G 0 (List.replicate N (Value.int .i64 0)) 3 hblk [.int .i64 x] P1.out (fun _ => ⟨rfl, ad, rfl, one_news hca⟩) P3.out P4.out G w' hB1 (Nat.le_refl _) ?_; intro w2 hb2 hB2; clear hblk hca hB1))
 have HB2 := hide (show w2.heap[G]? = some (.cells (List.replicate 1 (Value.int .i64 x) ++ List.replicate (N - 1) (Value.int .i64 0)).toArray 3 (0, 0)) by
  have h9 := hb2.out
  have e9 := splice_rep (Value.int .i64 x) (Value.int .i64 0) 0 1 (N - 1)
  rw [show 1 + (N - 1) = N by omega, List.replicate_zero, List.nil_append] at e9
  rw [show [Value.int .i64 x] = List.replicate 1 (Value.int .i64 x) from rfl, e9] at h9
  exact h9)
 clear hb2
 go_wp2
 go_loopw [8] (fun v wr => ∃ k : Nat, 1 ≤ k ∧ k ≤ N ∧ v = .int .i64 k ∧ Hid (wr.heap[G]? = some (.cells (List.replicate k (Value.int .i64 x) ++ List.replicate (N - k) (Value.int .i64 0)).toArray 3 (0, 0))) ∧ Below G w' wr) (fun v _ => N - (intOf v).toNat)
 case atStart => exact ⟨1, Nat.le_refl _, hN, rfl, HB2, hB2⟩
 case round =>
  clear HB2 hB2
  obtain ⟨k, hk1, hk, rfl, HB, hB⟩ := hrel
  have k0 : (0 : Int) ≤ (k : Int) := Int.natCast_nonneg _
  by_cases hlt : k < N
  · have q1 : (k : Int) < (N : Int) := by omega
    have q2 : (k : Int) ≤ (N : Int) := by omega
    have q3 : k ≤ N := by omega
    have q4 : ¬ (N = k) := by omega
    obtain ⟨c, hc⟩ : ∃ c, c = min k (N - k) := ⟨_, rfl⟩
    have HCC := hide hc
    have HBLK := hide (show wr.drew.heap[G]? = some (.cells (List.replicate k (Value.int .i64 x) ++ List.replicate (N - k) (Value.int .i64 0)).toArray 3 (0, 0)) from HB.out)
    have hBd : Below G w' wr.drew := hB.drew
    have F1 := hide (show (List.replicate c (Value.int .i64 x)).length = Nat.min k (N - k) by rw [List.length_replicate]; exact hc)
    have F2 := hide (show ∀ (j : Nat) (v : Value), (List.replicate c (Value.int .i64 x))[j]? = some v → wr.drew.cell? ((⟨G, 0, none⟩ : Addr).add j) = some v from fun j v hj => by
     have hjc : j < c := by have := (List.getElem?_eq_some_iff.1 hj).1; simpa using this
     rw [show (⟨G, 0, none⟩ : Addr).add j = ⟨G, j, none⟩ by unfold Addr.add; split <;> simp_all]
     rw [List.getElem?_replicate, if_pos hjc] at hj
     rw [← hj]
     have h9 : wr.drew.heap[G]? = _ := HBLK.out
     rw [cell_block h9]
     simp only [List.getElem?_toArray]
     rw [List.getElem?_append_left (by simp; omega), List.getElem?_replicate, if_pos (by omega)])
    have F3 := hide (show k + (List.replicate c (Value.int .i64 x)).length ≤ (List.replicate k (Value.int .i64 x) ++ List.replicate (N - k) (Value.int .i64 0)).length by simp only [List.length_append, List.length_replicate]; omega)
    have HS := hide (splice_rep (Value.int .i64 x) (Value.int .i64 0) k c (N - k - c))
    have hca : wr.cell? ad = some (.int .i64 x) := (hB.cell (by omega)).trans HC.out
    have HBd := hide hBd
    have kz : (k : Int) + (c : Int) ≤ 600 := by omega
    have c0 : (0 : Int) ≤ (c : Int) := Int.natCast_nonneg _
    have hwc : IntKind.i64.wrap ((k : Int) + (c : Int)) = (k : Int) + (c : Int) := IntWalk.i64_in _ (by omega)
    clear hc hBd
    go_wp2_with fail
    go_region_held3 (fun w' => w'.cell? ad = some (.int .i64 x)) (first | (go_keep; done) | ((try dsimp only); exact (HB4.cell (by omega)).trans HC.out)) ((refine step_copy_splice rfl _ _ 24 24 rfl 3 Tryz.underlying24 HI _ _ _ _ _ _ rfl rfl G k (List.replicate k (Value.int .i64 x) ++ List.replicate (N - k) (Value.int .i64 0)) 3 HBLK.out (List.replicate c (Value.int .i64 x)) F1.out (fun _ => ⟨rfl, ⟨G, 0, none⟩, rfl, F2.out⟩) F3.out (rep_one _ _) G w' HBd.out (Nat.le_refl _) ?_; intro w4 hb4 HB4))
    have HNX := hide (show w4.heap[G]? = some (.cells (List.replicate (k + c) (Value.int .i64 x) ++ List.replicate (N - (k + c)) (Value.int .i64 0)).toArray 3 (0, 0)) by
     have h9 := hb4.out
     have h8 := HS.out
     rw [show c + (N - k - c) = N - k by have := HCC.out; omega] at h8
     rw [h8, show N - k - c = N - (k + c) by omega] at h9
     exact h9)
    have HKC := hide (show k + c ≤ N ∧ k < k + c by have := HCC.out; omega)
    clear hb4 hwc
    go_wp2
    go_roundw
    case rel => exact ⟨k + c, by omega, HKC.out.1, by first | go_num | (simp; done), HNX, HB4⟩
    case measure => (have := HKC.out; simp [intOf] <;> omega)
  · obtain rfl : k = N := by omega
    have HF := hide (show wr.heap[G]? = some (.cells (List.replicate k (Value.int .i64 x)).toArray 3 (0, 0)) by
     have h9 := HB.out
     rw [Nat.sub_self, List.replicate_zero, List.append_nil] at h9; exact h9)
    go_wp2
    go_ret
    exact ⟨⟨G, rfl, by rw [HG.out]; exact Nat.le_refl _, HF.out⟩, by rw [HG.out]; exact hB⟩
theorem repeat_any (ad : Addr) (x : Int) (N : Nat) (w : World) (hN2 : N ≤ 300) (hc : w.cell? ad = some (.int .i64 x)) :
 Calls Tryz.prog 69 #[.slice (some ad) 1 1, .int .i64 N] w fun e w' => RepAt w w' x N e ∧ Below w.heap.size w w' := by
 rcases Nat.eq_zero_or_pos N with h0 | h0
 · subst h0; exact repeat_zero ad x w
 · exact repeat_pos ad x N w h0 hN2 hc
end Go.Proofs.YtjjikhaaimfneaaGreatDoor
namespace Go.Proofs.YtjjikhaaimfneaaGreatDoor
open Go.RowKit
set_option linter.unusedSimpArgs false
set_option linter.unusedVariables false
attribute [local go_sem] iteMin iteMax iteMinN iteMaxN
theorem intInfoSv : (Tryz.prog.info? 3).map (fun i => (i.zero, i.size, i.bytes)) = some (some (.int .i64 0), 1, 8) := by kernel_rfl
theorem retV {a b : Int} (h : a = b) : Value.int .i64 a = Value.int .i64 b := by rw [h]
set_option maxRecDepth 100000 in
set_option maxHeartbeats 4000000 in
theorem solve_any (N : Nat) (a : Option Addr) (n c : Nat) (es : List GE) (w : World) (h : EdgesAt w a n c es) (hg : GraphOk (N : Int) es) :
 Calls Tryz.prog 61 #[.agg #[.int .i64 N, .slice a n c]] w fun e w' => (∃ q sb gm gb, SolveEnds N a n c es w.heap.size e w' q sb gm gb) ∧ Below w.heap.size w w' := by
 obtain ⟨i0, hi0, hz0, hz1, hz2⟩ := info_parts intInfoSv
 have HG := hide hg
 have HL := hide h.len
 have hN : N ≤ 300 := by have := hg.1.2.1; omega
 have HE0 := hide h
 obtain ⟨W, hW⟩ : ∃ W, W = w.alloc (.cells #[.int .i64 N, .slice a n c] 57) := ⟨_, rfl⟩
 have hWB : Below w.heap.size w W := by rw [hW]; exact (Below.refl _ _).alloc (Nat.le_refl _) _
 obtain ⟨G, hG⟩ : ∃ G, w.heap.size = G := ⟨_, rfl⟩
 have hWs : W.heap.size = G + 1 := by rw [hW, ← hG]; simp
 have e0 : W.cell? ⟨G, 0, none⟩ = some (.int .i64 N) := by rw [hW, ← hG]; simp [go_sem]
 have e1 : W.cell? ⟨G, 1, none⟩ = some (.slice a n c) := by rw [hW, ← hG]; simp [go_sem]
 have HGs := hide hG
 have HWB := hide hWB
 have HWs := hide hWs
 have HC : Hid (∀ w', Below (G + 1) W w' → w'.cell? ⟨G, 0, none⟩ = some (.int .i64 N) ∧ w'.cell? ⟨G, 1, none⟩ = some (.slice a n c)) := hide fun w' hb => ⟨(hb.cell (by show G < G + 1; omega)).trans e0, (hb.cell (by show G < G + 1; omega)).trans e1⟩
 have hmk : ∀ wx : World, (Instr.makeSlice 24 (.int .i64 (N : Int)) (.int .i64 (N : Int))).run Tryz.prog wx = .ok (.slice (some ⟨wx.heap.size, 0, none⟩) N N) (wx.alloc (.cells (madeCells (Value.int .i64 0).cells (N * 1)) 3)) := fun wx => by
  have := run_make (P := Tryz.prog) wx 24 3 i0 (.int .i64 0) Tryz.underlying24 hi0 hz0 .i64 .i64 N N (by omega) (Int.le_refl _) (by rw [hz2]; omega) (by omega)
  rw [hz1] at this
  simpa using this
 clear hg h hWB
 go_enter Tryz.func61, Tryz.ntmps61
 go_upto_region 1 with fail
 rw [← hW]
 clear hW
 go_cut [4] (fun p wx => Began N a n c (G + 1) W p wx)
 case first =>
  go_region_held3 (fun w' => w'.cell? ⟨G, 0, none⟩ = some (.int .i64 N) ∧ w'.cell? ⟨G, 1, none⟩ = some (.slice a n c)) (((try dsimp only); exact HC.out _ (by (repeat' (first | (with_reducible assumption) | (with_reducible exact Below.refl _ _) | (with_reducible refine Below.alloc ?_ ?_ _) | (with_reducible refine Below.drew ?_) | (with_reducible refine Below.trans ?_ (B2.mono ?_)) | omega | (simp; done) | (simp; omega))))))
   ((go_at_call 69; refine (repeat_any _ (-1) N _ hN (by (repeat' (first | (with_reducible assumption) | (with_reducible refine news_drew ?_) | (with_reducible refine news_new ?_) | (with_reducible refine news_alloc ?_) | omega | (simp; done) | (simp; omega))))).mono ?_; rintro e w2 ⟨⟨gb, rfl, hgb, hblk⟩, B2⟩; have hs2 := B2.size; (try simp at hs2); (try simp at hgb)))
  all_goals trace "WAY"
  all_goals go_wp2_with fail
  all_goals go_meet
  all_goals refine ⟨_, _, _, rfl, cell40 (by (repeat' (first | rfl | (simp; done)))), cell41 (by (repeat' (first | rfl | (simp; done)))), cell42 (by (repeat' (first | rfl | (simp; done)))), cell43 (by (repeat' (first | rfl | (simp; done)))), ?_, ?_, ?_, ?_⟩
  · exact OTab.alloc (OTab.below (OTab.drew (OTab.alloc (made_tab2 hWs (by omega) (by unfold maxLen; omega)) _)) B2) _
  · exact OTab.alloc (rep_tab hblk (by omega) (by unfold maxLen; omega)) _
  · refine ⟨?_, ?_, ?_⟩ <;> first | omega | (have := lt_of_get hblk; omega)
  · (repeat' (first | (with_reducible assumption) | (with_reducible exact Below.refl _ _) | (with_reducible refine Below.alloc ?_ ?_ _) | (with_reducible refine Below.drew ?_) | (with_reducible refine Below.trans ?_ (B2.mono ?_)) | omega | (simp; done) | (simp; omega)))
  · exact OTab.alloc (OTab.below (OTab.drew (made_tab2 (by simp; omega) (by omega) (by unfold maxLen; omega))) B2) _
  · exact OTab.alloc (rep_tab hblk (by omega) (by unfold maxLen; omega)) _
  · refine ⟨?_, ?_, ?_⟩ <;> first | omega | (have := lt_of_get hblk; omega)
  · (repeat' (first | (with_reducible assumption) | (with_reducible exact Below.refl _ _) | (with_reducible refine Below.alloc ?_ ?_ _) | (with_reducible refine Below.drew ?_) | (with_reducible refine Below.trans ?_ (B2.mono ?_)) | omega | (simp; done) | (simp; omega)))
  · exact OTab.alloc (made_tab2 rfl (by omega) (by unfold maxLen; omega)) _
  · exact OTab.alloc (OTab.alloc (rep_tab hblk (by omega) (by unfold maxLen; omega)) _) _
  · refine ⟨?_, ?_, ?_⟩ <;> first | omega | (have := lt_of_get hblk; omega)
  · (repeat' (first | (with_reducible assumption) | (with_reducible exact Below.refl _ _) | (with_reducible refine Below.alloc ?_ ?_ _) | (with_reducible refine Below.drew ?_) | (with_reducible refine Below.trans ?_ (B2.mono ?_)) | omega | (simp; done) | (simp; omega)))
 case rest =>
  obtain ⟨sb, gm, gb, rfl, c0, c1, c2, c3, hm, hb, hne, hB⟩ := hcut
  have g0 := (HC.out _ hB).1
  have hBw : Below w.heap.size w wc := HWB.out.trans (hB.mono (by omega))
  have HCC := hide (And.intro c0 (And.intro c1 (And.intro c2 c3)))
  have HNE := hide hne
  have HBW := hide hBw
  have hmB := hm.base (B' := w.heap.size) (by omega)
  have hbB := hb.base (B' := w.heap.size) (by omega)
  have hN0 : (0 : Int) ≤ (N : Int) := Int.natCast_nonneg _
  clear hm hb hne hB hBw c0 c1 c2 c3 hmk e0 e1
  go_wp2
  go_loopw [5, 19] (fun l i wr => ∃ k : Nat, ∃ q : PS, k ≤ N + 1 ∧ i = .int .i64 k ∧ l = .int .i64 q.last ∧ Hid (q = piter (pes es) k) ∧ Hid (k = 0 ∨ 0 ≤ q.last) ∧ OTab wr w.heap.size 3 gm N N q.m ∧ OTab wr w.heap.size 3 gb N N q.b ∧ Two wc wr gm gb) (fun _ i _ => N + 1 - (intOf i).toNat)
  case atStart => exact ⟨0, pzero, Nat.zero_le _, rfl, rfl, hide rfl, hide (.inl rfl), hmB, hbB, Two.refl _ _ _⟩
  case round =>
   clear hmB hbB
   obtain ⟨k, q, hk, rfl, rfl, HQ, HL0, hm, hb, hT⟩ := hrel
   have k0 : (0 : Int) ≤ (k : Int) := Int.natCast_nonneg _
   have HM := hide hm
   have HBB := hide hb
   have HT := hide hT
   clear hm hb hT
   by_cases hlt : k < N + 1
   · have k1 : (k : Int) < (N : Int) + 1 := by omega
     have HR := hide (show pround (pes es) q = piter (pes es) (k + 1) by rw [HQ.out]; rfl)
     have HCALL := hide (round_any N a n c es w wr sb gm N gb N q (k * 5033164800) HE0.out (HBW.out.trans (HT.out.below HBW.out.size (OTab.lt HM.out).1 (OTab.lt HBB.out).1)) HG.out (HT.out.cell HNE.out.2.1 HNE.out.2.2 HCC.out.2.1) (HT.out.cell HNE.out.2.1 HNE.out.2.2 HCC.out.2.2.1) (HT.out.cell HNE.out.2.1 HNE.out.2.2 HCC.out.2.2.2) HM.out HBB.out HNE.out.1 HNE.out.2.1 HNE.out.2.2 (by rw [HQ.out]; exact piter_b HG.out k) (by omega))
     obtain ⟨L, hL⟩ : ∃ L, (pround (pes es) q).last = L := ⟨_, rfl⟩
     have HLL := hide hL
     clear hL
     go_wp2_with (go_at_call 86; refine HCALL.out.mono ?_; rintro e w2 ⟨he, hm2, hb2, hT2⟩; rw [HLL.out] at he; subst he; have HM2 := hide hm2; have HB2 := hide hb2; have HT2 := hide hT2; clear hm2 hb2 hT2; rcases Int.lt_or_le L 0 with hl | hl)
     · go_wp2
       go_ret2
       rw [HGs.out.symm]
       refine ⟨⟨pround (pes es) q, sb, gm, gb, congrArg (fun z => Ending.returned (.tuple #[.pointer (some ⟨sb, 0, none⟩), .int .i64 z])) HLL.out.symm, ⟨k, by omega, HR.out, .inl (by rw [HLL.out]; exact hl)⟩, (HT.out.trans HT2.out).cell HNE.out.2.1 HNE.out.2.2 HCC.out.1, (HT.out.trans HT2.out).cell HNE.out.2.1 HNE.out.2.2 HCC.out.2.1, (HT.out.trans HT2.out).cell HNE.out.2.1 HNE.out.2.2 HCC.out.2.2.1, (HT.out.trans HT2.out).cell HNE.out.2.1 HNE.out.2.2 HCC.out.2.2.2, HM2.out, HB2.out⟩, HBW.out.trans ((HT.out.trans HT2.out).below HBW.out.size (OTab.lt HM.out).1 (OTab.lt HBB.out).1)⟩
     · go_wp2
       go_roundw
       case rel => exact ⟨k + 1, piter (pes es) (k + 1), by omega, by first | go_num | (simp; done), retV (by rw [← HR.out]; exact HLL.out.symm), hide rfl, hide (.inr (by rw [← HR.out, HLL.out]; exact hl)), by rw [← HR.out]; exact HM2.out, by rw [← HR.out]; exact HB2.out, HT.out.trans HT2.out⟩
       case measure => (simp [intOf] <;> omega)
   · obtain rfl : k = N + 1 := by omega
     go_wp2
     go_ret2
     refine ⟨⟨q, sb, gm, gb, rfl, ⟨N, Nat.le_refl _, HQ.out, .inr ⟨rfl, (by have := HL0.out; omega)⟩⟩, HT.out.cell HNE.out.2.1 HNE.out.2.2 HCC.out.1, HT.out.cell HNE.out.2.1 HNE.out.2.2 HCC.out.2.1, HT.out.cell HNE.out.2.1 HNE.out.2.2 HCC.out.2.2.1, HT.out.cell HNE.out.2.1 HNE.out.2.2 HCC.out.2.2.2, HM.out, HBB.out⟩, HBW.out.trans (HT.out.below HBW.out.size (OTab.lt HM.out).1 (OTab.lt HBB.out).1)⟩
end Go.Proofs.YtjjikhaaimfneaaGreatDoor
namespace Go.Proofs.YtjjikhaaimfneaaGreatDoor
open Go.RowKit
set_option linter.unusedSimpArgs false
set_option linter.unusedVariables false
theorem size_setCells' (b : Nat) : ∀ (vs : List Value) (o : Nat) (w : World), (w.setCells b o vs).heap.size = w.heap.size
 | [], _, _ => rfl
 | v :: r, o, w => by rw [World.setCells, size_setCells' b r]; simp
theorem below_setCells' {B : Nat} {a : World} (b : Nat) (hb : B ≤ b) : ∀ (vs : List Value) (o : Nat) {w : World}, Below B a w → Below B a (w.setCells b o vs)
 | [], _, _, h => h
 | v :: r, o, _, h => below_setCells' b hb r (o + 1) (h.setCell (p := ⟨b, o, none⟩) hb v)
theorem rev_own {w : World} {B e : Nat} {v : Value} {ns : List Int} (hk : 0 < ns.length) (hl : ns.length ≤ 17592186044416) (h : w.ownsRow B e 1 v ns.length (ns.map (Value.int .i64))) (hB : B ≤ w.heap.size) :
 ∃ g cap, v = .slice (some ⟨g, 0, none⟩) ns.length cap ∧ Calls Tryz.prog 62 #[.slice (some ⟨g, 0, none⟩) ns.length cap] w fun e w' => e = .returned (.tuple #[]) ∧ IntsAt w' (some ⟨g, 0, none⟩) ns.length cap ns.reverse ∧ Below B w w' := by
 obtain ⟨m, hm⟩ : ∃ m, ns.length = m + 1 := ⟨ns.length - 1, by omega⟩
 rw [hm] at h
 obtain ⟨g, cap, rfl, hg, hgs, hc, hcell, hfz⟩ := own_form h
 rw [← hm]
 refine ⟨g, cap, rfl, ?_⟩
 have hcell' : ∀ j, j < ns.length → w.cell? ⟨g, 0 + j, none⟩ = some (.int .i64 (ns.getD j 0)) := fun j hj => by
  rw [Nat.zero_add]
  refine hcell j _ ?_
  rw [List.getElem?_map, List.getElem?_eq_getElem hj, List.getD_eq_getElem?_getD, List.getElem?_eq_getElem hj]; rfl
 refine (Tryz.slices_Reverse_int_cells g 0 ns.length cap ns w (Nat.le_refl _) (by omega) hcell' (fun j _ => by rw [Nat.zero_add]; exact hfz j)).mono ?_
 rintro e w' ⟨rfl, q, rfl⟩
 refine ⟨rfl, ⟨by simp, by omega, hl, fun _ => ⟨_, rfl, ?_, fun j x hx => ?_⟩⟩, below_setCells' g hg _ _ ((Below.refl _ _).trans ⟨rfl, rfl, rfl, Nat.le_refl _, fun _ _ => rfl⟩)⟩
 · rw [size_setCells']; simpa using hgs
 · have hj := (List.getElem?_eq_some_iff.1 hx).1
   rw [List.length_reverse] at hj
   have e1 : (⟨g, 0, none⟩ : Addr).add j = ⟨g, 0 + j, none⟩ := by unfold Addr.add; split <;> simp_all
   rw [e1]
   rw [List.take_length]
   have := World.cell?_setCells_in g (ns.reverse.map (Value.int .i64)) 0 (w.drewN q) (fun j hj => by
    have hj' : j < ns.length := by simpa using hj
    have := hcell' j hj'
    show (w.drewN q).cell? _ |>.isSome
    rw [World.cell?_drewN, this]; rfl) j (by simpa using hj)
   rw [this]
   simp only [List.getElem_map]
   rw [List.getElem?_eq_getElem (by simpa using hj)] at hx
   injection hx with hx
   rw [hx]
end Go.Proofs.YtjjikhaaimfneaaGreatDoor
