/-
  WALKS: bucket.Line.
-/
import Derived.Test.YthokolfgagkmiaaPLine
import Derived.Test.YthokolfgagkmiaaNum
import Derived.Test.YthokolfgagkmiaaKeeps0
import Derived.Test.YthokolfgagkmiaaMin
import Derived.IntWalk
namespace Go.Proofs.Ythokolfgagkmiaa
open Go.RowKit
set_option linter.unusedSimpArgs false
set_option linter.unusedVariables false

attribute [local go_sem] iteMin iteMax

theorem intInfoBL : (Try.prog.info? 3).map (fun i => (i.zero, i.size, i.bytes)) = some (some (.int .i64 0), 1, 8) := by kernel_rfl

set_option maxHeartbeats 2000000 in
theorem bLine_bad (R B n : Int) (w : World) (hr : ¬ RightB R B []) :
    Calls Try.prog 69 #[.agg #[.int .i64 R, .int .i64 B], .int .i64 n] w fun e w' => e = .returned (.slice none 0 0) ∧ Below w.heap.size w w' := by
  have HR := hide hr
  clear hr
  go_enter Try.func69, Try.ntmps69
  go_wp2_with fail
  refine (callF (bRight_any R B none 0 0 [] _ (IntsAt.nil_ _)) HR.out).mono ?_
  rintro e w1 ⟨rfl, B1⟩
  go_wp2
  go_ret
  exact ⟨rfl, ((Below.refl _ _).alloc (Nat.le_refl _) _).trans (B1.mono (by simp))⟩

set_option maxRecDepth 100000 in
set_option maxHeartbeats 4000000 in
theorem bLine_ok (R B n : Int) (N : Nat) (w : World) (hr : RightB R B []) (hN : Ticks n N) :
    Calls Try.prog 69 #[.agg #[.int .i64 R, .int .i64 B], .int .i64 n] w fun e w' => ∃ b m d, e = .returned (.slice b m d) ∧ IntsAt w' b m d (lineB R B N) ∧ Below w.heap.size w w' := by
  obtain ⟨i0, hi0, hz0, hz1, hz2⟩ := info_parts intInfoBL
  have HR := hide hr
  have HQ := hide (lineB_len R B N)
  have hN3 := ticks_lim hN
  obtain ⟨hR0, hR1⟩ := hr.1
  obtain ⟨hB0, hB1⟩ := hr.2.1
  have hNN : (n < 0 ∧ N = 0) ∨ (0 ≤ n ∧ n ≤ 300 ∧ (N : Int) = n) ∨ (300 < n ∧ N = 300) := hN
  clear hr hN
  rcases hNN with ⟨hn, rfl⟩ | ⟨hn, hn', hn2⟩ | ⟨hn, rfl⟩
  · go_enter Try.func69, Try.ntmps69
    go_wp2_with fail
    refine (callT (bRight_any R B none 0 0 [] _ (IntsAt.nil_ _)) HR.out).mono ?_
    rintro e w1 ⟨rfl, B1⟩
    have b0 : w1.cell? ⟨w.heap.size, 0, none⟩ = some (.int .i64 R) := by rw [B1.cell (by simp)]; simp [go_sem]
    have b1 : w1.cell? ⟨w.heap.size, 1, none⟩ = some (.int .i64 B) := by rw [B1.cell (by simp)]; simp [go_sem]
    have hs1 : w.heap.size + 1 ≤ w1.heap.size := by have := B1.size; simpa using this
    have hBw : Below w.heap.size w w1 := ((Below.refl _ _).alloc (Nat.le_refl _) _).trans (B1.mono (by simp))
    clear B1
    go_wp2
    go_loopw [5, 13] (fun v i wr => ∃ k : Nat, k ≤ 0 ∧ i = .int .i64 k ∧ wr.ownsRow w1.heap.size 3 1 v k (((lineB R B 0).take k).map (Value.int .i64)) ∧ Below w1.heap.size w1 wr) (fun _ i _ => 0 - (intOf i).toNat)
    case atStart => exact ⟨0, Nat.zero_le _, rfl, own_start _ _ _ _, Below.refl _ _⟩
    case round =>
     obtain ⟨k, hk, rfl, hown, hB⟩ := hrel
     have k0 : (0 : Int) ≤ (k : Int) := Int.natCast_nonneg _
     have hBs := hB.size
     by_cases hlt : k < 0
     · exact absurd hlt (by omega)
     · obtain rfl : k = 0 := by omega
       obtain ⟨b, d, hv, hI⟩ := IntsAt.of_own (own_all HQ.out.symm hown) (by rw [HQ.out]; omega)
       subst hv
       clear hown
       go_wp2
       go_ret
       exact ⟨b, _, d, rfl, hI, hBw.trans (hB.mono (by omega))⟩
    
  · go_enter Try.func69, Try.ntmps69
    go_wp2_with fail
    refine (callT (bRight_any R B none 0 0 [] _ (IntsAt.nil_ _)) HR.out).mono ?_
    rintro e w1 ⟨rfl, B1⟩
    have b0 : w1.cell? ⟨w.heap.size, 0, none⟩ = some (.int .i64 R) := by rw [B1.cell (by simp)]; simp [go_sem]
    have b1 : w1.cell? ⟨w.heap.size, 1, none⟩ = some (.int .i64 B) := by rw [B1.cell (by simp)]; simp [go_sem]
    have hs1 : w.heap.size + 1 ≤ w1.heap.size := by have := B1.size; simpa using this
    have hBw : Below w.heap.size w w1 := ((Below.refl _ _).alloc (Nat.le_refl _) _).trans (B1.mono (by simp))
    clear B1
    go_wp2
    go_loopw [5, 13] (fun v i wr => ∃ k : Nat, k ≤ N ∧ i = .int .i64 k ∧ wr.ownsRow w1.heap.size 3 1 v k (((lineB R B N).take k).map (Value.int .i64)) ∧ Below w1.heap.size w1 wr) (fun _ i _ => N - (intOf i).toNat)
    case atStart => exact ⟨0, Nat.zero_le _, rfl, own_start _ _ _ _, Below.refl _ _⟩
    case round =>
     obtain ⟨k, hk, rfl, hown, hB⟩ := hrel
     have k0 : (0 : Int) ≤ (k : Int) := Int.natCast_nonneg _
     have hBs := hB.size
     by_cases hlt : k < N
     · have k1 : (k : Int) < n := by omega
       have c0 : wr.cell? ⟨w.heap.size, 0, none⟩ = some (.int .i64 R) := (hB.cell (by show w.heap.size < w1.heap.size; omega)).trans b0
       have c1 : wr.cell? ⟨w.heap.size, 1, none⟩ = some (.int .i64 B) := (hB.cell (by show w.heap.size < w1.heap.size; omega)).trans b1
       rcases (show k = 0 ∨ k = 1 ∨ ∃ q, 1 ≤ q ∧ k = q + 1 from by rcases k with _ | _ | j; exact .inl rfl; exact .inr (.inl rfl); exact .inr (.inr ⟨j + 1, by omega, rfl⟩)) with h0 | h0 | ⟨q, q1, h0⟩
       · subst h0
         have HN := hide (show (0 : Int) = (lineB R B N).getD 0 0 from lineB_get hlt)
         go_wp2_with (at_builtin; refine wpList_append_own _ rfl _ _ 30 rfl w1.heap.size 3 i0 (.int .i64 0) 1 8 Try.underlying30 hi0 hz0 hz1 hz2 rfl (by decide) _ _ _ rfl (hown.alloc _) ⟨wr.heap.size, 0, none⟩ 1 1 [.int .i64 (0)] rfl rfl (cell_one_new _ _ _) (by simp [Value.oneCell']) (by unfold maxLen; omega) (by omega) (by simp; omega) ?_; intro v' w2 hown1 hgrow _; have c0 := grown_cell hgrow hown (ad := ⟨w.heap.size, 0, none⟩) (by show w.heap.size < w1.heap.size; omega) (by simp; omega) ((((Below.refl wr.heap.size wr).alloc (Nat.le_refl _) _).cell (by show w.heap.size < wr.heap.size; omega)).trans c0); have c1 := grown_cell hgrow hown (ad := ⟨w.heap.size, 1, none⟩) (by show w.heap.size < w1.heap.size; omega) (by simp; omega) ((((Below.refl wr.heap.size wr).alloc (Nat.le_refl _) _).cell (by show w.heap.size < wr.heap.size; omega)).trans c1))
         go_wp2
         go_roundw
         case rel => exact ⟨1, by omega, by go_num, own_next (by rw [HQ.out]; omega) HN.out hown1, (hB.alloc hBs _).grown hgrow (by simp; omega) (own_row hown)⟩
         case measure => (simp [intOf] <;> omega)
       · subst h0
         have HN := hide (show B = (lineB R B N).getD 1 0 by rw [← lineB_get hlt]; simp [lnB])
         go_wp2_with (at_builtin; refine wpList_append_own _ rfl _ _ 30 rfl w1.heap.size 3 i0 (.int .i64 0) 1 8 Try.underlying30 hi0 hz0 hz1 hz2 rfl (by decide) _ _ _ rfl (hown.alloc _) ⟨wr.heap.size, 0, none⟩ 1 1 [.int .i64 (B)] rfl rfl (cell_one_new _ _ _) (by simp [Value.oneCell']) (by unfold maxLen; omega) (by omega) (by simp; omega) ?_; intro v' w2 hown1 hgrow _; have c0 := grown_cell hgrow hown (ad := ⟨w.heap.size, 0, none⟩) (by show w.heap.size < w1.heap.size; omega) (by simp; omega) ((((Below.refl wr.heap.size wr).alloc (Nat.le_refl _) _).cell (by show w.heap.size < wr.heap.size; omega)).trans c0); have c1 := grown_cell hgrow hown (ad := ⟨w.heap.size, 1, none⟩) (by show w.heap.size < w1.heap.size; omega) (by simp; omega) ((((Below.refl wr.heap.size wr).alloc (Nat.le_refl _) _).cell (by show w.heap.size < wr.heap.size; omega)).trans c1))
         go_wp2
         go_roundw
         case rel => exact ⟨2, by omega, by go_num, own_next (by rw [HQ.out]; omega) HN.out hown1, (hB.alloc hBs _).grown hgrow (by simp; omega) (own_row hown)⟩
         case measure => (simp [intOf] <;> omega)
       · subst h0
         obtain ⟨g, cap, hv, hg1, hg2, hcap, hcl, _⟩ := own_form hown
         subst hv
         obtain ⟨y, hy⟩ : ∃ y, lnB R B q = y := ⟨_, rfl⟩
         have hrow : ((((lineB R B N).take (q + 1)).map (Value.int .i64))[q]? : Option Value) = some (.int .i64 y) := (by
           rw [List.getElem?_map, List.getElem?_take, if_pos (by omega)]
           have e1 := lineB_get (R := R) (B := B) (N := N) (k := q) (by omega)
           have e2 : q < (lineB R B N).length := by rw [HQ.out]; omega
           rw [List.getD_eq_getElem?_getD, List.getElem?_eq_getElem e2] at e1
           rw [List.getElem?_eq_getElem e2]
           simp at e1; rw [← hy, e1]; rfl)
         have hcy : wr.cell? ⟨g, q, none⟩ = some (.int .i64 y) := hcl q _ hrow
         have hrow := hide hrow
         obtain ⟨y0, y1⟩ := lnB_bounds (R := R) (B := B) ⟨hR0, hR1⟩ ⟨hB0, hB1⟩ q
         rw [hy] at y0 y1
         have HN := hide (show y + minB R B = (lineB R B N).getD (q + 1) 0 by rw [← hy]; obtain ⟨r, rfl⟩ : ∃ r, q = r + 1 := ⟨q - 1, by omega⟩; rw [← lnB_step]; exact lineB_get hlt)
         clear hcl hy
         have j0 : (0 : Int) ≤ (q : Int) := Int.natCast_nonneg _
         have j1 : (q : Int) < 300 := by omega
         have j2 : (1 : Int) ≤ (q : Int) := by omega
         have j3 : (q : Int) < (q : Int) + 1 := by omega
         have hq0 : ((q + 1 : Nat) : Int) = (q : Int) + 1 := rfl
         have hq1 : ¬ ((q : Int) = 0) := by omega
         have hq2 : ((q : Int) == 0) = false := by simpa using hq1
         have HQ0 := hide hq0
         clear hq0
         go_wp2
         have hw1 : IntKind.i64.wrap ((q : Int) + 1 - 1) = (q : Int) := by rw [show (q : Int) + 1 - 1 = (q : Int) by omega]; exact IntWalk.i64_in _ (by omega)
         have hw2 : IntKind.i64.wrap (q : Int) = (q : Int) := IntWalk.i64_in _ (by omega)
         have hw3 : (q : Int).toNat = q := by omega
         have HN := hide (by have := HN.out; rw [show minB R B = min R B by unfold minB; omega] at this; exact this : y + min R B = (lineB R B N).getD (q + 1) 0)
         have hw4 : IntKind.i64.wrap (y + min R B) = y + min R B := IntWalk.i64_in _ (by omega)
         go_region_held3 (fun w' => w'.cell? ⟨g, q, none⟩ = some (.int .i64 y) ∧ w'.cell? ⟨w.heap.size, 0, none⟩ = some (.int .i64 R) ∧ w'.cell? ⟨w.heap.size, 1, none⟩ = some (.int .i64 B)) (first | ((try dsimp only); go_split_ands; refine ⟨c5, grown_cell hgrow hown (ad := ⟨w.heap.size, 0, none⟩) (by show w.heap.size < w1.heap.size; omega) (by simp; omega) (by assumption), grown_cell hgrow hown (ad := ⟨w.heap.size, 1, none⟩) (by show w.heap.size < w1.heap.size; omega) (by simp; omega) (by assumption)⟩) | (go_keep; done)) (first | (refine step_append_keeps (by rfl) _ _ _ (by rfl) w1.heap.size 3 i0 (.int .i64 0) 8 Try.underlying30 hi0 hz0 hz1 hz2 rfl g (q + 1) cap _ (by rfl) (by omega) ((hown.alloc _).drew) ⟨wr.heap.size, 0, none⟩ 1 1 [.int .i64 (y + min R B)] (by rfl) (by rfl) (World.news_of_block (cs := #[.int .i64 (y + min R B)]) (t := 3) (fr := (0, 0)) (heap_alloc_new wr _)) (by simp [Value.oneCell']) (by decide) (by unfold maxLen; omega) (by omega) (by simp; omega) ?_; intro gg cap2 w3 hown1 hgrow hglt hrd; have c5 := hrd q _ hrow.out))
         clear hw1 hw2 hw3 hw4
         go_wp2
         go_roundw
         case rel => exact ⟨q + 1 + 1, by omega, by go_num, own_next (by rw [HQ.out]; omega) HN.out hown1, ((hB.alloc hBs _).drew).grown hgrow (by simp; omega) (own_row hown)⟩
         case measure => (simp [intOf] <;> omega)
     · obtain rfl : k = N := by omega
       obtain ⟨b, d, hv, hI⟩ := IntsAt.of_own (own_all HQ.out.symm hown) (by rw [HQ.out]; omega)
       subst hv
       clear hown
       go_wp2
       go_ret
       exact ⟨b, _, d, rfl, hI, hBw.trans (hB.mono (by omega))⟩
    
  · go_enter Try.func69, Try.ntmps69
    go_wp2_with fail
    refine (callT (bRight_any R B none 0 0 [] _ (IntsAt.nil_ _)) HR.out).mono ?_
    rintro e w1 ⟨rfl, B1⟩
    have b0 : w1.cell? ⟨w.heap.size, 0, none⟩ = some (.int .i64 R) := by rw [B1.cell (by simp)]; simp [go_sem]
    have b1 : w1.cell? ⟨w.heap.size, 1, none⟩ = some (.int .i64 B) := by rw [B1.cell (by simp)]; simp [go_sem]
    have hs1 : w.heap.size + 1 ≤ w1.heap.size := by have := B1.size; simpa using this
    have hBw : Below w.heap.size w w1 := ((Below.refl _ _).alloc (Nat.le_refl _) _).trans (B1.mono (by simp))
    clear B1
    go_wp2
    go_loopw [5, 13] (fun v i wr => ∃ k : Nat, k ≤ 300 ∧ i = .int .i64 k ∧ wr.ownsRow w1.heap.size 3 1 v k (((lineB R B 300).take k).map (Value.int .i64)) ∧ Below w1.heap.size w1 wr) (fun _ i _ => 300 - (intOf i).toNat)
    case atStart => exact ⟨0, Nat.zero_le _, rfl, own_start _ _ _ _, Below.refl _ _⟩
    case round =>
     obtain ⟨k, hk, rfl, hown, hB⟩ := hrel
     have k0 : (0 : Int) ≤ (k : Int) := Int.natCast_nonneg _
     have hBs := hB.size
     by_cases hlt : k < 300
     · have k1 : (k : Int) < 300 := by omega
       have c0 : wr.cell? ⟨w.heap.size, 0, none⟩ = some (.int .i64 R) := (hB.cell (by show w.heap.size < w1.heap.size; omega)).trans b0
       have c1 : wr.cell? ⟨w.heap.size, 1, none⟩ = some (.int .i64 B) := (hB.cell (by show w.heap.size < w1.heap.size; omega)).trans b1
       rcases (show k = 0 ∨ k = 1 ∨ ∃ q, 1 ≤ q ∧ k = q + 1 from by rcases k with _ | _ | j; exact .inl rfl; exact .inr (.inl rfl); exact .inr (.inr ⟨j + 1, by omega, rfl⟩)) with h0 | h0 | ⟨q, q1, h0⟩
       · subst h0
         have HN := hide (show (0 : Int) = (lineB R B 300).getD 0 0 from lineB_get hlt)
         go_wp2_with (at_builtin; refine wpList_append_own _ rfl _ _ 30 rfl w1.heap.size 3 i0 (.int .i64 0) 1 8 Try.underlying30 hi0 hz0 hz1 hz2 rfl (by decide) _ _ _ rfl (hown.alloc _) ⟨wr.heap.size, 0, none⟩ 1 1 [.int .i64 (0)] rfl rfl (cell_one_new _ _ _) (by simp [Value.oneCell']) (by unfold maxLen; omega) (by omega) (by simp; omega) ?_; intro v' w2 hown1 hgrow _; have c0 := grown_cell hgrow hown (ad := ⟨w.heap.size, 0, none⟩) (by show w.heap.size < w1.heap.size; omega) (by simp; omega) ((((Below.refl wr.heap.size wr).alloc (Nat.le_refl _) _).cell (by show w.heap.size < wr.heap.size; omega)).trans c0); have c1 := grown_cell hgrow hown (ad := ⟨w.heap.size, 1, none⟩) (by show w.heap.size < w1.heap.size; omega) (by simp; omega) ((((Below.refl wr.heap.size wr).alloc (Nat.le_refl _) _).cell (by show w.heap.size < wr.heap.size; omega)).trans c1))
         go_wp2
         go_roundw
         case rel => exact ⟨1, by omega, by go_num, own_next (by rw [HQ.out]; omega) HN.out hown1, (hB.alloc hBs _).grown hgrow (by simp; omega) (own_row hown)⟩
         case measure => (simp [intOf] <;> omega)
       · subst h0
         have HN := hide (show B = (lineB R B 300).getD 1 0 by rw [← lineB_get hlt]; simp [lnB])
         go_wp2_with (at_builtin; refine wpList_append_own _ rfl _ _ 30 rfl w1.heap.size 3 i0 (.int .i64 0) 1 8 Try.underlying30 hi0 hz0 hz1 hz2 rfl (by decide) _ _ _ rfl (hown.alloc _) ⟨wr.heap.size, 0, none⟩ 1 1 [.int .i64 (B)] rfl rfl (cell_one_new _ _ _) (by simp [Value.oneCell']) (by unfold maxLen; omega) (by omega) (by simp; omega) ?_; intro v' w2 hown1 hgrow _; have c0 := grown_cell hgrow hown (ad := ⟨w.heap.size, 0, none⟩) (by show w.heap.size < w1.heap.size; omega) (by simp; omega) ((((Below.refl wr.heap.size wr).alloc (Nat.le_refl _) _).cell (by show w.heap.size < wr.heap.size; omega)).trans c0); have c1 := grown_cell hgrow hown (ad := ⟨w.heap.size, 1, none⟩) (by show w.heap.size < w1.heap.size; omega) (by simp; omega) ((((Below.refl wr.heap.size wr).alloc (Nat.le_refl _) _).cell (by show w.heap.size < wr.heap.size; omega)).trans c1))
         go_wp2
         go_roundw
         case rel => exact ⟨2, by omega, by go_num, own_next (by rw [HQ.out]; omega) HN.out hown1, (hB.alloc hBs _).grown hgrow (by simp; omega) (own_row hown)⟩
         case measure => (simp [intOf] <;> omega)
       · subst h0
         obtain ⟨g, cap, hv, hg1, hg2, hcap, hcl, _⟩ := own_form hown
         subst hv
         obtain ⟨y, hy⟩ : ∃ y, lnB R B q = y := ⟨_, rfl⟩
         have hrow : ((((lineB R B 300).take (q + 1)).map (Value.int .i64))[q]? : Option Value) = some (.int .i64 y) := (by
           rw [List.getElem?_map, List.getElem?_take, if_pos (by omega)]
           have e1 := lineB_get (R := R) (B := B) (N := 300) (k := q) (by omega)
           have e2 : q < (lineB R B 300).length := by rw [HQ.out]; omega
           rw [List.getD_eq_getElem?_getD, List.getElem?_eq_getElem e2] at e1
           rw [List.getElem?_eq_getElem e2]
           simp at e1; rw [← hy, e1]; rfl)
         have hcy : wr.cell? ⟨g, q, none⟩ = some (.int .i64 y) := hcl q _ hrow
         have hrow := hide hrow
         obtain ⟨y0, y1⟩ := lnB_bounds (R := R) (B := B) ⟨hR0, hR1⟩ ⟨hB0, hB1⟩ q
         rw [hy] at y0 y1
         have HN := hide (show y + minB R B = (lineB R B 300).getD (q + 1) 0 by rw [← hy]; obtain ⟨r, rfl⟩ : ∃ r, q = r + 1 := ⟨q - 1, by omega⟩; rw [← lnB_step]; exact lineB_get hlt)
         clear hcl hy
         have j0 : (0 : Int) ≤ (q : Int) := Int.natCast_nonneg _
         have j1 : (q : Int) < 300 := by omega
         have j2 : (1 : Int) ≤ (q : Int) := by omega
         have j3 : (q : Int) < (q : Int) + 1 := by omega
         have hq0 : ((q + 1 : Nat) : Int) = (q : Int) + 1 := rfl
         have hq1 : ¬ ((q : Int) = 0) := by omega
         have hq2 : ((q : Int) == 0) = false := by simpa using hq1
         have HQ0 := hide hq0
         clear hq0
         go_wp2
         have hw1 : IntKind.i64.wrap ((q : Int) + 1 - 1) = (q : Int) := by rw [show (q : Int) + 1 - 1 = (q : Int) by omega]; exact IntWalk.i64_in _ (by omega)
         have hw2 : IntKind.i64.wrap (q : Int) = (q : Int) := IntWalk.i64_in _ (by omega)
         have hw3 : (q : Int).toNat = q := by omega
         have HN := hide (by have := HN.out; rw [show minB R B = min R B by unfold minB; omega] at this; exact this : y + min R B = (lineB R B 300).getD (q + 1) 0)
         have hw4 : IntKind.i64.wrap (y + min R B) = y + min R B := IntWalk.i64_in _ (by omega)
         go_region_held3 (fun w' => w'.cell? ⟨g, q, none⟩ = some (.int .i64 y) ∧ w'.cell? ⟨w.heap.size, 0, none⟩ = some (.int .i64 R) ∧ w'.cell? ⟨w.heap.size, 1, none⟩ = some (.int .i64 B)) (first | ((try dsimp only); go_split_ands; refine ⟨c5, grown_cell hgrow hown (ad := ⟨w.heap.size, 0, none⟩) (by show w.heap.size < w1.heap.size; omega) (by simp; omega) (by assumption), grown_cell hgrow hown (ad := ⟨w.heap.size, 1, none⟩) (by show w.heap.size < w1.heap.size; omega) (by simp; omega) (by assumption)⟩) | (go_keep; done)) (first | (refine step_append_keeps (by rfl) _ _ _ (by rfl) w1.heap.size 3 i0 (.int .i64 0) 8 Try.underlying30 hi0 hz0 hz1 hz2 rfl g (q + 1) cap _ (by rfl) (by omega) ((hown.alloc _).drew) ⟨wr.heap.size, 0, none⟩ 1 1 [.int .i64 (y + min R B)] (by rfl) (by rfl) (World.news_of_block (cs := #[.int .i64 (y + min R B)]) (t := 3) (fr := (0, 0)) (heap_alloc_new wr _)) (by simp [Value.oneCell']) (by decide) (by unfold maxLen; omega) (by omega) (by simp; omega) ?_; intro gg cap2 w3 hown1 hgrow hglt hrd; have c5 := hrd q _ hrow.out))
         clear hw1 hw2 hw3 hw4
         go_wp2
         go_roundw
         case rel => exact ⟨q + 1 + 1, by omega, by go_num, own_next (by rw [HQ.out]; omega) HN.out hown1, ((hB.alloc hBs _).drew).grown hgrow (by simp; omega) (own_row hown)⟩
         case measure => (simp [intOf] <;> omega)
     · obtain rfl : k = 300 := by omega
       obtain ⟨b, d, hv, hI⟩ := IntsAt.of_own (own_all HQ.out.symm hown) (by rw [HQ.out]; omega)
       subst hv
       clear hown
       go_wp2
       go_ret
       exact ⟨b, _, d, rfl, hI, hBw.trans (hB.mono (by omega))⟩
    

end Go.Proofs.Ythokolfgagkmiaa
