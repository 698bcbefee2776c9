/-
  Lemmas and walks for the statement: Num, BPass, PQueue, Tick, Play, Equal.
-/
import Derived.Test.YtjjikhaaimfneaaGreatDoorU29
import Derived.Test.YtjjikhaaimfneaaGreatDoorProg
import Derived.Test.YtjjikhaaimfneaaGreatDoorU37
import Derived.Test.YtjjikhaaimfneaaGreatDoorU01
import Derived.Test.YtjjikhaaimfneaaGreatDoorU02
import Derived.OneCell
import Derived.Test.YtjjikhaaimfneaaGreatDoorU31
import Derived.Deep.AppendLies
namespace Go.Proofs.YtjjikhaaimfneaaGreatDoor
open Go.RowKit
set_option linter.unusedSimpArgs false
set_option linter.unusedVariables false
set_option maxHeartbeats 1000000 in
theorem fit_any (a : Int) (w : World) :
 Calls Tryz.prog 70 #[.int .i64 a] w fun e w' => e = .returned (.int .i64 (fitI a)) ∧ w = w' := by
 go_enter Tryz.func70, Tryz.ntmps70
 go_wp2
 all_goals (go_ret; refine ⟨retI ?_, rfl⟩)
 all_goals (unfold fitI; omega)
set_option maxHeartbeats 1000000 in
theorem plus_any (a b : Int) (w : World) :
 Calls Tryz.prog 50 #[.int .i64 a, .int .i64 b] w fun e w' => e = .returned (.int .i64 (plusI a b)) ∧ w = w' := by
 have f1 := fit_ge a; have f2 := fit_le a; have f3 := fit_ge b; have f4 := fit_le b
 go_enter Tryz.func50, Tryz.ntmps50
 go_wp2_with (go_at_call 70; refine (fit_any _ _).mono ?_; rintro e w1 ⟨rfl, rfl⟩)
 all_goals (go_ret; refine ⟨retI ?_, rfl⟩)
 all_goals (unfold plusI; omega)
end Go.Proofs.YtjjikhaaimfneaaGreatDoor
namespace Go.Proofs.YtjjikhaaimfneaaGreatDoor
open Go.RowKit
set_option linter.unusedSimpArgs false
set_option linter.unusedVariables false
theorem intInfoB : (Tryz.prog.info? 3).map (fun i => (i.zero, i.size, i.bytes)) = some (some (.int .i64 0), 1, 8) := by kernel_rfl
set_option maxRecDepth 100000 in
set_option maxHeartbeats 4000000 in
theorem bPass_ok (R B : Int) (a : Option Addr) (n c : Nat) (xs : List Int) (w : World) (h : IntsAt w a n c xs) (hr : RightB R B xs) :
 Calls Tryz.prog 8 #[.agg #[.int .i64 R, .int .i64 B], .slice a n c] w fun e w' => ∃ b m d, e = .returned (.slice b m d) ∧ IntsAt w' b m d (passB R B xs) ∧ Below w.heap.size w w' := by
 obtain ⟨i0, hi0, hz0, hz1, hz2⟩ := info_parts intInfoB
 have HR := hide hr
 have HL := hide h.len
 have HQ := hide (show (passB R B xs).length = n by rw [passB_len, h.len])
 have hn : n < 300 := by rw [← HL.out]; exact hr.2.2.1
 obtain ⟨hR0, hR1⟩ := hr.1
 obtain ⟨hB0, hB1⟩ := hr.2.1
 have hW := h.below ((Below.refl w.heap.size w).alloc (Nat.le_refl _) (.cells #[.int .i64 R, .int .i64 B] 23))
 clear hr
 go_enter Tryz.func8, Tryz.ntmps8
 go_wp2_with fail
 refine (callT (bRight_any _ _ _ _ _ _ _ hW) HR.out).mono ?_
 rintro e w1 ⟨rfl, B1⟩
 have b0 : w1.cell? ⟨w.heap.size, 0, none⟩ = some (.int .i64 R) := by rw [B1.cell (by simp)]; simp [go_sem]
 have b1 : w1.cell? ⟨w.heap.size, 1, none⟩ = some (.int .i64 B) := by rw [B1.cell (by simp)]; simp [go_sem]
 have hs1 : w.heap.size + 1 ≤ w1.heap.size := by have := B1.size; simpa using this
 have h1 := hW.below B1
 have hBw : Below w.heap.size w w1 := ((Below.refl _ _).alloc (Nat.le_refl _) _).trans (B1.mono (by simp))
 clear h hW B1
 go_wp2
 go_loopw [5, 6, 7, 19] (fun v t u i wr => ∃ k : Nat, k ≤ n ∧ i = .int .i64 k ∧ t = .int .i64 (stB R B xs k).1 ∧ u = .int .i64 (stB R B xs k).2 ∧ wr.ownsRow w1.heap.size 3 1 v k (((passB R B xs).take k).map (Value.int .i64)) ∧ Below w1.heap.size w1 wr) (fun _ _ _ i _ => n - (intOf i).toNat)
 case atStart => exact ⟨0, Nat.zero_le _, rfl, rfl, rfl, own_start _ _ _ _, Below.refl _ _⟩
 case round =>
  obtain ⟨k, hk, rfl, rfl, rfl, hown, hB⟩ := hrel
  by_cases hlt : k < n
  · skip
    obtain ⟨ad, x, rfl, hbd, hc, HX⟩ := h1.getB hB hlt
    have k0 : (0 : Int) ≤ (k : Int) := Int.natCast_nonneg _
    have k1 : (k : Int) < (n : Int) := by omega
    have hBs := hB.size
    have c0 : wr.cell? ⟨w.heap.size, 0, none⟩ = some (.int .i64 R) := (hB.cell (by show w.heap.size < w1.heap.size; omega)).trans b0
    have c1 : wr.cell? ⟨w.heap.size, 1, none⟩ = some (.int .i64 B) := (hB.cell (by show w.heap.size < w1.heap.size; omega)).trans b1
    obtain ⟨t1, t2, t3, t4⟩ := st_bounds HR.out k
    have hkx := getD_of HX.out
    obtain ⟨x0, x1⟩ : 0 ≤ x ∧ x ≤ 1099511627776 := small_at HR.out.2.2.2 HX.out
    clear h1 b0 b1
    have HN := hide (show nowB R B xs k = (passB R B xs).getD k 0 from passB_get (by rw [HL.out]; exact hlt))
    have HT := hide (st_succ1 R B xs k)
    have HU := hide (st_succ2 R B xs k)
    have hnow := hide (show nowB R B xs k = minB ((stB R B xs k).2 + xs.getD k 0) (stB R B xs k).1 from rfl)
    obtain ⟨tk, htk⟩ : ∃ tk, (stB R B xs k).1 = tk := ⟨_, rfl⟩
    obtain ⟨wk, hwk⟩ : ∃ wk, (stB R B xs k).2 = wk := ⟨_, rfl⟩
    have hnow := hide (by have := hnow.out; rw [htk, hwk, hkx] at this; exact this : nowB R B xs k = minB (wk + x) tk)
    have HT := hide (by have := HT.out; rw [htk] at this; exact this : (stB R B xs (k + 1)).1 = minB (tk - nowB R B xs k + R) B)
    have HU := hide (by have := HU.out; rw [hwk, hkx] at this; exact this : (stB R B xs (k + 1)).2 = wk + x - nowB R B xs k)
    rw [htk] at t1 t2
    rw [hwk] at t3 t4
    rw [htk, hwk]
    clear htk hwk hkx
    rcases (show wk + x ≤ tk ∨ tk < wk + x by omega) with q1 | q1
    · have hnow := hide (by rw [hnow.out]; exact minB_l q1 : nowB R B xs k = wk + x)
      rcases (show tk - (wk + x) + R ≤ B ∨ B < tk - (wk + x) + R by omega) with q2 | q2
      · have HT := hide (by rw [HT.out, hnow.out]; exact minB_l q2 : (stB R B xs (k + 1)).1 = tk - (wk + x) + R)
        have HU := hide (by rw [HU.out, hnow.out] : (stB R B xs (k + 1)).2 = wk + x - (wk + x))
        have HN := hide (by rw [← HN.out, hnow.out] : wk + x = (passB R B xs).getD k 0)
        clear hnow
        go_wp2_with (at_builtin; refine wpList_append_own _ rfl _ _ 24 rfl w1.heap.size 3 i0 (.int .i64 0) 1 8 Tryz.underlying24 hi0 hz0 hz1 hz2 rfl (by decide) _ _ _ rfl (hown.alloc _) ⟨wr.heap.size, 0, none⟩ 1 1 [.int .i64 (wk + x)] rfl rfl (cell_one_new _ _ _) (by simp [Value.oneCell']) (by unfold maxLen; omega) (by omega) (by simp; omega) ?_; intro v' w2 hown1 hgrow _; have c0 := grown_cell hgrow hown (ad := ⟨w.heap.size, 0, none⟩) (by show w.heap.size < w1.heap.size; omega) (by simp; omega) ((((Below.refl wr.heap.size wr).alloc (Nat.le_refl _) _).cell (by show w.heap.size < wr.heap.size; omega)).trans c0); have c1 := grown_cell hgrow hown (ad := ⟨w.heap.size, 1, none⟩) (by show w.heap.size < w1.heap.size; omega) (by simp; omega) ((((Below.refl wr.heap.size wr).alloc (Nat.le_refl _) _).cell (by show w.heap.size < wr.heap.size; omega)).trans c1))
        go_wp2
        go_roundw
        case rel => exact ⟨k + 1, by omega, by go_num, (by rw [HT.out]; try (congr 1; omega)), (by rw [HU.out]; try (congr 1; omega)), own_next (by rw [HQ.out]; omega) HN.out hown1, (hB.alloc hBs _).grown hgrow (by simp; omega) (own_row hown)⟩
        case measure => simp [intOf]; omega
      · have HT := hide (by rw [HT.out, hnow.out]; exact minB_r q2 : (stB R B xs (k + 1)).1 = B)
        have HU := hide (by rw [HU.out, hnow.out] : (stB R B xs (k + 1)).2 = wk + x - (wk + x))
        have HN := hide (by rw [← HN.out, hnow.out] : wk + x = (passB R B xs).getD k 0)
        clear hnow
        go_wp2_with (at_builtin; refine wpList_append_own _ rfl _ _ 24 rfl w1.heap.size 3 i0 (.int .i64 0) 1 8 Tryz.underlying24 hi0 hz0 hz1 hz2 rfl (by decide) _ _ _ rfl (hown.alloc _) ⟨wr.heap.size, 0, none⟩ 1 1 [.int .i64 (wk + x)] rfl rfl (cell_one_new _ _ _) (by simp [Value.oneCell']) (by unfold maxLen; omega) (by omega) (by simp; omega) ?_; intro v' w2 hown1 hgrow _; have c0 := grown_cell hgrow hown (ad := ⟨w.heap.size, 0, none⟩) (by show w.heap.size < w1.heap.size; omega) (by simp; omega) ((((Below.refl wr.heap.size wr).alloc (Nat.le_refl _) _).cell (by show w.heap.size < wr.heap.size; omega)).trans c0); have c1 := grown_cell hgrow hown (ad := ⟨w.heap.size, 1, none⟩) (by show w.heap.size < w1.heap.size; omega) (by simp; omega) ((((Below.refl wr.heap.size wr).alloc (Nat.le_refl _) _).cell (by show w.heap.size < wr.heap.size; omega)).trans c1))
        go_wp2
        go_roundw
        case rel => exact ⟨k + 1, by omega, by go_num, (by rw [HT.out]; try (congr 1; omega)), (by rw [HU.out]; try (congr 1; omega)), own_next (by rw [HQ.out]; omega) HN.out hown1, (hB.alloc hBs _).grown hgrow (by simp; omega) (own_row hown)⟩
        case measure => simp [intOf]; omega
    · have hnow := hide (by rw [hnow.out]; exact minB_r q1 : nowB R B xs k = tk)
      rcases (show tk - (tk) + R ≤ B ∨ B < tk - (tk) + R by omega) with q2 | q2
      · have HT := hide (by rw [HT.out, hnow.out]; exact minB_l q2 : (stB R B xs (k + 1)).1 = tk - (tk) + R)
        have HU := hide (by rw [HU.out, hnow.out] : (stB R B xs (k + 1)).2 = wk + x - (tk))
        have HN := hide (by rw [← HN.out, hnow.out] : tk = (passB R B xs).getD k 0)
        clear hnow
        go_wp2_with (at_builtin; refine wpList_append_own _ rfl _ _ 24 rfl w1.heap.size 3 i0 (.int .i64 0) 1 8 Tryz.underlying24 hi0 hz0 hz1 hz2 rfl (by decide) _ _ _ rfl (hown.alloc _) ⟨wr.heap.size, 0, none⟩ 1 1 [.int .i64 (tk)] rfl rfl (cell_one_new _ _ _) (by simp [Value.oneCell']) (by unfold maxLen; omega) (by omega) (by simp; omega) ?_; intro v' w2 hown1 hgrow _; have c0 := grown_cell hgrow hown (ad := ⟨w.heap.size, 0, none⟩) (by show w.heap.size < w1.heap.size; omega) (by simp; omega) ((((Below.refl wr.heap.size wr).alloc (Nat.le_refl _) _).cell (by show w.heap.size < wr.heap.size; omega)).trans c0); have c1 := grown_cell hgrow hown (ad := ⟨w.heap.size, 1, none⟩) (by show w.heap.size < w1.heap.size; omega) (by simp; omega) ((((Below.refl wr.heap.size wr).alloc (Nat.le_refl _) _).cell (by show w.heap.size < wr.heap.size; omega)).trans c1))
        go_wp2
        go_roundw
        case rel => exact ⟨k + 1, by omega, by go_num, (by rw [HT.out]; try (congr 1; omega)), (by rw [HU.out]; try (congr 1; omega)), own_next (by rw [HQ.out]; omega) HN.out hown1, (hB.alloc hBs _).grown hgrow (by simp; omega) (own_row hown)⟩
        case measure => simp [intOf]; omega
      · have HT := hide (by rw [HT.out, hnow.out]; exact minB_r q2 : (stB R B xs (k + 1)).1 = B)
        have HU := hide (by rw [HU.out, hnow.out] : (stB R B xs (k + 1)).2 = wk + x - (tk))
        have HN := hide (by rw [← HN.out, hnow.out] : tk = (passB R B xs).getD k 0)
        clear hnow
        go_wp2_with (at_builtin; refine wpList_append_own _ rfl _ _ 24 rfl w1.heap.size 3 i0 (.int .i64 0) 1 8 Tryz.underlying24 hi0 hz0 hz1 hz2 rfl (by decide) _ _ _ rfl (hown.alloc _) ⟨wr.heap.size, 0, none⟩ 1 1 [.int .i64 (tk)] rfl rfl (cell_one_new _ _ _) (by simp [Value.oneCell']) (by unfold maxLen; omega) (by omega) (by simp; omega) ?_; intro v' w2 hown1 hgrow _; have c0 := grown_cell hgrow hown (ad := ⟨w.heap.size, 0, none⟩) (by show w.heap.size < w1.heap.size; omega) (by simp; omega) ((((Below.refl wr.heap.size wr).alloc (Nat.le_refl _) _).cell (by show w.heap.size < wr.heap.size; omega)).trans c0); have c1 := grown_cell hgrow hown (ad := ⟨w.heap.size, 1, none⟩) (by show w.heap.size < w1.heap.size; omega) (by simp; omega) ((((Below.refl wr.heap.size wr).alloc (Nat.le_refl _) _).cell (by show w.heap.size < wr.heap.size; omega)).trans c1))
        go_wp2
        go_roundw
        case rel => exact ⟨k + 1, by omega, by go_num, (by rw [HT.out]; try (congr 1; omega)), (by rw [HU.out]; try (congr 1; omega)), own_next (by rw [HQ.out]; omega) HN.out hown1, (hB.alloc hBs _).grown hgrow (by simp; omega) (own_row hown)⟩
        case measure => simp [intOf]; omega
  · obtain ⟨b, d, hv, hI⟩ := IntsAt.of_own (own_all (by rw [HQ.out]; omega) hown) (by rw [HQ.out]; omega)
    subst hv
    clear h1 hown
    go_wp2
    go_ret
    exact ⟨b, _, d, rfl, hI, hBw.trans (hB.mono (by omega))⟩
set_option maxHeartbeats 1000000 in
theorem bPass_bad (R B : Int) (a : Option Addr) (n c : Nat) (xs : List Int) (w : World) (h : IntsAt w a n c xs) (hr : ¬ RightB R B xs) :
 Calls Tryz.prog 8 #[.agg #[.int .i64 R, .int .i64 B], .slice a n c] w fun e w' => e = .returned (.slice none 0 0) ∧ Below w.heap.size w w' := by
 have HR := hide hr
 have hW := h.below ((Below.refl w.heap.size w).alloc (Nat.le_refl _) (.cells #[.int .i64 R, .int .i64 B] 23))
 clear hr h
 go_enter Tryz.func8, Tryz.ntmps8
 go_wp2_with fail
 refine (callF (bRight_any _ _ _ _ _ _ _ hW) HR.out).mono ?_
 rintro e w1 ⟨rfl, B1⟩
 go_wp2
 go_ret
 exact ⟨rfl, ((Below.refl _ _).alloc (Nat.le_refl _) _).trans (B1.mono (by simp))⟩
end Go.Proofs.YtjjikhaaimfneaaGreatDoor
namespace Go.Proofs.YtjjikhaaimfneaaGreatDoor
open Go.RowKit
set_option linter.unusedSimpArgs false
set_option linter.unusedVariables false
def qW (r m : Int) (xs : List Int) : Nat → Int
 | 0 => 0
 | k + 1 => qW r m xs k + xs.getD k 0 - min (qW r m xs k + xs.getD k 0) r - max (qW r m xs k + xs.getD k 0 - min (qW r m xs k + xs.getD k 0) r - m) 0
def qG (r m : Int) (xs : List Int) (k : Nat) : Int := min (qW r m xs k + xs.getD k 0) r
def qL (r m : Int) (xs : List Int) (k : Nat) : Int := max (qW r m xs k + xs.getD k 0 - min (qW r m xs k + xs.getD k 0) r - m) 0
def goL (r m : Int) (xs : List Int) : List Int := (List.range xs.length).map (qG r m xs)
def loL (r m : Int) (xs : List Int) : List Int := (List.range xs.length).map (qL r m xs)
def waL (r m : Int) (xs : List Int) : List Int := (List.range xs.length).map fun (k : Nat) => qW r m xs (k + 1)
theorem goL_len (r m : Int) (xs : List Int) : (goL r m xs).length = xs.length := by simp [goL]
theorem loL_len (r m : Int) (xs : List Int) : (loL r m xs).length = xs.length := by simp [loL]
theorem waL_len (r m : Int) (xs : List Int) : (waL r m xs).length = xs.length := by simp [waL]
theorem goL_get {r m : Int} {xs : List Int} {k : Nat} (h : k < xs.length) : qG r m xs k = (goL r m xs).getD k 0 := by
 rw [List.getD_eq_getElem?_getD]; simp [goL, List.getElem?_range, h]
theorem loL_get {r m : Int} {xs : List Int} {k : Nat} (h : k < xs.length) : qL r m xs k = (loL r m xs).getD k 0 := by
 rw [List.getD_eq_getElem?_getD]; simp [loL, List.getElem?_range, h]
theorem waL_get {r m : Int} {xs : List Int} {k : Nat} (h : k < xs.length) : qW r m xs (k + 1) = (waL r m xs).getD k 0 := by
 rw [List.getD_eq_getElem?_getD]; simp [waL, List.getElem?_range, h]
theorem qW_b {r m : Int} {xs : List Int} (hr : RightB r m xs) : ∀ k, 0 ≤ qW r m xs k ∧ qW r m xs k ≤ m
 | 0 => by have := hr.2.1; simp [qW]; omega
 | k + 1 => by
   have ih := qW_b hr k
   have hx := small_getD hr.2.2.2 k
   have h1 := hr.1
   have h2 := hr.2.1
   simp only [qW]; omega
end Go.Proofs.YtjjikhaaimfneaaGreatDoor
namespace Go.Proofs.YtjjikhaaimfneaaGreatDoor
open Go.RowKit
set_option linter.unusedSimpArgs false
set_option linter.unusedVariables false
attribute [local go_sem] iteMin iteMax iteMinN iteMaxN
theorem cell3 {w : World} {b : Nat} {x y z : Value} {t : TypeId} (h : w.heap[b]? = some (.cells #[x, y, z] t (0, 0))) : w.cell? ⟨b, 0, none⟩ = some x ∧ w.cell? ⟨b, 1, none⟩ = some y ∧ w.cell? ⟨b, 2, none⟩ = some z ∧ (∀ j, w.frozen? ⟨b, j, none⟩ = false) := by
 refine ⟨?_, ?_, ?_, fun j => ?_⟩ <;> simp [World.cell?, World.frozen?, h]
theorem set3 {w : World} {b : Nat} {x y z u : Value} {t : TypeId} (h : w.heap[b]? = some (.cells #[x, y, z] t (0, 0))) : (w.setCell ⟨b, 2, none⟩ u).heap[b]? = some (.cells #[x, y, u] t (0, 0)) := by
 have hb := lt_of_block h
 simp [World.setCell, h, Array.getElem?_modify]
theorem grown_set (w : World) (b j : Nat) (u : Value) : w.grownBy (w.setCell ⟨b, j, none⟩ u) (some b) := by
 refine ⟨rfl, rfl, rfl, by simp [World.setCell], fun k hk hne => ?_⟩
 have hne' : ¬ b = k := fun e => hne (by rw [e])
 simp [World.setCell, Array.getElem?_modify, hne']
theorem grown_trans {a b c : World} {row : Option Nat} (h : a.grownBy b row) (h' : b.grownBy c row) : a.grownBy c row :=
 ⟨h'.os.trans h.os, h'.tape.trans h.tape, h'.output.trans h.output, Nat.le_trans h.size h'.size, fun k hk hne => (h'.block k (Nat.lt_of_lt_of_le hk h.size) hne).trans (h.block k hk hne)⟩
theorem grown_drewN (w : World) (m : Nat) (row : Option Nat) : w.grownBy (w.drewN m) row := ⟨rfl, rfl, rfl, Nat.le_refl _, fun _ _ _ => rfl⟩
theorem tick_world {w : World} {b : Nat} {x y z : Value} {t : TypeId} (a1 a2 a3 : Value) (m n : Nat) (h : w.heap[b]? = some (.cells #[x, y, z] t (0, 0))) :
 (((((w.setCell ⟨b, 2, none⟩ a1).drewN m).setCell ⟨b, 2, none⟩ a2).drewN n).setCell ⟨b, 2, none⟩ a3).heap[b]? = some (.cells #[x, y, a3] t (0, 0)) ∧
 w.grownBy (((((w.setCell ⟨b, 2, none⟩ a1).drewN m).setCell ⟨b, 2, none⟩ a2).drewN n).setCell ⟨b, 2, none⟩ a3) (some b) := by
 have h1 := set3 (u := a1) h
 have h2 := set3 (w := (w.setCell ⟨b, 2, none⟩ a1).drewN m) (u := a2) h1
 have h3 := set3 (w := ((((w.setCell ⟨b, 2, none⟩ a1).drewN m).setCell ⟨b, 2, none⟩ a2).drewN n)) (u := a3) h2
 exact ⟨h3, grown_trans (grown_trans (grown_trans (grown_trans (grown_set _ _ _ _) (grown_drewN _ _ _)) (grown_set _ _ _ _)) (grown_drewN _ _ _)) (grown_set _ _ _ _)⟩
set_option maxHeartbeats 4000000 in
theorem tick_any (b : Nat) (r m wt x : Int) (w : World) (hb : w.heap[b]? = some (.cells #[.int .i64 r, .int .i64 m, .int .i64 wt] 69 (0, 0))) (hr : 0 ≤ r ∧ r ≤ 1099511627776) (hm : 0 ≤ m ∧ m ≤ 1099511627776) (hw : 0 ≤ wt ∧ wt ≤ 1099511627776) (hx : 0 ≤ x ∧ x ≤ 1099511627776) :
 Calls Tryz.prog 28 #[.pointer (some ⟨b, 0, none⟩), .int .i64 x] w fun e w' => e = .returned (.tuple #[.int .i64 (min (wt + x) r), .int .i64 (max (wt + x - min (wt + x) r - m) 0)]) ∧ w'.heap[b]? = some (.cells #[.int .i64 r, .int .i64 m, .int .i64 (wt + x - min (wt + x) r - max (wt + x - min (wt + x) r - m) 0)] 69 (0, 0)) ∧ w.grownBy w' (some b) := by
 obtain ⟨c0, c1, c2, cf⟩ := cell3 hb
 obtain ⟨r0, r1⟩ := hr
 obtain ⟨m0, m1⟩ := hm
 obtain ⟨w0, w1⟩ := hw
 obtain ⟨x0, x1⟩ := hx
 have hf := cf 2
 have HB := hide hb
 clear cf hb
 go_enter Tryz.func28, Tryz.ntmps28
 go_wp2
 go_quiet (fail)
 go_wp2
 go_quiet (fail)
 go_wp2
 go_ret2
 exact ⟨rfl, tick_world _ _ _ _ _ HB.out⟩
end Go.Proofs.YtjjikhaaimfneaaGreatDoor
namespace Go.Proofs.YtjjikhaaimfneaaGreatDoor
open Go.RowKit
set_option linter.unusedSimpArgs false
set_option linter.unusedVariables false
attribute [local go_sem] iteMin iteMax iteMinN iteMaxN
theorem intInfoQ : (Tryz.prog.info? 3).map (fun i => (i.zero, i.size, i.bytes)) = some (some (.int .i64 0), 1, 8) := by kernel_rfl
theorem right_ok (r m : Int) (a : Option Addr) (n c : Nat) (xs : List Int) (w : World) (h : IntsAt w a n c xs) :
 Calls Tryz.prog 10 #[.int .i64 r, .int .i64 m, .slice a n c] w fun e w' => IsB (RightB r m xs) e ∧ Below w.heap.size w w' := by
 go_enter Tryz.func10, Tryz.ntmps10
 go_wp2_with fail
 refine (bRight_any _ _ _ _ _ _ _ h).mono ?_
 rintro e w1 ⟨⟨b, hb, rfl⟩, B1⟩
 go_wp2
 go_ret
 exact ⟨⟨b, hb, rfl⟩, B1⟩
def Three (A B C : List Int) (e : Ending) (w' : World) : Prop := ∃ b1 n1 d1 b2 n2 d2 b3 n3 d3, e = .returned (.tuple #[.slice b1 n1 d1, .slice b2 n2 d2, .slice b3 n3 d3]) ∧ IntsAt w' b1 n1 d1 A ∧ IntsAt w' b2 n2 d2 B ∧ IntsAt w' b3 n3 d3 C
theorem three_of {w : World} {B e k : Nat} {A1 A2 A3 : List Int} {v1 v2 v3 : Value} (h : R3 w B e A1 A2 A3 v1 k v2 k v3 k) (h1 : A1.length = k) (h2 : A2.length = k) (h3 : A3.length = k) (hk : k ≤ 17592186044416) : Three A1 A2 A3 (.returned (.tuple #[v1, v2, v3])) w := by
 obtain ⟨a1, c1, rfl, I1⟩ := IntsAt.of_own (own_all h1.symm h.o1) (by omega)
 obtain ⟨a2, c2, rfl, I2⟩ := IntsAt.of_own (own_all h2.symm h.o2) (by omega)
 obtain ⟨a3, c3, rfl, I3⟩ := IntsAt.of_own (own_all h3.symm h.o3) (by omega)
 exact ⟨_, _, _, _, _, _, _, _, _, rfl, I1, I2, I3⟩
set_option maxRecDepth 100000 in
set_option maxHeartbeats 8000000 in
theorem play_ok (r m : Int) (a : Option Addr) (n c : Nat) (xs : List Int) (w : World) (h : IntsAt w a n c xs) (hr : RightB r m xs) :
 Calls Tryz.prog 11 #[.int .i64 r, .int .i64 m, .slice a n c] w fun e w' => Three (goL r m xs) (loL r m xs) (waL r m xs) e w' ∧ Below w.heap.size w w' := by
 obtain ⟨i0, hi0, hz0, hz1, hz2⟩ := info_parts intInfoQ
 have HR := hide hr
 have HL := hide h.len
 have HQ1 := hide (show (goL r m xs).length = n by rw [goL_len, h.len])
 have HQ2 := hide (show (loL r m xs).length = n by rw [loL_len, h.len])
 have HQ3 := hide (show (waL r m xs).length = n by rw [waL_len, h.len])
 have hn : n < 300 := by rw [← HL.out]; exact hr.2.2.1
 have hrr := hide hr.1
 have hmm := hide hr.2.1
 clear hr
 go_enter Tryz.func11, Tryz.ntmps11
 go_wp2_with fail
 refine (callT (right_ok _ _ _ _ _ _ _ h) HR.out).mono ?_
 rintro e w1 ⟨rfl, B1⟩
 have hs1 := B1.size
 obtain ⟨Bq, hBq⟩ : ∃ Bq, w1.heap.size = Bq := ⟨_, rfl⟩
 have HBq := hide hBq
 have hbox : (w1.alloc (.cells #[.int .i64 r, .int .i64 m, .int .i64 0] 69)).heap[Bq]? = some (.cells #[.int .i64 r, .int .i64 m, .int .i64 0] 69 (0, 0)) := by rw [← hBq]; exact heap_alloc_new w1 _
 have hB0 : Below w.heap.size w (w1.alloc (.cells #[.int .i64 r, .int .i64 m, .int .i64 0] 69)) := B1.alloc hs1 _
 have hq0 : w.heap.size ≤ Bq := by omega
 have HBOX := hide hbox
 have HB0 := hide hB0
 have hsz : (w1.alloc (.cells #[.int .i64 r, .int .i64 m, .int .i64 0] 69)).heap.size = Bq + 1 := by simp [hBq]
 have HSZ := hide hsz
 have HI := hide h
 clear h B1 hbox hB0 hsz
 go_wp2
 obtain ⟨wz, hwz⟩ : ∃ wz, wz = w1.alloc (.cells #[.int .i64 r, .int .i64 m, .int .i64 0] 69) := ⟨_, rfl⟩
 rw [← hwz]
 have HBOX := hide (by have := HBOX.out; rw [← hwz] at this; exact this)
 have HB0 := hide (by have := HB0.out; rw [← hwz] at this; exact this)
 have HSZ := hide (by have := HSZ.out; rw [← hwz] at this; exact this)
 clear hwz hBq HBq hs1
 go_loopw [6, 7, 8, 25] (fun v1 v2 v3 i wr => ∃ k : Nat, k ≤ n ∧ i = .int .i64 k ∧ R3 wr (Bq + 1) 3 (goL r m xs) (loL r m xs) (waL r m xs) v1 k v2 k v3 k ∧ Hid (wr.heap[Bq]? = some (.cells #[.int .i64 r, .int .i64 m, .int .i64 (qW r m xs k)] 69 (0, 0))) ∧ Below w.heap.size w wr ∧ Bq + 1 ≤ wr.heap.size) (fun _ _ _ i _ => n - (intOf i).toNat)
 case atStart => exact ⟨0, Nat.zero_le _, rfl, ⟨own_start _ _ _ _, own_start _ _ _ _, own_start _ _ _ _, Ap.nil _, Ap.nil _, Ap.nil _⟩, HBOX, HB0.out, by have := HSZ.out; omega⟩
 case round =>
  clear HBOX HB0 HSZ
  obtain ⟨k, hk, rfl, R0, HB, hB, hBs⟩ := hrel
  have k0 : (0 : Int) ≤ (k : Int) := Int.natCast_nonneg _
  by_cases hlt : k < n
  · have k1 : (k : Int) < (n : Int) := by omega
    obtain ⟨ad, x, rfl, hbd, hc, HX⟩ := HI.out.getB hB hlt
    have hqb := hide (qW_b HR.out k)
    have hxb := hide (small_at HR.out.2.2.2 HX.out)
    have hqb2 := hide (qW_b HR.out (k + 1))
    have E1 := hide (show min (qW r m xs k + x) r = (goL r m xs).getD k 0 by rw [← goL_get (by rw [HL.out]; exact hlt)]; unfold qG; rw [getD_of HX.out])
    have E2 := hide (show max (qW r m xs k + x - min (qW r m xs k + x) r - m) 0 = (loL r m xs).getD k 0 by rw [← loL_get (by rw [HL.out]; exact hlt)]; unfold qL; rw [getD_of HX.out])
    have E3 := hide (show qW r m xs (k + 1) = (waL r m xs).getD k 0 from waL_get (by rw [HL.out]; exact hlt))
    have E4 := hide (show qW r m xs k + x - min (qW r m xs k + x) r - max (qW r m xs k + x - min (qW r m xs k + x) r - m) 0 = qW r m xs (k + 1) by simp only [qW]; rw [getD_of HX.out])
    go_wp2_with fail
    refine (tick_any _ _ _ _ _ _ HB.out hrr.out hmm.out ⟨hqb.out.1, by have := hqb.out.2; have := hmm.out.2; omega⟩ hxb.out).mono ?_
    rintro e w3 ⟨rfl, hq3, hg3⟩
    rw [E4.out] at hq3
    obtain ⟨W, hW⟩ : ∃ W, qW r m xs (k + 1) = W := ⟨_, rfl⟩
    rw [hW] at hq3
    have E3 := hide (by have := E3.out; rw [hW] at this; exact this)
    have HW := hide hW
    obtain ⟨V1, hV1⟩ : ∃ V1, min (qW r m xs k + x) r = V1 := ⟨_, rfl⟩
    have E1 := hide (by have := E1.out; rw [hV1] at this; exact this)
    rw [hV1]
    obtain ⟨V2, hV2⟩ : ∃ V2, max (qW r m xs k + x - V1 - m) 0 = V2 := ⟨_, rfl⟩
    have E2 := hide (by have := E2.out; rw [hV1, hV2] at this; exact this)
    rw [hV2]
    have R3w := R0.kept hg3 (by omega)
    have hs3 := hg3.size
    obtain ⟨_, _, c2, _⟩ := cell3 hq3
    have HQ3b := hide hq3
    have HG3 := hide hg3
    have hB3 : Below w.heap.size w w3 := hB.grown hg3 (by omega) (fun g hg => by injection hg with hg; omega)
    clear R0 HB hB hW hV1 hV2 E4 hqb hq3 hg3 hc hbd
    have h3l : Bq + 1 ≤ w3.heap.size := by omega
    have hq0' : w.heap.size ≤ Bq + 1 := by omega
    obtain ⟨S3, hS3⟩ : ∃ S3, w3.heap.size = S3 := ⟨_, rfl⟩
    have HS3 := hide hS3
    go_wp2_with fail
    go_region_held3 (fun w' => w'.cell? ⟨Bq, 2, none⟩ = some (.int .i64 W)) (first | ((try dsimp only); (repeat' (first | (with_reducible assumption) | (with_reducible refine drew_cell ?_) | (with_reducible refine alloc_cell ?_))); done) | (go_keep; done) | ((try dsimp only); exact box_row R3w.o3 hg3 (by omega) (by assumption)) | ((try dsimp only); exact box_row R3w.o2 hg2 (by omega) (by assumption)) | ((try dsimp only); exact box_row R3w.o1 hg1 (by omega) (by assumption))) (first | (refine step_append_lies _ (by rfl) (.tmp 35) (.tmp 37) _ (by rfl) (Bq + 1) 3 i0 (.int .i64 0) 1 8 Tryz.underlying24 hi0 hz0 hz1 hz2 rfl (by decide) u6 k _ (by rfl) (R3.o1 (by (repeat' (first | (with_reducible assumption) | (with_reducible refine R3.alloc ?_ _) | (with_reducible refine R3.drew ?_))) : R3 _ (Bq + 1) 3 (goL r m xs) (loL r m xs) (waL r m xs) u6 k u7 k u8 k)) _ 1 1 [.int .i64 (V1)] (by rfl) rfl (news_list (by (repeat' (first | (with_reducible assumption) | (with_reducible refine news_drew ?_) | (with_reducible refine news_new ?_) | (with_reducible refine news_alloc ?_) | (with_reducible refine hfA _ _ ?_ ?_) | (with_reducible refine hfB _ _ ?_ ?_) | omega | (simp; done) | (simp; omega))))) (by simp [Value.oneCell']) (by decide) (by unfold maxLen; omega) (by omega) (by first | omega | (simp; omega)) _ rfl ?_; intro g1 cap1 wa1 ho1 hg1 hat1 hlt1; have T1 := R3.push1 (by (repeat' (first | (with_reducible assumption) | (with_reducible refine R3.alloc ?_ _) | (with_reducible refine R3.drew ?_))) : R3 _ (Bq + 1) 3 (goL r m xs) (loL r m xs) (waL r m xs) u6 k u7 k u8 k) (by rw [HQ1.out]; omega) E1.out ho1 hg1 hat1 (Nat.le_refl _); have hfA := (fun (b : Nat) (u : Value) => far_row (b := b) (u := u) R3w.o1 hg1 HS3.out); have hs1 := hg1.size; (try simp at hs1)) | (refine step_append_lies _ (by rfl) (.tmp 39) (.tmp 41) _ (by rfl) (Bq + 1) 3 i0 (.int .i64 0) 1 8 Tryz.underlying24 hi0 hz0 hz1 hz2 rfl (by decide) u7 k _ (by rfl) (R3.o2 (by (repeat' (first | (with_reducible assumption) | (with_reducible refine R3.alloc ?_ _) | (with_reducible refine R3.drew ?_))) : R3 _ (Bq + 1) 3 (goL r m xs) (loL r m xs) (waL r m xs) (.slice (some ⟨g1, 0, none⟩) (k + 1) cap1) (k + 1) u7 k u8 k)) _ 1 1 [.int .i64 (V2)] (by rfl) rfl (news_list (by (repeat' (first | (with_reducible assumption) | (with_reducible refine news_drew ?_) | (with_reducible refine news_new ?_) | (with_reducible refine news_alloc ?_) | (with_reducible refine hfA _ _ ?_ ?_) | (with_reducible refine hfB _ _ ?_ ?_) | omega | (simp; done) | (simp; omega))))) (by simp [Value.oneCell']) (by decide) (by unfold maxLen; omega) (by omega) (by first | omega | (simp; omega)) _ rfl ?_; intro g2 cap2 wa2 ho2 hg2 hat2 hlt2; have T2 := R3.push2 (by (repeat' (first | (with_reducible assumption) | (with_reducible refine R3.alloc ?_ _) | (with_reducible refine R3.drew ?_))) : R3 _ (Bq + 1) 3 (goL r m xs) (loL r m xs) (waL r m xs) (.slice (some ⟨g1, 0, none⟩) (k + 1) cap1) (k + 1) u7 k u8 k) (by rw [HQ2.out]; omega) E2.out ho2 hg2 hat2 (Nat.le_refl _); have hfB := (fun (b : Nat) (u : Value) => far_row (b := b) (u := u) R3w.o2 hg2 HS3.out); have hs2 := hg2.size; (try simp at hs2)) | (refine step_append_lies _ (by rfl) (.tmp 43) (.tmp 48) _ (by rfl) (Bq + 1) 3 i0 (.int .i64 0) 1 8 Tryz.underlying24 hi0 hz0 hz1 hz2 rfl (by decide) u8 k _ (by rfl) (R3.o3 (by (repeat' (first | (with_reducible assumption) | (with_reducible refine R3.alloc ?_ _) | (with_reducible refine R3.drew ?_))) : R3 _ (Bq + 1) 3 (goL r m xs) (loL r m xs) (waL r m xs) (.slice (some ⟨g1, 0, none⟩) (k + 1) cap1) (k + 1) (.slice (some ⟨g2, 0, none⟩) (k + 1) cap2) (k + 1) u8 k)) _ 1 1 [.int .i64 (W)] (by rfl) rfl (news_list (by (repeat' (first | (with_reducible assumption) | (with_reducible refine news_drew ?_) | (with_reducible refine news_new ?_) | (with_reducible refine news_alloc ?_) | (with_reducible refine hfA _ _ ?_ ?_) | (with_reducible refine hfB _ _ ?_ ?_) | omega | (simp; done) | (simp; omega))))) (by simp [Value.oneCell']) (by decide) (by unfold maxLen; omega) (by omega) (by first | omega | (simp; omega)) _ rfl ?_; intro g3 cap3 wa3 ho3 hg3 hat3 hlt3; have T3 := R3.push3 (by (repeat' (first | (with_reducible assumption) | (with_reducible refine R3.alloc ?_ _) | (with_reducible refine R3.drew ?_))) : R3 _ (Bq + 1) 3 (goL r m xs) (loL r m xs) (waL r m xs) (.slice (some ⟨g1, 0, none⟩) (k + 1) cap1) (k + 1) (.slice (some ⟨g2, 0, none⟩) (k + 1) cap2) (k + 1) u8 k) (by rw [HQ3.out]; omega) E3.out ho3 hg3 hat3 (Nat.le_refl _); have hs3 := hg3.size; (try simp at hs3)))
    all_goals
     have hq3 := HQ3b.out
     have HF1 := hide (by (repeat' (first | (with_reducible assumption) | (with_reducible refine blk_drew ?_) | (with_reducible refine blk_alloc ?_) | (with_reducible refine blk_row R3w.o3 hg3 (by omega) ?_) | (with_reducible refine blk_row R3w.o2 hg2 (by omega) ?_) | (with_reducible refine blk_row R3w.o1 hg1 (by omega) ?_))) : wa3.heap[Bq]? = some (.cells #[.int .i64 r, .int .i64 m, .int .i64 W] 69 (0, 0)))
     have HF2 := hide (by (repeat' (first | (with_reducible assumption) | (with_reducible refine Below.drew ?_) | (with_reducible refine Below.alloc ?_ ?_ _) | (with_reducible refine bel_row R3w.o3 hg3 ?_ ?_ ?_) | (with_reducible refine bel_row R3w.o2 hg2 ?_ ?_ ?_) | (with_reducible refine bel_row R3w.o1 hg1 ?_ ?_ ?_) | omega | (simp; done) | (simp; omega))) : Below w.heap.size w wa3)
     have HF3 := hide T3
     have HF4 := hide (by omega : Bq + 1 ≤ wa3.heap.size)
     clear hq3 T1 T2 T3 hfA hfB ho1 ho2 ho3 hg1 hg2 hg3 hB3 R3w
     go_wp2
     go_roundw
     case rel => exact ⟨k + 1, by omega, by go_num, HF3.out, by rw [HW.out]; exact HF1, HF2.out, HF4.out⟩
     case measure => (simp [intOf] <;> omega)
  · obtain rfl : k = n := by omega
    have HT := hide (three_of R0 HQ1.out HQ2.out HQ3.out (by omega))
    clear R0
    go_wp2
    go_ret3
    exact ⟨HT.out, hB⟩
end Go.Proofs.YtjjikhaaimfneaaGreatDoor
namespace Go.Proofs.YtjjikhaaimfneaaGreatDoor
open Go.RowKit
set_option linter.unusedSimpArgs false
set_option linter.unusedVariables false
set_option maxHeartbeats 1000000 in
theorem equal_any (a a' : Option Addr) (n n' c c' : Nat) (xs ys : List Int) (w : World) (h : IntsAt w a n c xs) (h' : IntsAt w a' n' c' ys) :
 Calls Tryz.prog 24 #[.slice a n c, .slice a' n' c'] w fun e w' => e = .returned (.bool (decide (xs = ys))) ∧ Below w.heap.size w w' := by
 have hl := h.len
 have hl' := h'.len
 have hn := h.lim
 have hn' := h'.lim
 by_cases hne : n = n'
 · subst hne
   have HL := hide hl
   have HL' := hide hl'
   clear hl hl'
   go_enter Tryz.func24, Tryz.ntmps24
   go_wp2
   go_loopw [13] (fun i wr => ∃ k : Nat, k ≤ n ∧ i = .int .i64 k ∧ (∀ j, j < k → xs[j]? = ys[j]?) ∧ Below w.heap.size w wr) (fun i _ => n - (intOf i).toNat)
   case atStart => exact ⟨0, Nat.zero_le _, rfl, fun j hj => absurd hj (by omega), Below.refl _ _⟩
   case round =>
    obtain ⟨k, hk, rfl, hsame, hB⟩ := hrel
    have HS := hide hsame
    clear hsame
    by_cases hlt : k < n
    · obtain ⟨ad, x, rfl, _, hc, HX⟩ := (h.below hB).get hlt
      obtain ⟨ad', y, rfl, _, hc', HY⟩ := (h'.below hB).get hlt
      clear h h'
      by_cases hxy : x = y
      · subst hxy
        go_wp2
        go_quiet (fail)
        go_wp2
        go_roundw
        case rel => exact ⟨k + 1, by omega, by go_num, fun j hj => by
         rcases (show j < k ∨ j = k by omega) with h1 | rfl
         · exact HS.out j h1
         · rw [HX.out, HY.out], Go.below_drewN hB _⟩
        case measure => simp [intOf]; omega
      · have hb : (x != y) = true := by simp [hxy]
        have HF := hide (show xs ≠ ys from fun e => by
         have := HX.out; rw [e, HY.out] at this; injection this with this; exact hxy this.symm)
        clear hxy
        go_wp2
        go_quiet (fail)
        go_wp2
        go_ret
        exact ⟨retBI (by simp [HF.out]), Go.below_drewN hB _⟩
    · have HF := hide (show xs = ys from List.ext_getElem? fun j => by
       rcases Nat.lt_or_ge j k with h1 | h1
       · exact HS.out j h1
       · rw [List.getElem?_eq_none (by rw [HL.out]; omega), List.getElem?_eq_none (by rw [HL'.out]; omega)])
      clear h h'
      go_wp2
      go_ret
      exact ⟨retBI (by simp [HF.out]), hB⟩
 · have HF := hide (show xs ≠ ys from fun e => hne (by rw [← hl, ← hl', e]))
   have hb : ((n : Int) != (n' : Int)) = true := by simp; omega
   clear hne hl hl' h h'
   go_enter Tryz.func24, Tryz.ntmps24
   go_wp2
   go_ret
   exact ⟨retBI (by simp [HF.out]), Below.refl _ _⟩
end Go.Proofs.YtjjikhaaimfneaaGreatDoor
