/-
  Lemmas and walks for the statement: PDelay, ShapeP, Of, Delays.
-/
import Derived.Test.YtjjikhaaimfneaaGreatDoorU39
import Derived.Test.YtjjikhaaimfneaaGreatDoorU38
import Derived.Test.YtjjikhaaimfneaaGreatDoorU02
namespace Go.Proofs.YtjjikhaaimfneaaGreatDoor
open Go.RowKit
set_option linter.unusedSimpArgs false
set_option linter.unusedVariables false
def fnd (p : Nat → Bool) (s : Nat) : Nat → Nat
 | 0 => s
 | m + 1 => if p s = true then s else fnd p (s + 1) m
theorem fnd_eq {p : Nat → Bool} : ∀ (m s d : Nat), s ≤ d → d ≤ s + m → (∀ e, s ≤ e → e < d → p e = false) → (d < s + m → p d = true) → fnd p s m = d
 | 0, s, d, h1, h2, _, _ => by simp only [fnd]; omega
 | m + 1, s, d, h1, h2, h3, h4 => by
   simp only [fnd]
   by_cases hs : p s = true
   · rw [if_pos hs]
     rcases (show s = d ∨ s < d by omega) with h | h
     · exact h
     · rw [h3 s (by omega) h] at hs; cases hs
   · rw [if_neg hs]
     have hd : s ≠ d := fun e => hs (by rw [e]; exact h4 (by omega))
     exact fnd_eq m (s + 1) d (by omega) (by omega) (fun e h5 h6 => h3 e (by omega) h6) (fun h5 => h4 (by omega))
def dlQ (I O : List Int) (n t : Nat) : Int :=
 if fnd (fun e => decide (I.getD (t + 1) 0 ≤ O.getD e 0)) (t + 1) (n - t) = n + 1 then -1 else (fnd (fun e => decide (I.getD (t + 1) 0 ≤ O.getD e 0)) (t + 1) (n - t) : Int) - t - 1
def dlL (I O : List Int) (n : Nat) : List Int := (List.range n).map (dlQ I O n)
theorem dlL_len (I O : List Int) (n : Nat) : (dlL I O n).length = n := by simp [dlL]
theorem dlL_get {I O : List Int} {n k : Nat} (h : k < n) : dlQ I O n k = (dlL I O n).getD k 0 := by
 rw [List.getD_eq_getElem?_getD]; simp [dlL, List.getElem?_range, h]
theorem dlQ_of {I O : List Int} {n t d : Nat} (ht : t < n) (h1 : t + 1 ≤ d) (h2 : d ≤ n + 1) (h3 : ∀ e, t + 1 ≤ e → e < d → O.getD e 0 < I.getD (t + 1) 0) (h4 : d < n + 1 → I.getD (t + 1) 0 ≤ O.getD d 0) :
 dlQ I O n t = if d = n + 1 then -1 else (d : Int) - t - 1 := by
 have e : fnd (fun e => decide (I.getD (t + 1) 0 ≤ O.getD e 0)) (t + 1) (n - t) = d := fnd_eq _ _ _ h1 (by omega) (fun e h5 h6 => decide_eq_false (by have := h3 e h5 h6; omega)) (fun h5 => decide_eq_true (h4 (by omega)))
 unfold dlQ; rw [e]
theorem pre_b (xs : List Int) : ∀ k, k ≤ xs.length → 0 ≤ preI xs k ∧ preI xs k ≤ 1152921504606846976
 | 0, _ => by rw [pre_zero]; omega
 | k + 1, h => by
   have e : xs[k]? = some (xs.getD k 0) := by rw [List.getD_eq_getElem?_getD, List.getElem?_eq_getElem (by omega)]; rfl
   rw [← pre_succ xs k _ e]
   exact ⟨plus_ge _ _, plus_le _ _⟩
theorem of_mono (xs : List Int) {k : Nat} (h : k < xs.length) : (ofI xs).getD k 0 ≤ (ofI xs).getD (k + 1) 0 := by
 rw [← of_get xs k (by omega), ← of_get xs (k + 1) (by omega)]
 have e : xs[k]? = some (xs.getD k 0) := by rw [List.getD_eq_getElem?_getD, List.getElem?_eq_getElem h]; rfl
 rw [← pre_succ xs k _ e]
 have := pre_b xs k (by omega)
 have := fit_ge (xs.getD k 0)
 unfold plusI fitI at *
 omega
end Go.Proofs.YtjjikhaaimfneaaGreatDoor
namespace Go.Proofs.YtjjikhaaimfneaaGreatDoor
open Go.RowKit
set_option linter.unusedSimpArgs false
set_option linter.unusedVariables false
section
variable {R B r m : Int} {xs : List Int}
theorem passB_small (hr : RightB R B xs) : Small (passB R B xs) := by
 intro x hx
 simp only [passB, List.mem_map, List.mem_range] at hx
 obtain ⟨k, hk, rfl⟩ := hx
 have := now_bounds hr k
 have := hr.2.1
 omega
theorem passB_right (hr : RightB R B xs) (hr2 : RightB r m xs) : RightB r m (passB R B xs) := ⟨hr2.1, hr2.2.1, by rw [passB_len]; exact hr.2.2.1, passB_small hr⟩
theorem shape_inv (hr : RightB R B xs) (h1 : R ≤ r) (h2 : B ≤ m) : ∀ k, k ≤ xs.length → 0 ≤ qW r m (passB R B xs) k ∧ qW r m (passB R B xs) k + (stB R B xs k).1 ≤ B
 | 0, _ => by have := hr.2.1; simp [qW, stB]
 | k + 1, hk => by
   obtain ⟨i1, i2⟩ := shape_inv hr h1 h2 k (by omega)
   have hn := now_bounds hr k
   have hs := st_bounds hr k
   have hs1 := st_bounds hr (k + 1)
   have e := passB_get (R := R) (B := B) (xs := xs) (k := k) (by omega)
   have hst := st_succ1 R B xs k
   have hle : (stB R B xs (k + 1)).1 ≤ (stB R B xs k).1 - nowB R B xs k + R := by rw [hst]; unfold minB; split <;> omega
   simp only [qW]
   rw [← e]
   omega
theorem shape_in (hr : RightB R B xs) (h1 : R ≤ r) (h2 : B ≤ m) {k : Nat} (hk : k < xs.length) : 0 ≤ qW r m (passB R B xs) k ∧ 0 ≤ (passB R B xs).getD k 0 ∧ qW r m (passB R B xs) k + (passB R B xs).getD k 0 ≤ B := by
 obtain ⟨i1, i2⟩ := shape_inv hr h1 h2 k (by omega)
 have hn := now_bounds hr k
 rw [← passB_get (R := R) (B := B) hk]
 omega
theorem shape_lost (hr : RightB R B xs) (h1 : R ≤ r) (h2 : B ≤ m) {k : Nat} (hk : k < xs.length) : qL r m (passB R B xs) k = 0 := by
 have := shape_in hr h1 h2 hk
 have := hr.1
 unfold qL; omega
theorem shape_wait (hr : RightB R B xs) (h1 : R ≤ r) (h2 : B ≤ m) {k : Nat} (hk : k < xs.length) : qW r m (passB R B xs) (k + 1) ≤ max (B - r) 0 := by
 have := shape_in hr h1 h2 hk
 have := hr.1
 simp only [qW]; omega
theorem shape_next (hr : RightB R B xs) (h1 : R ≤ r) (h2 : B ≤ m) {k : Nat} (hk : k < xs.length) : qW r m (passB R B xs) (k + 1) = qW r m (passB R B xs) k + (passB R B xs).getD k 0 - qG r m (passB R B xs) k := by
 have := shape_lost hr h1 h2 hk
 unfold qL at this
 unfold qG
 simp only [qW]; omega
theorem pre_at {ys : List Int} {k : Nat} (hk : k < ys.length) (h : ∀ j, j < ys.length → 0 ≤ ys.getD j 0 ∧ ys.getD j 0 ≤ 1099511627776) (hl : ys.length < 300) : ∀ k, k ≤ ys.length → 0 ≤ preI ys k ∧ preI ys k ≤ k * 1099511627776 ∧ (k < ys.length → preI ys (k + 1) = preI ys k + ys.getD k 0)
 | 0, _ => by
   refine ⟨by rw [pre_zero]; omega, by rw [pre_zero]; omega, fun h0 => ?_⟩
   have e : ys[0]? = some (ys.getD 0 0) := by rw [List.getD_eq_getElem?_getD, List.getElem?_eq_getElem h0]; rfl
   rw [← pre_succ ys 0 _ e, pre_zero]
   have := h 0 h0
   unfold plusI fitI; omega
 | k + 1, hk' => by
   obtain ⟨i1, i2, i3⟩ := pre_at hk h hl k (by omega)
   have i4 := i3 (by omega)
   have hx := h k (by omega)
   refine ⟨by omega, by omega, fun h0 => ?_⟩
   have e : ys[k + 1]? = some (ys.getD (k + 1) 0) := by rw [List.getD_eq_getElem?_getD, List.getElem?_eq_getElem h0]; rfl
   rw [← pre_succ ys (k + 1) _ e]
   have hy := h (k + 1) h0
   unfold plusI fitI; omega
theorem pre_mono {ys : List Int} (h : ∀ j, j < ys.length → 0 ≤ ys.getD j 0 ∧ ys.getD j 0 ≤ 1099511627776) (hl : ys.length < 300) {t : Nat} : ∀ j, t + j ≤ ys.length → preI ys t ≤ preI ys (t + j)
 | 0, _ => Int.le_refl _
 | j + 1, hj => by
   have ih := pre_mono h hl (t := t) j (by omega)
   have a := (pre_at (k := t + j) (by omega) h hl (t + j) (by omega)).2.2 (by omega)
   have := h (t + j) (by omega)
   rw [show t + (j + 1) = t + j + 1 by omega, a]; omega
theorem fnd_le {p : Nat → Bool} : ∀ (m s : Nat), s ≤ fnd p s m ∧ fnd p s m ≤ s + m ∧ ∀ e, s ≤ e → e < s + m → p e = true → fnd p s m ≤ e
 | 0, s => by simp only [fnd]; exact ⟨Nat.le_refl _, Nat.le_refl _, fun e h1 h2 _ => by omega⟩
 | m + 1, s => by
   obtain ⟨i1, i2, i3⟩ := fnd_le (p := p) m (s + 1)
   simp only [fnd]
   by_cases hs : p s = true
   · rw [if_pos hs]; exact ⟨Nat.le_refl _, by omega, fun e h1 _ _ => h1⟩
   · rw [if_neg hs]
     refine ⟨by omega, by omega, fun e h1 h2 h3 => ?_⟩
     rcases (show s = e ∨ s + 1 ≤ e by omega) with h | h
     · rw [h] at hs; exact absurd h3 hs
     · exact i3 e h (by omega) h3
theorem getD_ofI {ys : List Int} {k : Nat} (h : k ≤ ys.length) : (ofI ys).getD k 0 = preI ys k := (of_get ys k h).symm
theorem small_getD' {ys : List Int} (h : Small ys) : ∀ j, j < ys.length → 0 ≤ ys.getD j 0 ∧ ys.getD j 0 ≤ 1099511627776 := fun j _ => small_getD h j
theorem go_small (hr : RightB R B xs) (h1 : R ≤ r) (h2 : B ≤ m) (hr0 : 0 ≤ r) : Small (goL r m (passB R B xs)) := by
 intro x hx
 simp only [goL, List.mem_map, List.mem_range] at hx
 obtain ⟨k, hk, rfl⟩ := hx
 rw [passB_len] at hk
 have := shape_in hr h1 h2 hk
 have := hr.2.1
 unfold qG; omega
theorem shape_sum (hr : RightB R B xs) (h1 : R ≤ r) (h2 : B ≤ m) : ∀ k, k ≤ xs.length → preI (passB R B xs) k = preI (goL r m (passB R B xs)) k + qW r m (passB R B xs) k
 | 0, _ => by simp [pre_zero, qW]
 | k + 1, hk => by
   have ih := shape_sum hr h1 h2 k (by omega)
   have hR := hr.1
   have lp := passB_len R B xs
   have lg : (goL r m (passB R B xs)).length = xs.length := by rw [goL_len, passB_len]
   have a := (pre_at (k := k) (by omega) (small_getD' (passB_small hr)) (by rw [lp]; exact hr.2.2.1) k (by omega)).2.2 (by omega)
   have b := (pre_at (k := k) (by omega) (small_getD' (go_small hr h1 h2 (by omega))) (by rw [lg]; exact hr.2.2.1) k (by omega)).2.2 (by omega)
   have c := shape_next hr h1 h2 (k := k) (by omega)
   have d := goL_get (r := r) (m := m) (xs := passB R B xs) (k := k) (by omega)
   rw [a, b, c, ih, ← d]; omega
theorem shape_gone (hr : RightB R B xs) (h1 : R ≤ r) (h2 : B ≤ m) {t : Nat} (ht : t ≤ xs.length) : ∀ j : Nat, t + j ≤ xs.length → min (preI (passB R B xs) t) (preI (goL r m (passB R B xs)) t + j * r) ≤ preI (goL r m (passB R B xs)) (t + j)
 | 0, _ => by
   have := (show preI (goL r m (passB R B xs)) t + ((0 : Nat) : Int) * r = preI (goL r m (passB R B xs)) t by simp)
   rw [this]; exact Int.min_le_right _ _
 | j + 1, hj => by
   have ih := shape_gone hr h1 h2 ht j (by omega)
   have hR := hr.1
   have lp := passB_len R B xs
   have lg : (goL r m (passB R B xs)).length = xs.length := by rw [goL_len, passB_len]
   have b := (pre_at (k := t + j) (by omega) (small_getD' (go_small hr h1 h2 (by omega))) (by rw [lg]; exact hr.2.2.1) (t + j) (by omega)).2.2 (by omega)
   have d := goL_get (r := r) (m := m) (xs := passB R B xs) (k := t + j) (by omega)
   have s := shape_sum hr h1 h2 (t + j) (by omega)
   have i := shape_in hr h1 h2 (k := t + j) (by omega)
   have mono := pre_mono (small_getD' (passB_small hr)) (by rw [lp]; exact hr.2.2.1) (t := t) j (by omega)
   have hm : ((j + 1 : Nat) : Int) * r = (j : Int) * r + r := by rw [Int.natCast_succ, Int.add_mul, Int.one_mul]
   rw [show t + (j + 1) = t + j + 1 by omega, b, ← d, hm]
   unfold qG
   generalize (j : Int) * r = J at *
   omega
theorem shape_delay (hr : RightB R B xs) (h1 : R ≤ r) (h2 : B ≤ m) (hr0 : 0 < r) {t : Nat} (ht : t < xs.length) : dlQ (ofI (passB R B xs)) (ofI (goL r m (passB R B xs))) xs.length t ≤ (B + r - 1) / r := by
 have lp := passB_len R B xs
 have lg : (goL r m (passB R B xs)).length = xs.length := by rw [goL_len, passB_len]
 obtain ⟨b1, b2⟩ := hr.2.1
 have hD : 0 ≤ (B + r - 1) / r := Int.ediv_nonneg (by omega) (by omega)
 obtain ⟨D, hDe⟩ : ∃ D : Nat, (B + r - 1) / r = (D : Int) := ⟨((B + r - 1) / r).toNat, by omega⟩
 have hcov : B ≤ (D : Int) * r := by
  have e1 := Int.emod_lt_of_pos (B + r - 1) hr0
  have e2 := Int.mul_ediv_add_emod (B + r - 1) r
  rw [hDe, Int.mul_comm] at e2
  omega
 rw [hDe]
 obtain ⟨f1, f2, f3⟩ := fnd_le (p := fun e => decide ((ofI (passB R B xs)).getD (t + 1) 0 ≤ (ofI (goL r m (passB R B xs))).getD e 0)) (xs.length - t) (t + 1)
 unfold dlQ
 split
 · omega
 · rename_i hne
   rcases Nat.lt_or_ge xs.length (t + 1 + D) with hlt | hge
   · omega
   · have hg := shape_gone hr h1 h2 (t := t + 1) (by omega) D (by omega)
     have hs := shape_sum hr h1 h2 (t + 1) (by omega)
     have hi := shape_inv hr h1 h2 (t + 1) (by omega)
     have hst := st_bounds hr (t + 1)
     have h5 := f3 (t + 1 + D) (by omega) (by omega) (decide_eq_true (by
      rw [getD_ofI (by omega), getD_ofI (by omega)]
      generalize (D : Int) * r = J at *
      omega))
     omega
end
end Go.Proofs.YtjjikhaaimfneaaGreatDoor
namespace Go.Proofs.YtjjikhaaimfneaaGreatDoor
open Go.RowKit
set_option linter.unusedSimpArgs false
set_option linter.unusedVariables false
theorem intInfo : (Tryz.prog.info? 3).map (fun i => (i.zero, i.size, i.bytes)) = some (some (.int .i64 0), 1, 8) := by kernel_rfl
theorem plusF_any (a b : Int) (w : World) : Calls Tryz.prog 50 #[.int .i64 a, .int .i64 b] w fun e w' => e = .returned (.int .i64 (plusI a b)) ∧ w = w' := plus_any a b w
set_option maxHeartbeats 2000000 in
theorem of_any (a : Option Addr) (n c : Nat) (xs : List Int) (w : World) (h : IntsAt w a n c xs) (hlim : n + 1 ≤ 17592186044416) :
 Calls Tryz.prog 29 #[.slice a n c] w fun e w' => ∃ b m d, e = .returned (.slice b m d) ∧ IntsAt w' b m d (ofI xs) ∧ Below w.heap.size w w' := by
 obtain ⟨i0, hi0, hz0, hz1, hz2⟩ := info_parts intInfo
 have HQ := hide (show (ofI xs).length = n + 1 by rw [of_len, h.len])
 have HL := hide h.len
 have H0 := hide (show (0 : Int) = (ofI xs).getD 0 0 from (pre_zero xs).symm.trans (of_get xs 0 (Nat.zero_le _)))
 go_enter Tryz.func29, Tryz.ntmps29
 go_wp2
 go_loopw [3, 9] (fun v i wr => ∃ k : Nat, k ≤ n ∧ i = .int .i64 k ∧ wr.ownsRow w.heap.size 3 1 v (k + 1) (((ofI xs).take (k + 1)).map (Value.int .i64)) ∧ Below w.heap.size w wr) (fun _ i _ => n - (intOf i).toNat)
 case atStart => exact ⟨0, Nat.zero_le _, rfl, own_one w w.heap.size _ 0 (ofI xs) (by rw [HQ.out]; omega) H0.out (Nat.le_refl _), (Below.refl _ _).alloc (Nat.le_refl _) _⟩
 case round =>
  obtain ⟨k, hk, rfl, hown, hB⟩ := hrel
  by_cases hlt : k < n
  · obtain ⟨ad, x, rfl, hbd, hc, HX⟩ := h.getB hB hlt
    have k0 : (0 : Int) ≤ (k : Int) := Int.natCast_nonneg _
    have k1 : (k : Int) < (n : Int) := by omega
    have hBs := hB.size
    obtain ⟨g, cap, hv, hg1, hg2, hcap, hcl, _⟩ := own_form hown
    subst hv
    obtain ⟨y, hy⟩ : ∃ y, preI xs k = y := ⟨_, rfl⟩
    have hcy : wr.cell? ⟨g, k, none⟩ = some (.int .i64 y) := hcl k _ (by
     rw [List.getElem?_map, List.getElem?_take, if_pos (by omega)]
     have e1 := of_get xs k (by rw [HL.out]; omega)
     have e2 : k < (ofI xs).length := by rw [HQ.out]; omega
     rw [List.getD_eq_getElem?_getD, List.getElem?_eq_getElem e2] at e1
     rw [List.getElem?_eq_getElem e2]
     simp at e1; rw [← hy, e1]; rfl)
    have HZ := hide (show plusI y x = (ofI xs).getD (k + 1) 0 by rw [← hy, pre_succ xs k x HX.out]; exact of_get xs (k + 1) (by rw [HL.out]; omega))
    clear hcl h hy
    go_wp2_with (first | (go_at_call 50; refine (plusF_any _ _ _).mono ?_; rintro e w1 ⟨rfl, rfl⟩) | (at_builtin; refine wpList_append_own _ rfl _ _ 24 rfl w.heap.size 3 i0 (.int .i64 0) 1 8 Tryz.underlying24 hi0 hz0 hz1 hz2 rfl (by decide) _ _ _ rfl (hown.alloc _) ⟨wr.heap.size, 0, none⟩ 1 1 [.int .i64 (plusI y x)] rfl rfl (cell_one_new _ _ _) (by simp [Value.oneCell']) (by unfold maxLen; omega) (by omega) (by simp; omega) ?_; intro v' w1 hown1 hgrow _))
    go_wp2
    go_roundw
    case rel => exact ⟨k + 1, by omega, by go_num, own_next (by rw [HQ.out]; omega) HZ.out hown1, (hB.alloc hBs _).grown hgrow (by simp; omega) (own_row hown)⟩
    case measure => simp [intOf]; omega
  · obtain ⟨b, d, hv, hI⟩ := IntsAt.of_own (own_all (by rw [HQ.out]; omega) hown) (by rw [HQ.out]; omega)
    subst hv
    clear h hown
    go_wp2
    go_ret
    exact ⟨b, _, d, rfl, hI, hB⟩
end Go.Proofs.YtjjikhaaimfneaaGreatDoor
namespace Go.Proofs.YtjjikhaaimfneaaGreatDoor
open Go.RowKit
set_option linter.unusedSimpArgs false
set_option linter.unusedVariables false
attribute [local go_sem] iteMin iteMax iteMinN iteMaxN
theorem intInfoDl : (Tryz.prog.info? 3).map (fun i => (i.zero, i.size, i.bytes)) = some (some (.int .i64 0), 1, 8) := by kernel_rfl
def GivesP (f : FuncId) (r m : Int) (xs A B C : List Int) : Prop := ∀ (a : Option Addr) (n c : Nat) (w : World), IntsAt w a n c xs → n + 2 ≤ 17592186044416 →
 Calls Tryz.prog f #[.int .i64 r, .int .i64 m, .slice a n c] w fun e w' => Three A B C e w' ∧ Below w.heap.size w w'
set_option maxRecDepth 100000 in
set_option maxHeartbeats 8000000 in
theorem delays_any (r : Int) (a : Option Addr) (n c : Nat) (xs A B C : List Int) (w : World) (h : IntsAt w a n c xs) (hlim : n + 2 ≤ 17592186044416) (P : GivesP 11 r 1099511627776 xs A B C) (hA : A.length = n ∨ A.length = 0) :
 Calls Tryz.prog 12 #[.int .i64 r, .slice a n c] w fun e w' => ∃ b m d, e = .returned (.slice b m d) ∧ IntsAt w' b m d (dlL (ofI xs) (ofI A) A.length) ∧ Below w.heap.size w w' := by
 obtain ⟨i0, hi0, hz0, hz1, hz2⟩ := info_parts intInfoDl
 have HL := hide h.len
 have HI := hide (show (ofI xs).length = n + 1 by rw [of_len, h.len])
 obtain ⟨N, hN⟩ : ∃ N, A.length = N := ⟨_, rfl⟩
 have HN := hide hN
 have HA := hide hA
 have hNn : N ≤ n := by rcases hA with h1 | h1 <;> omega
 have HO := hide (show (ofI A).length = N + 1 by rw [of_len, hN])
 have HQ := hide (dlL_len (ofI xs) (ofI A) N)
 rw [hN]
 clear hN hA
 go_enter Tryz.func12, Tryz.ntmps12
 go_wp2_with fail
 refine (P _ _ _ _ h hlim).mono ?_
 rintro e w1 ⟨⟨b1, n1, d1, b2, n2, d2, b3, n3, d3, rfl, I1, I2, I3⟩, B1⟩
 obtain rfl : n1 = N := by rw [← I1.len]; exact HN.out
 have h := h.below B1
 clear I2 I3
 go_wp2_with fail
 refine (of_any _ _ _ _ _ h (by omega)).mono ?_
 rintro e w2 ⟨b4, n4, d4, rfl, I4, B2⟩
 obtain rfl : n4 = n + 1 := by rw [← I4.len]; exact HI.out
 have I1 := I1.below B2
 have C2 := B1.trans (B2.mono B1.size)
 clear h B2
 go_wp2_with fail
 refine (of_any _ _ _ _ _ I1 (by omega)).mono ?_
 rintro e w3 ⟨b5, n5, d5, rfl, I5, B3⟩
 obtain rfl : n5 = n1 + 1 := by rw [← I5.len]; exact HO.out
 have J1 := I4.below B3
 have J2 := I5
 have C3 := hide (C2.trans (B3.mono C2.size))
 have hs3 := (C2.trans (B3.mono C2.size)).size
 clear I1 I4 I5 B1 B3 C2
 go_wp2_with fail
 go_loopw [10, 11, 26] (fun v dv i wr => ∃ k d : Nat, k ≤ n1 ∧ d ≤ n1 + 1 ∧ i = .int .i64 k ∧ dv = .int .i64 d ∧ Hid (∀ e, k ≤ e → e < d → (ofI A).getD e 0 < (ofI xs).getD k 0) ∧ wr.ownsRow w3.heap.size 3 1 v k (((dlL (ofI xs) (ofI A) n1).take k).map (Value.int .i64)) ∧ Below w3.heap.size w3 wr) (fun _ _ i _ => n1 - (intOf i).toNat)
 case atStart => exact ⟨0, 0, Nat.zero_le _, Nat.zero_le _, rfl, rfl, hide fun e _ h => absurd h (by omega), own_start _ _ _ _, Below.refl _ _⟩
 case round =>
  obtain ⟨k, d, hk, hd, rfl, rfl, HD, hown, hB⟩ := hrel
  have k0 : (0 : Int) ≤ (k : Int) := Int.natCast_nonneg _
  have d0 : (0 : Int) ≤ (d : Int) := Int.natCast_nonneg _
  have hBs := hB.size
  by_cases hlt : k < n1
  · have k1 : (k : Int) < (n1 : Int) := by omega
    have HNn : n1 = n := by rcases HA.out with h1 | h1 <;> have := HN.out <;> omega
    obtain ⟨s, hs⟩ : ∃ s, s = max d (k + 1) := ⟨_, rfl⟩
    have hmx : max (d : Int) ((k : Int) + 1) = (s : Int) := by omega
    have hs1 : k + 1 ≤ s := by omega
    have hs2 : s ≤ n1 + 1 := by omega
    have HM := hide (of_mono xs (k := k) (by rw [HL.out]; omega))
    have HS := hide (show ∀ e, k + 1 ≤ e → e < s → (ofI A).getD e 0 < (ofI xs).getD (k + 1) 0 from fun e h1 h2 => by have := HD.out e (by omega) (by omega); have := HM.out; omega)
    have HO2 := hide hown
    clear hs HNn
    go_wp2
    go_loopw [11] (fun dv wr => ∃ d : Nat, s ≤ d ∧ d ≤ n1 + 1 ∧ dv = .int .i64 d ∧ Hid (∀ e, k + 1 ≤ e → e < d → (ofI A).getD e 0 < (ofI xs).getD (k + 1) 0) ∧ Hid (wr.ownsRow w3.heap.size 3 1 u10 k (((dlL (ofI xs) (ofI A) n1).take k).map (Value.int .i64))) ∧ Below w3.heap.size w3 wr) (fun dv _ => n1 + 1 - (intOf dv).toNat)
    case atStart => exact ⟨s, Nat.le_refl _, hs2, rfl, HS, HO2, hB⟩
    case round =>
     clear HO2 hown hB hBs HS HD hmx d0
     obtain ⟨d, hd1, hd2, rfl, HD, HO2, hB⟩ := hrel
     have hBs := hB.size
     have d0 : (0 : Int) ≤ (d : Int) := Int.natCast_nonneg _
     by_cases hdl : d < n1 + 1
     · have d1' : (d : Int) < (n1 : Int) + 1 := by omega
       have k2 : (k : Int) + 1 < (n : Int) + 1 := by omega
       have k3 : (0 : Int) ≤ (k : Int) + 1 := by omega
       have k4 : ((k : Int) + 1).toNat = k + 1 := by omega
       obtain ⟨ad, x, rfl, hbd, hc, HX⟩ := J1.getS hB (show k + 1 < n + 1 by omega)
       obtain ⟨ad', y, rfl, hbd', hc', HY⟩ := J2.getB hB hdl
       clear J1 J2
       by_cases hv : y < x
       · go_wp2
         go_quiet (fail)
         clear k4
         go_wp2
         go_roundw
         case rel => exact ⟨d + 1, by omega, by omega, by go_num, hide fun e h1 h2 => by
          rcases (show e < d ∨ e = d by omega) with h3 | rfl
          · exact HD.out e h1 h3
          · rw [getD_of HX.out, getD_of HY.out]; exact hv, HO2, Go.below_drewN hB _⟩
         case measure => (simp [intOf] <;> omega)
       · have hv' : x ≤ y := by omega
         have HE := hide (show dlQ (ofI xs) (ofI A) n1 k = (d : Int) - k - 1 by
          rw [dlQ_of hlt (by omega) (by omega) HD.out (fun _ => by rw [getD_of HX.out, getD_of HY.out]; exact hv'), if_neg (by omega)])
         have HNx := hide (show (d : Int) - k - 1 = (dlL (ofI xs) (ofI A) n1).getD k 0 by rw [← HE.out]; exact dlL_get hlt)
         have hown := HO2.out
         have e1 : ¬ ((d : Int) = (n1 : Int) + 1) := by omega
         have e2 : ((d : Int) == (n1 : Int) + 1) = false := by simp; omega
         clear hv HO2 HE
         go_wp2
         go_quiet (fail)
         clear k4
         go_wp2_with (at_builtin; refine wpList_append_own _ rfl _ _ 24 rfl w3.heap.size 3 i0 (.int .i64 0) 1 8 Tryz.underlying24 hi0 hz0 hz1 hz2 rfl (by decide) _ _ _ rfl (hown.alloc _) ⟨wr.heap.size, 0, none⟩ 1 1 [.int .i64 ((d : Int) - k - 1)] rfl rfl (cell_one_new _ _ _) (by simp [Value.oneCell']) (by unfold maxLen; omega) (by omega) (by simp; omega) ?_; intro v' w1 hown1 hgrow _)
         go_wp2
         go_roundw
         case rel => exact ⟨k + 1, d, by omega, by omega, by go_num, rfl, HD, own_next (by rw [HQ.out]; omega) HNx.out hown1, ((Go.below_drewN hB _).alloc (by simp; exact hBs) _).grown hgrow (by simp; omega) (own_row hown)⟩
         case measure => (simp [intOf] <;> omega)
     · obtain rfl : d = n1 + 1 := by omega
       have HE := hide (show dlQ (ofI xs) (ofI A) n1 k = -1 by
        rw [dlQ_of hlt (by omega) (by omega) HD.out (fun h => by omega), if_pos rfl])
       have HNx := hide (show (-1 : Int) = (dlL (ofI xs) (ofI A) n1).getD k 0 by rw [← HE.out]; exact dlL_get hlt)
       have hown := HO2.out
       have h5 : decide ((n1 : Int) + 1 < (n1 : Int) + 1) = false := by simp
       clear HO2 HE J1 J2
       go_wp2
       go_quiet (fail)
       go_wp2_with (at_builtin; refine wpList_append_own _ rfl _ _ 24 rfl w3.heap.size 3 i0 (.int .i64 0) 1 8 Tryz.underlying24 hi0 hz0 hz1 hz2 rfl (by decide) _ _ _ rfl (hown.alloc _) ⟨wr.heap.size, 0, none⟩ 1 1 [.int .i64 (-1)] rfl rfl (cell_one_new _ _ _) (by simp [Value.oneCell']) (by unfold maxLen; omega) (by omega) (by simp; omega) ?_; intro v' w1 hown1 hgrow _)
       go_wp2
       go_roundw
       case rel => exact ⟨k + 1, n1 + 1, by omega, by omega, by go_num, by go_num, HD, own_next (by rw [HQ.out]; omega) HNx.out hown1, ((Go.below_drewN hB _).alloc (by simp; exact hBs) _).grown hgrow (by simp; omega) (own_row hown)⟩
       case measure => (simp [intOf] <;> omega)
  · obtain rfl : k = n1 := by omega
    obtain ⟨b, d', hv, hI⟩ := IntsAt.of_own (own_all HQ.out.symm hown) (by rw [HQ.out]; omega)
    subst hv
    clear hown J1 J2
    go_wp2
    go_ret
    exact ⟨b, _, d', rfl, (by have := hI; rwa [HQ.out] at this), C3.out.trans (hB.mono hs3)⟩
end Go.Proofs.YtjjikhaaimfneaaGreatDoor
