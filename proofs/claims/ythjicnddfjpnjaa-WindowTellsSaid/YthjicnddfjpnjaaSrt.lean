/-
  PLAIN and WALKS: slices.Sorted over slices.Values.
-/
import Derived.Test.YthjicnddfjpnjaaSeqA
import Derived.Test.YthjicnddfjpnjaaWBase2
import Derived.Test.YthjicnddfjpnjaaShelf
import Derived.Sort.OwnSortedInts
namespace Go.Proofs.Ythjicnddfjpnjaa
open Go.RowKit Go.Shelf Go.Sort
set_option linter.unusedSimpArgs false
set_option linter.unusedVariables false

attribute [local go_sem] iteMin iteMax iteMinN iteMaxN

/-- the greatest of m + 1 numbers from place i on -/
def hi (f : Nat → Int) (i m : Nat) : Int := - lo (fun j => - f j) i m
theorem hi_is {f : Nat → Int} {i m : Nat} {v : Int} (h1 : ∀ j, i ≤ j → j ≤ i + m → f j ≤ v) (h2 : ∃ j, i ≤ j ∧ j ≤ i + m ∧ v = f j) : v = hi f i m := by
  have : -v = lo (fun j => - f j) i m := lo_is (fun j a b => by have := h1 j a b; omega) (by obtain ⟨j, a, b, rfl⟩ := h2; exact ⟨j, a, b, rfl⟩)
  unfold hi; omega
/-- the best of them -/
def bst (low : Bool) (f : Nat → Int) (i m : Nat) : Int := if low then lo f i m else hi f i m
def slideL (xs : List Int) (w : Nat) (low : Bool) : List Int := (List.range xs.length).map fun k => bst low (fun j => xs.getD j 0) (k + 1 - w) (k - (k + 1 - w))
theorem slideL_len (xs : List Int) (w : Nat) (low : Bool) : (slideL xs w low).length = xs.length := by simp [slideL]
theorem slideL_get {xs : List Int} {w k : Nat} {low : Bool} (h : k < xs.length) : (slideL xs w low).getD k 0 = bst low (fun j => xs.getD j 0) (k + 1 - w) (k - (k + 1 - w)) := by
  simp [slideL, List.getD_eq_getElem?_getD, h]
def slideI (xs : List Int) (w : Int) (low : Bool) : List Int := if w < 1 then [] else slideL xs w.toNat low
theorem slideI_no {xs : List Int} {w : Int} {low : Bool} (h : w < 1) : slideI xs w low = [] := if_pos h
theorem slideI_ok {xs : List Int} {w : Nat} {low : Bool} (h : 0 < w) : slideI xs (w : Int) low = slideL xs w low := by unfold slideI; rw [if_neg (by omega)]; simp
def sorted (ys : List Int) : List Int := ys.mergeSort fun x y => decide (x ≤ y)
theorem sorted_len (ys : List Int) : (sorted ys).length = ys.length := by unfold sorted; simp
theorem sorted_pw (ys : List Int) : (sorted ys).Pairwise (· ≤ ·) := by
  have h := List.pairwise_mergeSort (le := fun x y : Int => decide (x ≤ y)) (fun a b c h1 h2 => by simp only [decide_eq_true_eq] at *; omega) (fun a b => by simp only [Bool.or_eq_true, decide_eq_true_eq]; omega) ys
  exact h.imp (fun h => by simpa using h)
theorem sorted_mem (ys : List Int) (x : Int) : x ∈ sorted ys ↔ x ∈ ys := (List.mergeSort_perm ys _).mem_iff
theorem memAt {xs : List Int} {x : Int} (h : x ∈ xs) : ∃ j, j < xs.length ∧ xs.getD j 0 = x := by
  obtain ⟨j, hj, rfl⟩ := List.getElem_of_mem h
  exact ⟨j, hj, by rw [List.getD_eq_getElem?_getD, List.getElem?_eq_getElem hj]; rfl⟩
theorem getMem {xs : List Int} {j : Nat} (h : j < xs.length) : xs.getD j 0 ∈ xs := by
  rw [List.getD_eq_getElem?_getD, List.getElem?_eq_getElem h]; exact List.getElem_mem h
theorem sorted_ord {ys : List Int} {i j : Nat} (h : i ≤ j) (hj : j < ys.length) : (sorted ys).getD i 0 ≤ (sorted ys).getD j 0 := by
  have hl := sorted_len ys
  rw [List.getD_eq_getElem?_getD, List.getElem?_eq_getElem (by omega), List.getD_eq_getElem?_getD, List.getElem?_eq_getElem (by omega)]
  rcases Nat.lt_or_ge i j with h1 | h1
  · exact List.pairwise_iff_getElem.1 (sorted_pw ys) i j _ _ h1
  · obtain rfl : i = j := by omega
    exact Int.le_refl _
theorem sorted_first {ys : List Int} (h : 0 < ys.length) : (sorted ys).getD 0 0 = minL ys := by
  unfold minL
  refine lo_is (fun j _ hj => ?_) ?_
  · have hm := (sorted_mem ys (ys.getD j 0)).2 (getMem (by omega))
    obtain ⟨i, hi, e⟩ := memAt hm
    rw [sorted_len] at hi
    have := sorted_ord (Nat.zero_le i) hi
    omega
  · have hm := (sorted_mem ys _).1 (getMem (show 0 < (sorted ys).length by rw [sorted_len]; exact h))
    obtain ⟨j, hj, e⟩ := memAt hm
    exact ⟨j, Nat.zero_le _, by omega, e.symm⟩
theorem sorted_last {ys : List Int} (h : 0 < ys.length) : (sorted ys).getD (ys.length - 1) 0 = hi (fun j => ys.getD j 0) 0 (ys.length - 1) := by
  refine hi_is (fun j _ hj => ?_) ?_
  · have hm := (sorted_mem ys (ys.getD j 0)).2 (getMem (by omega))
    obtain ⟨i, hi, e⟩ := memAt hm
    rw [sorted_len] at hi
    have := sorted_ord (show i ≤ ys.length - 1 by omega) (show ys.length - 1 < ys.length by omega)
    omega
  · have hm := (sorted_mem ys _).1 (getMem (show ys.length - 1 < (sorted ys).length by rw [sorted_len]; omega))
    obtain ⟨j, hj, e⟩ := memAt hm
    exact ⟨j, Nat.zero_le _, by omega, e.symm⟩
theorem part_at {xs : List Int} {i k j : Nat} (hk : k < xs.length) (h : i + j ≤ k) : ((xs.take (k + 1)).drop i).getD j 0 = xs.getD (i + j) 0 := by
  rw [List.getD_eq_getElem?_getD, List.getElem?_drop, List.getElem?_take, if_pos (by omega), List.getD_eq_getElem?_getD]
theorem hi_part (xs : List Int) (i k : Nat) (h : i ≤ k) (hk : k < xs.length) : hi (fun j => ((xs.take (k + 1)).drop i).getD j 0) 0 (k - i) = hi (fun j => xs.getD j 0) i (k - i) := by
  unfold hi
  rw [← lo_shift (fun j => - xs.getD j 0) i]
  congr 1
  exact lo_congr _ fun j _ hj => by
    show - (((xs.take (k + 1)).drop i).getD j 0) = - (xs.getD (i + j) 0)
    rw [part_at hk (by omega)]

set_option maxHeartbeats 1000000 in
theorem values_any (a : Option Addr) (n c : Nat) (w : World) : Calls Try.prog 49 #[.slice a n c] w fun e w' => e = .returned (.func (.func 61) #[] #[.pointer (some ⟨w.heap.size, 0, none⟩)]) ∧ w' = w.alloc (.cells #[.slice a n c] 23) := by
  go_enter Try.func49, Try.ntmps49
  go_wp2
  go_ret
  exact ⟨rfl, rfl⟩
set_option maxHeartbeats 2000000 in
theorem collect_any (Bs len cap : Nat) (a : Option Addr) (zs : List Int) (w : World) (hc : w.cell? ⟨Bs, 0, none⟩ = some (.slice a len cap)) (hI : IntsAt w a len cap zs) :
    Calls Try.prog 59 #[.func (.func 61) #[] #[.pointer (some ⟨Bs, 0, none⟩)]] w fun e w' => (∃ v, e = .returned v ∧ w'.ownsRow w.heap.size 3 1 v zs.length (zs.map (Value.int .i64))) ∧ Below w.heap.size w w' := by
  have H := hide (appendSeq_any Bs len cap a zs w hc hI)
  clear hc hI
  go_enter Try.func59, Try.ntmps59
  go_wp2_with fail
  refine H.out.mono ?_
  rintro e w1 ⟨⟨v, rfl, hr⟩, hB⟩
  go_wp2
  go_ret
  exact ⟨⟨_, rfl, hr⟩, hB⟩
set_option maxHeartbeats 2000000 in
theorem sorted_any' (Bs len cap : Nat) (a : Option Addr) (zs : List Int) (w : World) (hc : w.cell? ⟨Bs, 0, none⟩ = some (.slice a len cap)) (hI : IntsAt w a len cap zs) (h0 : 0 < len) :
    Calls Try.prog 48 #[.func (.func 61) #[] #[.pointer (some ⟨Bs, 0, none⟩)]] w fun e w' => (∃ g cp, e = .returned (.slice (some ⟨g, 0, none⟩) len cp) ∧ IntsAt w' (some ⟨g, 0, none⟩) len cp (sorted zs)) ∧ Below w.heap.size w w' := by
  have H := hide (collect_any Bs len cap a zs w hc hI)
  have hl := hI.len
  have hlim := hI.lim
  clear hc hI
  go_enter Try.func48, Try.ntmps48
  go_wp2_with fail
  refine H.out.mono ?_
  rintro e w1 ⟨⟨v, rfl, hr⟩, hB⟩
  obtain ⟨hlen, hr⟩ := hr
  rcases hr with ⟨_, h⟩ | ⟨g, cp, cur, rfl, hg, hh, hn, hm, hsz, hx⟩
  · omega
  have hH : Holds (Value.int .i64) w1 g 0 zs.toArray := holds_of_blockI hh (by simpa using hx)
  have hlt : g < w1.heap.size := (Array.getElem?_eq_some_iff.1 hh).1
  have HS := hide (Try.slices_Sort_int g 0 cp zs w1 hH hlt (by omega))
  have hh' := hide hh
  have hN := hide hn; have hM := hide hm; have hZ := hide hsz; have hLn := hide hl; have hBB := hide hB
  clear hH hh hx hn hm hsz hlen H hB hl hlt
  go_wp2_with fail
  refine HS.out.mono ?_
  rintro e w2 ⟨rfl, m, os, hw2'⟩
  have hw2 : w2 = grow (putRow (Value.int .i64) (Sort.ahead w1 m) g 0 (sorted zs).toArray) os := hw2'
  clear hw2'
  have hg2 : w1.grownBy w2 (some g) := by rw [hw2]; exact grownBy_sortedI _
  have hs2 : w2.ownsRow w.heap.size 3 1 (.slice (some ⟨g, 0, none⟩) zs.length cp) zs.length ((sorted zs).map (Value.int .i64)) := by
    rw [hw2]; exact ownsRow_sortedI (ts := sorted zs) (sorted_len zs) hg hh'.out hN.out hM.out hZ.out
  have hB2 : Below w.heap.size w w2 := hBB.out.grown hg2 hBB.out.size (fun k e => by injection e with e; omega)
  have HI := hide (own_ints hs2 (by have := hLn.out; omega))
  clear hw2 hs2 hg2 HS
  go_wp2
  go_ret
  rw [hLn.out] at HI
  exact ⟨⟨g, cp, by rw [← hLn.out]; rfl, HI.out⟩, hB2⟩

end Go.Proofs.Ythjicnddfjpnjaa
