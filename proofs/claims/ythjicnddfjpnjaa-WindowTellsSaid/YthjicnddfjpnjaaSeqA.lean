/-
  WALKS: slices.Values's iterator, slices.AppendSeq over it.
-/
import Derived.RangeFuncNested
import Derived.RangeFuncBound
import Derived.RangeFuncCalls
import Derived.RangeFuncLeaves
import Derived.RangeFuncBox
import Derived.Shelf.Abstract
import Derived.Shelf.RegionOpen
import Derived.OwnWalkIn
import Derived.TacticsInMore
import Derived.LoopNIn
import Derived.LoopIn
import Derived.Test.YthjicnddfjpnjaaClkSl
import Derived.Test.YthjicnddfjpnjaaChecked
namespace Go.Proofs.Ythjicnddfjpnjaa
open Go.RowKit Go.Shelf
set_option linter.unusedSimpArgs false
set_option linter.unusedVariables false

attribute [local go_sem] iteMin iteMax iteMinN iteMaxN

attribute [local go_sem] Oper.semAt_some
theorem seqInfo : (Try.prog.info? 3).map (fun i => (i.zero, i.size, i.bytes)) = some (some (.int .i64 0), 1, 8) := by kernel_rfl
theorem take_snoc {zs : List Int} {k : Nat} {x : Int} (h : zs[k]? = some x) : zs.take (k + 1) = zs.take k ++ [x] := by
  obtain ⟨hk, rfl⟩ := List.getElem?_eq_some_iff.1 h
  exact (List.take_succ_eq_append_getElem hk)
set_option maxRecDepth 100000 in
set_option maxHeartbeats 2000000 in
theorem vals1_in (F : Fence) (n : Nat) (h7 : F.fn 61) (hro : F.round = none) (hn : 1 ≤ n) (l Bs n₀ len cap : Nat) (a : Option Addr) (zs : List Int) (hb : ∀ ad, a = some ad → 0 < len → ad.block < n₀) (J Jx : List Int → World → Prop)
    (hY : ∀ pre x W, J pre W → pre.length < len → YieldAt F (n - 1) Try.prog l #[.int .i64 x] W fun e W' =>
      (e = .returned (.bool true) ∧ J (pre ++ [x]) W' ∧ Below n₀ W W') ∨ (e = .returned (.bool false) ∧ Jx (pre ++ [x]) W'))
    (W : World) (hBs : W.cell? ⟨Bs, 0, none⟩ = some (.slice a len cap)) (hI : IntsAt W a len cap zs) (h0 : J [] W) :
    CallsIn F n Try.prog 61 #[.func (.yield l) #[] #[], .pointer (some ⟨Bs, 0, none⟩)] W fun e W' => (∃ v, e = .returned v) ∧
      ((∃ ys, ys = zs ∧ J ys W') ∨ (∃ pre, True ∧ Jx pre W')) := by
  have HL := hide hI.len
  have hlim := hI.lim
  have HI := hide hI
  clear hI
  refine callsIn_of_wp Try.func61 rfl h7 ?_ hro
  simp only [Try.ntmps61, List.size_toArray, List.length_cons, List.length_nil, Nat.reduceAdd, Nat.reduceSub, Array.replicate_succ, Array.replicate_zero, List.push_toArray, List.append_toArray, List.nil_append, List.cons_append]
  gi_wp2
  gi_loopw [7] (fun i wr => ∃ k : Nat, k ≤ len ∧ i = .int .i64 k ∧ J (zs.take k) wr ∧ Below n₀ W wr)
    (fun i _ => len - (intOf i).toNat)
  case atStart => exact ⟨0, Nat.zero_le _, rfl, by simpa using h0, Below.refl _ _⟩
  case round =>
    obtain ⟨k, hk, rfl, hJs, hnx⟩ := hrel
    have k0 : (0 : Int) ≤ (k : Int) := Int.natCast_nonneg _
    by_cases hlt : k < len
    · have k1 : (k : Int) < (len : Int) := by omega
      obtain ⟨ad, x, rfl, hbd, hc, HX⟩ := HI.out.getB (Below.refl _ _) hlt
      have hc' : wr.cell? (ad.add k) = some (.int .i64 x) := (hnx.cell (by rw [block_add]; exact hb ad rfl (by omega))).trans hc
      obtain ⟨fn, tmps, assign, body, hy, hR⟩ := hY _ x wr hJs (by rw [List.length_take, HL.out]; omega)
      clear hc
      gi_wp2
      refine hR.mono ?_
      rintro e W3 (⟨rfl, hJ3, hk3⟩ | ⟨rfl, hJx3⟩)
      · gi_wp2
        go_roundw
        case rel => exact ⟨k + 1, by omega, by first | go_num | simp, by rw [take_snoc HX.out]; exact hJ3, hnx.trans hk3⟩
        case measure => simp [intOf]; omega
      · gi_wp2
        refine bodyPost_ret (results_none rfl _ _ _) rfl ?_
        exact ⟨⟨_, rfl⟩, .inr ⟨_, trivial, hJx3⟩⟩
    · obtain rfl : k = len := by omega
      gi_wp2
      go_end0
      exact ⟨⟨_, rfl⟩, .inl ⟨_, by rw [← HL.out, List.take_length], hJs⟩⟩
theorem vals_stops (F : Fence) (n : Nat) (h7 : F.fn 61) (hro : F.round = none) (hn : 1 ≤ n) (Bs n₀ len cap : Nat) (a : Option Addr) (zs : List Int) (w : World) (hBs : Bs < w.heap.size)
    (hc : w.cell? ⟨Bs, 0, none⟩ = some (.slice a len cap)) (hI : IntsAt w a len cap zs) (hb : ∀ ad, a = some ad → 0 < len → ad.block < n₀) :
    SeqStopsK F n Try.prog 61 #[.pointer (some ⟨Bs, 0, none⟩)] (fun x : Int => #[Value.int .i64 x]) (Below n₀) (fun ys => ys = zs) (fun _ => True) len w := fun l J Jx W hW _ _ hY h0 =>
  vals1_in F n h7 hro hn l Bs n₀ len cap a zs hb J Jx hY W ((hW.cell (p := ⟨Bs, 0, none⟩) hBs).trans hc) (hI.below hW) h0

set_option maxRecDepth 100000 in
set_option maxHeartbeats 4000000 in
theorem appendSeq_any (Bs len cap : Nat) (a : Option Addr) (zs : List Int) (w : World) (hc : w.cell? ⟨Bs, 0, none⟩ = some (.slice a len cap)) (hI : IntsAt w a len cap zs) :
    Calls Try.prog 65 #[.slice none 0 0, .func (.func 61) #[] #[.pointer (some ⟨Bs, 0, none⟩)]] w fun e w' => (∃ v, e = .returned v ∧ w'.ownsRow w.heap.size 3 1 v zs.length (zs.map (Value.int .i64))) ∧ Below w.heap.size w w' := by
  obtain ⟨i0, hi0, hz0, hz1, hz2⟩ := info_parts seqInfo
  have hlim := hI.lim
  have hlen := hI.len
  have hBs := World.block_lt_of_cell? w _ hc
  have hte : (23 : TypeId) ≠ 3 := by decide
  refine (callsIn_wide (n := 6)).1 ?_
  refine callsIn_of_wp_marks Try.func65 rfl trivial ?_ rfl
  simp only [Try.ntmps65, List.size_toArray, List.length_cons, List.length_nil, Nat.reduceAdd, Nat.reduceSub, Array.replicate_succ, Array.replicate_zero, List.push_toArray, List.append_toArray, List.nil_append, List.cons_append]
  obtain ⟨S, hS⟩ : ∃ S, w.heap.size = S := ⟨_, rfl⟩
  gi_wp2_with fail
  have bN := Boxed.new w 23 (.slice none 0 0)
  have hB0 : Below S w (w.alloc (.cells #[.slice none 0 0] 23)) := by rw [← hS]; exact (Below.refl _ w).alloc (Nat.le_refl _) _
  have hcW := (hB0.cell (p := ⟨Bs, 0, none⟩) (by rw [← hS]; exact hBs)).trans hc
  have hIW := hI.below (by rw [hS]; exact hB0)
  have hbl : ∀ ad, a = some ad → 0 < len → ad.block < S := fun ad e h => by
    obtain ⟨ad', x, e', hb, _⟩ := hI.getB (Below.refl _ _) (show 0 < len from h)
    rw [e] at e'; injection e' with e'; subst e'
    rw [block_add] at hb; rw [← hS]; exact hb
  have hWs : (w.alloc (.cells #[.slice none 0 0] 23)).heap.size = S + 1 := by simp [hS]
  rw [hS] at bN
  obtain ⟨W, hW⟩ : ∃ W, W = w.alloc (.cells #[.slice none 0 0] 23) := ⟨_, rfl⟩
  rw [← hW] at bN hB0 hcW hIW hWs ⊢
  clear hW hc hI
  refine wpIn_rangeFunc_ownF (F := Fence.wide) rfl (by omega) (gf := 61) (lb := #[.pointer (some ⟨Bs, 0, none⟩)]) rfl trivial (enters_of Try.func61 (by kernel_rfl) rfl)
    (vals_stops Fence.wide _ trivial rfl (by omega) Bs S len cap a zs W (by omega) hcW hIW hbl) belowK_t (belowK_b (by omega)) (Below.refl _ _) (fun _ => rfl)
    (fun pre W' => (∃ v, Boxed W' S 23 v ∧ W'.ownsRow S 3 1 v pre.length (pre.map (Value.int .i64)) ∧ True) ∧ Below S w W')
    (fun _ _ _ => False)
    (OwnFrom.and (Own.from (holdsRow_own S S 23 3 1 (fun pre : List Int => pre.length) (fun pre => pre.map (Value.int .i64)) (fun _ _ => True)) _) (ownFrom_below (by omega) (by omega)))
    (fun _ _ _ _ _ hs _ _ => hs)
    ⟨⟨.slice none 0 0, bN, ⟨rfl, .inl ⟨rfl, rfl⟩⟩, trivial⟩, hB0⟩
    ?a1 ?assign ?body ?done ?stop
  case assign =>
    intro l x W' K hK
    gi_wp2
    exact hK
  case body =>
    rintro l pre x W' ⟨⟨v, hv, hr, _⟩, hB⟩ hlt
    have hn : pre.length < 17592186044416 := by omega
    have hBs' := hB.size
    rw [hS] at hBs'
    have hc := hv.cell
    gi_wp2_with (gi_at_builtin; refine wpListIn_append_own _ rfl _ _ 23 rfl S 3 i0 (.int .i64 0) 1 8 Try.underlying23 hi0 hz0 hz1 hz2 rfl (by decide) _ _ _ rfl (hr.alloc _) ⟨W'.heap.size, 0, none⟩ 1 1 [.int .i64 x] rfl rfl (cell_one_new _ _ _) (by simp [Value.oneCell']) (by unfold maxLen; omega) (by omega) (by simp; omega) ?_; intro v' w1 hown' hgrow _; obtain ⟨g', cap', rfl⟩ := ownsRow_succ hown'; obtain ⟨hv1, hv2, hr2, hk2, hb2⟩ := hv.appended hte hr hBs' (Nat.le_refl _) hown' hgrow; have hc1 := hv1.cell; have hf1 := hv1.frozen)
    exact ⟨hk2, hb2, ⟨_, hv2, by simpa using hr2, trivial⟩, hB.trans hb2⟩
  case done =>
    rintro D ys W' hD rfl ⟨⟨v, hv, hrow, _⟩, hB⟩ hK
    have hc := hv.cell
    gi_wp2
    refine ⟨by simp, .inl ⟨_, _, rfl, run_takeDeferred hK, ?_⟩⟩
    exact ⟨_, results_tmp rfl _ _ _, ⟨v, rfl, by rw [hS]; exact ownsRow_putObj hrow _ hK rfl⟩, by rw [hS]; exact hB.trans (belowK_b (w := W) (by omega) W' D _ _ hD hK rfl rfl)⟩
  case stop =>
    rintro D c pre W' _ _ h _
    exact h.elim

end Go.Proofs.Ythjicnddfjpnjaa
