/-
  WALKS: the reference's RAbove.
-/
import Derived.Test.YthjicnddfjpnjaaMnP
import Derived.Test.YthjicnddfjpnjaaQMostW
import Derived.Test.YthjicnddfjpnjaaEdge
namespace Go.Proofs.Ythjicnddfjpnjaa
open Go.RowKit
set_option linter.unusedSimpArgs false
set_option linter.unusedVariables false

attribute [local go_sem] iteMin iteMax iteMinN iteMaxN

def flatG (es : List GE) : List Value := es.flatMap fun e => [.int .i64 e.src, .int .i64 e.dst, .int .i64 e.wt]
theorem flatG_snoc (es : List GE) (e : GE) : flatG (es ++ [e]) = flatG es ++ [.int .i64 e.src, .int .i64 e.dst, .int .i64 e.wt] := by simp [flatG]
theorem flatG_len (es : List GE) : (flatG es).length = es.length * 3 := by
  induction es with
  | nil => rfl
  | cons e es ih => simp only [flatG, List.flatMap_cons, List.length_append, List.length_cons] at ih ⊢; rw [ih]; simp; omega
theorem flatG_get {es : List GE} {j : Nat} {e : GE} (h : es[j]? = some e) : ∀ (i : Nat) (v : Value), [Value.int .i64 e.src, .int .i64 e.dst, .int .i64 e.wt][i]? = some v → (flatG es)[j * 3 + i]? = some v := by
  induction es generalizing j with
  | nil => simp at h
  | cons d es ih =>
    intro i v hv
    have e1 : flatG (d :: es) = [.int .i64 d.src, .int .i64 d.dst, .int .i64 d.wt] ++ flatG es := by simp [flatG]
    have hi := (List.getElem?_eq_some_iff.1 hv).1
    simp only [List.length_cons, List.length_nil] at hi
    rw [e1]
    cases j with
    | zero =>
      simp at h; subst h
      rw [List.getElem?_append_left (by simp; omega)]
      simpa using hv
    | succ j =>
      rw [List.getElem?_append_right (by simp; omega)]
      have := ih (by simpa using h) i v hv
      rw [show (j + 1) * 3 + i - [Value.int .i64 d.src, .int .i64 d.dst, .int .i64 d.wt].length = j * 3 + i by simp; omega]
      exact this
theorem edgesAt_own {w : World} {B m : Nat} {v : Value} {es : List GE} (h : w.ownsRow B 46 3 v m (flatG es)) (hm : es.length = m) (hm3 : m ≤ 4800) : ∃ a c, v = .slice a m c ∧ EdgesAt w a m c es := by
  rcases h.2 with ⟨h1, h2⟩ | ⟨g, cap, cur, h1, hg, hh, hn, hc, hs, hx⟩
  · subst h1; subst h2
    exact ⟨none, 0, rfl, hm, Nat.le_refl _, by omega, fun h => by omega⟩
  · subst h1
    have hlt := (Array.getElem?_eq_some_iff.1 hh).1
    refine ⟨_, cap, rfl, hm, hn, by omega, fun _ => ⟨_, rfl, hlt, fun j e he => ?_⟩⟩
    have key : ∀ (i : Nat) (x : Int), [Value.int .i64 e.src, .int .i64 e.dst, .int .i64 e.wt][i]? = some (.int .i64 x) → w.cell? ⟨g, j * 3 + i, none⟩ = some (.int .i64 x) := fun i x hi => by
      have h5 := flatG_get he i _ hi
      rw [← hx, List.getElem?_take] at h5
      split at h5
      · simp [World.cell?, hh]
        simpa using h5
      · cases h5
    have ea : ∀ i, (⟨g, 0, none⟩ : Addr).add i = ⟨g, i, none⟩ := fun i => by unfold Addr.add; split <;> simp_all
    rw [ea, ea, ea]
    exact ⟨key 0 _ rfl, key 1 _ rfl, key 2 _ rfl⟩
theorem infoEdge : (Try.prog.info? 46).map (fun i => (i.zero, i.size, i.bytes)) = some (some (.agg #[.int .i64 0, .int .i64 0, .int .i64 0]), 3, 24) := by kernel_rfl
theorem row3_lt {w : World} {B n : Nat} {e : TypeId} {size : Nat} {v : Value} {xs : List Value} (h : w.ownsRow B e size v n xs) : ∀ g, v.ownBlock = some g → B ≤ g ∧ g < w.heap.size := by
  intro g hg
  rcases h.2 with ⟨rfl, _⟩ | ⟨g', cap, cur, rfl, hb, hh, _⟩
  · simp [Value.ownBlock] at hg
  · simp only [Value.ownBlock, Option.some.injEq] at hg; subst hg
    exact ⟨hb, (Array.getElem?_eq_some_iff.1 hh).1⟩
theorem row3_kept {w w' : World} {B n : Nat} {e : TypeId} {size : Nat} {v : Value} {xs : List Value} (h : w.ownsRow B e size v n xs) (hk : ∀ g, v.ownBlock = some g → w'.heap[g]? = w.heap[g]?) : w'.ownsRow B e size v n xs := by
  obtain ⟨hl, h⟩ := h
  rcases h with ⟨rfl, rfl⟩ | ⟨g, cap, cur, rfl, hg, hh, hn, hm, hs, hx⟩
  · exact ⟨hl, .inl ⟨rfl, rfl⟩⟩
  · exact ⟨hl, .inr ⟨g, cap, cur, rfl, hg, by rw [hk g rfl]; exact hh, hn, hm, hs, hx⟩⟩
theorem row3_shape {w : World} {B n size : Nat} {e : TypeId} {v : Value} {xs : List Value} (h : w.ownsRow B e size v n xs) : ∃ a c, v = .slice a n c := by
  rcases h.2 with ⟨rfl, rfl⟩ | ⟨g, cap, cur, rfl, _⟩
  · exact ⟨none, 0, rfl⟩
  · exact ⟨_, _, rfl⟩
theorem sclG_take {es : List GE} {k : Nat} {e : GE} {a b : Int} (h : es[k]? = some e) : sclG (es.take (k + 1)) a b = sclG (es.take k) a b ++ [⟨e.src, e.dst, e.wt * b - a⟩] := by
  rw [List.take_add_one, h]; simp [sclG]
/-- at the head of RAbove's loop -/
structure RaI (w : World) (S N n c : Nat) (a : Option Addr) (es : List GE) (x b : Int) (k : Nat) (v : Value) (wr : World) : Prop where
  g0 : wr.cell? ⟨S, 0, none⟩ = some (.int .i64 N)
  h0 : wr.cell? ⟨S + 1, 0, none⟩ = some (.int .i64 N)
  h1 : wr.cell? ⟨S + 1, 1, none⟩ = some v
  hf : ∀ j, wr.frozen? ⟨S + 1, j, none⟩ = false
  row : wr.ownsRow (S + 2) 46 3 v k (flatG (sclG (es.take k) x b))
  bl : Below S w wr
  sz : S + 2 ≤ wr.heap.size
theorem RaI.step {w wr w2 : World} {S N n c k : Nat} {a : Option Addr} {es : List GE} {x b : Int} {v v' : Value} {e : GE} (h : RaI w S N n c a es x b k v wr) (he : es[k]? = some e) (hq : ∀ j, j ≤ S + 1 → w2.heap[j]? = wr.heap[j]?) (hb : Below S w w2)
    (hrow : w2.ownsRow (S + 2) 46 3 v' (k + 1) (flatG (sclG (es.take k) x b) ++ [.int .i64 e.src, .int .i64 e.dst, .int .i64 (e.wt * b - x)])) (hsz : S + 2 ≤ w2.heap.size) : RaI w S N n c a es x b (k + 1) v' (w2.setCell ⟨S + 1, 1, none⟩ v') := by
  have kc : ∀ b j, b ≤ S + 1 → w2.cell? ⟨b, j, none⟩ = wr.cell? ⟨b, j, none⟩ := fun b j hb => World.cell?_of_block (w := wr) (a := ⟨b, j, none⟩) (hq b hb)
  refine ⟨?_, ?_, ?_, fun j => ?_, ?_, ?_, ?_⟩
  · rw [World.cell?_setCell_other _ _ _ _ (fun e => by injection e with e _; omega), kc S 0 (by omega)]; exact h.g0
  · rw [World.cell?_setCell_other _ _ _ _ (fun e => by injection e with _ e; omega), kc (S + 1) 0 (by omega)]; exact h.h0
  · exact World.cell?_setCell_same' _ _ _ (by rw [kc (S + 1) 1 (Nat.le_refl _), h.h1]; rfl)
  · rw [World.frozen?_setCell, World.frozen?_of_block (w := wr) (a := ⟨S + 1, j, none⟩) (hq _ (Nat.le_refl _))]; exact h.hf j
  · rw [sclG_take he, flatG_snoc]
    exact row3_kept hrow (fun g hg => Below.heap_setCell _ _ _ _ (by have := (row3_lt hrow g hg).1; simp only; omega))
  · exact hb.setCell (by simp only; omega) _
  · simpa using hsz
theorem news3' (w : World) (vs : List Value) (t : TypeId) : ∀ (j : Nat) (u : Value), vs[j]? = some u → (w.alloc (.cells vs.toArray t)).cell? ((⟨w.heap.size, 0, none⟩ : Addr).add j) = some u := by
  intro j u hj
  have e1 : (⟨w.heap.size, 0, none⟩ : Addr).add j = ⟨w.heap.size, j, none⟩ := by unfold Addr.add; split <;> simp_all
  rw [e1]
  simp only [World.cell?, World.alloc, Array.getElem?_push_size]
  simpa using hj

set_option maxRecDepth 100000 in
set_option maxHeartbeats 4000000 in
theorem rabove_any (N : Nat) (a : Option Addr) (n c : Nat) (es : List GE) (x b : Int) (w : World) (h : EdgesAt w a n c es) (hg : GraphOk (N : Int) es) (hb : 0 ≤ b ∧ b ≤ 300) (hx : -1000000000 ≤ x ∧ x ≤ 1000000000) :
    Calls Try.prog 43 #[.agg #[.int .i64 N, .slice a n c], .int .i64 x, .int .i64 b] w fun e w' => (∃ t, e = .returned (.bool t) ∧ (t = true ↔ Above (pes es) x b)) ∧ Below w.heap.size w w' := by
  obtain ⟨i1, hi1, hy1, hz1, hu1⟩ := info_parts infoEdge
  obtain ⟨S, hS⟩ : ∃ S, w.heap.size = S := ⟨_, rfl⟩
  have HG := hide hg; have HE := hide h; have HS := hide hS; have HL := hide h.len
  have hn4 : n ≤ 4800 := by have := hg.1.2.2; rw [h.len] at this; exact this
  clear hg h
  go_enter Try.func43, Try.ntmps43
  go_wp2_with fail
  obtain ⟨X, hX⟩ : ∃ X, X = (w.alloc (.cells #[.int .i64 N, .slice a n c] 39)).alloc (.cells #[.int .i64 N, .slice none 0 0] 39) := ⟨_, rfl⟩
  have H0 : Hid (RaI w S N n c a es x b 0 (.slice none 0 0) X) := by
    have hw := HS.out
    refine hide ⟨?_, ?_, ?_, fun j => ?_, ⟨by simp [flatG, sclG], .inl ⟨rfl, rfl⟩⟩, ?_, ?_⟩
    · rw [hX, ← hw]; simp [go_sem, World.cell?_alloc_past]
    · rw [hX, ← hw]; simp [go_sem, World.cell?_alloc_past]
    · rw [hX, ← hw]; simp [go_sem, World.cell?_alloc_past]
    · rw [hX, ← hw]; simp [go_sem]
    · rw [hX, ← hw]; exact ((Below.refl _ _).alloc (Nat.le_refl _) _).alloc (by simp) _
    · rw [hX]; simp [hw]
  rw [← hX]
  clear hX
  go_loopw [18] (fun i wr => ∃ (k : Nat) (v : Value), k ≤ n ∧ i = .int .i64 k ∧ Hid (RaI w S N n c a es x b k v wr)) (fun i _ => n - (intOf i).toNat)
  case atStart => exact ⟨0, _, Nat.zero_le _, rfl, H0⟩
  case round =>
    clear H0 X
    obtain ⟨k, v, hk, rfl, hrel⟩ := hrel
    obtain ⟨va, vc, hv⟩ := row3_shape hrel.out.row
    subst hv
    have k0 : (0 : Int) ≤ (k : Int) := Int.natCast_nonneg _
    by_cases hlt : k < n
    · have hlt' : (k : Int) < (n : Int) := by omega
      obtain ⟨ad, xs, ys, zs, rfl, hbd, HX, d0, d1, d2⟩ := HE.out.getB (by rw [HS.out]; exact hrel.out.bl) hlt
      have hok := HG.out.2 _ (List.mem_of_getElem? HX.out)
      unfold EdgeOk at hok
      simp only at hok
      have m1 : -(1048576 * b) ≤ zs * b := by
        have := Int.mul_le_mul_of_nonneg_right (show -1048576 ≤ zs by omega) hb.1
        omega
      have m2 : zs * b ≤ 1048576 * b := Int.mul_le_mul_of_nonneg_right (by omega) hb.1
      have w1 : IntKind.i64.wrap (zs * b) = zs * b := IntWalk.i64_in _ (by omega)
      have w2 : IntKind.i64.wrap (zs * b - x) = zs * b - x := IntWalk.i64_in _ (by omega)
      have p0 := hrel.out.h1
      have f0 := hrel.out.hf 1
      have hsz := hrel.out.sz
      have HR := hide hrel.out.row
      have n1 : S + 1 < wr.heap.size := by omega
      have n2 : ¬ S + 1 = wr.heap.size := by omega
      have n3 : ¬ wr.heap.size = S + 1 := by omega
      have HK : Hid (∀ (o o' : Obj) (w2 : World), ((wr.alloc o).alloc o').grownBy w2 (Value.slice va k vc).ownBlock → (∀ j, j ≤ S + 1 → w2.heap[j]? = wr.heap[j]?) ∧ w2.cell? ⟨S + 1, 1, none⟩ = some (.slice va k vc) ∧ w2.frozen? ⟨S + 1, 1, none⟩ = false ∧ Below S w w2) := hide (fun o o' w2 hg => by
        have hj : ∀ j, j ≤ S + 1 → w2.heap[j]? = wr.heap[j]? := fun j hj => by
          rw [hg.block j (by simp; omega) (fun e => by have := (row3_lt HR.out j e.symm).1; omega)]
          exact (heap_alloc_old (wr.alloc o) o' (by simp; omega)).trans (heap_alloc_old wr o (by omega))
        refine ⟨hj, ?_, ?_, ?_⟩
        · rw [World.cell?_of_block (w := wr) (a := ⟨S + 1, 1, none⟩) (hj _ (Nat.le_refl _))]; exact p0
        · rw [World.frozen?_of_block (w := wr) (a := ⟨S + 1, 1, none⟩) (hj _ (Nat.le_refl _))]; exact f0
        · have h3 := hrel.out.bl
          exact ⟨hg.os.trans h3.os, hg.tape.trans h3.tape, hg.output.trans h3.output, Nat.le_trans h3.size (Nat.le_trans (by simp; omega) hg.size), fun j hj' => (hj j (by omega)).trans (h3.block j hj')⟩)
      clear hok m1 m2
      go_wp2_with (at_builtin; refine wpList_append_own _ rfl (.tmp 23) (.tmp 35) 37 rfl (S + 2) 46 i1 _ 3 24 Try.underlying37 hi1 hy1 hz1 hu1 rfl (by decide) (.slice va k vc) k _ rfl ((HR.out.alloc _).alloc _) _ 1 1 [.int .i64 xs, .int .i64 ys, .int .i64 (zs * b - x)] rfl rfl (fun j u hj => (by have := news3' (wr.alloc (.cells #[.int .i64 xs, .int .i64 ys, .int .i64 zs] 46)) [.int .i64 xs, .int .i64 ys, .int .i64 (zs * b - x)] 46 j u hj; simpa using this)) (by simp [Value.oneCell']) (by unfold maxLen; omega) (by omega) (by first | omega | (simp; omega)) ?_; intro v' w2 hown' hgrow hnil; obtain ⟨q0, q1, q2, q3⟩ := HK.out _ _ w2 hgrow; obtain ⟨va', vc', ev⟩ := row3_shape hown'; subst ev; have HO := hide hown'; have HQ := hide q0; have HB3 := hide q3; have HSZ := hide hgrow.size; clear hown' hgrow hnil q0 q3)
      exact ⟨⟨k + 1, _, by omega, by simp, hide (hrel.out.step HX.out HQ.out HB3.out HO.out (by have := HSZ.out; simp at this; omega))⟩, by simp [intOf]; omega⟩
    · obtain rfl : k = n := by omega
      have hall : es.take k = es := List.take_of_length_le (by rw [HL.out]; omega)
      have hrow := hrel.out.row
      rw [hall] at hrow
      obtain ⟨a2, c2, e2, hE2⟩ := edgesAt_own hrow (by simp [sclG, HL.out]) hn4
      injection e2 with e2 _ e3
      subst e2 e3
      have p0 := hrel.out.h0
      have p1 := hrel.out.h1
      have HE2 := hide hE2
      clear hrow hE2 hall
      go_wp2_with fail
      refine (qmost_anyW N _ _ _ _ wr HE2.out (sclG_ok HG.out hb hx)).mono ?_
      rintro e w5 ⟨hq, B5⟩
      have hB := hide (hrel.out.bl.trans (B5.mono (by have := hrel.out.sz; omega)))
      rcases hq with ⟨hp, b', d', rfl, _⟩ | ⟨hp, rfl⟩
      · go_wp2
        go_ret
        exact ⟨⟨false, rfl, by rw [above_of]; simp [hp]⟩, by rw [HS.out]; exact hB.out⟩
      · go_wp2
        go_ret
        exact ⟨⟨true, rfl, by rw [above_of]; simp [hp]⟩, by rw [HS.out]; exact hB.out⟩

end Go.Proofs.Ythjicnddfjpnjaa
