/-
  Lemmas and walks for the statement: VTwP.
-/
import Derived.Test.YtagbikgfkakbfaaQ40
import Derived.Test.YtagbikgfkakbfaaQ46
import Derived.Test.YtagbikgfkakbfaaQ47
import Derived.Test.YtagbikgfkakbfaaQ01
namespace Go.Proofs.Ytagbikgfkakbfaa
open Go.RowKit
set_option linter.unusedSimpArgs false
set_option linter.unusedVariables false
theorem pairs_of_own {w : World} {B : Nat} {t : TypeId} {v : Value} {es : List P2} (h : w.ownsRow B t 2 v es.length (flat2 es)) (hl : es.length ≤ 17592186044416) : ∃ a c, v = .slice a es.length c ∧ PairsAt w a es.length c es := by
 rcases h.2 with ⟨rfl, h0⟩ | ⟨g, cap, cur, rfl, _, hg, hn, _, hs, hx⟩
 · have : es = [] := List.eq_nil_of_length_eq_zero h0
   subst this
   exact ⟨none, 0, rfl, rfl, Nat.le_refl _, by omega, fun h => absurd h (by simp)⟩
 · refine ⟨_, _, rfl, rfl, hn, hl, fun h0 => ⟨_, rfl, ?_, fun j e he => ?_⟩⟩
   · rcases Nat.lt_or_ge g w.heap.size with h1 | h1
     · exact h1
     · rw [Array.getElem?_eq_none h1] at hg; cases hg
   · have hjl := (List.getElem?_eq_some_iff.1 he).1
     have e1 : ∀ j, (⟨g, 0, none⟩ : Addr).add j = ⟨g, j, none⟩ := fun j => by unfold Addr.add; split <;> simp_all
     have key : ∀ i u, i < es.length * 2 → (flat2 es)[i]? = some u → w.cell? ⟨g, i, none⟩ = some u := fun i u hi hu => by
      have e2 : w.cell? ⟨g, i, none⟩ = cur[i]? := by simp [World.cell?, hg]
      rw [e2]
      have e3 : (cur.toList.take (es.length * 2))[i]? = some u := by rw [hx, hu]
      rw [List.getElem?_take, if_pos hi] at e3
      simpa using e3
     obtain ⟨h1, h2⟩ := flat2_get he
     rw [e1, e1]
     exact ⟨key _ _ (by omega) h1, key _ _ (by omega) h2⟩
theorem vsays_two {k0 k1 R Q J who ratio kind most err : Int} (h : VSays k0 k1 R Q J who ratio kind most err) (h2 : kind = 2) : most = 0 ∧ err = 0 := by
 rcases h with ⟨_, rfl, _⟩ | ⟨_, r, X, _, ⟨_, rfl, _⟩ | ⟨_, h3, ⟨_, rfl, _⟩ | ⟨_, _, h4⟩⟩⟩
 · omega
 · omega
 · omega
 · exact ⟨h4, h3⟩
theorem judge_two {k0 k1 R Q J who ratio most err : Int} (hv : VSays k0 k1 R Q J who ratio 2 most err) (w : World) : Calls Try.prog 7 #[.agg #[.int .i64 k0, .int .i64 k1, .int .i64 R, .int .i64 Q, .int .i64 J], .int .i64 who, .int .i64 ratio] w fun e w' => (∃ ld rd a1 c1 a2 c2, e = .returned (.tuple #[.agg #[.int .i64 2, .int .i64 0, .slice a1 ld.length c1, .slice a2 rd.length c2], .int .i64 0]) ∧ PairsAt w' a1 ld.length c1 ld ∧ PairsAt w' a2 rd.length c2 rd ∧ Tells k0 k1 R Q J who ratio ld rd) ∧ Below w.heap.size w w' := by
 refine (judge_any k0 k1 R Q J who ratio w).mono ?_
 rintro e w' ⟨⟨kd, mo, er, lv, rv, rfl, hs, h⟩, hb⟩
 obtain ⟨rfl, rfl, rfl⟩ := vsays_one hv hs
 refine ⟨?_, hb⟩
 obtain ⟨rfl, rfl⟩ := vsays_two hv rfl
 rcases h with ⟨h, _, _⟩ | ⟨_, ld, rd, hw⟩
 · exact absurd rfl h
 · have ht := tells_of hw
   obtain ⟨X, q, ns, m, B, B', f, c, _, _, _, _, _, _, _, _, _, _, h1, h2⟩ := hw.way
   have l1 := ht.l1; have l2 := ht.l2
   obtain ⟨a1, c1, rfl, p1⟩ := pairs_of_own h1 (by omega)
   obtain ⟨a2, c2, rfl, p2⟩ := pairs_of_own h2 (by omega)
   exact ⟨ld, rd, a1, c1, a2, c2, rfl, p1, p2, ht⟩
theorem judge_no {k0 k1 R Q J who ratio kind most err : Int} (hv : VSays k0 k1 R Q J who ratio kind most err) (hk : kind ≠ 2) (w : World) : Calls Try.prog 7 #[.agg #[.int .i64 k0, .int .i64 k1, .int .i64 R, .int .i64 Q, .int .i64 J], .int .i64 who, .int .i64 ratio] w fun e w' => e = .returned (.tuple #[.agg #[.int .i64 kind, .int .i64 most, .slice none 0 0, .slice none 0 0], .int .i64 err]) ∧ Below w.heap.size w w' := by
 refine (judge_any k0 k1 R Q J who ratio w).mono ?_
 rintro e w' ⟨⟨kd, mo, er, lv, rv, rfl, hs, h⟩, hb⟩
 obtain ⟨rfl, rfl, rfl⟩ := vsays_one hv hs
 refine ⟨?_, hb⟩
 rcases h with ⟨_, rfl, rfl⟩ | ⟨h, _⟩
 · rfl
 · exact absurd h hk
def PlEnds (s0 s1 s2 s3 s4 s5 s6 s7 s8 s9 s10 s11 s12 s13 : Int) (T : List R6 → Prop) (w : World) (e : Ending) (w' : World) : Prop :=
 (∃ a c L, e = .returned (.tuple #[.slice a L.length c, .agg #[.int .i64 s0, .int .i64 s1, .int .i64 s2, .int .i64 s3, .int .i64 s4, .int .i64 s5, .int .i64 s6, .int .i64 s7, .int .i64 s8, .int .i64 s9, .int .i64 s10, .int .i64 s11, .int .i64 s12, .int .i64 s13], .int .i64 0]) ∧ Hid (RoundsAt w' a L.length c L) ∧ Hid (∀ ad, a = some ad → w.heap.size ≤ ad.block) ∧ Hid (T L)) ∧ Below w.heap.size w w'
theorem tells_play {k0 k1 R Q J who ratio : Int} {ld rd : List P2} (h : Tells k0 k1 R Q J who ratio ld rd) : ∃ s0 s1 s2 s3 s4 s5 s6 s7 s8 s9 s10 s11 s12 s13 : Int, (∀ z ∈ [s0, s1, s2, s3, s4, s5, s6, s7, s8, s9, s10, s11, s12, s13], Sml z) ∧
 (∀ (w : World) (a : Option Addr) (c : Nat), PairsAt w a ld.length c ld → Calls Try.prog 8 #[.agg #[.int .i64 k0, .int .i64 k1, .int .i64 R, .int .i64 Q, .int .i64 J], .slice a ld.length c] w fun e w' => PlEnds s0 s1 s2 s3 s4 s5 s6 s7 s8 s9 s10 s11 s12 s13 (fun _ => True) w e w') ∧
 (∀ (w : World) (a : Option Addr) (c : Nat), PairsAt w a (ld.length + rd.length) c (ld ++ rd) → Calls Try.prog 8 #[.agg #[.int .i64 k0, .int .i64 k1, .int .i64 R, .int .i64 Q, .int .i64 J], .slice a (ld.length + rd.length) c] w fun e w' => PlEnds s0 s1 s2 s3 s4 s5 s6 s7 s8 s9 s10 s11 s12 s13 (fun L => L.length = ld.length + rd.length ∧ (∀ x ∈ L.drop ld.length, x.In) ∧ 0 < brI who ratio (L.drop ld.length) rd.length) w e w') := by
 obtain ⟨ss, h14, hsm, h1, h2⟩ := h.says
 obtain ⟨s0, s1, s2, s3, s4, s5, s6, s7, s8, s9, s10, s11, s12, s13, rfl⟩ := len14 h14
 have l1 := h.l1; have l2 := h.l2
 refine ⟨s0, s1, s2, s3, s4, s5, s6, s7, s8, s9, s10, s11, s12, s13, hsm, fun w a c hp => ?_, fun w a c hp => ?_⟩
 · refine (pplay_new k0 k1 R Q J a ld.length c ld w hp (by omega) h.kinds h.range).mono ?_
   rintro e w' ⟨⟨L, ss, r, a', c', hs, rfl, hr, hnw⟩, hb⟩
   obtain ⟨rfl, rfl⟩ := h1 L ss r hs
   exact ⟨⟨a', c', L, rfl, hr, hnw, hide trivial⟩, hb⟩
 · refine (pplay_new k0 k1 R Q J a (ld.length + rd.length) c (ld ++ rd) w hp (by omega) h.kinds h.range).mono ?_
   rintro e w' ⟨⟨L, ss, r, a', c', hs, rfl, hr, hnw⟩, hb⟩
   obtain ⟨rfl, rfl, h3, h4, h5⟩ := h2 L ss r hs
   exact ⟨⟨a', c', L, rfl, hr, hnw, hide ⟨h3, h4, h5⟩⟩, hb⟩
theorem rounds_set {w : World} {a : Option Addr} {n c : Nat} {L : List R6} (h : RoundsAt w a n c L) {p : Addr} (hp : ∀ ad, a = some ad → p.block ≠ ad.block) (v : Value) : RoundsAt (w.setCell p v) a n c L :=
 ⟨h.1, h.2.1, h.2.2.1, fun hn => by
  obtain ⟨ad, e, hlt, hc⟩ := h.2.2.2 hn
  refine ⟨ad, e, by simpa [World.setCell] using hlt, fun j r hr i v' hi hv => ?_⟩
  have hb := Below.heap_setCell w p v ad.block (fun e' => hp ad e e'.symm)
  exact (World.cell?_of_block (w := w) (a := ad.add (j * 6 + i)) (by rw [block_add]; exact hb)).trans (hc j r hr i v' hi hv)⟩
theorem rounds_drop {w : World} {ad : Addr} {n c k : Nat} {L : List R6} (h : RoundsAt w (some ad) n c L) (hk : k ≤ n) : RoundsAt w (some (ad.add (k * 6))) (n - k) (c - k) (L.drop k) := by
 refine ⟨by rw [List.length_drop, h.len], by have := h.2.1; omega, by have := h.lim; omega, fun h0 => ?_⟩
 obtain ⟨ad', e, hlt, hc⟩ := h.2.2.2 (by omega)
 injection e with e; subst e
 refine ⟨_, rfl, by rw [block_add]; exact hlt, fun j r hj i v hi hv => ?_⟩
 rw [List.getElem?_drop] at hj
 have := hc (k + j) r hj i v hi hv
 rw [Go.Deep.add_add, show k * 6 + (j * 6 + i) = (k + j) * 6 + i by omega]
 exact this
theorem blk_of_heap {w : World} {b : Nat} {vs : List Value} {t : TypeId} (h : w.heap[b]? = some (.cells vs.toArray t (0, 0))) : Blk w b vs := fun j v hj => by
 constructor
 · simp only [World.cell?, h]; simpa using hj
 · simp [World.frozen?, h]
theorem ints_one (l : List Int) : ((l.map (Value.int .i64)).toArray).all (·.oneCell') = true := by simp [Value.oneCell']
theorem heap_newC (w : World) (cs : Array Value) (t : TypeId) : (w.alloc (.cells cs t)).heap[w.heap.size]? = some (.cells cs t (0, 0)) := World.alloc_heap_new w _
theorem rounds_row {w : World} {a : Option Addr} {n c : Nat} {L : List R6} (h : RoundsAt w a n c L) {g : Nat} (hp : ∀ ad, a = some ad → g ≠ ad.block) (cs : Array Value) : RoundsAt (w.setRow g cs) a n c L :=
 ⟨h.1, h.2.1, h.2.2.1, fun hn => by
  obtain ⟨ad, e, hlt, hc⟩ := h.2.2.2 hn
  refine ⟨ad, e, by simpa using hlt, fun j r hr i v' hi hv => ?_⟩
  rw [cell_setRow_other _ _ _ _ (by rw [block_add]; exact fun e' => hp ad e e'.symm)]
  exact hc j r hr i v' hi hv⟩
section
variable {P : Program} {ops : Array Oper} {Q : Exit → Act → World → Prop} {md : Region.Mode} {c : Nat} {F : World → Prop}
theorem wpAnyG_row {i : Nat} {o : Oper} {fuel : Nat} {listed L2 : Array Bool} {a a2 : Act} {w : World} (g : Nat) (cells : Array Value) {t ty : TypeId} {x y : Operand} {old : Array Value}
 (hg : w.heap[g]? = some (.cells old t (0, 0))) (ho : ops[i]? = some o) (hr : Region.ready md ops listed = [i]) (hl : (listed.setIfInBounds i true).getD c true = true)
 (hgd : o.guard = none) (hop : o.op = .store ty x y) (hx : a.eval x = .pointer (some ⟨g, 0, none⟩)) (hy : a.eval y = .agg cells) (hi : (P.info? ty).map (·.size) = some cells.size) (hold : old.size = cells.size) (h1 : cells.all (·.oneCell') = true)
 (hL : listed.setIfInBounds i true = L2) (ha : a.put o.dst undef = a2)
 (h : wpAnyG P md ops Q c F fuel L2 a2 (w.setRow g cells)) : wpAnyG P md ops Q c F (fuel + 1) listed a w := by
 subst hL; subst ha
 refine wpAnyG_one ho hr hl (fun K hK => ?_)
 have hw : Region.wanted o (yielded ops a.tmps) = true := by simp [Region.wanted, hgd]
 rw [if_pos hw]
 exact wp_store_row ty x y hop g cells hx hy t old hg hi hold h1 (hK.out _ _ h)
end
end Go.Proofs.Ytagbikgfkakbfaa
