/-
  Lemmas and walks for the statement: VBr, VGrow, VCat, VJud2.
-/
import Derived.Test.YtagbikgfkakbfaaQ39
import Derived.Shelf.Spec.SlicesGrow
import Derived.Test.YtagbikgfkakbfaaProg
import Derived.Test.YtagbikgfkakbfaaQ32
import Derived.Test.YtagbikgfkakbfaaQ13
import Derived.Test.YtagbikgfkakbfaaQ24
import Derived.Deep.Upon
import Derived.Deep.RegionHeld3
namespace Go.Proofs.Ytagbikgfkakbfaa
open Go.RowKit
set_option linter.unusedSimpArgs false
set_option linter.unusedVariables false
theorem brI_step {who ratio : Int} {L : List R6} {k : Nat} {r : R6} (h : L[k]? = some r) : brI who ratio L (k + 1) = brI who ratio L k + (if who = 0 then r.x2 - ratio * r.x3 else r.x3 - ratio * r.x2) := by
 have hg : L.getD k ⟨0, 0, 0, 0, 0, 0⟩ = r := by rw [List.getD_eq_getElem?_getD, h]; rfl
 simp only [brI, hg]
set_option maxRecDepth 100000 in
set_option maxHeartbeats 8000000 in
theorem tbrings_run (a : Option Addr) (n c : Nat) (L : List R6) (who ratio : Int) (w : World) (h : RoundsAt w a n c L) (hin : ∀ x ∈ L, x.In) (hw : who = 0 ∨ who = 1) (hr : 1 ≤ ratio ∧ ratio ≤ 100) (hn : n ≤ 1000) :
 Calls Try.prog 10 #[.slice a n c, .int .i64 who, .int .i64 ratio] w fun e w' => e = .returned (.int .i64 (brI who ratio L n)) ∧ Below w.heap.size w w' := by
 have hbr := fun k hk => brI_b (who := who) hin hr k hk
 have hl := h.len
 have HI := hide h
 have HIN := hide hin
 have HBR := hide hbr
 clear h hin hbr
 obtain ⟨S, hS⟩ : ∃ S, w.heap.size = S := ⟨_, rfl⟩
 obtain ⟨hr1, hr2⟩ := hr
 rcases hw with rfl | rfl
 all_goals
  go_enter Try.func10, Try.ntmps10
  go_wp2_with fail
 · go_loopw [7, 12] (fun v i wr => ∃ k : Nat, k ≤ n ∧ i = .int .i64 k ∧ v = .int .i64 (brI 0 ratio L k) ∧ Hid (Below S w wr)) (fun _ i _ => n - (intOf i).toNat)
   case atStart => exact ⟨0, Nat.zero_le _, rfl, rfl, hide (Below.refl _ _)⟩
   case round =>
    obtain ⟨k, hk, rfl, rfl, HB⟩ := hrel
    have k0' : (0 : Int) ≤ (k : Int) := Int.natCast_nonneg _
    by_cases hlt : k < n
    · have k1' : (k : Int) < (n : Int) := by omega
      obtain ⟨ad, rfl, hbd, r, hr, f0, f1, f2, f3, f4, f5⟩ := HI.out.getB (by rw [hS]; exact HB.out) hlt
      obtain ⟨q1, q2, q3, q4⟩ := HIN.out r (List.mem_of_getElem? hr)
      have hb1 := HBR.out (k + 1) (by omega)
      have hb0 := HBR.out k (by omega)
      have hst := brI_step (who := 0) (ratio := ratio) hr
      rw [if_pos rfl] at hst
      have m1 : 0 ≤ ratio * r.x3 ∧ ratio * r.x3 ≤ 10000 := ⟨Int.mul_nonneg (by omega) q3, by
       have := Int.mul_le_mul hr2 q4 q3 (by omega : (0:Int) ≤ 100); omega⟩
      obtain ⟨M, hM⟩ : ∃ M, M = ratio * r.x3 := ⟨_, rfl⟩
      rw [← hM] at m1 hst
      have g1 : IntKind.i64.wrap (ratio * r.x3) = M := by rw [← hM]; exact IntWalk.i64_in _ (by omega)
      have g2 : IntKind.i64.wrap (r.x2 - M) = r.x2 - M := IntWalk.i64_in _ (by omega)
      have g3 : IntKind.i64.wrap (brI 0 ratio L k + (r.x2 - M)) = brI 0 ratio L (k + 1) := by rw [hst]; exact IntWalk.i64_in _ (by omega)
      obtain ⟨X1, hX1⟩ : ∃ X, X = wr.alloc (.cells #[.int .i64 r.x0, .int .i64 r.x1, .int .i64 r.x2, .int .i64 r.x3, .int .i64 r.x4, .int .i64 r.x5] 71) := ⟨_, rfl⟩
      have BP := Blk.new wr [.int .i64 r.x0, .int .i64 r.x1, .int .i64 r.x2, .int .i64 r.x3, .int .i64 r.x4, .int .i64 r.x5] 71
      have hsz : S ≤ wr.heap.size := by have := HB.out.size; omega
      have BS := HB.out.alloc hsz (.cells #[.int .i64 r.x0, .int .i64 r.x1, .int .i64 r.x2, .int .i64 r.x3, .int .i64 r.x4, .int .i64 r.x5] 71)
      rw [← hX1] at BP BS
      have HBU := hide BS
      have HX1 := hide hX1
      obtain ⟨V, hV⟩ : ∃ V, wr.heap.size = V := ⟨_, rfl⟩
      rw [hV] at BP
      have c_2 := (BP 2 _ rfl).1
      have c_3 := (BP 3 _ rfl).1
      clear hX1 BS BP hb0 hb1 hst m1 hM q1 q2 q3 q4 hr
      go_upto_region 5 with fail
      rw [← HX1.out]
      clear HX1 f0 f1 f2 f3 f4 f5
      go_quiet (fail)
      go_wp2
      exact ⟨⟨k + 1, hlt, by first | rfl | go_num | simp, rfl, hide (below_drewN HBU.out _)⟩, meas9 hlt⟩
    · obtain rfl : k = n := by omega
      go_wp2
      go_ret
      exact ⟨rfl, by rw [hS]; exact HB.out⟩
 · go_loopw [7, 12] (fun v i wr => ∃ k : Nat, k ≤ n ∧ i = .int .i64 k ∧ v = .int .i64 (brI 1 ratio L k) ∧ Hid (Below S w wr)) (fun _ i _ => n - (intOf i).toNat)
   case atStart => exact ⟨0, Nat.zero_le _, rfl, rfl, hide (Below.refl _ _)⟩
   case round =>
    obtain ⟨k, hk, rfl, rfl, HB⟩ := hrel
    have k0' : (0 : Int) ≤ (k : Int) := Int.natCast_nonneg _
    by_cases hlt : k < n
    · have k1' : (k : Int) < (n : Int) := by omega
      obtain ⟨ad, rfl, hbd, r, hr, f0, f1, f2, f3, f4, f5⟩ := HI.out.getB (by rw [hS]; exact HB.out) hlt
      obtain ⟨q1, q2, q3, q4⟩ := HIN.out r (List.mem_of_getElem? hr)
      have hb1 := HBR.out (k + 1) (by omega)
      have hb0 := HBR.out k (by omega)
      have hst := brI_step (who := 1) (ratio := ratio) hr
      rw [if_neg (by omega)] at hst
      have m1 : 0 ≤ ratio * r.x2 ∧ ratio * r.x2 ≤ 10000 := ⟨Int.mul_nonneg (by omega) q1, by
       have := Int.mul_le_mul hr2 q2 q1 (by omega : (0:Int) ≤ 100); omega⟩
      obtain ⟨M, hM⟩ : ∃ M, M = ratio * r.x2 := ⟨_, rfl⟩
      rw [← hM] at m1 hst
      have g1 : IntKind.i64.wrap (ratio * r.x2) = M := by rw [← hM]; exact IntWalk.i64_in _ (by omega)
      have g2 : IntKind.i64.wrap (r.x3 - M) = r.x3 - M := IntWalk.i64_in _ (by omega)
      have g3 : IntKind.i64.wrap (brI 1 ratio L k + (r.x3 - M)) = brI 1 ratio L (k + 1) := by rw [hst]; exact IntWalk.i64_in _ (by omega)
      obtain ⟨X1, hX1⟩ : ∃ X, X = wr.alloc (.cells #[.int .i64 r.x0, .int .i64 r.x1, .int .i64 r.x2, .int .i64 r.x3, .int .i64 r.x4, .int .i64 r.x5] 71) := ⟨_, rfl⟩
      have BP := Blk.new wr [.int .i64 r.x0, .int .i64 r.x1, .int .i64 r.x2, .int .i64 r.x3, .int .i64 r.x4, .int .i64 r.x5] 71
      have hsz : S ≤ wr.heap.size := by have := HB.out.size; omega
      have BS := HB.out.alloc hsz (.cells #[.int .i64 r.x0, .int .i64 r.x1, .int .i64 r.x2, .int .i64 r.x3, .int .i64 r.x4, .int .i64 r.x5] 71)
      rw [← hX1] at BP BS
      have HBU := hide BS
      have HX1 := hide hX1
      obtain ⟨V, hV⟩ : ∃ V, wr.heap.size = V := ⟨_, rfl⟩
      rw [hV] at BP
      have c_2 := (BP 2 _ rfl).1
      have c_3 := (BP 3 _ rfl).1
      clear hX1 BS BP hb0 hb1 hst m1 hM q1 q2 q3 q4 hr
      go_upto_region 5 with fail
      rw [← HX1.out]
      clear HX1 f0 f1 f2 f3 f4 f5
      go_quiet (fail)
      go_wp2
      exact ⟨⟨k + 1, hlt, by first | rfl | go_num | simp, rfl, hide (below_drewN HBU.out _)⟩, meas9 hlt⟩
    · obtain rfl : k = n := by omega
      go_wp2
      go_ret
      exact ⟨rfl, by rw [hS]; exact HB.out⟩
end Go.Proofs.Ytagbikgfkakbfaa
namespace Go.Proofs.Ytagbikgfkakbfaa
open Go.RowKit
set_option linter.unusedSimpArgs false
set_option linter.unusedVariables false
def growRen : Go.Shelf.Ren := ⟨fun | 4 => 22 | n => n, fun | 0 => 0 | 3 => 3 | 4 => 4 | 9 => 9 | 20 => 20 | 22 => 31 | 25 => 22 | n => n, fun | n => n⟩
theorem growLaid : Go.Proofs.Lays8.n4 Try.prog growRen := {
 mixed := by kernel_rfl
 f4 := ⟨Try.f22.name, by kernel_rfl, Try.func22.trans (congrArg some (by kernel_rfl))⟩
 t0 := Try.underlying0
 a0 := Try.isAgg0
 z0 := Try.sizeOf0
 v0 := Try.zeroValue0
 t3 := Try.underlying3
 a3 := Try.isAgg3
 z3 := Try.sizeOf3
 v3 := Try.zeroValue3
 t4 := Try.underlying4
 a4 := Try.isAgg4
 z4 := Try.sizeOf4
 v4 := Try.zeroValue4
 t9 := Try.underlying9
 a9 := Try.isAgg9
 z9 := Try.sizeOf9
 v9 := Try.zeroValue9
 t20 := Try.underlying20
 a20 := Try.isAgg20
 z20 := Try.sizeOf20
 v20 := Try.zeroValue20
 t22 := Try.underlying31
 a22 := Try.isAgg31
 z22 := Try.sizeOf31
 v22 := Try.zeroValue31 }
end Go.Proofs.Ytagbikgfkakbfaa
namespace Go.Proofs.Ytagbikgfkakbfaa
open Go.RowKit
set_option linter.unusedSimpArgs false
set_option linter.unusedVariables false
theorem pairInfo : (Try.prog.info? 22).map (fun i => (i.zero, i.size, i.bytes)) = some (some (.agg #[.int .i64 0, .int .i64 0]), 2, 16) := by kernel_rfl
theorem tape_setCells (b : Nat) : ∀ (vs : List Value) (o : Nat) (w : World), (w.setCells b o vs).tape = w.tape ∧ (w.setCells b o vs).heap.size = w.heap.size
 | [], _, _ => ⟨rfl, rfl⟩
 | v :: vs, o, w => by
   have := tape_setCells b vs (o + 1) (w.setCell ⟨b, o, none⟩ v)
   exact ⟨this.1.trans rfl, this.2.trans (by simp [World.setCell])⟩
theorem below_setCells {B b : Nat} {vs : List Value} {o : Nat} {W w : World} (h : Below B W w) (hb : B ≤ b) (hB : B ≤ w.heap.size) : Below B W (w.setCells b o vs) :=
 h.trans ⟨World.os_setCells _ _ _ _, (tape_setCells _ _ _ _).1, World.output_setCells _ _ _ _, Nat.le_of_eq (tape_setCells _ _ _ _).2.symm, fun k hk => World.heap_setCells_other w b o vs (by omega) (by omega)⟩
structure CRow (w : World) (g G : Nat) (cs : List Value) : Prop where
 le : cs.length ≤ G * 2
 holds : ∀ j u, cs[j]? = some u → w.cell? ⟨g, j, none⟩ = some u
 there : ∀ j, j < G * 2 → (w.cell? ⟨g, j, none⟩).isSome = true ∧ w.frozen? ⟨g, j, none⟩ = false
theorem CRow.new (w : World) (arr : Array Value) (t : TypeId) (G : Nat) (h : arr.size = G * 2) : CRow (w.alloc (.cells arr t)) w.heap.size G [] := by
 have hh : (w.alloc (.cells arr t)).heap[w.heap.size]? = some (.cells arr t (0, 0)) := World.alloc_heap_new w (.cells arr t)
 have key : ∀ (W : World) (b j : Nat), j < arr.size → W.heap[b]? = some (.cells arr t (0, 0)) → (W.cell? ⟨b, j, none⟩).isSome = true ∧ W.frozen? ⟨b, j, none⟩ = false := fun W b j hj h => ⟨by simp [World.cell?, h, hj], by simp [World.frozen?, h]⟩
 exact ⟨Nat.zero_le _, fun j u hj => by simp at hj, fun j hj => key _ _ j (by omega) hh⟩
theorem CRow.below {w w' : World} {g G B : Nat} {cs : List Value} (h : CRow w g G cs) (hb : Below B w w') (hg : g < B) : CRow w' g G cs :=
 ⟨h.le, fun j u hj => (hb.cell (p := ⟨g, j, none⟩) hg).trans (h.holds j u hj), fun j hj => ⟨by rw [hb.cell (p := ⟨g, j, none⟩) hg]; exact (h.there j hj).1, (hb.frozen (p := ⟨g, j, none⟩) hg).trans (h.there j hj).2⟩⟩
theorem flat2_one (es : List P2) : ∀ u ∈ flat2 es, u.oneCell' = true := by
 intro u hu
 simp only [flat2, List.mem_flatMap] at hu
 obtain ⟨p, _, hp⟩ := hu
 simp at hp
 rcases hp with rfl | rfl <;> rfl
theorem flat2_cases {es : List P2} {j : Nat} {u : Value} (h : (flat2 es)[j]? = some u) : ∃ k p, es[k]? = some p ∧ ((j = k * 2 ∧ u = .int .i64 p.x) ∨ (j = k * 2 + 1 ∧ u = .int .i64 p.y)) := by
 have hl := (List.getElem?_eq_some_iff.1 h).1
 rw [flat2_len] at hl
 have hk : j / 2 < es.length := by omega
 have hp : es[j / 2]? = some es[j / 2] := List.getElem?_eq_getElem hk
 obtain ⟨h1, h2⟩ := flat2_get hp
 rcases Nat.mod_two_eq_zero_or_one j with hm | hm
 · rw [show j / 2 * 2 = j by omega, h] at h1
   injection h1 with h1
   exact ⟨j / 2, _, hp, .inl ⟨by omega, h1⟩⟩
 · rw [show j / 2 * 2 + 1 = j by omega, h] at h2
   injection h2 with h2
   exact ⟨j / 2, _, hp, .inr ⟨by omega, h2⟩⟩
theorem pairs_src {w : World} {a : Option Addr} {n c : Nat} {es : List P2} (h : PairsAt w a n c es) : Src Try.prog 2 31 (.slice a n c) n (flat2 es) w := by
 have hl : (flat2 es).length = n * 2 := by rw [flat2_len, h.len]
 rcases Nat.eq_zero_or_pos n with h0 | h0
 · subst h0
   have he : flat2 es = [] := List.length_eq_zero_iff.1 (by omega)
   rw [he]
   cases a with
   | none => exact Src.ofNil w (Try.underlying31) c
   | some ad => exact Src.ofSlice w (Try.underlying31) ad 0 c [] (by simp) (fun j u hj => by simp at hj) (fun u hu => by simp at hu)
 · obtain ⟨ad, rfl, _, hc⟩ := h.2.2.2 h0
   refine Src.ofSlice w (Try.underlying31) ad n c _ hl (fun j u hj => ?_) (flat2_one es)
   obtain ⟨k, p, hp, ⟨rfl, rfl⟩ | ⟨rfl, rfl⟩⟩ := flat2_cases hj
   · exact (hc k p hp).1
   · exact (hc k p hp).2
theorem pairs_of_row {w : World} {g G : Nat} {es : List P2} (h : CRow w g G (flat2 es)) (h0 : 0 < es.length) (hl : es.length ≤ 17592186044416) : PairsAt w (some ⟨g, 0, none⟩) es.length G es := by
 have hle := h.le
 rw [flat2_len] at hle
 have e1 : ∀ j, (⟨g, 0, none⟩ : Addr).add j = ⟨g, j, none⟩ := fun j => by unfold Addr.add; split <;> simp_all
 refine ⟨rfl, by omega, hl, fun _ => ⟨_, rfl, ?_, fun j e he => ?_⟩⟩
 · exact World.block_lt_of_cell? w _ (Option.isSome_iff_exists.1 (h.there 0 (by omega)).1).choose_spec
 · obtain ⟨h1, h2⟩ := flat2_get he
   rw [e1, e1]
   exact ⟨h.holds _ _ h1, h.holds _ _ h2⟩
theorem wpList_append_crow (w : World) {ops : Array Oper} {rest : List Oper} {o : Oper} {a : Act} {Q : Exit → Act → World → Prop} (hgd : o.guard = none) (s x : Operand)
 (ho : o.op = .call { callee := .builtin .append, args := #[s, x], argTypes := #[31, 31] })
 {g G m : Nat} {es es' : List P2} (hv : a.eval s = .slice (some ⟨g, 0, none⟩) m G) (h : CRow w g G (flat2 es)) (hm : es.length = m) (ax : Option Addr) (n c : Nat) (hx : a.eval x = .slice ax n c) (hp : PairsAt w ax n c es') (hroom : m + n ≤ G)
 (hK : ∀ w', CRow w' g G (flat2 (es ++ es')) → (∀ B, B ≤ g → B ≤ w.heap.size → Below B w w') → wpList Try.prog ops Q rest (a.put o.dst (.slice (some ⟨g, 0, none⟩) (m + n) G)) w') : wpList Try.prog ops Q (o :: rest) a w := by
 obtain ⟨i0, hi0, hz0, hz1, hz2⟩ := info_parts pairInfo
 have hl : (flat2 es').length = n * 2 := by rw [flat2_len, hp.len]
 have hle : (flat2 es).length = m * 2 := by rw [flat2_len, hm]
 have hsome : ∀ j, j < (flat2 es').length → (w.cell? ⟨g, 0 + m * i0.size + j, none⟩).isSome = true := fun j hj => by rw [hz1, Nat.zero_add]; exact (h.there _ (by omega)).1
 have hfr : ∀ j, j < (flat2 es').length → w.frozen? ⟨g, 0 + m * i0.size + j, none⟩ = false := fun j hj => by rw [hz1, Nat.zero_add]; exact (h.there _ (by omega)).2
 have hrun := fun ty => run_append_room_src (P := Try.prog) w 31 31 ty 22 i0 (Try.underlying31) hi0 g 0 m G (.slice ax n c) n (flat2 es') (by rw [hz1]; exact pairs_src hp) hroom hsome hfr
 refine wpList_plain hgd fun K hK' => ?_
 unfold Oper.wp
 simp [execOp, ho, resolve, invoke, builtin, hv, hx, hrun, Result.andThen]
 refine hK' _ _ (hK _ ?_ fun B hB hs => below_setCells (Below.refl _ _) hB hs)
 have hfl : flat2 (es ++ es') = flat2 es ++ flat2 es' := by simp [flat2]
 rw [hz1] at hsome ⊢
 rw [Nat.zero_add] at hsome
 refine ⟨by rw [hfl, List.length_append]; omega, fun j u hj => ?_, fun j hj => ⟨?_, (World.frozen?_setCells g _ _ _ _).trans (h.there j hj).2⟩⟩
 · rw [hfl] at hj
   by_cases hjo : j < m * 2
   · rw [List.getElem?_append_left (by omega)] at hj
     rw [World.cell?_setCells_out g _ _ _ _ (fun _ _ => Or.inl (by show j < m * 2; omega))]
     exact h.holds j u hj
   · rw [List.getElem?_append_right (by omega), hle] at hj
     have ht := (List.getElem?_eq_some_iff.1 hj).1
     have := World.cell?_setCells_in g (flat2 es') (m * 2) w hsome (j - m * 2) ht
     rw [show m * 2 + (j - m * 2) = j by omega] at this
     rw [this, ← hj, List.getElem?_eq_getElem ht]
 · by_cases hin : m * 2 ≤ j ∧ j < m * 2 + (flat2 es').length
   · have := World.cell?_setCells_in g (flat2 es') (m * 2) w hsome (j - m * 2) (by omega)
     rw [show m * 2 + (j - m * 2) = j by omega] at this
     rw [this]; rfl
   · rw [World.cell?_setCells_out g _ _ _ _ (fun _ _ => by show j < m * 2 ∨ m * 2 + (flat2 es').length ≤ j; omega)]
     exact (h.there j hj).1
theorem grow_nil (N : Nat) (x : Int) (w : World) (hx : x = (N : Int)) (h0 : 0 < N) (hn : N ≤ 1000000) : Calls Try.prog 22 #[.slice none 0 0, .int .i64 x] w fun e w' => ∃ G, e = .returned (.slice (some ⟨w.heap.size, 0, none⟩) 0 G) ∧ CRow w' w.heap.size G [] ∧ N ≤ G ∧ Below w.heap.size w w' ∧ w.heap.size < w'.heap.size := by
 obtain ⟨i0, hi0, hz0, hz1, hz2⟩ := info_parts pairInfo
 subst hx
 have hgw := Any8.slices_Grow_grow growLaid i0 (.agg #[.int .i64 0, .int .i64 0]) hi0 hz0 (by omega) none 0 0 N [] w (by omega) (by omega) (by rw [hz2]; omega) (by omega) (by simp) (fun _ => rfl) (fun a h => by cases h)
 refine hgw.mono ?_
 rintro e w1 ⟨rfl, hw1⟩
 obtain ⟨G, hG⟩ : ∃ G, grownCap w (0 + N) 0 (growRen.t 25) = G := ⟨_, rfl⟩
 have hGn : 0 + N ≤ grownCap w (0 + N) 0 (growRen.t 25) := grownCap_ge w _ _ _
 rw [hG] at hw1 hGn ⊢
 refine ⟨G, rfl, ?_, by omega, by rw [hw1]; exact (Below.refl _ _).drew.alloc (Nat.le_refl _) _, by rw [hw1]; simp⟩
 rw [hw1]
 refine CRow.new w.drew _ _ G ?_
 simp [Builtin.zeroCells, Value.cells]
 omega
theorem pairs_lt {w : World} {a : Option Addr} {n c S : Nat} {es : List P2} (h : PairsAt w a n c es) (hS : w.heap.size = S) : 0 < n → ∃ ad, a = some ad ∧ ad.block < S := fun h0 => by
 obtain ⟨ad, e, hl, _⟩ := h.2.2.2 h0
 exact ⟨ad, e, by omega⟩
theorem pairs_under {w w' : World} {a : Option Addr} {n c S : Nat} {es : List P2} (hb : Below S w w') (hl : 0 < n → ∃ ad, a = some ad ∧ ad.block < S) (h : PairsAt w a n c es) : PairsAt w' a n c es :=
 ⟨h.1, h.2.1, h.2.2.1, fun hn => by
  obtain ⟨ad, e, hlt, hc⟩ := h.2.2.2 hn
  obtain ⟨ad', e', hlt'⟩ := hl hn
  rw [e] at e'; injection e' with e'; subst e'
  refine ⟨ad, e, Nat.lt_of_lt_of_le hlt hb.size, fun j x hx => ?_⟩
  obtain ⟨c0, c1⟩ := hc j x hx
  exact ⟨(hb.cell (by rw [block_add]; exact hlt')).trans c0, (hb.cell (by rw [block_add]; exact hlt')).trans c1⟩⟩
set_option maxRecDepth 100000 in
set_option maxHeartbeats 8000000 in
theorem concat_two (b : Nat) (a1 a2 : Option Addr) (n1 c1 n2 c2 : Nat) (es1 es2 : List P2) (w : World) (h1 : PairsAt w a1 n1 c1 es1) (h2 : PairsAt w a2 n2 c2 es2) (hb : Blk w b [.slice a1 n1 c1, .slice a2 n2 c2]) (h0 : 0 < n1 + n2) (hn : n1 + n2 ≤ 1000000) :
 Calls Try.prog 9 #[.slice (some ⟨b, 0, none⟩) 2 2] w fun e w' => (∃ g G, e = .returned (.slice (some ⟨g, 0, none⟩) (n1 + n2) G) ∧ PairsAt w' (some ⟨g, 0, none⟩) (n1 + n2) G (es1 ++ es2)) ∧ Below w.heap.size w w' := by
 obtain ⟨i0, hi0, hz0, hz1, hz2⟩ := info_parts pairInfo
 have r_0 := (hb 0 _ rfl).1
 have r_1 := (hb 1 _ rfl).1
 have hlt := hb.lt
 have H1 := hide h1; have H2 := hide h2
 have l1 := h1.len; have l2 := h2.len
 obtain ⟨N, hN⟩ : ∃ N, N = n1 + n2 := ⟨_, rfl⟩
 have f1 : IntKind.i64.wrap ((n1 : Int) + (n2 : Int)) = (N : Int) := by rw [hN]; exact (IntWalk.i64_in _ (by omega)).trans (by omega)
 have f2 : ¬ ((n1 : Int) < 0) := by omega
 have f3 : ¬ ((N : Int) < 0) := by omega
 clear hb h1 h2
 obtain ⟨S, hS⟩ : ∃ S, w.heap.size = S := ⟨_, rfl⟩
 go_enter Try.func9, Try.ntmps9
 go_wp2_with fail
 refine wp_loop_rounds 3 ?_
 rw [rounds_succ]
 go_wp2_with fail
 rw [rounds_succ]
 go_wp2_with fail
 rw [rounds_succ]
 go_wp2_with fail
 refine (grow_nil N _ w (by omega) (by omega) (by omega)).mono ?_
 rintro e w1 ⟨G, rfl, hR, hGn, hB, hs1⟩
 rw [hS] at hR hB hs1
 have r_0 := (hB.cell (p := ⟨b, 0, none⟩) (by show b < S; omega)).trans r_0
 have r_1 := (hB.cell (p := ⟨b, 1, none⟩) (by show b < S; omega)).trans r_1
 have P1 := H1.out.below (hB.mono (by omega))
 have P2 := H2.out.below (hB.mono (by omega))
 have HPL := hide (pairs_lt H2.out hS)
 have HR := hide hR; have HB := hide hB; have HP1 := hide P1; have HP2 := hide P2
 clear hR hB H1 H2 P1 P2
 go_wp2_with fail
 refine wp_loop_rounds 3 ?_
 rw [rounds_succ]
 go_wp2_with (at_builtin; refine wpList_append_crow _ rfl (.tmp 31) (.tmp 32) rfl (es := []) (es' := es1) rfl HR.out rfl _ _ _ rfl HP1.out (by omega) ?_; intro w2 hR2 hB2)
 have hsz : S < w2.heap.size := Nat.lt_of_lt_of_le hs1 (hB2 0 (Nat.zero_le _) (Nat.zero_le _)).size
 have hB2 := hB2 S (Nat.le_refl _) (by omega)
 have r_0 := (hB2.cell (p := ⟨b, 0, none⟩) (by show b < S; omega)).trans r_0
 have r_1 := (hB2.cell (p := ⟨b, 1, none⟩) (by show b < S; omega)).trans r_1
 have HB := hide (HB.out.trans hB2)
 have HR := hide hR2
 have HP2 := hide (pairs_under hB2 HPL.out HP2.out)
 clear hR2 hB2
 go_wp2_with fail
 rw [rounds_succ]
 go_wp2_with (at_builtin; refine wpList_append_crow _ rfl (.tmp 31) (.tmp 32) rfl (es := [] ++ es1) (es' := es2) rfl HR.out (by simpa using l1) _ _ _ rfl HP2.out (by omega) ?_; intro w3 hR3 hB3)
 have hB3 := hB3 S (Nat.le_refl _) (by omega)
 have HB := hide (HB.out.trans hB3)
 have HR := hide hR3
 clear hR3 hB3 r_0 r_1
 go_wp2_with fail
 rw [rounds_succ]
 go_wp2_with fail
 go_ret
 refine ⟨⟨S, G, by first | rfl | simp, ?_⟩, by rw [hS]; exact HB.out⟩
 have := pairs_of_row HR.out (by simp; omega) (by simp; omega)
 simpa [l1, l2] using this
end Go.Proofs.Ytagbikgfkakbfaa
namespace Go.Proofs.Ytagbikgfkakbfaa
open Go.RowKit
set_option linter.unusedSimpArgs false
set_option linter.unusedVariables false
attribute [local go_sem] iteMin iteMax iteMinN iteMaxN
set_option maxRecDepth 100000 in
set_option maxHeartbeats 8000000 in
theorem jud_star (k0 k1 R Q J who ratio : Int) (X : Sx) (w : World) (hs : Srch k0 k1 R Q J 0 X) (hga : goodArgs who ratio) (hp : ¬ HasPot (geOf X who ratio)) :
 Calls Try.prog 7 #[.agg #[.int .i64 k0, .int .i64 k1, .int .i64 R, .int .i64 Q, .int .i64 J], .int .i64 who, .int .i64 ratio] w fun e w' => (∃ lv rv ld rd, e = .returned (.tuple #[.agg #[.int .i64 2, .int .i64 0, lv, rv], .int .i64 0]) ∧ VWay k0 k1 R Q J who ratio w' lv rv ld rd) ∧ Below w.heap.size w w' := by
 have SG := hide (srch_good hs)
 have HSR := hide hs
 have HGA := hide hga
 have HP := hide hp
 clear hs hga hp
 obtain ⟨S, hS⟩ : ∃ S, w.heap.size = S := ⟨_, rfl⟩
 go_enter Try.func7, Try.ntmps7
 go_upto_region 1 with fail
 obtain ⟨W, hW⟩ : ∃ W, W = (w.alloc (.cells #[.int .i64 k0, .int .i64 k1, .int .i64 R, .int .i64 Q, .int .i64 J] 24)).alloc (.cells #[.int .i64 0, .int .i64 0, .slice none 0 0, .slice none 0 0] 33) := ⟨_, rfl⟩
 rw [← hW]
 have R0 : Blk W S [.int .i64 k0, .int .i64 k1, .int .i64 R, .int .i64 Q, .int .i64 J] := by
  have := (Blk.new w [.int .i64 k0, .int .i64 k1, .int .i64 R, .int .i64 Q, .int .i64 J] 24).alloc (.cells #[.int .i64 0, .int .i64 0, .slice none 0 0, .slice none 0 0] 33)
  rw [hW]; simpa [hS] using this
 have R1 : Blk W (S + 1) [.int .i64 0, .int .i64 0, .slice none 0 0, .slice none 0 0] := by
  have := Blk.new (w.alloc (.cells #[.int .i64 k0, .int .i64 k1, .int .i64 R, .int .i64 Q, .int .i64 J] 24)) [.int .i64 0, .int .i64 0, .slice none 0 0, .slice none 0 0] 33
  rw [hW]; simpa [hS] using this
 have BS : Below S w W := by rw [hW, ← hS]; exact ((Below.refl _ _).alloc (Nat.le_refl _) _).alloc (by simp) _
 have T1 : W.heap[S + 1]? = some (.cells #[.int .i64 0, .int .i64 0, .slice none 0 0, .slice none 0 0] 33) := by
  have := heap_alloc_new (w.alloc (.cells #[.int .i64 k0, .int .i64 k1, .int .i64 R, .int .i64 Q, .int .i64 J] 24)) (.cells #[.int .i64 0, .int .i64 0, .slice none 0 0, .slice none 0 0] 33)
  rw [hW]; simpa [hS] using this
 clear hW
 obtain ⟨r_0, r_1, r_2, r_3, r_4⟩ := R0.c5
 have H0 := hide R0; have H1 := hide R1; have HB := hide BS
 clear R0 R1 BS
 go_wp2_with fail
 refine (graph_srch HSR.out who ratio W HGA.out).mono ?_
 rintro e w1 hres
 clear r_0 r_1 r_2 r_3 r_4
 rcases hres with ⟨h0, _⟩ | ⟨_, v, B, rfl, hrow, hA⟩
 · exact absurd rfl h0
 obtain ⟨a, c, hv⟩ := sliceShape hrow
 subst hv
 have hE := edgesAt_row hrow rfl SG.out.most
 have R0 := H0.out.below hA H0.out.lt
 have R1 := H1.out.below hA H1.out.lt
 have BS := HB.out.trans (hA.mono (Nat.le_of_lt H0.out.lt))
 have T1 := (hA.block (S + 1) H1.out.lt).trans T1
 obtain ⟨N, hN⟩ : ∃ N, X.states.length = N := ⟨_, rfl⟩
 obtain ⟨n, hn⟩ : ∃ n, X.edges.length = n := ⟨_, rfl⟩
 obtain ⟨es, hes⟩ : ∃ es, geOf X who ratio = es := ⟨_, rfl⟩
 have hG : GraphOk (N : Int) es := by rw [← hN, ← hes]; exact geOf_ok SG.out.ok SG.out.most HGA.out
 rw [hn, hes] at hE
 have HN := hide hN; have Hn := hide hn; have HES := hide hes; have HG := hide hG
 rw [hN, hn]
 clear hrow hN hn hes hG
 obtain ⟨V, hV⟩ : ∃ V, V = w1.alloc (.cells #[.int .i64 N, .slice a n c] 56) := ⟨_, rfl⟩
 obtain ⟨FB, hFB⟩ : ∃ FB, w1.heap.size = FB := ⟨_, rfl⟩
 have hAs : S + 1 < FB := by have := R1.lt; omega
 have R0 := R0.alloc (.cells #[.int .i64 N, .slice a n c] 56)
 have R1 := R1.alloc (.cells #[.int .i64 N, .slice a n c] 56)
 have R2 := Blk.new w1 [.int .i64 N, .slice a n c] 56
 have BS := BS.alloc (by omega) (.cells #[.int .i64 N, .slice a n c] 56)
 have hE := hE.below ((Below.refl w1.heap.size w1).alloc (Nat.le_refl _) (.cells #[.int .i64 N, .slice a n c] 56))
 have T1 := (heap_alloc_old w1 (.cells #[.int .i64 N, .slice a n c] 56) (show S + 1 < w1.heap.size by omega)).trans T1
 rw [← hV] at R0 R1 R2 BS hE T1
 rw [hFB] at R2
 go_upto_region 4 with fail
 (try rw [hFB])
 rw [← hV]
 clear hV hA hFB H0 H1 HB
 obtain ⟨g_0, g_1⟩ := R2.c2
 have H0 := hide R0; have H1 := hide R1; have H2 := hide R2; have HB := hide BS
 clear R0 R1 R2 BS
 go_wp2_with fail
 refine (most_ok N a n c es V hE HG.out).mono ?_
 rintro e w2 ⟨hm, hA⟩
 clear g_0 g_1
 have R0 := H0.out.below hA H0.out.lt
 have R1 := H1.out.below hA H1.out.lt
 have R2 := H2.out.below hA H2.out.lt
 have BS := HB.out.trans (hA.mono (Nat.le_of_lt H0.out.lt))
 have hE := hE.below hA
 have T1 := (hA.block (S + 1) H1.out.lt).trans T1
 clear hA H0 H1 H2 HB
 rcases hm with ⟨h1, _⟩ | ⟨_, h1, _⟩ | ⟨_, _, rfl⟩
 · exact absurd HG.out h1
 · exact absurd (by rw [HES.out]; exact h1) HP.out
 obtain ⟨g_0, g_1⟩ := R2.c2
 have H0 := hide R0; have H1 := hide R1; have H2 := hide R2; have HB := hide BS
 clear R0 R1 R2 BS
 go_wp2_with fail
 refine (cycle_ok N a n c es w2 hE HG.out).mono ?_
 rintro e w3 ⟨hcy, hA⟩
 clear g_0 g_1
 rcases hcy with ⟨h1, _⟩ | ⟨_, h1, _⟩ | ⟨_, _, b, m, d, ns, rfl, hI, hcs⟩
 · exact absurd HG.out h1
 · exact absurd (by rw [HES.out]; exact h1) HP.out
 rw [Int.toNat_natCast] at hcs
 have R0 := H0.out.below hA H0.out.lt
 have R1 := H1.out.below hA H1.out.lt
 have R2 := H2.out.below hA H2.out.lt
 have BS := HB.out.trans (hA.mono (Nat.le_of_lt H0.out.lt))
 have hE := hE.below hA
 have T1 := (hA.block (S + 1) H1.out.lt).trans T1
 clear hA H0 H1 H2 HB
 obtain ⟨c1, c2, f1, f2, hn1, hf1, hn2, hf2, hends⟩ := hcs.ends
 have hfo := HG.out.2 _ (List.mem_of_getElem? hf1)
 unfold EdgeOk at hfo
 obtain ⟨mm, hmm⟩ : ∃ mm : Nat, f1.src = (mm : Int) := ⟨f1.src.toNat, by omega⟩
 have hmN : mm < X.states.length := by have := HN.out; omega
 have hm0 : 0 < m := by rw [← hI.len]; exact hcs.pos
 obtain ⟨adn, y0, rfl, hby, e0, HY0⟩ := hI.get0 (Below.refl _ _) hm0
 obtain rfl : y0 = (c1 : Int) := by have := HY0.out; rw [hn1] at this; injection this with this; exact this.symm
 have hc1 : c1 < n := by rw [← hE.len]; exact (List.getElem?_eq_some_iff.1 hf1).1
 obtain ⟨ade, x1, x2, x3, rfl, hbe, HX, l0, l1, l2⟩ := hE.getB (Below.refl _ _) hc1
 obtain rfl : x1 = (mm : Int) := by have := HX.out; rw [hf1] at this; injection this with this; rw [this] at hmm; exact hmm
 have hc10 : (0 : Int) ≤ (c1 : Int) := Int.natCast_nonneg _
 have hc1' : (c1 : Int) < (n : Int) := by omega
 have hm0' : (0 : Int) < (m : Int) := by omega
 have HC : Hid (∀ w', Below w3.heap.size w3 w' → w'.cell? ⟨S, 0, none⟩ = some (.int .i64 k0) ∧ w'.cell? ⟨S, 1, none⟩ = some (.int .i64 k1) ∧ w'.cell? ⟨S, 2, none⟩ = some (.int .i64 R) ∧ w'.cell? ⟨S, 3, none⟩ = some (.int .i64 Q) ∧ w'.cell? ⟨S, 4, none⟩ = some (.int .i64 J) ∧ w'.cell? ⟨FB, 1, none⟩ = some (.slice (some ade) n c) ∧ w'.cell? adn = some (.int .i64 c1) ∧ w'.cell? (ade.add (c1 * 3)) = some (.int .i64 mm)) := hide (fun w' hb => by
  obtain ⟨a0, a1, a2, a3, a4⟩ := (R0.below hb R0.lt).c5
  exact ⟨a0, a1, a2, a3, a4, ((R2.below hb R2.lt) 1 _ rfl).1, (hb.cell (World.block_lt_of_cell? w3 _ e0)).trans e0, (hb.cell (World.block_lt_of_cell? w3 _ l0)).trans l0⟩)
 obtain ⟨ld, hld⟩ : ∃ ld, (wayB X.fr X.bys mm mm).reverse = ld := ⟨_, rfl⟩
 have HLEAD : Hid (∀ W : World, Calls Try.prog 18 #[.agg #[.int .i64 k0, .int .i64 k1, .int .i64 R, .int .i64 Q, .int .i64 J], .int .i64 mm] W fun e w' => (∃ la lc B, e = .returned (.tuple #[.slice la ld.length lc, .int .i64 0]) ∧ w'.ownsRow B 22 2 (.slice la ld.length lc) ld.length (flat2 ld)) ∧ Below W.heap.size W w') := hide (fun W => (lead_srch HSR.out (mm : Int) W).mono (by
  rintro e w' hres
  rcases hres with ⟨h0, _⟩ | ⟨_, hl, hb⟩
  · exact absurd rfl h0
  · rcases hl with ⟨h1, _⟩ | ⟨m', hm', hlt, v, B, rfl, hrow⟩
    · omega
    · obtain rfl : mm = m' := by omega
      rw [hld] at hrow
      obtain ⟨la, lc, rfl⟩ := sliceShape hrow
      exact ⟨⟨la, lc, B, rfl, hrow⟩, hb⟩))
 have hs3 : S + 1 < w3.heap.size := R1.lt
 have HR1 := hide R1; have HR0 := hide R0; have HBS := hide BS; have HI := hide hI; have HCS := hide hcs; have HLD := hide hld
 have HN1 := hide hn1; have HF1 := hide hf1; have HMM := hide hmm
 clear R0 R1 R2 BS hI hcs hld hE e0 l0 l1 l2 hn1 hf1 hn2 hf2 hends hfo hmm HX HY0 hby hbe
 go_upto_region 10 with fail
 go_region_held3 (fun w' => w'.cell? ⟨S, 0, none⟩ = some (.int .i64 k0) ∧ w'.cell? ⟨S, 1, none⟩ = some (.int .i64 k1) ∧ w'.cell? ⟨S, 2, none⟩ = some (.int .i64 R) ∧ w'.cell? ⟨S, 3, none⟩ = some (.int .i64 Q) ∧ w'.cell? ⟨S, 4, none⟩ = some (.int .i64 J) ∧ w'.cell? ⟨FB, 1, none⟩ = some (.slice (some ade) n c) ∧ w'.cell? adn = some (.int .i64 c1) ∧ w'.cell? (ade.add (c1 * 3)) = some (.int .i64 mm)) (((try dsimp only); exact HC.out _ (by (repeat' (first | (with_reducible assumption) | (with_reducible exact Below.refl _ _) | (with_reducible refine Below.alloc ?_ ?_ _) | (with_reducible refine Below.drew ?_) | (with_reducible refine Below.drewN ?_ _) | (with_reducible refine Below.trans ?_ (B2.mono ?_)) | omega | (simp; done) | (simp; omega))))))
  ((go_at_call 18; refine (HLEAD.out _).mono ?_; rintro e w4 ⟨⟨la, lc, B4, rfl, hrow4⟩, B2⟩; have hs4 := B2.size; (try simp at hs4)))
 all_goals trace "WAY"
 go_upto_region 12 with fail
 obtain ⟨q, hJq, hq3, hfl, hst⟩ := SG.out.fl
 have hB4 : Below w3.heap.size w3 w4 := by (repeat' (first | (with_reducible assumption) | (with_reducible exact Below.refl _ _) | (with_reducible refine Below.alloc ?_ ?_ _) | (with_reducible refine Below.drew ?_) | (with_reducible refine Below.drewN ?_ _) | (with_reducible refine Below.trans ?_ (B2.mono ?_)) | omega | (simp; done) | (simp; omega)))
 have T1 := (hB4.block (S + 1) HR1.out.lt).trans T1
 have hlv := row_type hrow4 T1 (by decide)
 have R0 := HR0.out.below hB4 HR0.out.lt
 have R1 := HR1.out.below hB4 HR1.out.lt
 have BS := HBS.out.trans (hB4.mono (by omega))
 have HI4 := hide (HI.out.below hB4)
 obtain ⟨VB, hVB⟩ : ∃ VB, w4.heap.size = VB := ⟨_, rfl⟩
 have hSV : S + 1 < VB := by rw [← hVB]; exact R1.lt
 obtain ⟨W5, hW5⟩ : ∃ W5, W5 = w4.alloc (.cells #[.int .i64 2, .int .i64 0, .slice la ld.length lc, .slice none 0 0] 33) := ⟨_, rfl⟩
 have P0 : Blk W5 VB [.int .i64 2, .int .i64 0, .slice la ld.length lc, .slice none 0 0] := by
  have := Blk.new w4 [.int .i64 2, .int .i64 0, .slice la ld.length lc, .slice none 0 0] 33
  rw [hW5, ← hVB]; exact this
 have HP0 := hide P0
 have HB5 : Hid (Below VB w4 W5) := hide (by rw [hW5, ← hVB]; exact (Below.refl _ _).alloc (Nat.le_refl _) _)
 have HLATE : Hid (∀ (k : Nat) (W : World), k ≤ 4800 → Calls Try.prog 19 #[.agg #[.int .i64 k0, .int .i64 k1, .int .i64 R, .int .i64 Q, .int .i64 J], .int .i64 k] W fun e w' => e = .returned (.agg #[.int .i64 (lateF (q + 1) k).x, .int .i64 (lateF (q + 1) k).y]) ∧ Below W.heap.size W w') := hide (fun k W hk => by rw [hJq]; exact late_any k0 k1 R Q q k W hq3 hk)
 obtain ⟨L, hL⟩ : ∃ L : Int → P2, L = fun n => lateF (q + 1) n.toNat := ⟨_, rfl⟩
 have HL := hide hL
 have H0r : Hid (W5.ownsRow (VB + 1) 22 2 (.slice none 0 0) 0 (flat2 ((ns.take 0).map L))) := hide ⟨by simp [flat2], .inl ⟨rfl, rfl⟩⟩
 have HR0 := hide R0; have HR1 := hide R1; have HBS := hide BS; have HROW := hide hrow4
 have HML := hide HI4.out.len
 have hlim := HI4.out.lim
 have HVB := hide hVB
 have HJQ := hide hJq
 have hmN3 : m ≤ 300 := by have := HCS.out.le; have := HI4.out.len; have := HG.out.1.2.1; omega
 have HCL : Hid (∀ k < m, ∃ ck : Nat, ns[k]? = some (ck : Int) ∧ ck ≤ 4800) := hide (fun k hk => by
  obtain ⟨mq, eq, a1, a2, _⟩ := HCS.out.ok k (by rw [HML.out]; exact hk)
  have := (List.getElem?_eq_some_iff.1 a2).1
  have := HG.out.1.2.2
  exact ⟨mq, a1, by omega⟩)
 (try rw [hVB])
 rw [← hW5]
 clear hW5 hB4 R0 R1 BS hrow4 P0 hJq hfl hst hL hs4
 go_wp2_with fail
 obtain ⟨i3, hi3, hy3, hz3, hu3⟩ := info_parts infoPair
 go_loopw [64] (fun i wr => ∃ (k : Nat) (rv : Value), k ≤ m ∧ i = .int .i64 k ∧ Hid (Blk wr VB [.int .i64 2, .int .i64 0, .slice la ld.length lc, rv]) ∧ Hid (wr.ownsRow (VB + 1) 22 2 rv k (flat2 ((ns.take k).map L))) ∧ Hid (Below VB w4 wr)) (fun i _ => m - (intOf i).toNat)
 case atStart => exact ⟨0, _, Nat.zero_le _, rfl, HP0, H0r, HB5⟩
 case round =>
  clear HP0 H0r HB5 W5
  obtain ⟨k, rv, hk, rfl, HP, HO, HBw⟩ := hrel
  have kk0 : (0 : Int) ≤ (k : Int) := Int.natCast_nonneg _
  by_cases hlt : k < m
  · have hlt' : (k : Int) < (m : Int) := by omega
    have f9 : IntKind.i64.wrap ((k : Int) + 1) = (k : Int) + 1 := IntWalk.i64_in _ (by omega)
    obtain ⟨ck, hck, hck2⟩ := HCL.out k hlt
    obtain ⟨va, vc, hv⟩ := sliceShape HO.out
    subst hv
    obtain ⟨ad', x, hae, hbd, hx, HX⟩ := HI4.out.getB (by rw [HVB.out]; exact HBw.out) hlt
    obtain rfl : adn = ad' := by injection hae
    obtain rfl : x = (ck : Int) := by have := HX.out; rw [hck] at this; injection this with this; exact this.symm
    have hHB := HBw.out
    have R0w := HR0.out.below hHB (by have := hSV; omega)
    obtain ⟨r_0, r_1, r_2, r_3, r_4⟩ := R0w.c5
    have p3 := (HP.out 3 _ rfl).1
    have HTK : Hid ((ns.take (k + 1)).map L = (ns.take k).map L ++ [lateF (q + 1) ck]) := hide (by rw [List.take_add_one, hck]; simp [HL.out])
    have hszw : VB < wr.heap.size := HP.out.lt
    clear hae hbd HX hHB R0w
    go_upto_region 15 with fail
    clear hx
    obtain ⟨V, hV⟩ : ∃ V, wr.drew = V := ⟨_, rfl⟩
    have hf0 : (fun w' : World => w'.cell? ⟨S, 0, none⟩ = some (.int .i64 k0) ∧ w'.cell? ⟨S, 1, none⟩ = some (.int .i64 k1) ∧ w'.cell? ⟨S, 2, none⟩ = some (.int .i64 R) ∧ w'.cell? ⟨S, 3, none⟩ = some (.int .i64 Q) ∧ w'.cell? ⟨S, 4, none⟩ = some (.int .i64 J) ∧ w'.cell? ⟨VB, 3, none⟩ = some (.slice va k vc)) V := by rw [← hV]; exact ⟨r_0, r_1, r_2, r_3, r_4, p3⟩
    have hF := hide hf0
    have HPV : Hid (Blk V VB [.int .i64 2, .int .i64 0, .slice la ld.length lc, .slice va k vc]) := hide (by rw [← hV]; exact HP.out.drew)
    have HOV : Hid (V.ownsRow (VB + 1) 22 2 (.slice va k vc) k (flat2 ((ns.take k).map L))) := hide (by rw [← hV]; exact HO.out)
    have HBV : Hid (Below VB w4 V) := hide (by rw [← hV]; exact HBw.out.drew)
    have HFB : Hid (∀ w' : World, Below VB w4 w' → Blk w' VB [.int .i64 2, .int .i64 0, .slice la ld.length lc, .slice va k vc] → (w'.cell? ⟨S, 0, none⟩ = some (.int .i64 k0) ∧ w'.cell? ⟨S, 1, none⟩ = some (.int .i64 k1) ∧ w'.cell? ⟨S, 2, none⟩ = some (.int .i64 R) ∧ w'.cell? ⟨S, 3, none⟩ = some (.int .i64 Q) ∧ w'.cell? ⟨S, 4, none⟩ = some (.int .i64 J) ∧ w'.cell? ⟨VB, 3, none⟩ = some (.slice va k vc))) := hide (fun w' hb hp => by
     obtain ⟨a0, a1, a2, a3, a4⟩ := (HR0.out.below hb (by have := hSV; omega)).c5
     exact ⟨a0, a1, a2, a3, a4, (hp 3 _ rfl).1⟩)
    clear hf0 r_0 r_1 r_2 r_3 r_4 p3 HP HO HBw hszw
    refine wp_region_G 8 (fun w' : World => w'.cell? ⟨S, 0, none⟩ = some (.int .i64 k0) ∧ w'.cell? ⟨S, 1, none⟩ = some (.int .i64 k1) ∧ w'.cell? ⟨S, 2, none⟩ = some (.int .i64 R) ∧ w'.cell? ⟨S, 3, none⟩ = some (.int .i64 Q) ∧ w'.cell? ⟨S, 4, none⟩ = some (.int .i64 J) ∧ w'.cell? ⟨VB, 3, none⟩ = some (.slice va k vc)) (by kernel_rfl) ?_
    rw [hV]
    clear hV
    refine kB 0 hF.out ?_
    refine kB 1 hF.out ?_
    refine kB 2 hF.out ?_
    refine kB 3 hF.out ?_
    refine wpAnyG_oneF (i := 4) rfl (by kernel_rfl) (fun K hK => ?_)
    go_simp
    refine (HLATE.out ck _ hck2).mono ?_
    rintro e w6 ⟨rfl, B6⟩
    have HP6 := hide (HPV.out.below B6 HPV.out.lt)
    have HO6 := hide (rows_below HOV.out B6)
    have HB6 := hide (HBV.out.trans (B6.mono (Nat.le_of_lt HPV.out.lt)))
    clear B6 HPV HOV HBV
    have hl6 : VB < w6.heap.size := HP6.out.lt
    refine hK.out _ _ (HFB.out _ HB6.out HP6.out) ?_
    clear hK K
    refine kL ?_
    refine wpAnyG_oneF (i := 5) rfl (by kernel_rfl) (fun K hK => ?_)
    go_simp
    refine hK.out _ _ (HFB.out _ (HB6.out.alloc (by omega) _) (HP6.out.alloc _)) ?_
    clear hK K
    refine kL ?_
    refine wpAnyG_oneF (i := 6) rfl (by kernel_rfl) (fun K hK => ?_)
    refine step_appendP rfl (.tmp 69) (.tmp 73) 31 22 rfl 74 rfl (VB + 1) i3 _ 2 16 Try.underlying31 hi3 hy3 hz3 hu3 rfl (by decide) (.slice va k vc) k _ rfl (HO6.out.alloc _) ⟨w6.heap.size, 0, none⟩ 1 rfl [.int .i64 (lateF (q + 1) ck).x, .int .i64 (lateF (q + 1) ck).y] rfl (news2' _ _ _) (by simp [Value.oneCell']) (by unfold maxLen; omega) (by omega) (by first | omega | (simp; omega)) (fun v' w7 hr' hg' ho' => ?_)
    obtain ⟨va', vc', hv'⟩ := sliceShape hr'
    subst hv'
    have P7 : Blk w7 VB [.int .i64 2, .int .i64 0, .slice la ld.length lc, .slice va k vc] := (HP6.out.alloc _).grown hg' (fun e => by have := rows_lt HO6.out VB e.symm; omega)
    have B7 : Below VB w4 w7 := (HB6.out.alloc (by omega) _).grown hg' (by simp; omega) (fun g hg => by have := rows_lt HO6.out g hg; omega)
    refine hK.out _ _ (HFB.out _ B7 P7) ?_
    clear hK K
    refine kL ?_
    have HP7 := hide P7; have HB7 := hide B7; have HO7 := hide hr'
    have p3 := (P7 3 _ rfl).1
    have pf := (P7 3 _ rfl).2
    clear P7 B7 hr' hg' ho'
    refine wpAnyG_oneF (i := 7) rfl (by kernel_rfl) (fun K hK => ?_)
    go_simp
    refine hK.out _ _ (HFB.out _ HB7.out HP7.out) ?_
    clear hK K
    refine kL ?_
    refine wpAnyG_one (i := 8) rfl (by kernel_rfl) (by kernel_rfl) (fun K hK => ?_)
    go_simp
    refine hK.out _ _ ?_
    clear hK K
    refine kL ?_
    refine wpAnyG_done (by kernel_rfl) ?_ _
    clear p3 pf hF
    go_wp2
    have hP8 := HP7.out.set (j := 3) (by simp) (.slice va' (k + 1) vc')
    have hlw : k + 1 ≤ m := hlt
    exact ⟨⟨k + 1, _, hlw, rfl, hide hP8, hide (by rw [HTK.out]; exact rows_kept (by simpa [flat2] using HO7.out) (fun g hg => Below.heap_setCell _ _ _ _ (by have := (rows_lt HO7.out g hg).1; simp only; omega))), hide (HB7.out.setCell (Nat.le_refl _) _)⟩, meas9 hlt⟩
  · obtain rfl : m = k := by omega
    have hHB := HBw.out
    have R1w := HR1.out.below hHB hSV
    have BSw := HBS.out.trans (hHB.mono (by omega))
    have hrv := sliceShape HO.out
    obtain ⟨va, vc, hv⟩ := hrv
    subst hv
    have HR1w := hide R1w; have HBSw := hide BSw; have HBw := HBw
    have fz0 := (R1w 0 _ rfl).2; have fz1 := (R1w 1 _ rfl).2; have fz2 := (R1w 2 _ rfl).2; have fz3 := (R1w 3 _ rfl).2
    obtain ⟨z0, z1, z2, z3⟩ := R1w.d4
    obtain ⟨q0, q1, q2, q3⟩ := HP.out.d4
    clear R1w BSw hHB
    go_wp2
    obtain ⟨Z, hZ, z, zB, zk⟩ := ver_fin (y0 := .int .i64 2) (y1 := .int .i64 0) (y2 := .slice la ld.length lc) (y3 := .slice va m vc) HR1w.out HBSw.out (by omega)
    rw [← hZ]
    obtain ⟨c0, c1', c2', c3⟩ := z.d4
    have hln : (ns.map L).length = m := by rw [List.length_map, HML.out]
    refine bodyPost_ret (v := .tuple #[.agg #[.int .i64 2, .int .i64 0, .slice la ld.length lc, .slice va m vc], .int .i64 0]) ?_ rfl ⟨⟨_, _, ld, ns.map L, rfl, ⟨X, q, ns, mm, B4, VB + 1, f1, c1, ?_⟩⟩, ?_⟩
    · simp [results, Try.f7, go_sem, c0, c1', c2', c3]
    · have hall : ns.take m = ns := List.take_of_length_le (by rw [HML.out]; omega)
      have HO' := HO.out
      rw [hall] at HO'
      have hrowZ := rows_kept HROW.out (w' := wr) (fun g hg => HBw.out.block g (by have := (rows_lt HROW.out g hg).2; rw [HVB.out] at this; exact this))
      exact ⟨HJQ.out, HGA.out, HSR.out, by rw [HN.out, HES.out]; exact HCS.out, HN1.out, by rw [HES.out]; exact HF1.out, HMM.out, hmN, HLD.out.symm, by rw [HL.out], rows_kept hrowZ (fun g hg => zk g (fun e => hlv (by rw [← e]; exact hg))), by rw [hln]; exact rows_kept HO' (fun g hg => zk g (fun e => by have := rows_lt HO' g hg; omega))⟩
    · rw [hS]; exact zB
end Go.Proofs.Ytagbikgfkakbfaa
