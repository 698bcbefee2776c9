/-
  Lemmas and walks for the statement: Round, Shelf, Repeat.
-/
import Derived.Test.YtagbikgfkakbfaaQ35
import Derived.Test.YtagbikgfkakbfaaQ11
import Derived.Test.YtagbikgfkakbfaaProg
import Derived.BigRegion
import Derived.Shelf.Bits.Mul64
import Derived.Shelf.Slices.Reverse
import Derived.Shelf.Slices.Cells
import Derived.OwnWalk
import Derived.Laws.CopyOwn
import Derived.IntWalk
namespace Go.Proofs.Ytagbikgfkakbfaa
open Go.RowKit
set_option linter.unusedSimpArgs false
set_option linter.unusedVariables false
attribute [local go_sem] iteMin iteMax iteMinN iteMaxN
set_option maxRecDepth 100000 in
set_option maxHeartbeats 4000000 in
theorem round_any (N : Nat) (a : Option Addr) (n c : Nat) (es : List GE) (W0 w : World) (sb gm cm gb cb : Nat) (s : PS) (M : Int) (hE : EdgesAt W0 a n c es) (hW : Below W0.heap.size W0 w) (hg : GraphOk (N : Int) es)
 (b1 : w.cell? ⟨sb, 1, none⟩ = some (.slice a n c)) (b2 : w.cell? ⟨sb, 2, none⟩ = some (.slice (some ⟨gm, 0, none⟩) N cm)) (b3 : w.cell? ⟨sb, 3, none⟩ = some (.slice (some ⟨gb, 0, none⟩) N cb))
 (hm : OTab w W0.heap.size 3 gm N cm s.m) (hb : OTab w W0.heap.size 3 gb N cb s.b) (hne : gm ≠ gb) (hn1 : sb ≠ gm) (hn2 : sb ≠ gb) (hs : ∀ v, 0 ≤ s.m v ∧ s.m v ≤ M) (hM : M ≤ 1152921504606846976) :
 Calls Try.prog 41 #[.pointer (some ⟨sb, 0, none⟩)] w fun e w' => e = .returned (.int .i64 (pround (pes es) s).last) ∧ OTab w' W0.heap.size 3 gm N cm (pround (pes es) s).m ∧ OTab w' W0.heap.size 3 gb N cb (pround (pes es) s).b ∧ Two w w' gm gb := by
 have HG := hide hg
 have HL := hide hE.len
 have hn4 : (n : Int) ≤ 4800 := by have := hg.1.2.2; rw [hE.len] at this; omega
 have HE := hide hE
 have HW := hide hW
 have HB := hide (And.intro b1 (And.intro b2 b3))
 have HNE := hide (And.intro hne (And.intro hn1 hn2))
 have HS := hide hs
 have hsb : sb < w.heap.size := World.block_lt_of_cell? w _ b1
 have HSB := hide hsb
 clear hg hE hW hs hne hn1 hn2 b2 b3 hsb
 go_enter Try.func41, Try.ntmps41
 go_wp2
 go_loopw [3, 13] (fun l i wr => ∃ k : Nat, ∃ q : PS, k ≤ n ∧ i = .int .i64 k ∧ l = .int .i64 q.last ∧ Hid (q = prun ((pes es).take k) 0 { s with last := -1 }) ∧ OTab wr W0.heap.size 3 gm N cm q.m ∧ OTab wr W0.heap.size 3 gb N cb q.b ∧ Two w wr gm gb) (fun _ i _ => n - (intOf i).toNat)
 case atStart => exact ⟨0, { s with last := -1 }, Nat.zero_le _, rfl, rfl, hide rfl, hm, hb, Two.refl _ _ _⟩
 case round =>
  clear hm hb b1
  obtain ⟨k, q, hk, rfl, rfl, HQ, hm, hb, hT⟩ := hrel
  have k0 : (0 : Int) ≤ (k : Int) := Int.natCast_nonneg _
  by_cases hlt : k < n
  · have k1 : (k : Int) < (n : Int) := by omega
    have hBW : Below W0.heap.size W0 wr := HW.out.trans (hT.below HW.out.size (OTab.lt hm).1 (OTab.lt hb).1)
    obtain ⟨ad, x, y, z, rfl, hbd, HX, d0, d1, d2⟩ := HE.out.getB hBW hlt
    have hok := HG.out.2 _ (List.mem_of_getElem? HX.out)
    unfold EdgeOk at hok
    simp only at hok
    obtain ⟨sv, rfl⟩ : ∃ sv : Nat, x = (sv : Int) := ⟨x.toNat, by omega⟩
    obtain ⟨tv, rfl⟩ : ∃ tv : Nat, y = (tv : Int) := ⟨y.toNat, by omega⟩
    obtain ⟨o0, o1, o2, o3, o4, o5⟩ := hok
    have hsN : sv < N := by omega
    have htN : tv < N := by omega
    have HP := hide (prun_take (pes_get HX.out) { s with last := -1 })
    have hqb := prun_b HG.out (s := { s with last := -1 }) HS.out k (by rw [HL.out]; omega) sv
    rw [← HQ.out] at hqb
    obtain ⟨Ms, hMs⟩ : ∃ Ms, q.m sv = Ms := ⟨_, rfl⟩
    obtain ⟨Mt, hMt⟩ : ∃ Mt, q.m tv = Mt := ⟨_, rfl⟩
    rw [hMs] at hqb
    obtain ⟨hq1, hq2⟩ := hqb
    have hq3 : Ms ≤ 1152921509639946240 := by omega
    have HMs := hide hMs
    have HMt := hide hMt
    have hml := (OTab.lt hm).2
    have hbl := (OTab.lt hb).2
    obtain ⟨wa, hwa⟩ : ∃ wa, wa = wr.alloc (.cells #[.int .i64 sv, .int .i64 tv, .int .i64 z] 66) := ⟨_, rfl⟩
    obtain ⟨Eb, hEb⟩ : ∃ Eb, wr.heap.size = Eb := ⟨_, rfl⟩
    have g0 : wa.cell? ⟨Eb, 0, none⟩ = some (.int .i64 sv) := by rw [hwa, ← hEb]; simp [go_sem]
    have g1 : wa.cell? ⟨Eb, 1, none⟩ = some (.int .i64 tv) := by rw [hwa, ← hEb]; simp [go_sem]
    have g2 : wa.cell? ⟨Eb, 2, none⟩ = some (.int .i64 z) := by rw [hwa, ← hEb]; simp [go_sem]
    have hm' : OTab wa W0.heap.size 3 gm N cm q.m := by rw [hwa]; exact hm.alloc _
    have hb' : OTab wa W0.heap.size 3 gb N cb q.b := by rw [hwa]; exact hb.alloc _
    have hT' : Two w wa gm gb := by rw [hwa]; exact hT.alloc _
    have f1 : wa.cell? ⟨gm, sv, none⟩ = some (.int .i64 Ms) := by rw [← hMs]; exact hm'.cell hsN
    have f2 : wa.cell? ⟨gm, tv, none⟩ = some (.int .i64 Mt) := by rw [← hMt]; exact hm'.cell htN
    have f3 := hm'.free tv
    have f4 := hb'.free tv
    have f5 := hb'.cell htN
    have s1 : wr.cell? ⟨sb, 1, none⟩ = some (.slice (some ad) n c) := hT.cell HNE.out.2.1 HNE.out.2.2 HB.out.1
    have s2 : wa.cell? ⟨sb, 2, none⟩ = some (.slice (some ⟨gm, 0, none⟩) N cm) := hT'.cell HNE.out.2.1 HNE.out.2.2 HB.out.2.1
    have s3 : wa.cell? ⟨sb, 3, none⟩ = some (.slice (some ⟨gb, 0, none⟩) N cb) := hT'.cell HNE.out.2.1 HNE.out.2.2 HB.out.2.2
    have sv0 : (0 : Int) ≤ (sv : Int) := Int.natCast_nonneg _
    have sv1 : (sv : Int) < (N : Int) := by omega
    have tv0 : (0 : Int) ≤ (tv : Int) := Int.natCast_nonneg _
    have tv1 : (tv : Int) < (N : Int) := by omega
    have hne : gm ≠ gb := HNE.out.1
    have hne2 : gb ≠ gm := fun e => hne e.symm
    have hn3 : Eb ≠ gm := by omega
    have hn4' : Eb ≠ gb := by omega
    have hn5 : gm ≠ Eb := by omega
    have hn6 : gb ≠ Eb := by omega
    have hn7 : sb ≠ gm := HNE.out.2.1
    have hn8 : sb ≠ gb := HNE.out.2.2
    clear hml hbl
    have HM := hide hm'
    have HBB := hide hb'
    have HT := hide hT'
    clear hMs hMt hm hb hT hm' hb' hT' hBW
    by_cases hv : Mt < Ms + z
    · have HSt := hide (show pstep q k (peOf ⟨sv, tv, z⟩) = ⟨upd q.m tv (Ms + z), upd q.b tv k, tv⟩ by
       rw [← HMs.out]; exact if_pos (show q.m tv < q.m sv + z by rw [HMt.out, HMs.out]; exact hv))
      go_wp2
      rw [← hwa]
      clear hwa hEb
      go_quiet (fail)
      go_wp2
      go_quiet (fail)
      go_wp2
      go_region
      all_goals go_wp2
      all_goals go_roundw
      case rel => exact ⟨k + 1, ⟨upd q.m tv (Ms + z), upd q.b tv k, tv⟩, by omega, by go_num, rfl, hide (by rw [HP.out, ← HQ.out, HSt.out]), (by first | exact OTab.setFar (OTab.set (HM.out.drewN _) htN (by simp [upd]) (fun v hv hne => by simp [upd, hne])) (fun e => HNE.out.1 e.symm) | exact OTab.set (OTab.setFar (HM.out.drewN _) (fun e => HNE.out.1 e.symm)) htN (by simp [upd]) (fun v hv hne => by simp [upd, hne])), (by first | exact OTab.set (OTab.setFar (HBB.out.drewN _) HNE.out.1) htN (by simp [upd]) (fun v hv hne => by simp [upd, hne]) | exact OTab.setFar (OTab.set (HBB.out.drewN _) htN (by simp [upd]) (fun v hv hne => by simp [upd, hne])) HNE.out.1), (by first | exact ((HT.out.drewN _).set1 _ _).set2 _ _ | exact ((HT.out.drewN _).set2 _ _).set1 _ _)⟩
      case measure => (simp [intOf] <;> omega)
    · have HSt := hide (show pstep q k (peOf ⟨sv, tv, z⟩) = q by
       exact if_neg (show ¬ q.m tv < q.m sv + z by rw [HMt.out, HMs.out]; exact hv))
      have hv' : Ms + z ≤ Mt := by omega
      clear hv
      go_wp2
      rw [← hwa]
      clear hwa hEb
      go_quiet (fail)
      go_wp2
      go_quiet (fail)
      go_wp2
      go_roundw
      case rel => exact ⟨k + 1, q, by omega, by go_num, rfl, hide (by rw [HP.out, ← HQ.out, HSt.out]), HM.out.drewN _, HBB.out.drewN _, HT.out.drewN _⟩
      case measure => (simp [intOf] <;> omega)
  · obtain rfl : k = n := by omega
    have hall : (pes es).take k = pes es := List.take_of_length_le (by rw [pes_len, HL.out]; omega)
    have HF := hide (show q = pround (pes es) s by have := HQ.out; rw [hall] at this; exact this)
    clear hall
    go_wp2
    go_ret
    exact ⟨retI (congrArg PS.last HF.out), by rw [← HF.out]; exact hm, by rw [← HF.out]; exact hb, hT⟩
end Go.Proofs.Ytagbikgfkakbfaa
namespace Go.Proofs
open Go.Shelf
def Try.lays264_ren : Go.Shelf.Ren := ⟨fun | 264 => 71 | n => n, fun | 53 => 127 | 46 => 115 | n => n, fun | n => n⟩
theorem Try.lays264 : Go.Proofs.Lays.n264 Try.prog Try.lays264_ren := {
 mixed := by kernel_rfl
 f264 := Try.func71.trans (congrArg some (by kernel_rfl))
 t46 := Try.underlying115
 a46 := Try.isAgg115
 z46 := Try.sizeOf115
 v46 := Try.zeroValue115
 t53 := Try.underlying127
 a53 := Try.isAgg127
 z53 := Try.sizeOf127
 v53 := Try.zeroValue127 }
open Go.RowKit Go.Lib in
theorem Try.bits_Mul64 (x y : Nat) (hx : x < 18446744073709551616) (hy : y < 18446744073709551616) (w : World) :
 Calls Try.prog 71 #[.int .u64 x, .int .u64 y] w fun e w' => e = .returned (.tuple #[.int .u64 ((x * y / 18446744073709551616 : Nat) : Int), .int .u64 ((x * y % 18446744073709551616 : Nat) : Int)]) ∧ w' = w := Any.bits_Mul64 Try.lays264 x y hx hy w
def Try.lays212_ren : Go.Shelf.Ren := ⟨fun | 212 => 52 | 263 => 70 | 264 => 71 | n => n, fun | 46 => 115 | 51 => 124 | 146 => 125 | 53 => 127 | 148 => 128 | n => n, fun | n => n⟩
theorem Try.lays212 : Go.Proofs.Lays.n212 Try.prog Try.lays212_ren := {
 mixed := by kernel_rfl
 f212 := Try.func52.trans (congrArg some (by kernel_rfl))
 f263 := Try.func70.trans (congrArg some (by kernel_rfl))
 f264 := Try.func71.trans (congrArg some (by kernel_rfl))
 t46 := Try.underlying115
 a46 := Try.isAgg115
 z46 := Try.sizeOf115
 v46 := Try.zeroValue115
 t51 := Try.underlying124
 a51 := Try.isAgg124
 z51 := Try.sizeOf124
 v51 := Try.zeroValue124
 t53 := Try.underlying127
 a53 := Try.isAgg127
 z53 := Try.sizeOf127
 v53 := Try.zeroValue127
 t146 := Try.underlying125
 a146 := Try.isAgg125
 z146 := Try.sizeOf125
 v146 := Try.zeroValue125
 t148 := Try.underlying128
 a148 := Try.isAgg128
 z148 := Try.sizeOf128
 v148 := Try.zeroValue128 }
open Go.RowKit Go.Lib in
theorem Try.bits_Mul (x y : Nat) (hx : x < 18446744073709551616) (hy : y < 18446744073709551616) (w : World) :
 Calls Try.prog 52 #[.int .u64 x, .int .u64 y] w fun e w' => e = .returned (.tuple #[.int .u64 ((x * y / 18446744073709551616 : Nat) : Int), .int .u64 ((x * y % 18446744073709551616 : Nat) : Int)]) ∧ w' = w := Any.bits_Mul Try.lays212 x y hx hy w
def Try.lays112_ren : Go.Shelf.Ren := ⟨fun | 112 => 28 | n => n, fun | 28 => 47 | 3 => 3 | 4 => 4 | 0 => 0 | n => n, fun | n => n⟩
theorem Try.lays112 : Go.Proofs.Lays.n112 Try.prog Try.lays112_ren := {
 mixed := by kernel_rfl
 f112 := Try.func28.trans (congrArg some (by kernel_rfl))
 t0 := Try.underlying0
 a0 := Try.isAgg0
 z0 := Try.sizeOf0
 v0 := Try.zeroValue0
 t3 := Try.underlying3
 a3 := Try.isAgg3
 z3 := Try.sizeOf3
 v3 := Try.zeroValue3
 t4 := Try.underlying4
 a4 := Try.isAgg4
 z4 := Try.sizeOf4
 v4 := Try.zeroValue4
 t28 := Try.underlying47
 a28 := Try.isAgg47
 z28 := Try.sizeOf47
 v28 := Try.zeroValue47 }
open Go.RowKit Go.Lib Go.Sort in
theorem Try.slices_Reverse_int_arr (blk off cap : Nat) (d : Array Int) (w : World) (hH : Holds encI w blk off d) (hsz : d.size ≤ 9223372036854775807) :
 Calls Try.prog 28 #[.slice (some ⟨blk, off, none⟩) d.size cap] w fun e w' => e = .returned (.tuple #[]) ∧ ∃ n, w' = putRow encI (Sort.ahead w n) blk off d.reverse := Any.slices_Reverse_int_arr Try.lays112 blk off cap d w hH hsz
open Go.RowKit Go.Lib Go.Sort in
theorem Try.slices_Reverse_int (blk off cap : Nat) (zs : List Int) (w : World) (hH : Holds (Value.int .i64) w blk off zs.toArray) (hsz : zs.length ≤ 9223372036854775807) :
 Calls Try.prog 28 #[.slice (some ⟨blk, off, none⟩) zs.length cap] w fun e w' => e = .returned (.tuple #[]) ∧ ∃ n, w' = putRow (Value.int .i64) (Sort.ahead w n) blk off zs.reverse.toArray := Any.slices_Reverse_int Try.lays112 blk off cap zs w hH hsz
open Go.RowKit Go.Lib Go.Sort in
theorem Try.slices_Reverse_int_empty (a : Option Addr) (cap : Nat) (w : World) :
 Calls Try.prog 28 #[.slice a 0 cap] w fun e w' => e = .returned (.tuple #[]) ∧ w' = w := Any.slices_Reverse_int_empty Try.lays112 a cap w
open Go.RowKit Go.Lib Go.Sort in
theorem Try.slices_Reverse_int_cells (b off n c : Nat) (zs : List Int) (w : World) (hz : n ≤ zs.length) (hbig : n ≤ 9223372036854775807) (hc : ∀ j, j < zs.length → w.cell? ⟨b, off + j, none⟩ = some (.int .i64 (zs.getD j 0))) (hf : ∀ j, j < n → w.frozen? ⟨b, off + j, none⟩ = false) :
 Calls Try.prog 28 #[.slice (some ⟨b, off, none⟩) n c] w fun e w' => e = .returned (.tuple #[]) ∧ ∃ q, w' = (w.drewN q).setCells b off ((zs.take n).reverse.map (Value.int .i64)) := Any.slices_Reverse_int_cells Try.lays112 b off n c zs w hz hbig hc hf
end Go.Proofs
namespace Go.Proofs.Ytagbikgfkakbfaa
open Go.RowKit
set_option linter.unusedSimpArgs false
set_option linter.unusedVariables false
attribute [local go_sem] iteMin iteMax iteMinN iteMaxN
theorem intInfoRp : (Try.prog.info? 3).map (fun i => (i.zero, i.size, i.bytes)) = some (some (.int .i64 0), 1, 8) := by kernel_rfl
theorem own_block {w : World} {B e g N cap : Nat} {xs : List Value} (h : w.ownsRow B e 1 (.slice (some ⟨g, 0, none⟩) N cap) N xs) (hc : cap = N) : w.heap[g]? = some (.cells xs.toArray e (0, 0)) := by
 subst hc
 rcases h.2 with ⟨h1, _⟩ | ⟨g', cap', cur, hv, _, hg, _, _, hs, hx⟩
 · cases h1
 · injection hv with e1 _ e3
   injection e1 with e1
   injection e1 with e1
   subst e1; subst e3
   rw [hg, ← hx]
   have e4 : cur.toList.take (cap * 1) = cur.toList := List.take_of_length_le (by simp; omega)
   rw [e4]
theorem splice_rep (x z : Value) (k c m : Nat) : splice (List.replicate k x ++ List.replicate (c + m) z) k (List.replicate c x) = List.replicate (k + c) x ++ List.replicate m z := by
 unfold splice
 rw [List.take_append_of_le_length (by simp), List.take_of_length_le (by simp), List.drop_append]
 simp only [List.length_replicate, List.drop_replicate]
 rw [show k - (k + c) = 0 by omega, show c + m - (k + c - k) = m by omega, List.replicate_zero, List.nil_append, ← List.append_assoc, List.replicate_append_replicate]
theorem made_rep (N : Nat) : (madeCells (Value.int .i64 0).cells (N * 1)).toList = List.replicate N (Value.int .i64 0) := by
 rw [show (Value.int .i64 0).cells = #[Value.int .i64 0] from rfl, toList_madeCells_one, Nat.mul_one]
theorem rep_one (n : Nat) (x : Int) : ∀ u ∈ List.replicate n (Value.int .i64 x), u.oneCell' = true := by
 intro u hu
 rw [(List.mem_replicate.1 hu).2]; rfl
theorem cell_block {w : World} {g : Nat} {cur : Array Value} {t : TypeId} (h : w.heap[g]? = some (.cells cur t (0, 0))) (j : Nat) : w.cell? ⟨g, j, none⟩ = cur[j]? := by simp [World.cell?, h]
theorem one_news {w : World} {ad : Addr} {v : Value} (h : w.cell? ad = some v) : ∀ (j : Nat) (u : Value), [v][j]? = some u → w.cell? (ad.add j) = some u := by
 intro j u hj
 have hj0 : j = 0 := by
  have := (List.getElem?_eq_some_iff.1 hj).1
  simp at this; omega
 subst hj0
 simp at hj; subst hj
 rw [show ad.add 0 = ad by unfold Addr.add; simp]; exact h
def RepAt (w w' : World) (x : Int) (N : Nat) (e : Ending) : Prop := ∃ g, e = .returned (.slice (some ⟨g, 0, none⟩) N N) ∧ w.heap.size ≤ g ∧ w'.heap[g]? = some (.cells (List.replicate N (Value.int .i64 x)).toArray 3 (0, 0))
theorem intSizeRp : (Try.prog.info? 3).map (·.size) = some 1 := by kernel_rfl
theorem mul_one_any (N : Nat) (w : World) (h : N ≤ 300) : Calls Try.prog 52 #[.int .u64 1, .int .u64 N] w fun e w' => e = .returned (.tuple #[.int .u64 0, .int .u64 N]) ∧ w' = w := by
 have e1 : 1 * N / 18446744073709551616 = 0 := by omega
 have e2 : 1 * N % 18446744073709551616 = N := by omega
 have := Try.bits_Mul 1 N (by omega) (by omega) w
 rw [e1, e2] at this
 exact this
set_option maxRecDepth 100000 in
set_option maxHeartbeats 4000000 in
theorem repeat_zero (ad : Addr) (x : Int) (w : World) :
 Calls Try.prog 40 #[.slice (some ad) 1 1, .int .i64 0] w fun e w' => RepAt w w' x 0 e ∧ Below w.heap.size w w' := by
 obtain ⟨i0, hi0, hz0, hz1, hz2⟩ := info_parts intInfoRp
 have HI := intSizeRp
 go_enter Try.func40, Try.ntmps40
 go_wp2_with fail
 refine (mul_one_any 0 _ (by omega)).mono ?_
 rintro e w' ⟨rfl, rfl⟩
 go_wp2_with (first | (at_make; refine wpList_make_full _ rfl _ _ 47 rfl w'.heap.size 3 i0 (.int .i64 0) 1 Try.underlying47 hi0 hz0 hz1 .i64 .i64 _ _ 0 rfl rfl rfl rfl (by rw [hz2]; omega) (by unfold maxLen; omega) (Nat.le_refl _) ?_; intro w1 hown hgrow) | (with_reducible refine wpList_copy_nothing rfl _ _ 47 47 rfl 3 Try.underlying47 HI _ _ _ _ _ _ rfl rfl rfl ?_))
 refine wp_loop_rounds 1 ?_
 rw [rounds_succ]
 go_wp2
 go_ret
 rw [made_rep] at hown
 exact ⟨⟨w'.heap.size, rfl, Nat.le_refl _, own_block hown rfl⟩, (Below.refl _ _).grown hgrow (Nat.le_refl _) (fun k hk => by cases hk)⟩
set_option maxRecDepth 100000 in
set_option maxHeartbeats 1000000 in
theorem repeat_pos (ad : Addr) (x : Int) (N : Nat) (w : World) (hN : 0 < N) (hN2 : N ≤ 300) (hc : w.cell? ad = some (.int .i64 x)) :
 Calls Try.prog 40 #[.slice (some ad) 1 1, .int .i64 N] w fun e w' => RepAt w w' x N e ∧ Below w.heap.size w w' := by
 obtain ⟨i0, hi0, hz0, hz1, hz2⟩ := info_parts intInfoRp
 have HI := intSizeRp
 have h0 : (0 : Int) ≤ (N : Int) := Int.natCast_nonneg _
 have h1 : (N : Int) ≤ 300 := by omega
 have hb := World.block_lt_of_cell? w _ hc
 obtain ⟨G, hG⟩ : ∃ G, w.heap.size = G := ⟨_, rfl⟩
 have HG := hide hG
 have HC := hide hc
 clear hc
 have P1 := hide (show [Value.int .i64 x].length = Nat.min 1 N from (Nat.min_eq_left (show 1 ≤ N by omega)).symm)
 have P3 := hide (show 0 + [Value.int .i64 x].length ≤ (List.replicate N (Value.int .i64 0)).length by simp; omega)
 have P4 := hide (show ∀ v ∈ [Value.int .i64 x], v.oneCell' = true from rep_one 1 x)
 go_enter Try.func40, Try.ntmps40
 go_wp2_with fail
 refine (mul_one_any N _ hN2).mono ?_
 rintro e w' ⟨rfl, rfl⟩
 go_wp2_with (first | (at_make; refine wpList_make_full _ rfl _ _ 47 rfl G 3 i0 (.int .i64 0) 1 Try.underlying47 hi0 hz0 hz1 .i64 .i64 _ _ N rfl rfl rfl rfl (by rw [hz2]; omega) (by unfold maxLen; omega) (by omega) ?_; intro w1 hown hgrow; rw [made_rep, hG] at hown; have hblk := own_block hown rfl; have hB1 : Below G w' w1 := (Below.refl G w').grown hgrow (by omega) (fun k hk => (by cases hk)); have hca : w1.cell? ad = some (.int .i64 x) := (hB1.cell (by omega)).trans HC.out; clear hown hgrow) | (with_reducible refine wpList_copy_splice rfl _ _ 47 47 rfl 3 Try.underlying47 HI _ _ _ _ _ _ rfl rfl G 0 (List.replicate N (Value.int .i64 0)) 3 hblk [.int .i64 x] P1.out (fun _ => ⟨rfl, ad, rfl, one_news hca⟩) P3.out P4.out G w' hB1 (Nat.le_refl _) ?_; intro w2 hb2 hB2; clear hblk hca hB1))
 have HB2 := hide (show w2.heap[G]? = some (.cells (List.replicate 1 (Value.int .i64 x) ++ List.replicate (N - 1) (Value.int .i64 0)).toArray 3 (0, 0)) by
  have h9 := hb2.out
  have e9 := splice_rep (Value.int .i64 x) (Value.int .i64 0) 0 1 (N - 1)
  rw [show 1 + (N - 1) = N by omega, List.replicate_zero, List.nil_append] at e9
  rw [show [Value.int .i64 x] = List.replicate 1 (Value.int .i64 x) from rfl, e9] at h9
  exact h9)
 clear hb2
 go_wp2
 go_loopw [8] (fun v wr => ∃ k : Nat, 1 ≤ k ∧ k ≤ N ∧ v = .int .i64 k ∧ Hid (wr.heap[G]? = some (.cells (List.replicate k (Value.int .i64 x) ++ List.replicate (N - k) (Value.int .i64 0)).toArray 3 (0, 0))) ∧ Below G w' wr) (fun v _ => N - (intOf v).toNat)
 case atStart => exact ⟨1, Nat.le_refl _, hN, rfl, HB2, hB2⟩
 case round =>
  clear HB2 hB2
  obtain ⟨k, hk1, hk, rfl, HB, hB⟩ := hrel
  have k0 : (0 : Int) ≤ (k : Int) := Int.natCast_nonneg _
  by_cases hlt : k < N
  · have q1 : (k : Int) < (N : Int) := by omega
    have q2 : (k : Int) ≤ (N : Int) := by omega
    have q3 : k ≤ N := by omega
    have q4 : ¬ (N = k) := by omega
    obtain ⟨c, hc⟩ : ∃ c, c = min k (N - k) := ⟨_, rfl⟩
    have HCC := hide hc
    have HBLK := hide (show wr.drew.heap[G]? = some (.cells (List.replicate k (Value.int .i64 x) ++ List.replicate (N - k) (Value.int .i64 0)).toArray 3 (0, 0)) from HB.out)
    have hBd : Below G w' wr.drew := hB.drew
    have F1 := hide (show (List.replicate c (Value.int .i64 x)).length = Nat.min k (N - k) by rw [List.length_replicate]; exact hc)
    have F2 := hide (show ∀ (j : Nat) (v : Value), (List.replicate c (Value.int .i64 x))[j]? = some v → wr.drew.cell? ((⟨G, 0, none⟩ : Addr).add j) = some v from fun j v hj => by
     have hjc : j < c := by have := (List.getElem?_eq_some_iff.1 hj).1; simpa using this
     rw [show (⟨G, 0, none⟩ : Addr).add j = ⟨G, j, none⟩ by unfold Addr.add; split <;> simp_all]
     rw [List.getElem?_replicate, if_pos hjc] at hj
     rw [← hj]
     have h9 : wr.drew.heap[G]? = _ := HBLK.out
     rw [cell_block h9]
     simp only [List.getElem?_toArray]
     rw [List.getElem?_append_left (by simp; omega), List.getElem?_replicate, if_pos (by omega)])
    have F3 := hide (show k + (List.replicate c (Value.int .i64 x)).length ≤ (List.replicate k (Value.int .i64 x) ++ List.replicate (N - k) (Value.int .i64 0)).length by simp only [List.length_append, List.length_replicate]; omega)
    have HS := hide (splice_rep (Value.int .i64 x) (Value.int .i64 0) k c (N - k - c))
    have hca : wr.cell? ad = some (.int .i64 x) := (hB.cell (by omega)).trans HC.out
    have HBd := hide hBd
    have kz : (k : Int) + (c : Int) ≤ 600 := by omega
    have c0 : (0 : Int) ≤ (c : Int) := Int.natCast_nonneg _
    have hwc : IntKind.i64.wrap ((k : Int) + (c : Int)) = (k : Int) + (c : Int) := IntWalk.i64_in _ (by omega)
    clear hc hBd
    go_wp2_with fail
    go_region_held3 (fun w' => w'.cell? ad = some (.int .i64 x)) (first | (go_keep; done) | ((try dsimp only); exact (HB4.cell (by omega)).trans HC.out)) ((refine step_copy_splice rfl _ _ 47 47 rfl 3 Try.underlying47 HI _ _ _ _ _ _ rfl rfl G k (List.replicate k (Value.int .i64 x) ++ List.replicate (N - k) (Value.int .i64 0)) 3 HBLK.out (List.replicate c (Value.int .i64 x)) F1.out (fun _ => ⟨rfl, ⟨G, 0, none⟩, rfl, F2.out⟩) F3.out (rep_one _ _) G w' HBd.out (Nat.le_refl _) ?_; intro w4 hb4 HB4))
    have HNX := hide (show w4.heap[G]? = some (.cells (List.replicate (k + c) (Value.int .i64 x) ++ List.replicate (N - (k + c)) (Value.int .i64 0)).toArray 3 (0, 0)) by
     have h9 := hb4.out
     have h8 := HS.out
     rw [show c + (N - k - c) = N - k by have := HCC.out; omega] at h8
     rw [h8, show N - k - c = N - (k + c) by omega] at h9
     exact h9)
    have HKC := hide (show k + c ≤ N ∧ k < k + c by have := HCC.out; omega)
    clear hb4 hwc
    go_wp2
    go_roundw
    case rel => exact ⟨k + c, by omega, HKC.out.1, by first | go_num | (simp; done), HNX, HB4⟩
    case measure => (have := HKC.out; simp [intOf] <;> omega)
  · obtain rfl : k = N := by omega
    have HF := hide (show wr.heap[G]? = some (.cells (List.replicate k (Value.int .i64 x)).toArray 3 (0, 0)) by
     have h9 := HB.out
     rw [Nat.sub_self, List.replicate_zero, List.append_nil] at h9; exact h9)
    go_wp2
    go_ret
    exact ⟨⟨G, rfl, by rw [HG.out]; exact Nat.le_refl _, HF.out⟩, by rw [HG.out]; exact hB⟩
theorem repeat_any (ad : Addr) (x : Int) (N : Nat) (w : World) (hN2 : N ≤ 300) (hc : w.cell? ad = some (.int .i64 x)) :
 Calls Try.prog 40 #[.slice (some ad) 1 1, .int .i64 N] w fun e w' => RepAt w w' x N e ∧ Below w.heap.size w w' := by
 rcases Nat.eq_zero_or_pos N with h0 | h0
 · subst h0; exact repeat_zero ad x w
 · exact repeat_pos ad x N w h0 hN2 hc
end Go.Proofs.Ytagbikgfkakbfaa
