/-
  Lemmas and walks for the statement: LkIter, Lk1.
-/
import Derived.RangeFuncNested
import Derived.RangeFuncBound
import Derived.RangeFuncCalls
import Derived.RangeFuncLeaves
import Derived.Shelf.Abstract
import Derived.Shelf.RegionOpen
import Derived.WalkKit
import Derived.OwnWalkIn
import Derived.TacticsInMore
import Derived.LoopNIn
import Derived.LoopIn
import Derived.Test.YtjjikhaaimfneaaGreatDoorE02
import Derived.Test.YtjjikhaaimfneaaGreatDoorChecked
import Derived.Test.YtjjikhaaimfneaaGreatDoorE01
namespace Go.Proofs.YtjjikhaaimfneaaGreatDoor
open Go.RowKit Go.Shelf
set_option linter.unusedSimpArgs false
set_option linter.unusedVariables false
attribute [local go_sem] Oper.semAt_some iteMaxN iteMax
def bi (x : Bool) : Int := if x then 1 else 0
theorem bi_f : bi false = 0 := rfl
theorem bi_t : bi true = 1 := rfl
def encB (x : Bool) : Array Value := #[.int .i64 (bi x)]
theorem encF : encB false = #[.int .i64 0] := rfl
theorem encT : encB true = #[.int .i64 1] := rfl
def KpC (B2 B3 : Nat) (W W' : World) : Prop := ∀ a v, (a.block = B2 ∨ a.block = B3) → W.cell? a = some v → W'.cell? a = some v
theorem KpC.refl (B2 B3 : Nat) (W : World) : KpC B2 B3 W W := fun _ _ _ h => h
theorem KpC.trans {B2 B3 : Nat} {A B C : World} (h : KpC B2 B3 A B) (k : KpC B2 B3 B C) : KpC B2 B3 A C := fun a v hb hc => k a v hb (h a v hb hc)
theorem KpC.at {B2 B3 : Nat} {A B : World} (h : KpC B2 B3 A B) (a : Addr) (v : Value) (hb : a.block = B2 ∨ a.block = B3) (hc : A.cell? a = some v) : B.cell? a = some v := h a v hb hc
theorem kpC_b {B2 B3 : Nat} {w : World} (W : World) (l : Nat) (o o' : Obj) (_ : w.heap.size ≤ l) (h : W.heap[l]? = some o) (ho : o.isCells = false) (_ : o.isWalk = false) : KpC B2 B3 W (W.putObj l o') :=
 fun a v _ hc => cell_kept hc (grownBy_putObj' W l o') (fun r e => by cases e; exact ⟨o, h, ho⟩)
theorem KpC.set {B2 B3 : Nat} {W W' : World} (h : KpC B2 B3 W W') (p : Addr) (x : Value) (h2 : p.block ≠ B2) (h3 : p.block ≠ B3) : KpC B2 B3 W (W'.setCell p x) := fun a v hb hc => by
 rw [World.cell?_setCell_other _ _ _ _ (fun e => by subst e; rcases hb with hb | hb <;> omega)]; exact h a v hb hc
theorem alt_ft' {c d k : Nat} {l : List Bool} (h1 : k < c) (h2 : k < d) : l ++ altB c d (k + 1) = l ++ altB c d k ++ [false] ++ [true] := by simp [altB, h1, h2]
theorem alt_f' {c d k : Nat} {l : List Bool} (h1 : k < c) (h2 : ¬ k < d) : l ++ altB c d (k + 1) = l ++ altB c d k ++ [false] := by simp [altB, h1, h2]
theorem alt_t' {c d k : Nat} {l : List Bool} (h1 : ¬ k < c) (h2 : k < d) : l ++ altB c d (k + 1) = l ++ altB c d k ++ [true] := by simp [altB, h1, h2]
set_option maxRecDepth 100000 in
set_option maxHeartbeats 4000000 in
theorem line1_in (F : Fence) (n : Nat) (h7 : F.fn 144) (hro : F.round = none) (hn : 1 ≤ n) (l B2 B3 a b c d : Nat) (ha : a ≤ 100) (hb : b ≤ 100) (hc : c ≤ 100) (hd : d ≤ 100) (J Jx : List Bool → World → Prop)
 (hY : ∀ pre x W, J pre W → pre.length < a + b + (c + d) → YieldAt F (n - 1) Tryz.prog l (encB x) W fun e W' =>
  (e = .returned (.bool true) ∧ J (pre ++ [x]) W' ∧ KpC B2 B3 W W') ∨ (e = .returned (.bool false) ∧ Jx (pre ++ [x]) W'))
 (W : World) (hA : W.cell? ⟨B2, 0, none⟩ = some (.int .i64 a)) (hA1 : W.cell? ⟨B2, 1, none⟩ = some (.int .i64 b)) (hC : W.cell? ⟨B3, 0, none⟩ = some (.int .i64 c)) (hC1 : W.cell? ⟨B3, 1, none⟩ = some (.int .i64 d)) (h0 : J [] W) :
 CallsIn F n Tryz.prog 144 #[.func (.yield l) #[] #[], .pointer (some ⟨B2, 0, none⟩), .pointer (some ⟨B3, 0, none⟩)] W fun e W' => (∃ v, e = .returned v) ∧
  ((∃ ys, ys = rowB a b c d ∧ J ys W') ∨ (∃ pre, True ∧ Jx pre W')) := by
 have i0 : ∀ w : World, (Instr.index 47 (.agg #[.int .i64 a, .int .i64 b]) (.int .i64 0)).run Tryz.prog w = .ok (.int .i64 a) w := fun _ => by kernel_rfl
 have i1 : ∀ w : World, (Instr.index 47 (.agg #[.int .i64 a, .int .i64 b]) (.int .i64 1)).run Tryz.prog w = .ok (.int .i64 b) w := fun _ => by kernel_rfl
 have j0 : ∀ w : World, (Instr.index 47 (.agg #[.int .i64 c, .int .i64 d]) (.int .i64 0)).run Tryz.prog w = .ok (.int .i64 c) w := fun _ => by kernel_rfl
 have j1 : ∀ w : World, (Instr.index 47 (.agg #[.int .i64 c, .int .i64 d]) (.int .i64 1)).run Tryz.prog w = .ok (.int .i64 d) w := fun _ => by kernel_rfl
 have ha0 : (0 : Int) ≤ (a : Int) := Int.natCast_nonneg _
 refine callsIn_of_wp Tryz.func144 rfl h7 ?_ hro
 simp only [Tryz.ntmps144, List.size_toArray, List.length_cons, List.length_nil, Nat.reduceAdd, Nat.reduceSub, Array.replicate_succ, Array.replicate_zero, List.push_toArray, List.append_toArray, List.nil_append, List.cons_append]
 gi_wp2
 refine wpIn_loop_rounds 3 ?_
 rw [roundsIn_succ]
 gi_wp2
 gi_loopw [15] (fun i wr => ∃ k : Nat, k ≤ a ∧ i = .int .i64 k ∧ J (([] : List Bool) ++ List.replicate k false) wr ∧ KpC B2 B3 W wr)
  (fun i _ => a - (intOf i).toNat)
 case atStart => exact ⟨0, Nat.zero_le _, rfl, by simpa using h0, KpC.refl _ _ _⟩
 case round =>
  obtain ⟨k, hk, rfl, hJs, hnx⟩ := hrel
  have k0 : (0 : Int) ≤ (k : Int) := Int.natCast_nonneg _
  by_cases hlt : k < a
  · have k1 : (k : Int) < (a : Int) := by omega
    obtain ⟨fn, tmps, assign, body, hy, hR⟩ := hY _ false wr hJs (by simp; omega)
    rw [encF] at hy
    gi_wp2
    refine hR.mono ?_
    rintro e W3 (⟨rfl, hJ3, hk3⟩ | ⟨rfl, hJx3⟩)
    · gi_wp2
      go_roundw
      case rel => exact ⟨k + 1, by omega, by first | go_num | simp, by rw [List.replicate_succ', ← List.append_assoc]; exact hJ3, hnx.trans hk3⟩
      case measure => (simp [intOf] <;> omega)
    · gi_wp2
      refine bodyPost_ret (results_none rfl _ _ _) rfl ?_
      exact ⟨⟨_, rfl⟩, .inr ⟨_, trivial, hJx3⟩⟩
  · obtain rfl : a = k := by omega
    gi_wp2
    rw [roundsIn_succ]
    gi_wp2
    gi_loopw [15] (fun i wr => ∃ j : Nat, j ≤ b ∧ i = .int .i64 j ∧ J (([] ++ List.replicate a false) ++ List.replicate j true) wr ∧ KpC B2 B3 W wr)
     (fun i _ => b - (intOf i).toNat)
    case atStart => exact ⟨0, Nat.zero_le _, rfl, by simpa using hJs, hnx⟩
    case round =>
     clear hJs hnx
     obtain ⟨j, hj, rfl, hJs, hnx⟩ := hrel
     have j0' : (0 : Int) ≤ (j : Int) := Int.natCast_nonneg _
     by_cases hlt2 : j < b
     · have j1' : (j : Int) < (b : Int) := by omega
       obtain ⟨fn, tmps, assign, body, hy, hR⟩ := hY _ true wr hJs (by simp; omega)
       rw [encT] at hy
       gi_wp2
       refine hR.mono ?_
       rintro e W3 (⟨rfl, hJ3, hk3⟩ | ⟨rfl, hJx3⟩)
       · gi_wp2
         go_roundw
         case rel => exact ⟨j + 1, by omega, by first | go_num | simp, by rw [List.replicate_succ', ← List.append_assoc]; exact hJ3, hnx.trans hk3⟩
         case measure => (simp [intOf] <;> omega)
       · gi_wp2
         refine bodyPost_ret (results_none rfl _ _ _) rfl ?_
         exact ⟨⟨_, rfl⟩, .inr ⟨_, trivial, hJx3⟩⟩
     · obtain rfl : b = j := by omega
       have hcC := hnx.at ⟨B3, 0, none⟩ _ (.inr rfl) hC
       have hcC1 := hnx.at ⟨B3, 1, none⟩ _ (.inr rfl) hC1
       have HJ := hide hJs
       have HN := hide hnx
       clear hA hA1 i0 i1 hlt hlt2 h0 hJs hnx
       gi_wp2
       rw [roundsIn_succ]
       gi_wp2
       gi_loopw [28] (fun i wr => ∃ k : Nat, k ≤ max c d ∧ i = .int .i64 k ∧ J (([] ++ List.replicate a false) ++ List.replicate b true ++ altB c d k) wr ∧ KpC B2 B3 W wr)
        (fun i _ => max c d - (intOf i).toNat)
       case atStart => exact ⟨0, Nat.zero_le _, rfl, by simpa [altB] using HJ.out, HN.out⟩
       case round =>
        clear HJ HN hcC hcC1
        obtain ⟨k, hk, rfl, hJs, hnx⟩ := hrel
        have q0 : (0 : Int) ≤ (k : Int) := Int.natCast_nonneg _
        have hcC := hnx.at ⟨B3, 0, none⟩ _ (.inr rfl) hC
        have hcC1 := hnx.at ⟨B3, 1, none⟩ _ (.inr rfl) hC1
        have HC := hide hC
        have HC1 := hide hC1
        have HN := hide hnx
        have hlen : (([] ++ List.replicate a false) ++ List.replicate b true ++ altB c d k).length = a + b + (min k c + min k d) := by simp [alt_len]; omega
        have HL := hide hlen
        clear hC hC1 hnx hlen
        by_cases hlt : k < max c d
        · have k1 : (k : Int) < (max c d : Nat) := by omega
          by_cases h1 : k < c
          · have h1' : (k : Int) < (c : Int) := by omega
            obtain ⟨fn, tmps, assign, body, hy, hR⟩ := hY _ false wr hJs (by rw [HL.out]; omega)
            rw [encF] at hy
            gi_wp2
            refine wpIn_loop_rounds 3 ?_
            rw [roundsIn_succ]
            gi_wp2
            refine hR.mono ?_
            rintro e W3 (⟨rfl, hJ3, hk3⟩ | ⟨rfl, hJx3⟩)
            · clear hR hy
              gi_wp2
              rw [roundsIn_succ]
              by_cases h2 : k < d
              · have h2' : (k : Int) < (d : Int) := by omega
                obtain ⟨fn, tmps, assign, body, hy, hR⟩ := hY _ true W3 hJ3 (by rw [List.length_append, HL.out]; simp; omega)
                rw [encT] at hy
                gi_wp2
                refine hR.mono ?_
                rintro e W4 (⟨rfl, hJ4, hk4⟩ | ⟨rfl, hJx4⟩)
                · clear hR hy
                  gi_wp2
                  rw [roundsIn_succ]
                  gi_wp2
                  go_roundw
                  case rel => exact ⟨k + 1, by omega, by first | go_num | simp, by rw [alt_ft' h1 h2]; exact hJ4, (HN.out.trans hk3).trans hk4⟩
                  case measure => (simp [intOf] <;> omega)
                · gi_wp2
                  refine bodyPost_ret (results_none rfl _ _ _) rfl ?_
                  exact ⟨⟨_, rfl⟩, .inr ⟨_, trivial, hJx4⟩⟩
              · have h2' : ¬ (k : Int) < (d : Int) := by omega
                gi_wp2
                refine ⟨fun _ h => (by cases h), ?_⟩
                gi_wp2
                rw [roundsIn_succ]
                gi_wp2
                go_roundw
                case rel => exact ⟨k + 1, by omega, by first | go_num | simp, by rw [alt_f' h1 h2]; exact hJ3, HN.out.trans hk3⟩
                case measure => (simp [intOf] <;> omega)
            · gi_wp2
              refine bodyPost_ret (results_none rfl _ _ _) rfl ?_
              exact ⟨⟨_, rfl⟩, .inr ⟨_, trivial, hJx3⟩⟩
          · have h1' : ¬ (k : Int) < (c : Int) := by omega
            have h2 : k < d := by omega
            have h2' : (k : Int) < (d : Int) := by omega
            obtain ⟨fn, tmps, assign, body, hy, hR⟩ := hY _ true wr hJs (by rw [HL.out]; omega)
            rw [encT] at hy
            gi_wp2
            refine wpIn_loop_rounds 3 ?_
            rw [roundsIn_succ]
            gi_wp2
            refine ⟨fun _ h => (by cases h), ?_⟩
            gi_wp2
            rw [roundsIn_succ]
            gi_wp2
            refine hR.mono ?_
            rintro e W4 (⟨rfl, hJ4, hk4⟩ | ⟨rfl, hJx4⟩)
            · clear hR hy
              gi_wp2
              rw [roundsIn_succ]
              gi_wp2
              go_roundw
              case rel => exact ⟨k + 1, by omega, by first | go_num | simp, by rw [alt_t' h1 h2]; exact hJ4, HN.out.trans hk4⟩
              case measure => (simp [intOf] <;> omega)
            · gi_wp2
              refine bodyPost_ret (results_none rfl _ _ _) rfl ?_
              exact ⟨⟨_, rfl⟩, .inr ⟨_, trivial, hJx4⟩⟩
        · obtain rfl : k = max c d := by omega
          gi_wp2
          go_end0
          exact ⟨⟨_, rfl⟩, .inl ⟨_, by unfold rowB; simp, hJs⟩⟩
theorem line_stops (F : Fence) (n : Nat) (h7 : F.fn 144) (hro : F.round = none) (hn : 1 ≤ n) (B2 B3 a b c d : Nat) (ha : a ≤ 100) (hb : b ≤ 100) (hc : c ≤ 100) (hd : d ≤ 100) (w : World) (hs2 : B2 < w.heap.size) (hs3 : B3 < w.heap.size)
 (hA : w.cell? ⟨B2, 0, none⟩ = some (.int .i64 a)) (hA1 : w.cell? ⟨B2, 1, none⟩ = some (.int .i64 b)) (hC : w.cell? ⟨B3, 0, none⟩ = some (.int .i64 c)) (hC1 : w.cell? ⟨B3, 1, none⟩ = some (.int .i64 d)) :
 SeqStopsK F n Tryz.prog 144 #[.pointer (some ⟨B2, 0, none⟩), .pointer (some ⟨B3, 0, none⟩)] (fun x : Bool => #[.int .i64 (bi x)]) (KpC B2 B3) (fun ys => ys = rowB a b c d) (fun _ => True) (a + b + (c + d)) w := fun l J Jx W hW _ _ hY h0 =>
 line1_in F n h7 hro hn l B2 B3 a b c d ha hb hc hd J Jx hY W ((hW.cell (p := ⟨B2, 0, none⟩) hs2).trans hA) ((hW.cell (p := ⟨B2, 1, none⟩) hs2).trans hA1) ((hW.cell (p := ⟨B3, 0, none⟩) hs3).trans hC) ((hW.cell (p := ⟨B3, 1, none⟩) hs3).trans hC1) h0
theorem line_in (F : Fence) (n : Nat) (h5 : F.fn 119) (hro : F.round = none) (a b c d : Int) (w : World) :
 CallsIn F n Tryz.prog 119 #[.agg #[.int .i64 a, .int .i64 b], .agg #[.int .i64 c, .int .i64 d]] w fun e w' => e = .returned (.func (.func 144) #[] #[.pointer (some ⟨w.heap.size, 0, none⟩), .pointer (some ⟨w.heap.size + 1, 0, none⟩)]) ∧ w' = (w.alloc (.cells #[.int .i64 a, .int .i64 b] 47)).alloc (.cells #[.int .i64 c, .int .i64 d] 47) := by
 refine callsIn_of_wp Tryz.func119 rfl h5 ?_ hro
 simp only [Tryz.ntmps119, List.size_toArray, List.length_cons, List.length_nil, Nat.reduceAdd, Nat.reduceSub, Array.replicate_succ, Array.replicate_zero, List.push_toArray, List.append_toArray, List.nil_append, List.cons_append]
 gi_wp2
 go_ret
 exact ⟨rfl, rfl⟩
end Go.Proofs.YtjjikhaaimfneaaGreatDoor
namespace Go.Proofs.YtjjikhaaimfneaaGreatDoor
open Go.RowKit
set_option linter.unusedSimpArgs false
set_option linter.unusedVariables false
attribute [local go_sem] iteMin iteMax iteMinN iteMaxN
def LinkOk (R Q a b c d : Int) : Prop := (1 ≤ R ∧ R ≤ 12) ∧ (0 ≤ Q ∧ Q ≤ 16) ∧ (0 ≤ a ∧ 0 ≤ b ∧ a + b ≤ 16) ∧ (0 ≤ c ∧ c ≤ 12) ∧ (0 ≤ d ∧ d ≤ 12)
set_option maxRecDepth 100000 in
set_option maxHeartbeats 4000000 in
theorem lright_any (R Q a b c d : Int) (w : World) (ha : a ≤ 9223372036854775807) (hb : b ≤ 9223372036854775807) :
 Calls Tryz.prog 118 #[.int .i64 R, .int .i64 Q, .agg #[.int .i64 a, .int .i64 b], .agg #[.int .i64 c, .int .i64 d]] w fun e w' => IsB (LinkOk R Q a b c d) e ∧ Below w.heap.size w w' := by
 have hB : Below w.heap.size w ((w.alloc (.cells #[.int .i64 a, .int .i64 b] 47)).alloc (.cells #[.int .i64 c, .int .i64 d] 47)) := ((Below.refl _ _).alloc (Nat.le_refl _) _).alloc (by simp) _
 go_enter Tryz.func118, Tryz.ntmps118
 have HB := hide hB
 clear hB
 by_cases h1 : 0 ≤ R
 case neg => (go_wp2; go_ret; exact ⟨IsB.f (by unfold LinkOk; omega), HB.out⟩)
 by_cases h2 : R ≤ 12
 case neg => (go_wp2; go_ret; exact ⟨IsB.f (by unfold LinkOk; omega), HB.out⟩)
 by_cases h3 : 0 < R
 case neg => (go_wp2; go_ret; exact ⟨IsB.f (by unfold LinkOk; omega), HB.out⟩)
 by_cases h4 : 0 ≤ Q
 case neg => (go_wp2; go_ret; exact ⟨IsB.f (by unfold LinkOk; omega), HB.out⟩)
 by_cases h5 : Q ≤ 16
 case neg => (go_wp2; go_ret; exact ⟨IsB.f (by unfold LinkOk; omega), HB.out⟩)
 by_cases h6 : 0 ≤ min a b
 case neg => (go_wp2; go_ret; exact ⟨IsB.f (by unfold LinkOk; omega), HB.out⟩)
 by_cases h7 : a + b ≤ 16
 case neg =>
  have e7 : wrap64 (a + b) < 0 ∨ 16 < wrap64 (a + b) := by unfold wrap64; omega
  rcases e7 with e7 | e7
  · have e8 : ¬ (0 ≤ wrap64 (a + b)) := by omega
    go_wp2
    go_ret
    refine ⟨?_, HB.out⟩
    exact IsB.f (by unfold LinkOk; omega)
  · have e8 : 0 ≤ wrap64 (a + b) := by omega
    have e9 : ¬ (wrap64 (a + b) ≤ 16) := by omega
    go_wp2
    go_ret
    refine ⟨?_, HB.out⟩
    exact IsB.f (by unfold LinkOk; omega)
 have e7 : wrap64 (a + b) = a + b := by unfold wrap64; omega
 have e9 : 0 ≤ a + b := by omega
 by_cases h8 : 0 ≤ c
 case neg => (go_wp2; go_ret; exact ⟨IsB.f (by unfold LinkOk; omega), HB.out⟩)
 by_cases h9 : c ≤ 12
 case neg => (go_wp2; go_ret; exact ⟨IsB.f (by unfold LinkOk; omega), HB.out⟩)
 by_cases h10 : 0 ≤ d
 case neg => (go_wp2; go_ret; exact ⟨IsB.f (by unfold LinkOk; omega), HB.out⟩)
 by_cases h11 : d ≤ 12
 case neg => (go_wp2; go_ret; exact ⟨IsB.f (by unfold LinkOk; omega), HB.out⟩)
 go_wp2
 go_ret
 exact ⟨IsB.d (by unfold LinkOk; simp; omega), HB.out⟩
end Go.Proofs.YtjjikhaaimfneaaGreatDoor
