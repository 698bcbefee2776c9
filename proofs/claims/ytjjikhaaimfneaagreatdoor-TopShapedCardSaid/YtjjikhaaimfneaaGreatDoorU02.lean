/-
  Lemmas and walks for the statement: PLink, Min, LkIter, Lk1.
-/
import Derived.Test.YtjjikhaaimfneaaGreatDoorU01
import Derived.RangeFuncNested
import Derived.RangeFuncBound
import Derived.RangeFuncCalls
import Derived.RangeFuncLeaves
import Derived.Shelf.Abstract
import Derived.Shelf.RegionOpen
import Derived.WalkKit
import Derived.OwnWalkIn
import Derived.TacticsInMore
import Derived.LoopNIn
import Derived.LoopIn
import Derived.Test.YtjjikhaaimfneaaGreatDoorChecked
namespace Go.Proofs.YtjjikhaaimfneaaGreatDoor
open Go.RowKit
set_option linter.unusedSimpArgs false
set_option linter.unusedVariables false
def altB (c d : Nat) : Nat → List Bool
 | 0 => []
 | k + 1 => altB c d k ++ ((if k < c then [false] else []) ++ (if k < d then [true] else []))
def rowB (a b c d : Nat) : List Bool := List.replicate a false ++ List.replicate b true ++ altB c d (max c d)
theorem alt_len (c d : Nat) : ∀ k, (altB c d k).length = min k c + min k d
 | 0 => by simp [altB]
 | k + 1 => by
   simp only [altB, List.length_append, alt_len c d k]
   by_cases h1 : k < c <;> by_cases h2 : k < d <;> simp [h1, h2] <;> omega
theorem row_len (a b c d : Nat) : (rowB a b c d).length = a + b + (c + d) := by
 simp only [rowB, List.length_append, List.length_replicate, alt_len]; omega
theorem tip_cnt (p q : Prop) [Decidable p] [Decidable q] (j : Nat) :
 (p → 0 < j → ((((if p then [false] else []) ++ (if q then [true] else [])) : List Bool).take j).count false = 1) ∧ (¬ (p ∧ 0 < j) → ((((if p then [false] else []) ++ (if q then [true] else [])) : List Bool).take j).count false = 0) ∧
 (p → q → 1 < j → ((((if p then [false] else []) ++ (if q then [true] else [])) : List Bool).take j).count true = 1) ∧ (p → ¬ (q ∧ 1 < j) → ((((if p then [false] else []) ++ (if q then [true] else [])) : List Bool).take j).count true = 0) ∧
 (¬ p → q → 0 < j → ((((if p then [false] else []) ++ (if q then [true] else [])) : List Bool).take j).count true = 1) ∧ (¬ p → ¬ (q ∧ 0 < j) → ((((if p then [false] else []) ++ (if q then [true] else [])) : List Bool).take j).count true = 0) := by
 rcases j with _ | _ | j <;> by_cases h1 : p <;> by_cases h2 : q <;> simp [h1, h2]
def AltC (c d n f t : Nat) : Prop :=
 (n ≤ 2 * min c d → f = (n + 1) / 2 ∧ t = n / 2) ∧ (2 * min c d < n → (min c d < c → f = min n (c + d) - min c d ∧ t = min c d) ∧ (¬ min c d < c → f = min c d ∧ t = min n (c + d) - min c d))
theorem alt_ff {k n f t f1 t1 : Nat} (h : n ≤ k + k) (a1 : f1 = 0) (a2 : t1 = 0) (a3 : f = (n + 1) / 2 ∧ t = n / 2) : AltC (k + 1) (k + 1) n (f + f1) (t + t1) :=
 ⟨fun _ => by omega, fun h => absurd h (by omega)⟩
theorem alt_fe {k n f t f1 t1 : Nat} (h : n = k + k + 1) (a1 : f1 = 1) (a2 : t1 = 0) (a3 : f = min k k ∧ t = min n (k + k) - min k k) : AltC (k + 1) (k + 1) n (f + f1) (t + t1) :=
 ⟨fun _ => by omega, fun h => absurd h (by omega)⟩
theorem alt_ft {k n f t f1 t1 : Nat} (h : k + k + 1 < n) (a1 : f1 = 1) (a2 : t1 = 1) (a3 : f = min k k ∧ t = min n (k + k) - min k k) : AltC (k + 1) (k + 1) n (f + f1) (t + t1) :=
 ⟨fun _ => by omega, fun _ => ⟨fun h => absurd h (by omega), fun _ => by omega⟩⟩
theorem alt_c0 {k d n f t f1 t1 : Nat} (hd : d ≤ k) (h : n ≤ k + d) (a1 : f1 = 0) (a2 : t1 = 0) (ih : AltC k d n f t) : AltC (k + 1) d n (f + f1) (t + t1) := by
 have e1 : min k d = d := by omega
 have e2 : min (k + 1) d = d := by omega
 obtain ⟨g1, g2⟩ := ih
 rw [e1] at g1 g2
 refine ⟨fun h1 => ?_, fun h1 => ⟨fun h2 => ?_, fun h2 => absurd h2 (by omega)⟩⟩ <;> rw [e2] at h1 <;> (try rw [e2])
 · have := g1 h1; omega
 · have := g2 h1
   by_cases h3 : d < k
   · have := this.1 h3; omega
   · have := this.2 h3; omega
theorem alt_c1 {k d n f t f1 t1 : Nat} (hd : d ≤ k) (h : k + d < n) (a1 : f1 = 1) (a2 : t1 = 0) (ih : AltC k d n f t) : AltC (k + 1) d n (f + f1) (t + t1) := by
 have e1 : min k d = d := by omega
 have e2 : min (k + 1) d = d := by omega
 obtain ⟨g1, g2⟩ := ih
 rw [e1] at g1 g2
 refine ⟨fun h1 => ?_, fun h1 => ⟨fun h2 => ?_, fun h2 => absurd h2 (by omega)⟩⟩ <;> rw [e2] at h1 <;> (try rw [e2])
 · omega
 · have := g2 h1
   by_cases h3 : d < k
   · have := this.1 h3; omega
   · have := this.2 h3; omega
theorem alt_d0 {k c n f t f1 t1 : Nat} (hd : c ≤ k) (h : n ≤ c + k) (a1 : f1 = 0) (a2 : t1 = 0) (ih : AltC c k n f t) : AltC c (k + 1) n (f + f1) (t + t1) := by
 have e1 : min c k = c := by omega
 have e2 : min c (k + 1) = c := by omega
 obtain ⟨g1, g2⟩ := ih
 rw [e1] at g1 g2
 refine ⟨fun h1 => ?_, fun h1 => ⟨fun h2 => absurd h2 (by omega), fun h2 => ?_⟩⟩ <;> rw [e2] at h1 <;> (try rw [e2])
 · have := g1 h1; omega
 · have := (g2 h1).2 (by omega); omega
theorem alt_d1 {k c n f t f1 t1 : Nat} (hd : c ≤ k) (h : c + k < n) (a1 : f1 = 0) (a2 : t1 = 1) (ih : AltC c k n f t) : AltC c (k + 1) n (f + f1) (t + t1) := by
 have e1 : min c k = c := by omega
 have e2 : min c (k + 1) = c := by omega
 obtain ⟨g1, g2⟩ := ih
 rw [e1] at g1 g2
 refine ⟨fun h1 => ?_, fun h1 => ⟨fun h2 => absurd h2 (by omega), fun h2 => ?_⟩⟩ <;> rw [e2] at h1 <;> (try rw [e2])
 · omega
 · have := (g2 h1).2 (by omega); omega
theorem alt_cnt (c d n : Nat) : ∀ k, AltC (min k c) (min k d) n (((altB c d k).take n).count false) (((altB c d k).take n).count true)
 | 0 => by simp [altB, AltC]; omega
 | k + 1 => by
   have ih := alt_cnt c d n k
   have hl := alt_len c d k
   simp only [altB, List.take_append, List.count_append]
   obtain ⟨t1, t2, t3, t4, t5, t6⟩ := tip_cnt (k < c) (k < d) (n - (altB c d k).length)
   simp only [List.take_append, List.count_append] at t1 t2 t3 t4 t5 t6
   rw [hl] at t1 t2 t3 t4 t5 t6 ⊢
   generalize List.count false (List.take n (altB c d k)) = f0 at *
   generalize List.count true (List.take n (altB c d k)) = t0 at *
   generalize (List.count false (List.take (n - (min k c + min k d)) (if k < c then [false] else [])) + List.count false (List.take (n - (min k c + min k d) - (if k < c then [false] else []).length) (if k < d then [true] else []))) = f1 at *
   generalize (List.count true (List.take (n - (min k c + min k d)) (if k < c then [false] else [])) + List.count true (List.take (n - (min k c + min k d) - (if k < c then [false] else []).length) (if k < d then [true] else []))) = t1' at *
   unfold AltC at *
   clear hl
   by_cases h1 : k < c <;> by_cases h2 : k < d
   · rw [show min (k + 1) c = k + 1 by omega, show min (k + 1) d = k + 1 by omega]
     rw [show min k c = k by omega, show min k d = k by omega] at ih t1 t2 t3 t4 t5 t6
     rcases (show n ≤ k + k ∨ n = k + k + 1 ∨ k + k + 1 < n by omega) with h3 | h3 | h3
     · have a1 := t2 (by omega); have a2 := t4 h1 (by omega); have a3 := ih.1 (by omega); exact alt_ff (by clear t1 t2 t3 t4 t5 t6 ih; omega) a1 a2 a3
     · have a1 := t1 h1 (by omega); have a2 := t4 h1 (by omega); have a3 := (ih.2 (by omega)).2 (by omega); clear t1 t2 t3 t4 t5 t6 ih; exact alt_fe (by omega) a1 a2 a3
     · have a1 := t1 h1 (by omega); have a2 := t3 h1 h2 (by omega); have a3 := (ih.2 (by omega)).2 (by omega); clear t1 t2 t3 t4 t5 t6 ih; exact alt_ft (by omega) a1 a2 a3
   · rw [show min (k + 1) c = k + 1 by omega, show min (k + 1) d = d by omega]
     rw [show min k c = k by omega, show min k d = d by omega] at ih t1 t2 t3 t4 t5 t6
     have a2 := t4 h1 (by omega)
     have hd : d ≤ k := by omega
     rcases (show n ≤ k + d ∨ k + d < n by omega) with h3 | h3
     · have a1 := t2 (by omega); clear t1 t2 t3 t4 t5 t6; exact alt_c0 hd h3 a1 a2 ih
     · have a1 := t1 h1 (by omega); clear t1 t2 t3 t4 t5 t6; exact alt_c1 hd h3 a1 a2 ih
   · rw [show min (k + 1) c = c by omega, show min (k + 1) d = k + 1 by omega]
     rw [show min k c = c by omega, show min k d = k by omega] at ih t1 t2 t3 t4 t5 t6
     have a1 := t2 (by omega)
     have hd : c ≤ k := by omega
     rcases (show n ≤ c + k ∨ c + k < n by omega) with h3 | h3
     · have a2 := t6 h1 (by omega); clear t1 t2 t3 t4 t5 t6; exact alt_d0 hd h3 a1 a2 ih
     · have a2 := t5 h1 h2 (by omega); clear t1 t2 t3 t4 t5 t6; exact alt_d1 hd h3 a1 a2 ih
   · rw [show min (k + 1) c = c by omega, show min (k + 1) d = d by omega]
     rw [show min k c = c by omega, show min k d = d by omega] at ih t1 t2 t3 t4 t5 t6
     have a1 := t2 (by omega); have a2 := t6 h1 (by omega); clear t1 t2 t3 t4 t5 t6; subst a1; subst a2; exact ih
theorem rep_cnt (n a : Nat) (x y : Bool) : ((List.replicate a x).take n).count y = if x = y then min n a else 0 := by
 rw [List.take_replicate, List.count_replicate]; by_cases h : x = y <;> simp [h]
def UpC (a b c d n f t : Nat) : Prop := AltC c d (n - min n a - min (n - min n a) b) (f - min n a) (t - min (n - min n a) b) ∧ min n a ≤ f ∧ min (n - min n a) b ≤ t
theorem altC_congr {c d n f t n' f' t' : Nat} (h : AltC c d n f t) (hn : n' = n) (hf : f' = f) (ht : t' = t) : AltC c d n' f' t' := by subst hn; subst hf; subst ht; exact h
theorem up_cnt (a b c d n : Nat) : UpC a b c d n (((rowB a b c d).take n).count false) (((rowB a b c d).take n).count true) := by
 have h := alt_cnt c d (n - (a + b)) (max c d)
 rw [show min (max c d) c = c by omega, show min (max c d) d = d by omega] at h
 unfold rowB UpC
 simp only [List.take_append, List.count_append, rep_cnt, List.length_append, List.length_replicate]
 simp only [if_true, Bool.false_eq_true, Bool.true_eq_false, if_false, show ¬ (true = false) by simp, show ¬ (false = true) by simp]
 generalize List.count false (List.take (n - (a + b)) (altB c d (max c d))) = f at *
 generalize List.count true (List.take (n - (a + b)) (altB c d (max c d))) = t at *
 exact ⟨altC_congr h (by omega) (by omega) (by omega), by omega, by omega⟩
theorem up_one {a b c d n f t f' t' : Nat} (h : UpC a b c d n f t) (h' : UpC a b c d n f' t') : f = f' ∧ t = t' := by
 unfold UpC AltC at *
 obtain ⟨⟨h1, h2⟩, h3, h4⟩ := h
 obtain ⟨⟨k1, k2⟩, k3, k4⟩ := h'
 generalize n - min n a - min (n - min n a) b = q at *
 rcases Nat.lt_or_ge (2 * min c d) q with h5 | h5
 · have h6 := h2 h5; have k6 := k2 h5
   by_cases h7 : min c d < c
   · have := h6.1 h7; have := k6.1 h7; omega
   · have := h6.2 h7; have := k6.2 h7; omega
 · have := h1 h5; have := k1 h5; omega
def Tally (R Q : Nat) (pre : List Bool) (x : Bool) (came left lost : Nat) : Prop :=
 came = (pre.take R).count x ∧ came + left = (pre.take (R + Q)).count x ∧ came + left + lost = pre.count x
theorem tally_nil (R Q : Nat) (x : Bool) : Tally R Q [] x 0 0 0 := by simp [Tally]
theorem tally_other {R Q : Nat} {pre : List Bool} {x y : Bool} {p q r : Nat} (h : Tally R Q pre x p q r) (hxy : y ≠ x) : Tally R Q (pre ++ [y]) x p q r := by
 have e : ∀ j, (List.take j [y]).count x = 0 := fun j => by rcases j with _ | j <;> simp [hxy]
 unfold Tally at *
 simp only [List.take_append, List.count_append, e, Nat.add_zero]
 have : List.count x [y] = 0 := by simp [hxy]
 omega
theorem tally_came {R Q : Nat} {pre : List Bool} {x : Bool} {p q r : Nat} (h : Tally R Q pre x p q r) (hl : pre.length < R) : Tally R Q (pre ++ [x]) x (p + 1) q r := by
 have e : ∀ j, 0 < j → (List.take j [x]).count x = 1 := fun j hj => by rcases j with _ | j <;> simp_all
 unfold Tally at *
 simp only [List.take_append, List.count_append]
 rw [e _ (by omega), e _ (by omega)]
 have : List.count x [x] = 1 := by simp
 omega
theorem tally_left {R Q : Nat} {pre : List Bool} {x : Bool} {p q r : Nat} (h : Tally R Q pre x p q r) (hl : R ≤ pre.length) (hl' : pre.length < R + Q) : Tally R Q (pre ++ [x]) x p (q + 1) r := by
 have e : ∀ j, 0 < j → (List.take j [x]).count x = 1 := fun j hj => by rcases j with _ | j <;> simp_all
 unfold Tally at *
 simp only [List.take_append, List.count_append]
 rw [e (R + Q - _) (by omega), show R - pre.length = 0 by omega]
 have : List.count x [x] = 1 := by simp
 simp only [List.take_zero, List.count_nil]
 omega
theorem tally_lost {R Q : Nat} {pre : List Bool} {x : Bool} {p q r : Nat} (h : Tally R Q pre x p q r) (hl : R + Q ≤ pre.length) : Tally R Q (pre ++ [x]) x p q (r + 1) := by
 unfold Tally at *
 simp only [List.take_append, List.count_append]
 rw [show R - pre.length = 0 by omega, show R + Q - pre.length = 0 by omega]
 have : List.count x [x] = 1 := by simp
 simp only [List.take_zero, List.count_nil]
 omega
theorem row_cnt (a b c d : Nat) : (rowB a b c d).count false = a + c ∧ (rowB a b c d).count true = b + d := by
 have h := up_cnt a b c d (a + b + (c + d))
 rw [List.take_of_length_le (by rw [row_len]; omega)] at h
 obtain ⟨⟨h1, h2⟩, h3, h4⟩ := h
 rw [show min (a + b + (c + d)) a = a by omega, show min (a + b + (c + d) - a) b = b by omega, show a + b + (c + d) - a - b = c + d by omega] at h1 h2
 rw [show min (a + b + (c + d)) a = a by omega] at h3
 rw [show min (a + b + (c + d) - min (a + b + (c + d)) a) b = b by omega] at h4
 rcases Nat.lt_or_ge (2 * min c d) (c + d) with h5 | h5
 · by_cases h7 : min c d < c
   · have := (h2 h5).1 h7; omega
   · have := (h2 h5).2 h7; omega
 · have := h1 h5; omega
theorem tally_small {R Q : Nat} {pre : List Bool} {x : Bool} {p q r : Nat} (h : Tally R Q pre x p q r) : p + q + r ≤ pre.length := by
 have := List.count_le_length (a := x) (l := pre)
 unfold Tally at h; omega
end Go.Proofs.YtjjikhaaimfneaaGreatDoor
namespace Go.Proofs.YtjjikhaaimfneaaGreatDoor
open Go.RowKit
set_option linter.unusedSimpArgs false
set_option linter.unusedVariables false
theorem iteMin (x y : Int) : (if y < x then y else x) = min x y := by omega
theorem iteMinN (x y : Nat) : (if y < x then (y : Int) else (x : Int)) = min (x : Int) (y : Int) := by split <;> omega
theorem iteMaxN (x y : Nat) : (if x < y then (y : Int) else (x : Int)) = max (x : Int) (y : Int) := by split <;> omega
theorem iteMax (x y : Int) : (if x < y then y else x) = max x y := by omega
end Go.Proofs.YtjjikhaaimfneaaGreatDoor
namespace Go.Proofs.YtjjikhaaimfneaaGreatDoor
open Go.RowKit Go.Shelf
set_option linter.unusedSimpArgs false
set_option linter.unusedVariables false
attribute [local go_sem] Oper.semAt_some iteMaxN iteMax
def bi (x : Bool) : Int := if x then 1 else 0
theorem bi_f : bi false = 0 := rfl
theorem bi_t : bi true = 1 := rfl
def encB (x : Bool) : Array Value := #[.int .i64 (bi x)]
theorem encF : encB false = #[.int .i64 0] := rfl
theorem encT : encB true = #[.int .i64 1] := rfl
def KpC (B2 B3 : Nat) (W W' : World) : Prop := ∀ a v, (a.block = B2 ∨ a.block = B3) → W.cell? a = some v → W'.cell? a = some v
theorem KpC.refl (B2 B3 : Nat) (W : World) : KpC B2 B3 W W := fun _ _ _ h => h
theorem KpC.trans {B2 B3 : Nat} {A B C : World} (h : KpC B2 B3 A B) (k : KpC B2 B3 B C) : KpC B2 B3 A C := fun a v hb hc => k a v hb (h a v hb hc)
theorem KpC.at {B2 B3 : Nat} {A B : World} (h : KpC B2 B3 A B) (a : Addr) (v : Value) (hb : a.block = B2 ∨ a.block = B3) (hc : A.cell? a = some v) : B.cell? a = some v := h a v hb hc
theorem kpC_b {B2 B3 : Nat} {w : World} (W : World) (l : Nat) (o o' : Obj) (_ : w.heap.size ≤ l) (h : W.heap[l]? = some o) (ho : o.isCells = false) (_ : o.isWalk = false) : KpC B2 B3 W (W.putObj l o') :=
 fun a v _ hc => cell_kept hc (grownBy_putObj' W l o') (fun r e => by cases e; exact ⟨o, h, ho⟩)
theorem KpC.set {B2 B3 : Nat} {W W' : World} (h : KpC B2 B3 W W') (p : Addr) (x : Value) (h2 : p.block ≠ B2) (h3 : p.block ≠ B3) : KpC B2 B3 W (W'.setCell p x) := fun a v hb hc => by
 rw [World.cell?_setCell_other _ _ _ _ (fun e => by subst e; rcases hb with hb | hb <;> omega)]; exact h a v hb hc
theorem alt_ft' {c d k : Nat} {l : List Bool} (h1 : k < c) (h2 : k < d) : l ++ altB c d (k + 1) = l ++ altB c d k ++ [false] ++ [true] := by simp [altB, h1, h2]
theorem alt_f' {c d k : Nat} {l : List Bool} (h1 : k < c) (h2 : ¬ k < d) : l ++ altB c d (k + 1) = l ++ altB c d k ++ [false] := by simp [altB, h1, h2]
theorem alt_t' {c d k : Nat} {l : List Bool} (h1 : ¬ k < c) (h2 : k < d) : l ++ altB c d (k + 1) = l ++ altB c d k ++ [true] := by simp [altB, h1, h2]
set_option maxRecDepth 100000 in
set_option maxHeartbeats 4000000 in
theorem line1_in (F : Fence) (n : Nat) (h7 : F.fn 144) (hro : F.round = none) (hn : 1 ≤ n) (l B2 B3 a b c d : Nat) (ha : a ≤ 100) (hb : b ≤ 100) (hc : c ≤ 100) (hd : d ≤ 100) (J Jx : List Bool → World → Prop)
 (hY : ∀ pre x W, J pre W → pre.length < a + b + (c + d) → YieldAt F (n - 1) Tryz.prog l (encB x) W fun e W' =>
  (e = .returned (.bool true) ∧ J (pre ++ [x]) W' ∧ KpC B2 B3 W W') ∨ (e = .returned (.bool false) ∧ Jx (pre ++ [x]) W'))
 (W : World) (hA : W.cell? ⟨B2, 0, none⟩ = some (.int .i64 a)) (hA1 : W.cell? ⟨B2, 1, none⟩ = some (.int .i64 b)) (hC : W.cell? ⟨B3, 0, none⟩ = some (.int .i64 c)) (hC1 : W.cell? ⟨B3, 1, none⟩ = some (.int .i64 d)) (h0 : J [] W) :
 CallsIn F n Tryz.prog 144 #[.func (.yield l) #[] #[], .pointer (some ⟨B2, 0, none⟩), .pointer (some ⟨B3, 0, none⟩)] W fun e W' => (∃ v, e = .returned v) ∧
  ((∃ ys, ys = rowB a b c d ∧ J ys W') ∨ (∃ pre, True ∧ Jx pre W')) := by
 have i0 : ∀ w : World, (Instr.index 47 (.agg #[.int .i64 a, .int .i64 b]) (.int .i64 0)).run Tryz.prog w = .ok (.int .i64 a) w := fun _ => by kernel_rfl
 have i1 : ∀ w : World, (Instr.index 47 (.agg #[.int .i64 a, .int .i64 b]) (.int .i64 1)).run Tryz.prog w = .ok (.int .i64 b) w := fun _ => by kernel_rfl
 have j0 : ∀ w : World, (Instr.index 47 (.agg #[.int .i64 c, .int .i64 d]) (.int .i64 0)).run Tryz.prog w = .ok (.int .i64 c) w := fun _ => by kernel_rfl
 have j1 : ∀ w : World, (Instr.index 47 (.agg #[.int .i64 c, .int .i64 d]) (.int .i64 1)).run Tryz.prog w = .ok (.int .i64 d) w := fun _ => by kernel_rfl
 have ha0 : (0 : Int) ≤ (a : Int) := Int.natCast_nonneg _
 refine callsIn_of_wp Tryz.func144 rfl h7 ?_ hro
 simp only [Tryz.ntmps144, List.size_toArray, List.length_cons, List.length_nil, Nat.reduceAdd, Nat.reduceSub, Array.replicate_succ, Array.replicate_zero, List.push_toArray, List.append_toArray, List.nil_append, List.cons_append]
 gi_wp2
 refine wpIn_loop_rounds 3 ?_
 rw [roundsIn_succ]
 gi_wp2
 gi_loopw [15] (fun i wr => ∃ k : Nat, k ≤ a ∧ i = .int .i64 k ∧ J (([] : List Bool) ++ List.replicate k false) wr ∧ KpC B2 B3 W wr)
  (fun i _ => a - (intOf i).toNat)
 case atStart => exact ⟨0, Nat.zero_le _, rfl, by simpa using h0, KpC.refl _ _ _⟩
 case round =>
  obtain ⟨k, hk, rfl, hJs, hnx⟩ := hrel
  have k0 : (0 : Int) ≤ (k : Int) := Int.natCast_nonneg _
  by_cases hlt : k < a
  · have k1 : (k : Int) < (a : Int) := by omega
    obtain ⟨fn, tmps, assign, body, hy, hR⟩ := hY _ false wr hJs (by simp; omega)
    rw [encF] at hy
    gi_wp2
    refine hR.mono ?_
    rintro e W3 (⟨rfl, hJ3, hk3⟩ | ⟨rfl, hJx3⟩)
    · gi_wp2
      go_roundw
      case rel => exact ⟨k + 1, by omega, by first | go_num | simp, by rw [List.replicate_succ', ← List.append_assoc]; exact hJ3, hnx.trans hk3⟩
      case measure => (simp [intOf] <;> omega)
    · gi_wp2
      refine bodyPost_ret (results_none rfl _ _ _) rfl ?_
      exact ⟨⟨_, rfl⟩, .inr ⟨_, trivial, hJx3⟩⟩
  · obtain rfl : a = k := by omega
    gi_wp2
    rw [roundsIn_succ]
    gi_wp2
    gi_loopw [15] (fun i wr => ∃ j : Nat, j ≤ b ∧ i = .int .i64 j ∧ J (([] ++ List.replicate a false) ++ List.replicate j true) wr ∧ KpC B2 B3 W wr)
     (fun i _ => b - (intOf i).toNat)
    case atStart => exact ⟨0, Nat.zero_le _, rfl, by simpa using hJs, hnx⟩
    case round =>
     clear hJs hnx
     obtain ⟨j, hj, rfl, hJs, hnx⟩ := hrel
     have j0' : (0 : Int) ≤ (j : Int) := Int.natCast_nonneg _
     by_cases hlt2 : j < b
     · have j1' : (j : Int) < (b : Int) := by omega
       obtain ⟨fn, tmps, assign, body, hy, hR⟩ := hY _ true wr hJs (by simp; omega)
       rw [encT] at hy
       gi_wp2
       refine hR.mono ?_
       rintro e W3 (⟨rfl, hJ3, hk3⟩ | ⟨rfl, hJx3⟩)
       · gi_wp2
         go_roundw
         case rel => exact ⟨j + 1, by omega, by first | go_num | simp, by rw [List.replicate_succ', ← List.append_assoc]; exact hJ3, hnx.trans hk3⟩
         case measure => (simp [intOf] <;> omega)
       · gi_wp2
         refine bodyPost_ret (results_none rfl _ _ _) rfl ?_
         exact ⟨⟨_, rfl⟩, .inr ⟨_, trivial, hJx3⟩⟩
     · obtain rfl : b = j := by omega
       have hcC := hnx.at ⟨B3, 0, none⟩ _ (.inr rfl) hC
       have hcC1 := hnx.at ⟨B3, 1, none⟩ _ (.inr rfl) hC1
       have HJ := hide hJs
       have HN := hide hnx
       clear hA hA1 i0 i1 hlt hlt2 h0 hJs hnx
       gi_wp2
       rw [roundsIn_succ]
       gi_wp2
       gi_loopw [28] (fun i wr => ∃ k : Nat, k ≤ max c d ∧ i = .int .i64 k ∧ J (([] ++ List.replicate a false) ++ List.replicate b true ++ altB c d k) wr ∧ KpC B2 B3 W wr)
        (fun i _ => max c d - (intOf i).toNat)
       case atStart => exact ⟨0, Nat.zero_le _, rfl, by simpa [altB] using HJ.out, HN.out⟩
       case round =>
        clear HJ HN hcC hcC1
        obtain ⟨k, hk, rfl, hJs, hnx⟩ := hrel
        have q0 : (0 : Int) ≤ (k : Int) := Int.natCast_nonneg _
        have hcC := hnx.at ⟨B3, 0, none⟩ _ (.inr rfl) hC
        have hcC1 := hnx.at ⟨B3, 1, none⟩ _ (.inr rfl) hC1
        have HC := hide hC
        have HC1 := hide hC1
        have HN := hide hnx
        have hlen : (([] ++ List.replicate a false) ++ List.replicate b true ++ altB c d k).length = a + b + (min k c + min k d) := by simp [alt_len]; omega
        have HL := hide hlen
        clear hC hC1 hnx hlen
        by_cases hlt : k < max c d
        · have k1 : (k : Int) < (max c d : Nat) := by omega
          by_cases h1 : k < c
          · have h1' : (k : Int) < (c : Int) := by omega
            obtain ⟨fn, tmps, assign, body, hy, hR⟩ := hY _ false wr hJs (by rw [HL.out]; omega)
            rw [encF] at hy
            gi_wp2
            refine wpIn_loop_rounds 3 ?_
            rw [roundsIn_succ]
            gi_wp2
            refine hR.mono ?_
            rintro e W3 (⟨rfl, hJ3, hk3⟩ | ⟨rfl, hJx3⟩)
            · clear hR hy
              gi_wp2
              rw [roundsIn_succ]
              by_cases h2 : k < d
              · have h2' : (k : Int) < (d : Int) := by omega
                obtain ⟨fn, tmps, assign, body, hy, hR⟩ := hY _ true W3 hJ3 (by rw [List.length_append, HL.out]; simp; omega)
                rw [encT] at hy
                gi_wp2
                refine hR.mono ?_
                rintro e W4 (⟨rfl, hJ4, hk4⟩ | ⟨rfl, hJx4⟩)
                · clear hR hy
                  gi_wp2
                  rw [roundsIn_succ]
                  gi_wp2
                  go_roundw
                  case rel => exact ⟨k + 1, by omega, by first | go_num | simp, by rw [alt_ft' h1 h2]; exact hJ4, (HN.out.trans hk3).trans hk4⟩
                  case measure => (simp [intOf] <;> omega)
                · gi_wp2
                  refine bodyPost_ret (results_none rfl _ _ _) rfl ?_
                  exact ⟨⟨_, rfl⟩, .inr ⟨_, trivial, hJx4⟩⟩
              · have h2' : ¬ (k : Int) < (d : Int) := by omega
                gi_wp2
                refine ⟨fun _ h => (by cases h), ?_⟩
                gi_wp2
                rw [roundsIn_succ]
                gi_wp2
                go_roundw
                case rel => exact ⟨k + 1, by omega, by first | go_num | simp, by rw [alt_f' h1 h2]; exact hJ3, HN.out.trans hk3⟩
                case measure => (simp [intOf] <;> omega)
            · gi_wp2
              refine bodyPost_ret (results_none rfl _ _ _) rfl ?_
              exact ⟨⟨_, rfl⟩, .inr ⟨_, trivial, hJx3⟩⟩
          · have h1' : ¬ (k : Int) < (c : Int) := by omega
            have h2 : k < d := by omega
            have h2' : (k : Int) < (d : Int) := by omega
            obtain ⟨fn, tmps, assign, body, hy, hR⟩ := hY _ true wr hJs (by rw [HL.out]; omega)
            rw [encT] at hy
            gi_wp2
            refine wpIn_loop_rounds 3 ?_
            rw [roundsIn_succ]
            gi_wp2
            refine ⟨fun _ h => (by cases h), ?_⟩
            gi_wp2
            rw [roundsIn_succ]
            gi_wp2
            refine hR.mono ?_
            rintro e W4 (⟨rfl, hJ4, hk4⟩ | ⟨rfl, hJx4⟩)
            · clear hR hy
              gi_wp2
              rw [roundsIn_succ]
              gi_wp2
              go_roundw
              case rel => exact ⟨k + 1, by omega, by first | go_num | simp, by rw [alt_t' h1 h2]; exact hJ4, HN.out.trans hk4⟩
              case measure => (simp [intOf] <;> omega)
            · gi_wp2
              refine bodyPost_ret (results_none rfl _ _ _) rfl ?_
              exact ⟨⟨_, rfl⟩, .inr ⟨_, trivial, hJx4⟩⟩
        · obtain rfl : k = max c d := by omega
          gi_wp2
          go_end0
          exact ⟨⟨_, rfl⟩, .inl ⟨_, by unfold rowB; simp, hJs⟩⟩
theorem line_stops (F : Fence) (n : Nat) (h7 : F.fn 144) (hro : F.round = none) (hn : 1 ≤ n) (B2 B3 a b c d : Nat) (ha : a ≤ 100) (hb : b ≤ 100) (hc : c ≤ 100) (hd : d ≤ 100) (w : World) (hs2 : B2 < w.heap.size) (hs3 : B3 < w.heap.size)
 (hA : w.cell? ⟨B2, 0, none⟩ = some (.int .i64 a)) (hA1 : w.cell? ⟨B2, 1, none⟩ = some (.int .i64 b)) (hC : w.cell? ⟨B3, 0, none⟩ = some (.int .i64 c)) (hC1 : w.cell? ⟨B3, 1, none⟩ = some (.int .i64 d)) :
 SeqStopsK F n Tryz.prog 144 #[.pointer (some ⟨B2, 0, none⟩), .pointer (some ⟨B3, 0, none⟩)] (fun x : Bool => #[.int .i64 (bi x)]) (KpC B2 B3) (fun ys => ys = rowB a b c d) (fun _ => True) (a + b + (c + d)) w := fun l J Jx W hW _ _ hY h0 =>
 line1_in F n h7 hro hn l B2 B3 a b c d ha hb hc hd J Jx hY W ((hW.cell (p := ⟨B2, 0, none⟩) hs2).trans hA) ((hW.cell (p := ⟨B2, 1, none⟩) hs2).trans hA1) ((hW.cell (p := ⟨B3, 0, none⟩) hs3).trans hC) ((hW.cell (p := ⟨B3, 1, none⟩) hs3).trans hC1) h0
theorem line_in (F : Fence) (n : Nat) (h5 : F.fn 119) (hro : F.round = none) (a b c d : Int) (w : World) :
 CallsIn F n Tryz.prog 119 #[.agg #[.int .i64 a, .int .i64 b], .agg #[.int .i64 c, .int .i64 d]] w fun e w' => e = .returned (.func (.func 144) #[] #[.pointer (some ⟨w.heap.size, 0, none⟩), .pointer (some ⟨w.heap.size + 1, 0, none⟩)]) ∧ w' = (w.alloc (.cells #[.int .i64 a, .int .i64 b] 47)).alloc (.cells #[.int .i64 c, .int .i64 d] 47) := by
 refine callsIn_of_wp Tryz.func119 rfl h5 ?_ hro
 simp only [Tryz.ntmps119, List.size_toArray, List.length_cons, List.length_nil, Nat.reduceAdd, Nat.reduceSub, Array.replicate_succ, Array.replicate_zero, List.push_toArray, List.append_toArray, List.nil_append, List.cons_append]
 gi_wp2
 go_ret
 exact ⟨rfl, rfl⟩
end Go.Proofs.YtjjikhaaimfneaaGreatDoor
namespace Go.Proofs.YtjjikhaaimfneaaGreatDoor
open Go.RowKit
set_option linter.unusedSimpArgs false
set_option linter.unusedVariables false
attribute [local go_sem] iteMin iteMax iteMinN iteMaxN
def LinkOk (R Q a b c d : Int) : Prop := (1 ≤ R ∧ R ≤ 12) ∧ (0 ≤ Q ∧ Q ≤ 16) ∧ (0 ≤ a ∧ 0 ≤ b ∧ a + b ≤ 16) ∧ (0 ≤ c ∧ c ≤ 12) ∧ (0 ≤ d ∧ d ≤ 12)
set_option maxRecDepth 100000 in
set_option maxHeartbeats 4000000 in
theorem lright_any (R Q a b c d : Int) (w : World) (ha : a ≤ 9223372036854775807) (hb : b ≤ 9223372036854775807) :
 Calls Tryz.prog 118 #[.int .i64 R, .int .i64 Q, .agg #[.int .i64 a, .int .i64 b], .agg #[.int .i64 c, .int .i64 d]] w fun e w' => IsB (LinkOk R Q a b c d) e ∧ Below w.heap.size w w' := by
 have hB : Below w.heap.size w ((w.alloc (.cells #[.int .i64 a, .int .i64 b] 47)).alloc (.cells #[.int .i64 c, .int .i64 d] 47)) := ((Below.refl _ _).alloc (Nat.le_refl _) _).alloc (by simp) _
 go_enter Tryz.func118, Tryz.ntmps118
 have HB := hide hB
 clear hB
 by_cases h1 : 0 ≤ R
 case neg => (go_wp2; go_ret; exact ⟨IsB.f (by unfold LinkOk; omega), HB.out⟩)
 by_cases h2 : R ≤ 12
 case neg => (go_wp2; go_ret; exact ⟨IsB.f (by unfold LinkOk; omega), HB.out⟩)
 by_cases h3 : 0 < R
 case neg => (go_wp2; go_ret; exact ⟨IsB.f (by unfold LinkOk; omega), HB.out⟩)
 by_cases h4 : 0 ≤ Q
 case neg => (go_wp2; go_ret; exact ⟨IsB.f (by unfold LinkOk; omega), HB.out⟩)
 by_cases h5 : Q ≤ 16
 case neg => (go_wp2; go_ret; exact ⟨IsB.f (by unfold LinkOk; omega), HB.out⟩)
 by_cases h6 : 0 ≤ min a b
 case neg => (go_wp2; go_ret; exact ⟨IsB.f (by unfold LinkOk; omega), HB.out⟩)
 by_cases h7 : a + b ≤ 16
 case neg =>
  have e7 : wrap64 (a + b) < 0 ∨ 16 < wrap64 (a + b) := by unfold wrap64; omega
  rcases e7 with e7 | e7
  · have e8 : ¬ (0 ≤ wrap64 (a + b)) := by omega
    go_wp2
    go_ret
    refine ⟨?_, HB.out⟩
    exact IsB.f (by unfold LinkOk; omega)
  · have e8 : 0 ≤ wrap64 (a + b) := by omega
    have e9 : ¬ (wrap64 (a + b) ≤ 16) := by omega
    go_wp2
    go_ret
    refine ⟨?_, HB.out⟩
    exact IsB.f (by unfold LinkOk; omega)
 have e7 : wrap64 (a + b) = a + b := by unfold wrap64; omega
 have e9 : 0 ≤ a + b := by omega
 by_cases h8 : 0 ≤ c
 case neg => (go_wp2; go_ret; exact ⟨IsB.f (by unfold LinkOk; omega), HB.out⟩)
 by_cases h9 : c ≤ 12
 case neg => (go_wp2; go_ret; exact ⟨IsB.f (by unfold LinkOk; omega), HB.out⟩)
 by_cases h10 : 0 ≤ d
 case neg => (go_wp2; go_ret; exact ⟨IsB.f (by unfold LinkOk; omega), HB.out⟩)
 by_cases h11 : d ≤ 12
 case neg => (go_wp2; go_ret; exact ⟨IsB.f (by unfold LinkOk; omega), HB.out⟩)
 go_wp2
 go_ret
 exact ⟨IsB.d (by unfold LinkOk; simp; omega), HB.out⟩
end Go.Proofs.YtjjikhaaimfneaaGreatDoor
