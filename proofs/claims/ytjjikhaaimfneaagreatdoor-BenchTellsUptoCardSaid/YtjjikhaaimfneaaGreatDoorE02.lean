/-
  Lemmas and walks for the statement: BP, PLink, Min.
-/
import Derived.Lib.Split
import Derived.Lib.SplitLaws
import Derived.Lib.Join
import Derived.Lib.Fields
import Derived.Lib.AtoiAll
import Derived.Lib.ItoaNum
import Derived.Test.YtjjikhaaimfneaaGreatDoorE01
namespace Go.Proofs.YtjjikhaaimfneaaGreatDoor
set_option linter.unusedSimpArgs false
set_option linter.unusedVariables false
theorem index_sp (b : List UInt8) : ∀ a : List UInt8, 32 ∉ a → Lib.index (a ++ 32 :: b) [32] = a.length
 | [], _ => by simp [Lib.index]
 | x :: a, h => by
   have h1 : x ≠ 32 := fun e => h (by rw [e]; simp)
   have ih := index_sp b a (fun e => h (List.mem_cons_of_mem _ e))
   have hx : (32 == x) = false := by simp; exact fun e => h1 e.symm
   rw [List.cons_append, Lib.index]
   simp only [List.isPrefixOf, hx, Bool.false_and]
   rw [ih, if_neg (by simp), if_neg (by simp)]
   simp
theorem index_no : ∀ a : List UInt8, 32 ∉ a → Lib.index a [32] = -1
 | [], _ => by simp [Lib.index]
 | x :: a, h => by
   have h1 : x ≠ 32 := fun e => h (by rw [e]; simp)
   have ih := index_no a (fun e => h (List.mem_cons_of_mem _ e))
   have hx : (32 == x) = false := by simp; exact fun e => h1 e.symm
   rw [Lib.index]
   simp only [List.isPrefixOf, hx, Bool.false_and]
   rw [ih, if_neg (by simp), if_pos (by simp)]
theorem splitK_sp {a b : List UInt8} {k : Nat} (h : 32 ∉ a) : Lib.splitK [32] 0 (k + 1) (a ++ 32 :: b) = a :: Lib.splitK [32] 0 k b := by
 have e := index_sp b a h
 rw [Lib.splitK, e, if_neg (by simp)]
 have hd : List.drop (a.length + 1) a = [] := List.drop_eq_nil_of_le (by omega)
 simp [List.drop_append, hd]
theorem splitK_one {a : List UInt8} (k : Nat) (h : 32 ∉ a) : Lib.splitK [32] 0 k a = [a] := by
 cases k with
 | zero => rfl
 | succ k => rw [Lib.splitK, index_no a h, if_pos (by simp)]
def join5 (a b c d e : List UInt8) : List UInt8 := a ++ 32 :: (b ++ 32 :: (c ++ 32 :: (d ++ 32 :: e)))
theorem join5_is (a b c d e : List UInt8) : Lib.join [a, b, c, d, e] [32] = join5 a b c d e := by
 simp [Lib.join, List.intercalate, join5]
theorem join5_split {a b c d e : List UInt8} (ha : 32 ∉ a) (hb : 32 ∉ b) (hc : 32 ∉ c) (hd : 32 ∉ d) (he : 32 ∉ e) : Lib.splitK [32] 0 4 (join5 a b c d e) = [a, b, c, d, e] := by
 unfold join5
 rw [splitK_sp ha, splitK_sp hb, splitK_sp hc, splitK_sp hd, splitK_one _ he]
theorem join5_count {a b c d e : List UInt8} (ha : 32 ∉ a) (hb : 32 ∉ b) (hc : 32 ∉ c) (hd : 32 ∉ d) (he : 32 ∉ e) : (join5 a b c d e).count 32 = 4 := by
 unfold join5
 simp [List.count_append, List.count_eq_zero.2 ha, List.count_eq_zero.2 hb, List.count_eq_zero.2 hc, List.count_eq_zero.2 hd, List.count_eq_zero.2 he]
def veL : List UInt8 := [118, 101, 103, 97, 115]
def coL : List UInt8 := [99, 111, 112, 97]
def leL : List UInt8 := [108, 101, 100, 98, 97, 116]
def nameL (k : Int) : List UInt8 := if k = 1 then veL else if k = 2 then coL else leL
def digL (n : Nat) : List UInt8 := if n < 10 then [UInt8.ofNat (48 + n)] else [UInt8.ofNat (48 + n / 10), UInt8.ofNat (48 + n % 10)]
theorem itoa_dig {n : Nat} (h : n < 100) : Lib.itoa (n : Int) = digL n := by
 unfold Lib.itoa digL
 rw [if_neg (by omega)]
 by_cases h1 : n < 10
 · rw [if_pos h1]; simpa using Lib.decDigits_one h1
 · rw [if_neg h1]; simpa using Lib.decDigits_two h1 h
theorem dig_fin : ∀ n : Fin 17, 32 ∉ digL n.val ∧ Lib.atoiAll (digL n.val) = .ok (n.val : Int) := by decide +kernel
theorem itoa_no {n : Int} (h0 : 0 ≤ n) (h1 : n ≤ 16) : 32 ∉ Lib.itoa n := by
 obtain ⟨m, rfl⟩ : ∃ m : Nat, n = (m : Int) := ⟨n.toNat, by omega⟩
 rw [itoa_dig (by omega)]; exact (dig_fin ⟨m, by omega⟩).1
theorem atoi_itoa {n : Int} (h0 : 0 ≤ n) (h1 : n ≤ 16) : Lib.atoiAll (Lib.itoa n) = .ok n := by
 obtain ⟨m, rfl⟩ : ∃ m : Nat, n = (m : Int) := ⟨n.toNat, by omega⟩
 rw [itoa_dig (by omega)]; exact (dig_fin ⟨m, by omega⟩).2
theorem name_no {k : Int} : 32 ∉ nameL k := by
 unfold nameL; split
 · decide
 · split <;> decide
def kindL (p : List UInt8) : Int := if p = leL then 3 else if p = coL then 2 else if p = veL then 1 else 0
theorem kind_name {k : Int} (h : 1 ≤ k ∧ k ≤ 3) : kindL (nameL k) = k := by
 rcases (show k = 1 ∨ k = 2 ∨ k = 3 by omega) with rfl | rfl | rfl <;> decide
def numL (l : List UInt8) : Int := match Lib.atoiAll l with
 | .ok v => v
 | .range => Lib.atoiSat l
 | _ => 0
theorem num_itoa {n : Int} (h0 : 0 ≤ n) (h1 : n ≤ 16) : numL (Lib.itoa n) = n := by unfold numL; rw [atoi_itoa h0 h1]
def ROk (k0 k1 R Q J : Int) : Prop := (1 ≤ k0 ∧ k0 ≤ 3) ∧ (1 ≤ k1 ∧ k1 ≤ 3) ∧ (1 ≤ R ∧ R ≤ 12) ∧ (0 ≤ Q ∧ Q ≤ 16) ∧ 0 ≤ J ∧ J ≤ 3
def textL (k0 k1 R Q J : Int) : List UInt8 := join5 (nameL k0) (nameL k1) (Lib.itoa R) (Lib.itoa Q) (Lib.itoa J)
def piecesL (s : List UInt8) : List (List UInt8) := Lib.splitK [32] 0 (s.count 32) s
theorem text_pieces {k0 k1 R Q J : Int} (h : ROk k0 k1 R Q J) : piecesL (textL k0 k1 R Q J) = [nameL k0, nameL k1, Lib.itoa R, Lib.itoa Q, Lib.itoa J] := by
 obtain ⟨h0, h1, h2, h3, h4⟩ := h
 unfold piecesL textL
 rw [join5_count name_no name_no (itoa_no (by omega) (by omega)) (itoa_no (by omega) (by omega)) (itoa_no (by omega) (by omega))]
 exact join5_split name_no name_no (itoa_no (by omega) (by omega)) (itoa_no (by omega) (by omega)) (itoa_no (by omega) (by omega))
theorem text_one {k0 k1 R Q J k0' k1' R' Q' J' : Int} (h : ROk k0 k1 R Q J) (h' : ROk k0' k1' R' Q' J') (e : textL k0 k1 R Q J = textL k0' k1' R' Q' J') : k0 = k0' ∧ k1 = k1' ∧ R = R' ∧ Q = Q' ∧ J = J' := by
 have e1 := text_pieces h
 rw [e, text_pieces h'] at e1
 simp only [List.cons.injEq, and_true] at e1
 obtain ⟨a, b, c, d, f⟩ := e1
 obtain ⟨h0, h1, h2, h3, h4⟩ := h
 obtain ⟨h0', h1', h2', h3', h4'⟩ := h'
 have a' := congrArg kindL a
 have b' := congrArg kindL b
 have c' := congrArg numL c
 have d' := congrArg numL d
 have f' := congrArg numL f
 rw [kind_name h0, kind_name h0'] at a'
 rw [kind_name h1, kind_name h1'] at b'
 rw [num_itoa (by omega) (by omega), num_itoa (by omega) (by omega)] at c' d' f'
 exact ⟨a'.symm, b'.symm, c'.symm, d'.symm, f'.symm⟩
def PSays (s : List UInt8) (k0 k1 R Q J e : Int) : Prop :=
 (ROk k0 k1 R Q J ∧ s = textL k0 k1 R Q J ∧ e = 0) ∨ ((∀ k0 k1 R Q J, ROk k0 k1 R Q J → s ≠ textL k0 k1 R Q J) ∧ k0 = 0 ∧ k1 = 0 ∧ R = 0 ∧ Q = 0 ∧ J = 0 ∧ e = 1)
theorem psays_one {s : List UInt8} {k0 k1 R Q J e k0' k1' R' Q' J' e' : Int} (h : PSays s k0 k1 R Q J e) (h' : PSays s k0' k1' R' Q' J' e') : k0 = k0' ∧ k1 = k1' ∧ R = R' ∧ Q = Q' ∧ J = J' ∧ e = e' := by
 rcases h with ⟨h1, h2, h3⟩ | ⟨h1, rfl, rfl, rfl, rfl, rfl, rfl⟩ <;> rcases h' with ⟨h1', h2', h3'⟩ | ⟨h1', rfl, rfl, rfl, rfl, rfl, rfl⟩
 · obtain ⟨a, b, c, d, f⟩ := text_one h1 h1' (by rw [← h2, ← h2'])
   exact ⟨a, b, c, d, f, by rw [h3, h3']⟩
 · exact absurd h2 (h1' _ _ _ _ _ h1)
 · exact absurd h2' (h1 _ _ _ _ _ h1')
 · exact ⟨rfl, rfl, rfl, rfl, rfl, rfl⟩
theorem psays_len {s : List UInt8} (h : s.count 32 ≠ 4) : PSays s 0 0 0 0 0 1 := .inr ⟨fun k0 k1 R Q J ho he => h (by
 obtain ⟨h0, h1, h2, h3, h4⟩ := ho
 rw [he]; unfold textL
 exact join5_count name_no name_no (itoa_no (by omega) (by omega)) (itoa_no (by omega) (by omega)) (itoa_no (by omega) (by omega))), rfl, rfl, rfl, rfl, rfl, rfl⟩
theorem psays_yes {s : List UInt8} {k0 k1 R Q J : Int} (h : ROk k0 k1 R Q J) (e : s = textL k0 k1 R Q J) : PSays s k0 k1 R Q J 0 := .inl ⟨h, e, rfl⟩
theorem psays_no {s p0 p1 p2 p3 p4 : List UInt8} (hp : piecesL s = [p0, p1, p2, p3, p4]) (h : ¬ (ROk (kindL p0) (kindL p1) (numL p2) (numL p3) (numL p4) ∧ s = textL (kindL p0) (kindL p1) (numL p2) (numL p3) (numL p4))) : PSays s 0 0 0 0 0 1 := .inr ⟨fun k0 k1 R Q J ho he => h (by
 rw [he, text_pieces ho] at hp
 simp only [List.cons.injEq, and_true] at hp
 obtain ⟨rfl, rfl, rfl, rfl, rfl⟩ := hp
 have ho' := ho
 obtain ⟨h0, h1, h2, h3, h4⟩ := ho'
 rw [kind_name h0, kind_name h1, num_itoa (by omega) (by omega), num_itoa (by omega) (by omega), num_itoa (by omega) (by omega)]
 exact ⟨ho, he⟩), rfl, rfl, rfl, rfl, rfl, rfl⟩
theorem split_is (s : ByteArray) : (Lib.splitB ⟨#[32]⟩ 0 (Lib.countB s ⟨#[32]⟩) s).map (·.data.toList) = piecesL s.data.toList := by
 rw [Lib.splitB_data]
 unfold piecesL
 rw [← Lib.count_one]
theorem fields_names : Lib.fields (veL ++ 32 :: (coL ++ 32 :: leL)) = [veL, coL, leL] := by decide +kernel
end Go.Proofs.YtjjikhaaimfneaaGreatDoor
namespace Go.Proofs.YtjjikhaaimfneaaGreatDoor
open Go.RowKit
set_option linter.unusedSimpArgs false
set_option linter.unusedVariables false
def altB (c d : Nat) : Nat → List Bool
 | 0 => []
 | k + 1 => altB c d k ++ ((if k < c then [false] else []) ++ (if k < d then [true] else []))
def rowB (a b c d : Nat) : List Bool := List.replicate a false ++ List.replicate b true ++ altB c d (max c d)
theorem alt_len (c d : Nat) : ∀ k, (altB c d k).length = min k c + min k d
 | 0 => by simp [altB]
 | k + 1 => by
   simp only [altB, List.length_append, alt_len c d k]
   by_cases h1 : k < c <;> by_cases h2 : k < d <;> simp [h1, h2] <;> omega
theorem row_len (a b c d : Nat) : (rowB a b c d).length = a + b + (c + d) := by
 simp only [rowB, List.length_append, List.length_replicate, alt_len]; omega
theorem tip_cnt (p q : Prop) [Decidable p] [Decidable q] (j : Nat) :
 (p → 0 < j → ((((if p then [false] else []) ++ (if q then [true] else [])) : List Bool).take j).count false = 1) ∧ (¬ (p ∧ 0 < j) → ((((if p then [false] else []) ++ (if q then [true] else [])) : List Bool).take j).count false = 0) ∧
 (p → q → 1 < j → ((((if p then [false] else []) ++ (if q then [true] else [])) : List Bool).take j).count true = 1) ∧ (p → ¬ (q ∧ 1 < j) → ((((if p then [false] else []) ++ (if q then [true] else [])) : List Bool).take j).count true = 0) ∧
 (¬ p → q → 0 < j → ((((if p then [false] else []) ++ (if q then [true] else [])) : List Bool).take j).count true = 1) ∧ (¬ p → ¬ (q ∧ 0 < j) → ((((if p then [false] else []) ++ (if q then [true] else [])) : List Bool).take j).count true = 0) := by
 rcases j with _ | _ | j <;> by_cases h1 : p <;> by_cases h2 : q <;> simp [h1, h2]
def AltC (c d n f t : Nat) : Prop :=
 (n ≤ 2 * min c d → f = (n + 1) / 2 ∧ t = n / 2) ∧ (2 * min c d < n → (min c d < c → f = min n (c + d) - min c d ∧ t = min c d) ∧ (¬ min c d < c → f = min c d ∧ t = min n (c + d) - min c d))
theorem alt_ff {k n f t f1 t1 : Nat} (h : n ≤ k + k) (a1 : f1 = 0) (a2 : t1 = 0) (a3 : f = (n + 1) / 2 ∧ t = n / 2) : AltC (k + 1) (k + 1) n (f + f1) (t + t1) :=
 ⟨fun _ => by omega, fun h => absurd h (by omega)⟩
theorem alt_fe {k n f t f1 t1 : Nat} (h : n = k + k + 1) (a1 : f1 = 1) (a2 : t1 = 0) (a3 : f = min k k ∧ t = min n (k + k) - min k k) : AltC (k + 1) (k + 1) n (f + f1) (t + t1) :=
 ⟨fun _ => by omega, fun h => absurd h (by omega)⟩
theorem alt_ft {k n f t f1 t1 : Nat} (h : k + k + 1 < n) (a1 : f1 = 1) (a2 : t1 = 1) (a3 : f = min k k ∧ t = min n (k + k) - min k k) : AltC (k + 1) (k + 1) n (f + f1) (t + t1) :=
 ⟨fun _ => by omega, fun _ => ⟨fun h => absurd h (by omega), fun _ => by omega⟩⟩
theorem alt_c0 {k d n f t f1 t1 : Nat} (hd : d ≤ k) (h : n ≤ k + d) (a1 : f1 = 0) (a2 : t1 = 0) (ih : AltC k d n f t) : AltC (k + 1) d n (f + f1) (t + t1) := by
 have e1 : min k d = d := by omega
 have e2 : min (k + 1) d = d := by omega
 obtain ⟨g1, g2⟩ := ih
 rw [e1] at g1 g2
 refine ⟨fun h1 => ?_, fun h1 => ⟨fun h2 => ?_, fun h2 => absurd h2 (by omega)⟩⟩ <;> rw [e2] at h1 <;> (try rw [e2])
 · have := g1 h1; omega
 · have := g2 h1
   by_cases h3 : d < k
   · have := this.1 h3; omega
   · have := this.2 h3; omega
theorem alt_c1 {k d n f t f1 t1 : Nat} (hd : d ≤ k) (h : k + d < n) (a1 : f1 = 1) (a2 : t1 = 0) (ih : AltC k d n f t) : AltC (k + 1) d n (f + f1) (t + t1) := by
 have e1 : min k d = d := by omega
 have e2 : min (k + 1) d = d := by omega
 obtain ⟨g1, g2⟩ := ih
 rw [e1] at g1 g2
 refine ⟨fun h1 => ?_, fun h1 => ⟨fun h2 => ?_, fun h2 => absurd h2 (by omega)⟩⟩ <;> rw [e2] at h1 <;> (try rw [e2])
 · omega
 · have := g2 h1
   by_cases h3 : d < k
   · have := this.1 h3; omega
   · have := this.2 h3; omega
theorem alt_d0 {k c n f t f1 t1 : Nat} (hd : c ≤ k) (h : n ≤ c + k) (a1 : f1 = 0) (a2 : t1 = 0) (ih : AltC c k n f t) : AltC c (k + 1) n (f + f1) (t + t1) := by
 have e1 : min c k = c := by omega
 have e2 : min c (k + 1) = c := by omega
 obtain ⟨g1, g2⟩ := ih
 rw [e1] at g1 g2
 refine ⟨fun h1 => ?_, fun h1 => ⟨fun h2 => absurd h2 (by omega), fun h2 => ?_⟩⟩ <;> rw [e2] at h1 <;> (try rw [e2])
 · have := g1 h1; omega
 · have := (g2 h1).2 (by omega); omega
theorem alt_d1 {k c n f t f1 t1 : Nat} (hd : c ≤ k) (h : c + k < n) (a1 : f1 = 0) (a2 : t1 = 1) (ih : AltC c k n f t) : AltC c (k + 1) n (f + f1) (t + t1) := by
 have e1 : min c k = c := by omega
 have e2 : min c (k + 1) = c := by omega
 obtain ⟨g1, g2⟩ := ih
 rw [e1] at g1 g2
 refine ⟨fun h1 => ?_, fun h1 => ⟨fun h2 => absurd h2 (by omega), fun h2 => ?_⟩⟩ <;> rw [e2] at h1 <;> (try rw [e2])
 · omega
 · have := (g2 h1).2 (by omega); omega
theorem alt_cnt (c d n : Nat) : ∀ k, AltC (min k c) (min k d) n (((altB c d k).take n).count false) (((altB c d k).take n).count true)
 | 0 => by simp [altB, AltC]; omega
 | k + 1 => by
   have ih := alt_cnt c d n k
   have hl := alt_len c d k
   simp only [altB, List.take_append, List.count_append]
   obtain ⟨t1, t2, t3, t4, t5, t6⟩ := tip_cnt (k < c) (k < d) (n - (altB c d k).length)
   simp only [List.take_append, List.count_append] at t1 t2 t3 t4 t5 t6
   rw [hl] at t1 t2 t3 t4 t5 t6 ⊢
   generalize List.count false (List.take n (altB c d k)) = f0 at *
   generalize List.count true (List.take n (altB c d k)) = t0 at *
   generalize (List.count false (List.take (n - (min k c + min k d)) (if k < c then [false] else [])) + List.count false (List.take (n - (min k c + min k d) - (if k < c then [false] else []).length) (if k < d then [true] else []))) = f1 at *
   generalize (List.count true (List.take (n - (min k c + min k d)) (if k < c then [false] else [])) + List.count true (List.take (n - (min k c + min k d) - (if k < c then [false] else []).length) (if k < d then [true] else []))) = t1' at *
   unfold AltC at *
   clear hl
   by_cases h1 : k < c <;> by_cases h2 : k < d
   · rw [show min (k + 1) c = k + 1 by omega, show min (k + 1) d = k + 1 by omega]
     rw [show min k c = k by omega, show min k d = k by omega] at ih t1 t2 t3 t4 t5 t6
     rcases (show n ≤ k + k ∨ n = k + k + 1 ∨ k + k + 1 < n by omega) with h3 | h3 | h3
     · have a1 := t2 (by omega); have a2 := t4 h1 (by omega); have a3 := ih.1 (by omega); exact alt_ff (by clear t1 t2 t3 t4 t5 t6 ih; omega) a1 a2 a3
     · have a1 := t1 h1 (by omega); have a2 := t4 h1 (by omega); have a3 := (ih.2 (by omega)).2 (by omega); clear t1 t2 t3 t4 t5 t6 ih; exact alt_fe (by omega) a1 a2 a3
     · have a1 := t1 h1 (by omega); have a2 := t3 h1 h2 (by omega); have a3 := (ih.2 (by omega)).2 (by omega); clear t1 t2 t3 t4 t5 t6 ih; exact alt_ft (by omega) a1 a2 a3
   · rw [show min (k + 1) c = k + 1 by omega, show min (k + 1) d = d by omega]
     rw [show min k c = k by omega, show min k d = d by omega] at ih t1 t2 t3 t4 t5 t6
     have a2 := t4 h1 (by omega)
     have hd : d ≤ k := by omega
     rcases (show n ≤ k + d ∨ k + d < n by omega) with h3 | h3
     · have a1 := t2 (by omega); clear t1 t2 t3 t4 t5 t6; exact alt_c0 hd h3 a1 a2 ih
     · have a1 := t1 h1 (by omega); clear t1 t2 t3 t4 t5 t6; exact alt_c1 hd h3 a1 a2 ih
   · rw [show min (k + 1) c = c by omega, show min (k + 1) d = k + 1 by omega]
     rw [show min k c = c by omega, show min k d = k by omega] at ih t1 t2 t3 t4 t5 t6
     have a1 := t2 (by omega)
     have hd : c ≤ k := by omega
     rcases (show n ≤ c + k ∨ c + k < n by omega) with h3 | h3
     · have a2 := t6 h1 (by omega); clear t1 t2 t3 t4 t5 t6; exact alt_d0 hd h3 a1 a2 ih
     · have a2 := t5 h1 h2 (by omega); clear t1 t2 t3 t4 t5 t6; exact alt_d1 hd h3 a1 a2 ih
   · rw [show min (k + 1) c = c by omega, show min (k + 1) d = d by omega]
     rw [show min k c = c by omega, show min k d = d by omega] at ih t1 t2 t3 t4 t5 t6
     have a1 := t2 (by omega); have a2 := t6 h1 (by omega); clear t1 t2 t3 t4 t5 t6; subst a1; subst a2; exact ih
theorem rep_cnt (n a : Nat) (x y : Bool) : ((List.replicate a x).take n).count y = if x = y then min n a else 0 := by
 rw [List.take_replicate, List.count_replicate]; by_cases h : x = y <;> simp [h]
def UpC (a b c d n f t : Nat) : Prop := AltC c d (n - min n a - min (n - min n a) b) (f - min n a) (t - min (n - min n a) b) ∧ min n a ≤ f ∧ min (n - min n a) b ≤ t
theorem altC_congr {c d n f t n' f' t' : Nat} (h : AltC c d n f t) (hn : n' = n) (hf : f' = f) (ht : t' = t) : AltC c d n' f' t' := by subst hn; subst hf; subst ht; exact h
theorem up_cnt (a b c d n : Nat) : UpC a b c d n (((rowB a b c d).take n).count false) (((rowB a b c d).take n).count true) := by
 have h := alt_cnt c d (n - (a + b)) (max c d)
 rw [show min (max c d) c = c by omega, show min (max c d) d = d by omega] at h
 unfold rowB UpC
 simp only [List.take_append, List.count_append, rep_cnt, List.length_append, List.length_replicate]
 simp only [if_true, Bool.false_eq_true, Bool.true_eq_false, if_false, show ¬ (true = false) by simp, show ¬ (false = true) by simp]
 generalize List.count false (List.take (n - (a + b)) (altB c d (max c d))) = f at *
 generalize List.count true (List.take (n - (a + b)) (altB c d (max c d))) = t at *
 exact ⟨altC_congr h (by omega) (by omega) (by omega), by omega, by omega⟩
theorem up_one {a b c d n f t f' t' : Nat} (h : UpC a b c d n f t) (h' : UpC a b c d n f' t') : f = f' ∧ t = t' := by
 unfold UpC AltC at *
 obtain ⟨⟨h1, h2⟩, h3, h4⟩ := h
 obtain ⟨⟨k1, k2⟩, k3, k4⟩ := h'
 generalize n - min n a - min (n - min n a) b = q at *
 rcases Nat.lt_or_ge (2 * min c d) q with h5 | h5
 · have h6 := h2 h5; have k6 := k2 h5
   by_cases h7 : min c d < c
   · have := h6.1 h7; have := k6.1 h7; omega
   · have := h6.2 h7; have := k6.2 h7; omega
 · have := h1 h5; have := k1 h5; omega
def Tally (R Q : Nat) (pre : List Bool) (x : Bool) (came left lost : Nat) : Prop :=
 came = (pre.take R).count x ∧ came + left = (pre.take (R + Q)).count x ∧ came + left + lost = pre.count x
theorem tally_nil (R Q : Nat) (x : Bool) : Tally R Q [] x 0 0 0 := by simp [Tally]
theorem tally_other {R Q : Nat} {pre : List Bool} {x y : Bool} {p q r : Nat} (h : Tally R Q pre x p q r) (hxy : y ≠ x) : Tally R Q (pre ++ [y]) x p q r := by
 have e : ∀ j, (List.take j [y]).count x = 0 := fun j => by rcases j with _ | j <;> simp [hxy]
 unfold Tally at *
 simp only [List.take_append, List.count_append, e, Nat.add_zero]
 have : List.count x [y] = 0 := by simp [hxy]
 omega
theorem tally_came {R Q : Nat} {pre : List Bool} {x : Bool} {p q r : Nat} (h : Tally R Q pre x p q r) (hl : pre.length < R) : Tally R Q (pre ++ [x]) x (p + 1) q r := by
 have e : ∀ j, 0 < j → (List.take j [x]).count x = 1 := fun j hj => by rcases j with _ | j <;> simp_all
 unfold Tally at *
 simp only [List.take_append, List.count_append]
 rw [e _ (by omega), e _ (by omega)]
 have : List.count x [x] = 1 := by simp
 omega
theorem tally_left {R Q : Nat} {pre : List Bool} {x : Bool} {p q r : Nat} (h : Tally R Q pre x p q r) (hl : R ≤ pre.length) (hl' : pre.length < R + Q) : Tally R Q (pre ++ [x]) x p (q + 1) r := by
 have e : ∀ j, 0 < j → (List.take j [x]).count x = 1 := fun j hj => by rcases j with _ | j <;> simp_all
 unfold Tally at *
 simp only [List.take_append, List.count_append]
 rw [e (R + Q - _) (by omega), show R - pre.length = 0 by omega]
 have : List.count x [x] = 1 := by simp
 simp only [List.take_zero, List.count_nil]
 omega
theorem tally_lost {R Q : Nat} {pre : List Bool} {x : Bool} {p q r : Nat} (h : Tally R Q pre x p q r) (hl : R + Q ≤ pre.length) : Tally R Q (pre ++ [x]) x p q (r + 1) := by
 unfold Tally at *
 simp only [List.take_append, List.count_append]
 rw [show R - pre.length = 0 by omega, show R + Q - pre.length = 0 by omega]
 have : List.count x [x] = 1 := by simp
 simp only [List.take_zero, List.count_nil]
 omega
theorem row_cnt (a b c d : Nat) : (rowB a b c d).count false = a + c ∧ (rowB a b c d).count true = b + d := by
 have h := up_cnt a b c d (a + b + (c + d))
 rw [List.take_of_length_le (by rw [row_len]; omega)] at h
 obtain ⟨⟨h1, h2⟩, h3, h4⟩ := h
 rw [show min (a + b + (c + d)) a = a by omega, show min (a + b + (c + d) - a) b = b by omega, show a + b + (c + d) - a - b = c + d by omega] at h1 h2
 rw [show min (a + b + (c + d)) a = a by omega] at h3
 rw [show min (a + b + (c + d) - min (a + b + (c + d)) a) b = b by omega] at h4
 rcases Nat.lt_or_ge (2 * min c d) (c + d) with h5 | h5
 · by_cases h7 : min c d < c
   · have := (h2 h5).1 h7; omega
   · have := (h2 h5).2 h7; omega
 · have := h1 h5; omega
theorem tally_small {R Q : Nat} {pre : List Bool} {x : Bool} {p q r : Nat} (h : Tally R Q pre x p q r) : p + q + r ≤ pre.length := by
 have := List.count_le_length (a := x) (l := pre)
 unfold Tally at h; omega
end Go.Proofs.YtjjikhaaimfneaaGreatDoor
namespace Go.Proofs.YtjjikhaaimfneaaGreatDoor
open Go.RowKit
set_option linter.unusedSimpArgs false
set_option linter.unusedVariables false
theorem iteMin (x y : Int) : (if y < x then y else x) = min x y := by omega
theorem iteMinN (x y : Nat) : (if y < x then (y : Int) else (x : Int)) = min (x : Int) (y : Int) := by split <;> omega
theorem iteMaxN (x y : Nat) : (if x < y then (y : Int) else (x : Int)) = max (x : Int) (y : Int) := by split <;> omega
theorem iteMax (x y : Int) : (if x < y then y else x) = max x y := by omega
end Go.Proofs.YtjjikhaaimfneaaGreatDoor
