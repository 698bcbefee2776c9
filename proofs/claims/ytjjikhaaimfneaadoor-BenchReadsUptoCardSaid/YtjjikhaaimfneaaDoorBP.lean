/-
  PLAIN LAW of BenchReads: what a text of rules is, and which rules it says. No program in sight.
-/
import Derived.Lib.Split
import Derived.Lib.SplitLaws
import Derived.Lib.Join
import Derived.Lib.Fields
import Derived.Lib.AtoiAll
import Derived.Lib.ItoaNum
namespace Go.Proofs.YtjjikhaaimfneaaDoor
set_option linter.unusedSimpArgs false
set_option linter.unusedVariables false

theorem index_sp (b : List UInt8) : ∀ a : List UInt8, 32 ∉ a → Lib.index (a ++ 32 :: b) [32] = a.length
  | [], _ => by simp [Lib.index]
  | x :: a, h => by
    have h1 : x ≠ 32 := fun e => h (by rw [e]; simp)
    have ih := index_sp b a (fun e => h (List.mem_cons_of_mem _ e))
    have hx : (32 == x) = false := by simp; exact fun e => h1 e.symm
    rw [List.cons_append, Lib.index]
    simp only [List.isPrefixOf, hx, Bool.false_and]
    rw [ih, if_neg (by simp), if_neg (by simp)]
    simp
theorem index_no : ∀ a : List UInt8, 32 ∉ a → Lib.index a [32] = -1
  | [], _ => by simp [Lib.index]
  | x :: a, h => by
    have h1 : x ≠ 32 := fun e => h (by rw [e]; simp)
    have ih := index_no a (fun e => h (List.mem_cons_of_mem _ e))
    have hx : (32 == x) = false := by simp; exact fun e => h1 e.symm
    rw [Lib.index]
    simp only [List.isPrefixOf, hx, Bool.false_and]
    rw [ih, if_neg (by simp), if_pos (by simp)]
theorem splitK_sp {a b : List UInt8} {k : Nat} (h : 32 ∉ a) : Lib.splitK [32] 0 (k + 1) (a ++ 32 :: b) = a :: Lib.splitK [32] 0 k b := by
  have e := index_sp b a h
  rw [Lib.splitK, e, if_neg (by simp)]
  have hd : List.drop (a.length + 1) a = [] := List.drop_eq_nil_of_le (by omega)
  simp [List.drop_append, hd]
theorem splitK_one {a : List UInt8} (k : Nat) (h : 32 ∉ a) : Lib.splitK [32] 0 k a = [a] := by
  cases k with
  | zero => rfl
  | succ k => rw [Lib.splitK, index_no a h, if_pos (by simp)]
def join5 (a b c d e : List UInt8) : List UInt8 := a ++ 32 :: (b ++ 32 :: (c ++ 32 :: (d ++ 32 :: e)))
theorem join5_is (a b c d e : List UInt8) : Lib.join [a, b, c, d, e] [32] = join5 a b c d e := by
  simp [Lib.join, List.intercalate, join5]
theorem join5_split {a b c d e : List UInt8} (ha : 32 ∉ a) (hb : 32 ∉ b) (hc : 32 ∉ c) (hd : 32 ∉ d) (he : 32 ∉ e) : Lib.splitK [32] 0 4 (join5 a b c d e) = [a, b, c, d, e] := by
  unfold join5
  rw [splitK_sp ha, splitK_sp hb, splitK_sp hc, splitK_sp hd, splitK_one _ he]
theorem join5_count {a b c d e : List UInt8} (ha : 32 ∉ a) (hb : 32 ∉ b) (hc : 32 ∉ c) (hd : 32 ∉ d) (he : 32 ∉ e) : (join5 a b c d e).count 32 = 4 := by
  unfold join5
  simp [List.count_append, List.count_eq_zero.2 ha, List.count_eq_zero.2 hb, List.count_eq_zero.2 hc, List.count_eq_zero.2 hd, List.count_eq_zero.2 he]
def veL : List UInt8 := [118, 101, 103, 97, 115]
def coL : List UInt8 := [99, 111, 112, 97]
def leL : List UInt8 := [108, 101, 100, 98, 97, 116]
def nameL (k : Int) : List UInt8 := if k = 1 then veL else if k = 2 then coL else leL
def digL (n : Nat) : List UInt8 := if n < 10 then [UInt8.ofNat (48 + n)] else [UInt8.ofNat (48 + n / 10), UInt8.ofNat (48 + n % 10)]
theorem itoa_dig {n : Nat} (h : n < 100) : Lib.itoa (n : Int) = digL n := by
  unfold Lib.itoa digL
  rw [if_neg (by omega)]
  by_cases h1 : n < 10
  · rw [if_pos h1]; simpa using Lib.decDigits_one h1
  · rw [if_neg h1]; simpa using Lib.decDigits_two h1 h
theorem dig_fin : ∀ n : Fin 17, 32 ∉ digL n.val ∧ Lib.atoiAll (digL n.val) = .ok (n.val : Int) := by decide +kernel
theorem itoa_no {n : Int} (h0 : 0 ≤ n) (h1 : n ≤ 16) : 32 ∉ Lib.itoa n := by
  obtain ⟨m, rfl⟩ : ∃ m : Nat, n = (m : Int) := ⟨n.toNat, by omega⟩
  rw [itoa_dig (by omega)]; exact (dig_fin ⟨m, by omega⟩).1
theorem atoi_itoa {n : Int} (h0 : 0 ≤ n) (h1 : n ≤ 16) : Lib.atoiAll (Lib.itoa n) = .ok n := by
  obtain ⟨m, rfl⟩ : ∃ m : Nat, n = (m : Int) := ⟨n.toNat, by omega⟩
  rw [itoa_dig (by omega)]; exact (dig_fin ⟨m, by omega⟩).2
theorem name_no {k : Int} : 32 ∉ nameL k := by
  unfold nameL; split
  · decide
  · split <;> decide
/-- the kind whose name it is -/
def kindL (p : List UInt8) : Int := if p = leL then 3 else if p = coL then 2 else if p = veL then 1 else 0
theorem kind_name {k : Int} (h : 1 ≤ k ∧ k ≤ 3) : kindL (nameL k) = k := by
  rcases (show k = 1 ∨ k = 2 ∨ k = 3 by omega) with rfl | rfl | rfl <;> decide
def numL (l : List UInt8) : Int := match Lib.atoiAll l with
  | .ok v => v
  | .range => Lib.atoiSat l
  | _ => 0
theorem num_itoa {n : Int} (h0 : 0 ≤ n) (h1 : n ≤ 16) : numL (Lib.itoa n) = n := by unfold numL; rw [atoi_itoa h0 h1]
/-- rules that are right -/
def ROk (k0 k1 R Q J : Int) : Prop := (1 ≤ k0 ∧ k0 ≤ 3) ∧ (1 ≤ k1 ∧ k1 ≤ 3) ∧ (1 ≤ R ∧ R ≤ 12) ∧ (0 ≤ Q ∧ Q ≤ 16) ∧ 0 ≤ J ∧ J ≤ 3
def textL (k0 k1 R Q J : Int) : List UInt8 := join5 (nameL k0) (nameL k1) (Lib.itoa R) (Lib.itoa Q) (Lib.itoa J)
def piecesL (s : List UInt8) : List (List UInt8) := Lib.splitK [32] 0 (s.count 32) s
theorem text_pieces {k0 k1 R Q J : Int} (h : ROk k0 k1 R Q J) : piecesL (textL k0 k1 R Q J) = [nameL k0, nameL k1, Lib.itoa R, Lib.itoa Q, Lib.itoa J] := by
  obtain ⟨h0, h1, h2, h3, h4⟩ := h
  unfold piecesL textL
  rw [join5_count name_no name_no (itoa_no (by omega) (by omega)) (itoa_no (by omega) (by omega)) (itoa_no (by omega) (by omega))]
  exact join5_split name_no name_no (itoa_no (by omega) (by omega)) (itoa_no (by omega) (by omega)) (itoa_no (by omega) (by omega))
theorem text_one {k0 k1 R Q J k0' k1' R' Q' J' : Int} (h : ROk k0 k1 R Q J) (h' : ROk k0' k1' R' Q' J') (e : textL k0 k1 R Q J = textL k0' k1' R' Q' J') : k0 = k0' ∧ k1 = k1' ∧ R = R' ∧ Q = Q' ∧ J = J' := by
  have e1 := text_pieces h
  rw [e, text_pieces h'] at e1
  simp only [List.cons.injEq, and_true] at e1
  obtain ⟨a, b, c, d, f⟩ := e1
  obtain ⟨h0, h1, h2, h3, h4⟩ := h
  obtain ⟨h0', h1', h2', h3', h4'⟩ := h'
  have a' := congrArg kindL a
  have b' := congrArg kindL b
  have c' := congrArg numL c
  have d' := congrArg numL d
  have f' := congrArg numL f
  rw [kind_name h0, kind_name h0'] at a'
  rw [kind_name h1, kind_name h1'] at b'
  rw [num_itoa (by omega) (by omega), num_itoa (by omega) (by omega)] at c' d' f'
  exact ⟨a'.symm, b'.symm, c'.symm, d'.symm, f'.symm⟩
/-- what a text says -/
def PSays (s : List UInt8) (k0 k1 R Q J e : Int) : Prop :=
  (ROk k0 k1 R Q J ∧ s = textL k0 k1 R Q J ∧ e = 0) ∨ ((∀ k0 k1 R Q J, ROk k0 k1 R Q J → s ≠ textL k0 k1 R Q J) ∧ k0 = 0 ∧ k1 = 0 ∧ R = 0 ∧ Q = 0 ∧ J = 0 ∧ e = 1)
theorem psays_one {s : List UInt8} {k0 k1 R Q J e k0' k1' R' Q' J' e' : Int} (h : PSays s k0 k1 R Q J e) (h' : PSays s k0' k1' R' Q' J' e') : k0 = k0' ∧ k1 = k1' ∧ R = R' ∧ Q = Q' ∧ J = J' ∧ e = e' := by
  rcases h with ⟨h1, h2, h3⟩ | ⟨h1, rfl, rfl, rfl, rfl, rfl, rfl⟩ <;> rcases h' with ⟨h1', h2', h3'⟩ | ⟨h1', rfl, rfl, rfl, rfl, rfl, rfl⟩
  · obtain ⟨a, b, c, d, f⟩ := text_one h1 h1' (by rw [← h2, ← h2'])
    exact ⟨a, b, c, d, f, by rw [h3, h3']⟩
  · exact absurd h2 (h1' _ _ _ _ _ h1)
  · exact absurd h2' (h1 _ _ _ _ _ h1')
  · exact ⟨rfl, rfl, rfl, rfl, rfl, rfl⟩
theorem psays_len {s : List UInt8} (h : s.count 32 ≠ 4) : PSays s 0 0 0 0 0 1 := .inr ⟨fun k0 k1 R Q J ho he => h (by
  obtain ⟨h0, h1, h2, h3, h4⟩ := ho
  rw [he]; unfold textL
  exact join5_count name_no name_no (itoa_no (by omega) (by omega)) (itoa_no (by omega) (by omega)) (itoa_no (by omega) (by omega))), rfl, rfl, rfl, rfl, rfl, rfl⟩
theorem psays_yes {s : List UInt8} {k0 k1 R Q J : Int} (h : ROk k0 k1 R Q J) (e : s = textL k0 k1 R Q J) : PSays s k0 k1 R Q J 0 := .inl ⟨h, e, rfl⟩
theorem psays_no {s p0 p1 p2 p3 p4 : List UInt8} (hp : piecesL s = [p0, p1, p2, p3, p4]) (h : ¬ (ROk (kindL p0) (kindL p1) (numL p2) (numL p3) (numL p4) ∧ s = textL (kindL p0) (kindL p1) (numL p2) (numL p3) (numL p4))) : PSays s 0 0 0 0 0 1 := .inr ⟨fun k0 k1 R Q J ho he => h (by
  rw [he, text_pieces ho] at hp
  simp only [List.cons.injEq, and_true] at hp
  obtain ⟨rfl, rfl, rfl, rfl, rfl⟩ := hp
  have ho' := ho
  obtain ⟨h0, h1, h2, h3, h4⟩ := ho'
  rw [kind_name h0, kind_name h1, num_itoa (by omega) (by omega), num_itoa (by omega) (by omega), num_itoa (by omega) (by omega)]
  exact ⟨ho, he⟩), rfl, rfl, rfl, rfl, rfl, rfl⟩
theorem psays_ex (s : List UInt8) : ∃ k0 k1 R Q J e, PSays s k0 k1 R Q J e := by
  by_cases h : ∃ k0 k1 R Q J, ROk k0 k1 R Q J ∧ s = textL k0 k1 R Q J
  · obtain ⟨k0, k1, R, Q, J, h1, h2⟩ := h
    exact ⟨k0, k1, R, Q, J, 0, .inl ⟨h1, h2, rfl⟩⟩
  · exact ⟨0, 0, 0, 0, 0, 1, .inr ⟨fun k0 k1 R Q J ho he => h ⟨k0, k1, R, Q, J, ho, he⟩, rfl, rfl, rfl, rfl, rfl, rfl⟩⟩
/-- Split's cells -/
theorem split_is (s : ByteArray) : (Lib.splitB ⟨#[32]⟩ 0 (Lib.countB s ⟨#[32]⟩) s).map (·.data.toList) = piecesL s.data.toList := by
  rw [Lib.splitB_data]
  unfold piecesL
  rw [← Lib.count_one]
theorem fields_names : Lib.fields (veL ++ 32 :: (coL ++ 32 :: leL)) = [veL, coL, leL] := by decide +kernel
end Go.Proofs.YtjjikhaaimfneaaDoor
