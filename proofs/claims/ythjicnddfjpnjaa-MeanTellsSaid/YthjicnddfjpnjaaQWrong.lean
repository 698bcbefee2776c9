/-
  WALKS: the reference's QWrong.
-/
import Derived.Test.YthjicnddfjpnjaaWrong
namespace Go.Proofs.Ythjicnddfjpnjaa
open Go.RowKit
set_option linter.unusedSimpArgs false
set_option linter.unusedVariables false

attribute [local go_sem] iteMin iteMax iteMinN iteMaxN

set_option maxRecDepth 100000 in
set_option maxHeartbeats 8000000 in
theorem qwrong_0 (N : Int) (a : Option Addr) (n c : Nat) (es : List GE) (w : World) (h : EdgesAt w a n c es) (h1 : N < 0) :
    Calls Try.prog 42 #[.agg #[.int .i64 N, .slice a n c]] w fun e w' => IsWrong N es e ∧ Below w.heap.size w w' := by
  have HL := hide h.len
  have hlim := h.lim
  have hB0 : Below w.heap.size w (w.alloc (.cells #[.int .i64 N, .slice a n c] 39)) := (Below.refl _ _).alloc (Nat.le_refl _) _
  obtain ⟨W, hW⟩ : ∃ W, W = w.alloc (.cells #[.int .i64 N, .slice a n c] 39) := ⟨_, rfl⟩
  have b0 : W.cell? ⟨w.heap.size, 0, none⟩ = some (.int .i64 N) := by rw [hW]; simp [go_sem]
  have hWs : W.heap.size = w.heap.size + 1 := by rw [hW]; simp
  have HW := hide hWs
  rw [← hW] at hB0
  have HB0 := hide hB0
  clear hWs hB0
  have HS := hide (show (false = true ↔ ((0 ≤ N ∧ N ≤ 300 ∧ es.length ≤ 4800) ∧ ∀ j e, j < 0 → es[j]? = some e → EdgeOk N e)) from ⟨(fun h1 => by cases h1), fun h1 => by have := h1.1; have := HL.out; omega⟩)
  have g1 : decide ((0 : Int) ≤ N) = false := by simp; omega
  go_enter Try.func42, Try.ntmps42
  go_wp2
  rw [← hW]
  clear hW
  go_loopw [3, 23] (fun o i wr => ∃ k : Nat, ∃ p : Bool, k ≤ n ∧ i = .int .i64 k ∧ o = .bool p ∧ Hid (p = true ↔ ((0 ≤ N ∧ N ≤ 300 ∧ es.length ≤ 4800) ∧ ∀ j e, j < k → es[j]? = some e → EdgeOk N e)) ∧ Below W.heap.size W wr) (fun _ i _ => n - (intOf i).toNat)
  case atStart => exact ⟨0, false, Nat.zero_le _, rfl, rfl, HS, Below.refl _ _⟩
  case round =>
    obtain ⟨k, p, hk, rfl, rfl, HA, hB⟩ := hrel
    have k0 : (0 : Int) ≤ (k : Int) := Int.natCast_nonneg _
    have hBs := hB.size
    have hs1 : w.heap.size < wr.heap.size := by have := HW.out; omega
    have HBB := hide (HB0.out.trans (hB.mono (by have := HW.out; omega)))
    by_cases hlt : k < n
    · have k1 : (k : Int) < (n : Int) := by omega
      have c0 : wr.cell? ⟨w.heap.size, 0, none⟩ = some (.int .i64 N) := (hB.cell (by show w.heap.size < _; have := HW.out; omega)).trans b0
      obtain ⟨ad, x, y, z, rfl, hbd, HX, e0, e1, e2⟩ := h.getB HBB.out hlt
      clear h
      cases p
      · have HP := hide (show (false = true ↔ ((0 ≤ N ∧ N ≤ 300 ∧ es.length ≤ 4800) ∧ ∀ j e, j < k + 1 → es[j]? = some e → EdgeOk N e)) from ⟨(fun h1 => by cases h1), fun h1 => HA.out.2 ⟨h1.1, fun j e hj => h1.2 j e (by omega)⟩⟩)
        go_wp2
        go_roundw
        case rel => exact ⟨k + 1, false, by omega, by go_num, rfl, HP, hB.alloc hBs _⟩
        case measure => (simp [intOf] <;> omega)
      · rcases (show min x y < 0 ∨ (0 ≤ min x y ∧ N ≤ max x y) ∨ (0 ≤ min x y ∧ max x y < N ∧ z < -1048576) ∨ (0 ≤ min x y ∧ max x y < N ∧ -1048576 ≤ z ∧ 1048576 < z) ∨ (0 ≤ min x y ∧ max x y < N ∧ -1048576 ≤ z ∧ z ≤ 1048576) by omega) with q | ⟨q0, q⟩ | ⟨q0, q1, q⟩ | ⟨q0, q1, q2, q⟩ | ⟨q0, q1, q2, q3⟩
        · have HP := hide (show (false = true ↔ ((0 ≤ N ∧ N ≤ 300 ∧ es.length ≤ 4800) ∧ ∀ j e, j < k + 1 → es[j]? = some e → EdgeOk N e)) from ⟨(fun h1 => by cases h1), fun h1 => by have := h1.2 k _ (by omega) HX.out; unfold EdgeOk at this; simp only at this; omega⟩)
          have d1 : decide ((0 : Int) ≤ min x y) = false := by simp only [decide_eq_false_iff_not]; omega
          go_wp2
          go_roundw
          case rel => exact ⟨k + 1, false, by omega, by go_num, rfl, HP, hB.alloc hBs _⟩
          case measure => (simp [intOf] <;> omega)
        · have HP := hide (show (false = true ↔ ((0 ≤ N ∧ N ≤ 300 ∧ es.length ≤ 4800) ∧ ∀ j e, j < k + 1 → es[j]? = some e → EdgeOk N e)) from ⟨(fun h1 => by cases h1), fun h1 => by have := h1.2 k _ (by omega) HX.out; unfold EdgeOk at this; simp only at this; omega⟩)
          have d1 : decide (max x y < N) = false := by simp only [decide_eq_false_iff_not]; omega
          go_wp2
          go_roundw
          case rel => exact ⟨k + 1, false, by omega, by go_num, rfl, HP, hB.alloc hBs _⟩
          case measure => (simp [intOf] <;> omega)
        · exfalso; omega
        · exfalso; omega
        · exfalso; omega
    · obtain rfl : k = n := by omega
      clear h
      cases p
      · have HF := hide (show ¬ GraphOk N es from fun hg => by have := HA.out.2 ⟨hg.1, fun j e _ he => hg.2 e (List.mem_of_getElem? he)⟩; cases this)
        go_wp2
        go_ret
        exact ⟨isWrong2 HF.out, HBB.out⟩
      · have HF := hide (show GraphOk N es from ⟨(HA.out.1 rfl).1, fun e he => by
          obtain ⟨j, hj, rfl⟩ := List.getElem_of_mem he
          exact (HA.out.1 rfl).2 j _ (by rw [HL.out] at hj; exact hj) (List.getElem?_eq_getElem hj)⟩)
        go_wp2
        go_ret
        exact ⟨isWrong0 HF.out, HBB.out⟩

set_option maxRecDepth 100000 in
set_option maxHeartbeats 8000000 in
theorem qwrong_1 (N : Int) (a : Option Addr) (n c : Nat) (es : List GE) (w : World) (h : EdgesAt w a n c es) (h1 : 0 ≤ N) (h2 : 300 < N) :
    Calls Try.prog 42 #[.agg #[.int .i64 N, .slice a n c]] w fun e w' => IsWrong N es e ∧ Below w.heap.size w w' := by
  have HL := hide h.len
  have hlim := h.lim
  have hB0 : Below w.heap.size w (w.alloc (.cells #[.int .i64 N, .slice a n c] 39)) := (Below.refl _ _).alloc (Nat.le_refl _) _
  obtain ⟨W, hW⟩ : ∃ W, W = w.alloc (.cells #[.int .i64 N, .slice a n c] 39) := ⟨_, rfl⟩
  have b0 : W.cell? ⟨w.heap.size, 0, none⟩ = some (.int .i64 N) := by rw [hW]; simp [go_sem]
  have hWs : W.heap.size = w.heap.size + 1 := by rw [hW]; simp
  have HW := hide hWs
  rw [← hW] at hB0
  have HB0 := hide hB0
  clear hWs hB0
  have HS := hide (show (false = true ↔ ((0 ≤ N ∧ N ≤ 300 ∧ es.length ≤ 4800) ∧ ∀ j e, j < 0 → es[j]? = some e → EdgeOk N e)) from ⟨(fun h1 => by cases h1), fun h1 => by have := h1.1; have := HL.out; omega⟩)
  have g1 : decide (N ≤ 300) = false := by simp; omega
  go_enter Try.func42, Try.ntmps42
  go_wp2
  rw [← hW]
  clear hW
  go_loopw [3, 23] (fun o i wr => ∃ k : Nat, ∃ p : Bool, k ≤ n ∧ i = .int .i64 k ∧ o = .bool p ∧ Hid (p = true ↔ ((0 ≤ N ∧ N ≤ 300 ∧ es.length ≤ 4800) ∧ ∀ j e, j < k → es[j]? = some e → EdgeOk N e)) ∧ Below W.heap.size W wr) (fun _ i _ => n - (intOf i).toNat)
  case atStart => exact ⟨0, false, Nat.zero_le _, rfl, rfl, HS, Below.refl _ _⟩
  case round =>
    obtain ⟨k, p, hk, rfl, rfl, HA, hB⟩ := hrel
    have k0 : (0 : Int) ≤ (k : Int) := Int.natCast_nonneg _
    have hBs := hB.size
    have hs1 : w.heap.size < wr.heap.size := by have := HW.out; omega
    have HBB := hide (HB0.out.trans (hB.mono (by have := HW.out; omega)))
    by_cases hlt : k < n
    · have k1 : (k : Int) < (n : Int) := by omega
      have c0 : wr.cell? ⟨w.heap.size, 0, none⟩ = some (.int .i64 N) := (hB.cell (by show w.heap.size < _; have := HW.out; omega)).trans b0
      obtain ⟨ad, x, y, z, rfl, hbd, HX, e0, e1, e2⟩ := h.getB HBB.out hlt
      clear h
      cases p
      · have HP := hide (show (false = true ↔ ((0 ≤ N ∧ N ≤ 300 ∧ es.length ≤ 4800) ∧ ∀ j e, j < k + 1 → es[j]? = some e → EdgeOk N e)) from ⟨(fun h1 => by cases h1), fun h1 => HA.out.2 ⟨h1.1, fun j e hj => h1.2 j e (by omega)⟩⟩)
        go_wp2
        go_roundw
        case rel => exact ⟨k + 1, false, by omega, by go_num, rfl, HP, hB.alloc hBs _⟩
        case measure => (simp [intOf] <;> omega)
      · rcases (show min x y < 0 ∨ (0 ≤ min x y ∧ N ≤ max x y) ∨ (0 ≤ min x y ∧ max x y < N ∧ z < -1048576) ∨ (0 ≤ min x y ∧ max x y < N ∧ -1048576 ≤ z ∧ 1048576 < z) ∨ (0 ≤ min x y ∧ max x y < N ∧ -1048576 ≤ z ∧ z ≤ 1048576) by omega) with q | ⟨q0, q⟩ | ⟨q0, q1, q⟩ | ⟨q0, q1, q2, q⟩ | ⟨q0, q1, q2, q3⟩
        · have HP := hide (show (false = true ↔ ((0 ≤ N ∧ N ≤ 300 ∧ es.length ≤ 4800) ∧ ∀ j e, j < k + 1 → es[j]? = some e → EdgeOk N e)) from ⟨(fun h1 => by cases h1), fun h1 => by have := h1.2 k _ (by omega) HX.out; unfold EdgeOk at this; simp only at this; omega⟩)
          have d1 : decide ((0 : Int) ≤ min x y) = false := by simp only [decide_eq_false_iff_not]; omega
          go_wp2
          go_roundw
          case rel => exact ⟨k + 1, false, by omega, by go_num, rfl, HP, hB.alloc hBs _⟩
          case measure => (simp [intOf] <;> omega)
        · have HP := hide (show (false = true ↔ ((0 ≤ N ∧ N ≤ 300 ∧ es.length ≤ 4800) ∧ ∀ j e, j < k + 1 → es[j]? = some e → EdgeOk N e)) from ⟨(fun h1 => by cases h1), fun h1 => by have := h1.2 k _ (by omega) HX.out; unfold EdgeOk at this; simp only at this; omega⟩)
          have d1 : decide (max x y < N) = false := by simp only [decide_eq_false_iff_not]; omega
          go_wp2
          go_roundw
          case rel => exact ⟨k + 1, false, by omega, by go_num, rfl, HP, hB.alloc hBs _⟩
          case measure => (simp [intOf] <;> omega)
        · have HP := hide (show (false = true ↔ ((0 ≤ N ∧ N ≤ 300 ∧ es.length ≤ 4800) ∧ ∀ j e, j < k + 1 → es[j]? = some e → EdgeOk N e)) from ⟨(fun h1 => by cases h1), fun h1 => by have := h1.2 k _ (by omega) HX.out; unfold EdgeOk at this; simp only at this; omega⟩)
          have d1 : decide (-1048576 ≤ z) = false := by simp; omega
          go_wp2
          go_roundw
          case rel => exact ⟨k + 1, false, by omega, by go_num, rfl, HP, hB.alloc hBs _⟩
          case measure => (simp [intOf] <;> omega)
        · have HP := hide (show (false = true ↔ ((0 ≤ N ∧ N ≤ 300 ∧ es.length ≤ 4800) ∧ ∀ j e, j < k + 1 → es[j]? = some e → EdgeOk N e)) from ⟨(fun h1 => by cases h1), fun h1 => by have := h1.2 k _ (by omega) HX.out; unfold EdgeOk at this; simp only at this; omega⟩)
          have d1 : decide (z ≤ 1048576) = false := by simp; omega
          go_wp2
          go_roundw
          case rel => exact ⟨k + 1, false, by omega, by go_num, rfl, HP, hB.alloc hBs _⟩
          case measure => (simp [intOf] <;> omega)
        · have HP := hide (show (0 ≤ N ∧ N ≤ 300 ∧ es.length ≤ 4800) ∧ ∀ j e, j < k + 1 → es[j]? = some e → EdgeOk N e from ⟨(HA.out.1 rfl).1, fun j e hj he => by
            rcases (show j < k ∨ j = k by omega) with h4 | rfl
            · exact (HA.out.1 rfl).2 j e h4 he
            · have := HX.out; rw [he] at this; injection this with this; subst this; unfold EdgeOk; simp only; omega⟩)
          have d4 : decide (z ≤ 1048576) = true := by simp; omega
          go_wp2
          go_roundw
          case rel => exact ⟨k + 1, true, by omega, by go_num, rfl, hide ⟨fun _ => HP.out, fun _ => rfl⟩, hB.alloc hBs _⟩
          case measure => (simp [intOf] <;> omega)
    · obtain rfl : k = n := by omega
      clear h
      cases p
      · have HF := hide (show ¬ GraphOk N es from fun hg => by have := HA.out.2 ⟨hg.1, fun j e _ he => hg.2 e (List.mem_of_getElem? he)⟩; cases this)
        go_wp2
        go_ret
        exact ⟨isWrong2 HF.out, HBB.out⟩
      · have HF := hide (show GraphOk N es from ⟨(HA.out.1 rfl).1, fun e he => by
          obtain ⟨j, hj, rfl⟩ := List.getElem_of_mem he
          exact (HA.out.1 rfl).2 j _ (by rw [HL.out] at hj; exact hj) (List.getElem?_eq_getElem hj)⟩)
        go_wp2
        go_ret
        exact ⟨isWrong0 HF.out, HBB.out⟩

set_option maxRecDepth 100000 in
set_option maxHeartbeats 8000000 in
theorem qwrong_2 (N : Int) (a : Option Addr) (n c : Nat) (es : List GE) (w : World) (h : EdgesAt w a n c es) (h1 : 0 ≤ N) (h2 : N ≤ 300) (h3 : 4800 < n) :
    Calls Try.prog 42 #[.agg #[.int .i64 N, .slice a n c]] w fun e w' => IsWrong N es e ∧ Below w.heap.size w w' := by
  have HL := hide h.len
  have hlim := h.lim
  have hB0 : Below w.heap.size w (w.alloc (.cells #[.int .i64 N, .slice a n c] 39)) := (Below.refl _ _).alloc (Nat.le_refl _) _
  obtain ⟨W, hW⟩ : ∃ W, W = w.alloc (.cells #[.int .i64 N, .slice a n c] 39) := ⟨_, rfl⟩
  have b0 : W.cell? ⟨w.heap.size, 0, none⟩ = some (.int .i64 N) := by rw [hW]; simp [go_sem]
  have hWs : W.heap.size = w.heap.size + 1 := by rw [hW]; simp
  have HW := hide hWs
  rw [← hW] at hB0
  have HB0 := hide hB0
  clear hWs hB0
  have HS := hide (show (false = true ↔ ((0 ≤ N ∧ N ≤ 300 ∧ es.length ≤ 4800) ∧ ∀ j e, j < 0 → es[j]? = some e → EdgeOk N e)) from ⟨(fun h1 => by cases h1), fun h1 => by have := h1.1; have := HL.out; omega⟩)
  have g1 : decide ((n : Int) ≤ 4800) = false := by simp; omega
  have g2 : (4800 : Int) < (n : Int) := by omega
  go_enter Try.func42, Try.ntmps42
  go_wp2
  rw [← hW]
  clear hW
  go_loopw [3, 23] (fun o i wr => ∃ k : Nat, ∃ p : Bool, k ≤ n ∧ i = .int .i64 k ∧ o = .bool p ∧ Hid (p = true ↔ ((0 ≤ N ∧ N ≤ 300 ∧ es.length ≤ 4800) ∧ ∀ j e, j < k → es[j]? = some e → EdgeOk N e)) ∧ Below W.heap.size W wr) (fun _ i _ => n - (intOf i).toNat)
  case atStart => exact ⟨0, false, Nat.zero_le _, rfl, rfl, HS, Below.refl _ _⟩
  case round =>
    obtain ⟨k, p, hk, rfl, rfl, HA, hB⟩ := hrel
    have k0 : (0 : Int) ≤ (k : Int) := Int.natCast_nonneg _
    have hBs := hB.size
    have hs1 : w.heap.size < wr.heap.size := by have := HW.out; omega
    have HBB := hide (HB0.out.trans (hB.mono (by have := HW.out; omega)))
    by_cases hlt : k < n
    · have k1 : (k : Int) < (n : Int) := by omega
      have c0 : wr.cell? ⟨w.heap.size, 0, none⟩ = some (.int .i64 N) := (hB.cell (by show w.heap.size < _; have := HW.out; omega)).trans b0
      obtain ⟨ad, x, y, z, rfl, hbd, HX, e0, e1, e2⟩ := h.getB HBB.out hlt
      clear h
      cases p
      · have HP := hide (show (false = true ↔ ((0 ≤ N ∧ N ≤ 300 ∧ es.length ≤ 4800) ∧ ∀ j e, j < k + 1 → es[j]? = some e → EdgeOk N e)) from ⟨(fun h1 => by cases h1), fun h1 => HA.out.2 ⟨h1.1, fun j e hj => h1.2 j e (by omega)⟩⟩)
        go_wp2
        go_roundw
        case rel => exact ⟨k + 1, false, by omega, by go_num, rfl, HP, hB.alloc hBs _⟩
        case measure => (simp [intOf] <;> omega)
      · rcases (show min x y < 0 ∨ (0 ≤ min x y ∧ N ≤ max x y) ∨ (0 ≤ min x y ∧ max x y < N ∧ z < -1048576) ∨ (0 ≤ min x y ∧ max x y < N ∧ -1048576 ≤ z ∧ 1048576 < z) ∨ (0 ≤ min x y ∧ max x y < N ∧ -1048576 ≤ z ∧ z ≤ 1048576) by omega) with q | ⟨q0, q⟩ | ⟨q0, q1, q⟩ | ⟨q0, q1, q2, q⟩ | ⟨q0, q1, q2, q3⟩
        · have HP := hide (show (false = true ↔ ((0 ≤ N ∧ N ≤ 300 ∧ es.length ≤ 4800) ∧ ∀ j e, j < k + 1 → es[j]? = some e → EdgeOk N e)) from ⟨(fun h1 => by cases h1), fun h1 => by have := h1.2 k _ (by omega) HX.out; unfold EdgeOk at this; simp only at this; omega⟩)
          have d1 : decide ((0 : Int) ≤ min x y) = false := by simp only [decide_eq_false_iff_not]; omega
          go_wp2
          go_roundw
          case rel => exact ⟨k + 1, false, by omega, by go_num, rfl, HP, hB.alloc hBs _⟩
          case measure => (simp [intOf] <;> omega)
        · have HP := hide (show (false = true ↔ ((0 ≤ N ∧ N ≤ 300 ∧ es.length ≤ 4800) ∧ ∀ j e, j < k + 1 → es[j]? = some e → EdgeOk N e)) from ⟨(fun h1 => by cases h1), fun h1 => by have := h1.2 k _ (by omega) HX.out; unfold EdgeOk at this; simp only at this; omega⟩)
          have d1 : decide (max x y < N) = false := by simp only [decide_eq_false_iff_not]; omega
          go_wp2
          go_roundw
          case rel => exact ⟨k + 1, false, by omega, by go_num, rfl, HP, hB.alloc hBs _⟩
          case measure => (simp [intOf] <;> omega)
        · have HP := hide (show (false = true ↔ ((0 ≤ N ∧ N ≤ 300 ∧ es.length ≤ 4800) ∧ ∀ j e, j < k + 1 → es[j]? = some e → EdgeOk N e)) from ⟨(fun h1 => by cases h1), fun h1 => by have := h1.2 k _ (by omega) HX.out; unfold EdgeOk at this; simp only at this; omega⟩)
          have d1 : decide (-1048576 ≤ z) = false := by simp; omega
          go_wp2
          go_roundw
          case rel => exact ⟨k + 1, false, by omega, by go_num, rfl, HP, hB.alloc hBs _⟩
          case measure => (simp [intOf] <;> omega)
        · have HP := hide (show (false = true ↔ ((0 ≤ N ∧ N ≤ 300 ∧ es.length ≤ 4800) ∧ ∀ j e, j < k + 1 → es[j]? = some e → EdgeOk N e)) from ⟨(fun h1 => by cases h1), fun h1 => by have := h1.2 k _ (by omega) HX.out; unfold EdgeOk at this; simp only at this; omega⟩)
          have d1 : decide (z ≤ 1048576) = false := by simp; omega
          go_wp2
          go_roundw
          case rel => exact ⟨k + 1, false, by omega, by go_num, rfl, HP, hB.alloc hBs _⟩
          case measure => (simp [intOf] <;> omega)
        · have HP := hide (show (0 ≤ N ∧ N ≤ 300 ∧ es.length ≤ 4800) ∧ ∀ j e, j < k + 1 → es[j]? = some e → EdgeOk N e from ⟨(HA.out.1 rfl).1, fun j e hj he => by
            rcases (show j < k ∨ j = k by omega) with h4 | rfl
            · exact (HA.out.1 rfl).2 j e h4 he
            · have := HX.out; rw [he] at this; injection this with this; subst this; unfold EdgeOk; simp only; omega⟩)
          have d4 : decide (z ≤ 1048576) = true := by simp; omega
          go_wp2
          go_roundw
          case rel => exact ⟨k + 1, true, by omega, by go_num, rfl, hide ⟨fun _ => HP.out, fun _ => rfl⟩, hB.alloc hBs _⟩
          case measure => (simp [intOf] <;> omega)
    · obtain rfl : k = n := by omega
      clear h
      cases p
      · have HF := hide (show ¬ GraphOk N es from fun hg => by have := HA.out.2 ⟨hg.1, fun j e _ he => hg.2 e (List.mem_of_getElem? he)⟩; cases this)
        go_wp2
        go_ret
        exact ⟨isWrong2 HF.out, HBB.out⟩
      · have HF := hide (show GraphOk N es from ⟨(HA.out.1 rfl).1, fun e he => by
          obtain ⟨j, hj, rfl⟩ := List.getElem_of_mem he
          exact (HA.out.1 rfl).2 j _ (by rw [HL.out] at hj; exact hj) (List.getElem?_eq_getElem hj)⟩)
        go_wp2
        go_ret
        exact ⟨isWrong0 HF.out, HBB.out⟩

set_option maxRecDepth 100000 in
set_option maxHeartbeats 8000000 in
theorem qwrong_3 (N : Int) (a : Option Addr) (n c : Nat) (es : List GE) (w : World) (h : EdgesAt w a n c es) (h1 : 0 ≤ N) (h2 : N ≤ 300) (h3 : n ≤ 4800) :
    Calls Try.prog 42 #[.agg #[.int .i64 N, .slice a n c]] w fun e w' => IsWrong N es e ∧ Below w.heap.size w w' := by
  have HL := hide h.len
  have hlim := h.lim
  have hB0 : Below w.heap.size w (w.alloc (.cells #[.int .i64 N, .slice a n c] 39)) := (Below.refl _ _).alloc (Nat.le_refl _) _
  obtain ⟨W, hW⟩ : ∃ W, W = w.alloc (.cells #[.int .i64 N, .slice a n c] 39) := ⟨_, rfl⟩
  have b0 : W.cell? ⟨w.heap.size, 0, none⟩ = some (.int .i64 N) := by rw [hW]; simp [go_sem]
  have hWs : W.heap.size = w.heap.size + 1 := by rw [hW]; simp
  have HW := hide hWs
  rw [← hW] at hB0
  have HB0 := hide hB0
  clear hWs hB0
  have HS := hide (show (0 ≤ N ∧ N ≤ 300 ∧ es.length ≤ 4800) ∧ ∀ j e, j < 0 → es[j]? = some e → EdgeOk N e from ⟨⟨h1, h2, by rw [HL.out]; exact h3⟩, fun j e hj => absurd hj (by omega)⟩)
  have g2 : (n : Int) ≤ 4800 := by omega
  go_enter Try.func42, Try.ntmps42
  go_wp2
  rw [← hW]
  clear hW
  go_loopw [3, 23] (fun o i wr => ∃ k : Nat, ∃ p : Bool, k ≤ n ∧ i = .int .i64 k ∧ o = .bool p ∧ Hid (p = true ↔ ((0 ≤ N ∧ N ≤ 300 ∧ es.length ≤ 4800) ∧ ∀ j e, j < k → es[j]? = some e → EdgeOk N e)) ∧ Below W.heap.size W wr) (fun _ i _ => n - (intOf i).toNat)
  case atStart => exact ⟨0, true, Nat.zero_le _, rfl, rfl, hide ⟨fun _ => HS.out, fun _ => rfl⟩, Below.refl _ _⟩
  case round =>
    obtain ⟨k, p, hk, rfl, rfl, HA, hB⟩ := hrel
    have k0 : (0 : Int) ≤ (k : Int) := Int.natCast_nonneg _
    have hBs := hB.size
    have hs1 : w.heap.size < wr.heap.size := by have := HW.out; omega
    have HBB := hide (HB0.out.trans (hB.mono (by have := HW.out; omega)))
    by_cases hlt : k < n
    · have k1 : (k : Int) < (n : Int) := by omega
      have c0 : wr.cell? ⟨w.heap.size, 0, none⟩ = some (.int .i64 N) := (hB.cell (by show w.heap.size < _; have := HW.out; omega)).trans b0
      obtain ⟨ad, x, y, z, rfl, hbd, HX, e0, e1, e2⟩ := h.getB HBB.out hlt
      clear h
      cases p
      · have HP := hide (show (false = true ↔ ((0 ≤ N ∧ N ≤ 300 ∧ es.length ≤ 4800) ∧ ∀ j e, j < k + 1 → es[j]? = some e → EdgeOk N e)) from ⟨(fun h1 => by cases h1), fun h1 => HA.out.2 ⟨h1.1, fun j e hj => h1.2 j e (by omega)⟩⟩)
        go_wp2
        go_roundw
        case rel => exact ⟨k + 1, false, by omega, by go_num, rfl, HP, hB.alloc hBs _⟩
        case measure => (simp [intOf] <;> omega)
      · rcases (show min x y < 0 ∨ (0 ≤ min x y ∧ N ≤ max x y) ∨ (0 ≤ min x y ∧ max x y < N ∧ z < -1048576) ∨ (0 ≤ min x y ∧ max x y < N ∧ -1048576 ≤ z ∧ 1048576 < z) ∨ (0 ≤ min x y ∧ max x y < N ∧ -1048576 ≤ z ∧ z ≤ 1048576) by omega) with q | ⟨q0, q⟩ | ⟨q0, q1, q⟩ | ⟨q0, q1, q2, q⟩ | ⟨q0, q1, q2, q3⟩
        · have HP := hide (show (false = true ↔ ((0 ≤ N ∧ N ≤ 300 ∧ es.length ≤ 4800) ∧ ∀ j e, j < k + 1 → es[j]? = some e → EdgeOk N e)) from ⟨(fun h1 => by cases h1), fun h1 => by have := h1.2 k _ (by omega) HX.out; unfold EdgeOk at this; simp only at this; omega⟩)
          have d1 : decide ((0 : Int) ≤ min x y) = false := by simp only [decide_eq_false_iff_not]; omega
          go_wp2
          go_roundw
          case rel => exact ⟨k + 1, false, by omega, by go_num, rfl, HP, hB.alloc hBs _⟩
          case measure => (simp [intOf] <;> omega)
        · have HP := hide (show (false = true ↔ ((0 ≤ N ∧ N ≤ 300 ∧ es.length ≤ 4800) ∧ ∀ j e, j < k + 1 → es[j]? = some e → EdgeOk N e)) from ⟨(fun h1 => by cases h1), fun h1 => by have := h1.2 k _ (by omega) HX.out; unfold EdgeOk at this; simp only at this; omega⟩)
          have d1 : decide (max x y < N) = false := by simp only [decide_eq_false_iff_not]; omega
          go_wp2
          go_roundw
          case rel => exact ⟨k + 1, false, by omega, by go_num, rfl, HP, hB.alloc hBs _⟩
          case measure => (simp [intOf] <;> omega)
        · have HP := hide (show (false = true ↔ ((0 ≤ N ∧ N ≤ 300 ∧ es.length ≤ 4800) ∧ ∀ j e, j < k + 1 → es[j]? = some e → EdgeOk N e)) from ⟨(fun h1 => by cases h1), fun h1 => by have := h1.2 k _ (by omega) HX.out; unfold EdgeOk at this; simp only at this; omega⟩)
          have d1 : decide (-1048576 ≤ z) = false := by simp; omega
          go_wp2
          go_roundw
          case rel => exact ⟨k + 1, false, by omega, by go_num, rfl, HP, hB.alloc hBs _⟩
          case measure => (simp [intOf] <;> omega)
        · have HP := hide (show (false = true ↔ ((0 ≤ N ∧ N ≤ 300 ∧ es.length ≤ 4800) ∧ ∀ j e, j < k + 1 → es[j]? = some e → EdgeOk N e)) from ⟨(fun h1 => by cases h1), fun h1 => by have := h1.2 k _ (by omega) HX.out; unfold EdgeOk at this; simp only at this; omega⟩)
          have d1 : decide (z ≤ 1048576) = false := by simp; omega
          go_wp2
          go_roundw
          case rel => exact ⟨k + 1, false, by omega, by go_num, rfl, HP, hB.alloc hBs _⟩
          case measure => (simp [intOf] <;> omega)
        · have HP := hide (show (0 ≤ N ∧ N ≤ 300 ∧ es.length ≤ 4800) ∧ ∀ j e, j < k + 1 → es[j]? = some e → EdgeOk N e from ⟨(HA.out.1 rfl).1, fun j e hj he => by
            rcases (show j < k ∨ j = k by omega) with h4 | rfl
            · exact (HA.out.1 rfl).2 j e h4 he
            · have := HX.out; rw [he] at this; injection this with this; subst this; unfold EdgeOk; simp only; omega⟩)
          have d4 : decide (z ≤ 1048576) = true := by simp; omega
          go_wp2
          go_roundw
          case rel => exact ⟨k + 1, true, by omega, by go_num, rfl, hide ⟨fun _ => HP.out, fun _ => rfl⟩, hB.alloc hBs _⟩
          case measure => (simp [intOf] <;> omega)
    · obtain rfl : k = n := by omega
      clear h
      cases p
      · have HF := hide (show ¬ GraphOk N es from fun hg => by have := HA.out.2 ⟨hg.1, fun j e _ he => hg.2 e (List.mem_of_getElem? he)⟩; cases this)
        go_wp2
        go_ret
        exact ⟨isWrong2 HF.out, HBB.out⟩
      · have HF := hide (show GraphOk N es from ⟨(HA.out.1 rfl).1, fun e he => by
          obtain ⟨j, hj, rfl⟩ := List.getElem_of_mem he
          exact (HA.out.1 rfl).2 j _ (by rw [HL.out] at hj; exact hj) (List.getElem?_eq_getElem hj)⟩)
        go_wp2
        go_ret
        exact ⟨isWrong0 HF.out, HBB.out⟩

theorem qwrong_any (N : Int) (a : Option Addr) (n c : Nat) (es : List GE) (w : World) (h : EdgesAt w a n c es) :
    Calls Try.prog 42 #[.agg #[.int .i64 N, .slice a n c]] w fun e w' => IsWrong N es e ∧ Below w.heap.size w w' := by
  rcases (show N < 0 ∨ (0 ≤ N ∧ 300 < N) ∨ (0 ≤ N ∧ N ≤ 300 ∧ 4800 < n) ∨ (0 ≤ N ∧ N ≤ 300 ∧ n ≤ 4800) by omega) with h1 | ⟨h1, h2⟩ | ⟨h1, h2, h3⟩ | ⟨h1, h2, h3⟩
  · exact qwrong_0 _ _ _ _ _ _ h h1
  · exact qwrong_1 _ _ _ _ _ _ h h1 h2
  · exact qwrong_2 _ _ _ _ _ _ h h1 h2 h3
  · exact qwrong_3 _ _ _ _ _ _ h h1 h2 h3

end Go.Proofs.Ythjicnddfjpnjaa
