/-
  WALKS: the reference's QWeigh.
-/
import Derived.Test.YthjicnddfjpnjaaPWeigh
import Derived.Test.YthjicnddfjpnjaaQWrong
import Derived.IntWalk
namespace Go.Proofs.Ythjicnddfjpnjaa
open Go.RowKit
set_option linter.unusedSimpArgs false
set_option linter.unusedVariables false

attribute [local go_sem] iteMin iteMax iteMinN iteMaxN

set_option maxRecDepth 100000 in
set_option maxHeartbeats 8000000 in
theorem qweigh_bad (N : Int) (a : Option Addr) (n c : Nat) (es : List GE) (a' : Option Addr) (n' c' : Nat) (ns : List Int) (w : World) (h : EdgesAt w a n c es) (hg : ¬ GraphOk N es) :
    Calls Try.prog 22 #[.agg #[.int .i64 N, .slice a n c], .slice a' n' c'] w fun e w' => WeighEnds N es ns e ∧ Below w.heap.size w w' := by
  have HG := hide hg
  have hE := h.below ((Below.refl w.heap.size w).alloc (Nat.le_refl _) (.cells #[.int .i64 N, .slice a n c] 39))
  clear hg h
  go_enter Try.func22, Try.ntmps22
  go_wp2_with fail
  refine (qwrong_any _ _ _ _ _ _ hE).mono ?_
  rintro e w1 ⟨⟨r, hr, rfl⟩, B1⟩
  obtain rfl : r = 2 := by rcases hr with ⟨_, h2⟩ | ⟨h1, _⟩; exact absurd h2 HG.out; exact h1
  clear hr hE
  go_wp2
  go_ret2
  exact ⟨weighEnds (.inl ⟨HG.out, rfl, rfl⟩), ((Below.refl _ _).alloc (Nat.le_refl _) _).trans (B1.mono (by simp))⟩

set_option maxRecDepth 100000 in
set_option maxHeartbeats 8000000 in
theorem qweigh_ok (N : Int) (a : Option Addr) (n c : Nat) (es : List GE) (a' : Option Addr) (n' c' : Nat) (ns : List Int) (w : World) (h : EdgesAt w a n c es) (h' : IntsAt w a' n' c' ns) (hg : GraphOk N es) :
    Calls Try.prog 22 #[.agg #[.int .i64 N, .slice a n c], .slice a' n' c'] w fun e w' => WeighEnds N es ns e ∧ Below w.heap.size w w' := by
  have HG := hide hg
  have HL := hide h.len
  have HL' := hide h'.len
  have hlim' := h'.lim
  have hn4 : (n : Int) ≤ 4800 := by have := hg.1.2.2; rw [h.len] at this; omega
  obtain ⟨W, hW⟩ : ∃ W, W = w.alloc (.cells #[.int .i64 N, .slice a n c] 39) := ⟨_, rfl⟩
  have hWB : Below w.heap.size w W := by rw [hW]; exact (Below.refl _ _).alloc (Nat.le_refl _) _
  have hWs : W.heap.size = w.heap.size + 1 := by rw [hW]; simp
  have e0 : W.cell? ⟨w.heap.size, 0, none⟩ = some (.int .i64 N) := by rw [hW]; simp [go_sem]
  have e1 : W.cell? ⟨w.heap.size, 1, none⟩ = some (.slice a n c) := by rw [hW]; simp [go_sem]
  have hE := h.below hWB
  have hI := h'.below hWB
  clear hg h h'
  go_enter Try.func22, Try.ntmps22
  go_wp2_with fail
  rw [← hW]
  clear hW
  refine (qwrong_any _ _ _ _ _ _ hE).mono ?_
  rintro e w1 ⟨⟨r, hr, rfl⟩, B1⟩
  obtain rfl : r = 0 := by rcases hr with ⟨h1, _⟩ | ⟨_, h2⟩; exact h1; exact absurd HG.out h2
  have b1 : w1.cell? ⟨w.heap.size, 1, none⟩ = some (.slice a n c) := (B1.cell (by show w.heap.size < _; omega)).trans e1
  have hE1 := hE.below B1
  have hI1 := hI.below B1
  have HBw := hide (hWB.trans (B1.mono (by omega)))
  have hs1 : w.heap.size < w1.heap.size := by have := B1.size; omega
  have hs2 : w.heap.size ≤ w1.heap.size := by omega
  clear hr hE hI e0 e1 B1 hWB hWs
  go_wp2
  go_loopw [7, 8, 18] (fun s at' i wr => ∃ k : Nat, ∃ z : Int, k ≤ n' ∧ i = .int .i64 k ∧ s = .int .i64 (wI es ns k) ∧ at' = .int .i64 z ∧ Hid ((k = 0 ∧ z = -1) ∨ ∃ q m e, k = q + 1 ∧ ns[q]? = some ((m : Nat) : Int) ∧ es[m]? = some e ∧ z = e.dst) ∧ Hid (∀ j, j < k → StepOk es ns j) ∧ Below w1.heap.size w1 wr) (fun _ _ i _ => n' - (intOf i).toNat)
  case atStart => exact ⟨0, -1, Nat.zero_le _, rfl, rfl, rfl, hide (.inl ⟨rfl, rfl⟩), hide fun j hj => absurd hj (by omega), Below.refl _ _⟩
  case round =>
    obtain ⟨k, z, hk, rfl, rfl, rfl, HZ, HA, hB⟩ := hrel
    have k0 : (0 : Int) ≤ (k : Int) := Int.natCast_nonneg _
    have HFin := hide (HBw.out.trans (hB.mono hs2))
    by_cases hlt : k < n'
    · have k1 : (k : Int) < (n' : Int) := by omega
      have c1 : wr.cell? ⟨w.heap.size, 1, none⟩ = some (.slice a n c) := (hB.cell (by exact hs1)).trans b1
      clear b1
      obtain ⟨ad, x, rfl, hbd, hc, HX⟩ := hI1.getB hB hlt
      clear hI1
      rcases (show x < 0 ∨ (n : Int) ≤ x ∨ ∃ m : Nat, x = (m : Int) ∧ m < n from by rcases (show x < 0 ∨ (n : Int) ≤ x ∨ (0 ≤ x ∧ x < n) by omega) with h | h | ⟨h1, h2⟩; exact .inl h; exact .inr (.inl h); exact .inr (.inr ⟨x.toNat, by omega, by omega⟩)) with hx | hx | ⟨m, rfl, hm⟩
      · have HF := hide (show ¬ StepOk es ns k from by
          rintro ⟨m', e3, h1, h2, h3⟩
          have h9 := HX.out; rw [h1] at h9; injection h9 with h9
          have h8 := (List.getElem?_eq_some_iff.1 h2).1; rw [HL.out] at h8; omega)
        go_wp2
        go_ret2
        exact ⟨weighEnds (.inr (.inr ⟨HG.out, ⟨k, by rw [HL'.out]; exact hlt, HF.out⟩, rfl, rfl⟩)), HFin.out⟩
      · have hx1 : 0 ≤ x := by omega
        have hx2 : decide (x < 0) = false := decide_eq_false (by omega)
        have HF := hide (show ¬ StepOk es ns k from by
          rintro ⟨m', e3, h1, h2, h3⟩
          have h9 := HX.out; rw [h1] at h9; injection h9 with h9
          have h8 := (List.getElem?_eq_some_iff.1 h2).1; rw [HL.out] at h8; omega)
        go_wp2
        go_ret2
        exact ⟨weighEnds (.inr (.inr ⟨HG.out, ⟨k, by rw [HL'.out]; exact hlt, HF.out⟩, rfl, rfl⟩)), HFin.out⟩
      · obtain ⟨ad2, e2, rfl, _, he, d0, d1, d2⟩ := hE1.src_ hB hm
        have HE := hide he
        have HWI := hide (wI_succ HX.out he)
        have hz0 : -1 ≤ z := by
          rcases HZ.out with ⟨_, h2⟩ | ⟨q, m', e, _, _, h3, h4⟩
          · omega
          · have := (HG.out.2 _ (List.mem_of_getElem? h3)); unfold EdgeOk at this; omega
        have m0 : (0 : Int) ≤ (m : Int) := Int.natCast_nonneg _
        have m1 : (m : Int) < (n : Int) := by omega
        have m2 : decide ((m : Int) < 0) = false := decide_eq_false (by omega)
        have m3 : decide ((n : Int) ≤ (m : Int)) = false := decide_eq_false (by omega)
        have m4 : decide (n ≤ m) = false := decide_eq_false (by omega)
        have HNZ := hide (show (k + 1 = 0 ∧ e2.dst = -1) ∨ ∃ q m e, k + 1 = q + 1 ∧ ns[q]? = some ((m : Nat) : Int) ∧ es[m]? = some e ∧ e2.dst = e.dst from .inr ⟨k, m, e2, rfl, HX.out, he, rfl⟩)
        clear hE1 he
        rcases (show z = -1 ∨ 0 ≤ z by omega) with hz | hz
        · have HS := hide (show StepOk es ns k from by
            refine ⟨m, e2, HX.out, HE.out, .inl ?_⟩
            rcases HZ.out with ⟨h1, _⟩ | ⟨q, m', e, _, _, h3, h4⟩
            · exact h1
            · have := (HG.out.2 _ (List.mem_of_getElem? h3)); unfold EdgeOk at this; omega)
          subst hz
          go_wp2
          go_quiet (fail)
          go_wp2
          go_roundw
          case rel => exact ⟨k + 1, e2.dst, by omega, by go_num, by rw [HWI.out]; first | rfl | simp only [IntWalk.i64_left], rfl, HNZ, hide fun j hj => by
            rcases (show j < k ∨ j = k by omega) with h4 | rfl
            · exact HA.out j h4
            · exact HS.out, below_drewN hB _⟩
          case measure => (simp [intOf] <;> omega)
        · by_cases hd : e2.src = z
          · have HS := hide (show StepOk es ns k from by
              refine ⟨m, e2, HX.out, HE.out, ?_⟩
              rcases HZ.out with ⟨h1, _⟩ | ⟨q, m', e, h1, h2, h3, h4⟩
              · exact .inl h1
              · subst h1; exact .inr ⟨m', e, h2, h3, by rw [← h4, hd]⟩)
            have hd2 : (e2.src != z) = false := by simp [hd]
            have hz2 : decide (0 ≤ z) = true := decide_eq_true hz
            clear hd
            go_wp2
            go_quiet (fail)
            go_wp2
            go_roundw
            case rel => exact ⟨k + 1, e2.dst, by omega, by go_num, by rw [HWI.out]; first | rfl | simp only [IntWalk.i64_left], rfl, HNZ, hide fun j hj => by
              rcases (show j < k ∨ j = k by omega) with h4 | rfl
              · exact HA.out j h4
              · exact HS.out, below_drewN hB _⟩
            case measure => (simp [intOf] <;> omega)
          · have HF := hide (show ¬ StepOk es ns k from by
              rintro ⟨m', e3, h1, h2, h3⟩
              have h9 := HX.out; rw [h1] at h9; injection h9 with h9
              obtain rfl : m' = m := by omega
              have h8 := HE.out; rw [h2] at h8; injection h8 with h8; subst h8
              rcases HZ.out with ⟨h4, h5⟩ | ⟨q, p, e, h4, h5, h6, h7⟩
              · omega
              · subst h4
                rcases h3 with h3 | ⟨p', e5, g4, g5, g6⟩
                · omega
                · simp only [Nat.add_sub_cancel] at g4
                  rw [h5] at g4; injection g4 with g4
                  obtain rfl : p = p' := by omega
                  rw [h6] at g5; injection g5 with g5; subst g5
                  exact hd (by rw [h7, g6]))
            have hd2 : (e2.src != z) = true := by simp [hd]
            have hz2 : decide (0 ≤ z) = true := decide_eq_true hz
            clear hd
            go_wp2
            go_ret2
            exact ⟨weighEnds (.inr (.inr ⟨HG.out, ⟨k, by rw [HL'.out]; exact hlt, HF.out⟩, rfl, rfl⟩)), HFin.out⟩
    · obtain rfl : k = n' := by omega
      clear hI1 hE1
      go_wp2
      go_ret2
      exact ⟨weighEnds (.inr (.inl ⟨HG.out, fun j hj => HA.out j (by rw [HL'.out] at hj; exact hj), by rw [HL'.out], rfl⟩)), HFin.out⟩

end Go.Proofs.Ythjicnddfjpnjaa
