/-
  WALKS: potential.Weigh.
-/
import Derived.Test.YtdlljemabbccjaaPWeigh
import Derived.Test.YtdlljemabbccjaaWrong
import Derived.IntWalk
namespace Go.Proofs.Ytdlljemabbccjaa
open Go.RowKit
set_option linter.unusedSimpArgs false
set_option linter.unusedVariables false

attribute [local go_sem] iteMin iteMax iteMinN iteMaxN

set_option maxRecDepth 100000 in
set_option maxHeartbeats 8000000 in
theorem weigh_bad (N : Int) (a : Option Addr) (n c : Nat) (es : List GE) (a' : Option Addr) (n' c' : Nat) (ns : List Int) (w : World) (h : EdgesAt w a n c es) (hg : ¬ GraphOk N es) :
    Calls Try.prog 48 #[.agg #[.int .i64 N, .slice a n c], .slice a' n' c'] w fun e w' => WeighEnds N es ns e ∧ Below w.heap.size w w' := by
  have HG := hide hg
  have hE := h.below ((Below.refl w.heap.size w).alloc (Nat.le_refl _) (.cells #[.int .i64 N, .slice a n c] 61))
  clear hg h
  go_enter Try.func48, Try.ntmps48
  go_wp2_with fail
  refine (wrong_any _ _ _ _ _ _ hE).mono ?_
  rintro e w1 ⟨⟨r, hr, rfl⟩, B1⟩
  obtain rfl : r = 2 := by rcases hr with ⟨_, h2⟩ | ⟨h1, _⟩; exact absurd h2 HG.out; exact h1
  clear hr hE
  go_wp2
  go_ret2
  exact ⟨weighEnds (.inl ⟨HG.out, rfl, rfl⟩), ((Below.refl _ _).alloc (Nat.le_refl _) _).trans (B1.mono (by simp))⟩

set_option maxRecDepth 100000 in
set_option maxHeartbeats 8000000 in
theorem weigh_ok (N : Int) (a : Option Addr) (n c : Nat) (es : List GE) (a' : Option Addr) (n' c' : Nat) (ns : List Int) (w : World) (h : EdgesAt w a n c es) (h' : IntsAt w a' n' c' ns) (hg : GraphOk N es) :
    Calls Try.prog 48 #[.agg #[.int .i64 N, .slice a n c], .slice a' n' c'] w fun e w' => WeighEnds N es ns e ∧ Below w.heap.size w w' := by
  have HG := hide hg
  have HL := hide h.len
  have HL' := hide h'.len
  have hlim' := h'.lim
  have hn4 : (n : Int) ≤ 4800 := by have := hg.1.2.2; rw [h.len] at this; omega
  obtain ⟨W, hW⟩ : ∃ W, W = w.alloc (.cells #[.int .i64 N, .slice a n c] 61) := ⟨_, rfl⟩
  have hWB : Below w.heap.size w W := by rw [hW]; exact (Below.refl _ _).alloc (Nat.le_refl _) _
  have hWs : W.heap.size = w.heap.size + 1 := by rw [hW]; simp
  have e0 : W.cell? ⟨w.heap.size, 0, none⟩ = some (.int .i64 N) := by rw [hW]; simp [go_sem]
  have e1 : W.cell? ⟨w.heap.size, 1, none⟩ = some (.slice a n c) := by rw [hW]; simp [go_sem]
  have hE := h.below hWB
  have hI := h'.below hWB
  clear hg h h'
  go_enter Try.func48, Try.ntmps48
  go_wp2_with fail
  rw [← hW]
  clear hW
  refine (wrong_any _ _ _ _ _ _ hE).mono ?_
  rintro e w1 ⟨⟨r, hr, rfl⟩, B1⟩
  obtain rfl : r = 0 := by rcases hr with ⟨h1, _⟩ | ⟨_, h2⟩; exact h1; exact absurd HG.out h2
  have b1 : w1.cell? ⟨w.heap.size, 1, none⟩ = some (.slice a n c) := (B1.cell (by show w.heap.size < _; omega)).trans e1
  have hE1 := hE.below B1
  have hI1 := hI.below B1
  have HBw := hide (hWB.trans (B1.mono (by omega)))
  have hs1 : w.heap.size < w1.heap.size := by have := B1.size; omega
  have hs2 : w.heap.size ≤ w1.heap.size := by omega
  clear hr hE hI e0 e1 B1 hWB hWs
  go_wp2
  go_loopw [7, 17] (fun s i wr => ∃ k : Nat, k ≤ n' ∧ i = .int .i64 k ∧ s = .int .i64 (wI es ns k) ∧ Hid (∀ j, j < k → StepOk es ns j) ∧ Below w1.heap.size w1 wr) (fun _ i _ => n' - (intOf i).toNat)
  case atStart => exact ⟨0, Nat.zero_le _, rfl, rfl, hide fun j hj => absurd hj (by omega), Below.refl _ _⟩
  case round =>
    obtain ⟨k, hk, rfl, rfl, HA, hB⟩ := hrel
    have k0 : (0 : Int) ≤ (k : Int) := Int.natCast_nonneg _
    by_cases hlt : k < n'
    · have k1 : (k : Int) < (n' : Int) := by omega
      have c1 : wr.cell? ⟨w.heap.size, 1, none⟩ = some (.slice a n c) := (hB.cell (by exact hs1)).trans b1
      have HFin := hide (HBw.out.trans (hB.mono hs2))
      clear b1
      rcases (show k = 0 ∨ ∃ q, k = q + 1 from by cases k with | zero => exact .inl rfl | succ j => exact .inr ⟨j, rfl⟩) with h0 | ⟨q, h0⟩
      · subst h0
        obtain ⟨ad, x, rfl, hbd, hc, HX⟩ := hI1.get0 hB hlt
        clear hI1
        rcases (show x < 0 ∨ (n : Int) ≤ x ∨ ∃ m : Nat, x = (m : Int) ∧ m < n from by rcases (show x < 0 ∨ (n : Int) ≤ x ∨ (0 ≤ x ∧ x < n) by omega) with h | h | ⟨h1, h2⟩; exact .inl h; exact .inr (.inl h); exact .inr (.inr ⟨x.toNat, by omega, by omega⟩)) with hx | hx | ⟨m, rfl, hm⟩
        · have HF := hide (show ¬ StepOk es ns 0 from by
            rintro ⟨m', e3, h1, h2, h3⟩
            have h9 := HX.out; rw [h1] at h9; injection h9 with h9
            have h8 := (List.getElem?_eq_some_iff.1 h2).1; rw [HL.out] at h8; omega)
          have hx0 : ¬ (x < 0 ∧ (n : Int) ≤ x) := by omega
          clear hx0
          go_wp2
          go_quiet (fail)
          go_wp2
          go_ret2
          exact ⟨weighEnds (.inr (.inr ⟨HG.out, ⟨0, by rw [HL'.out]; exact hlt, HF.out⟩, rfl, rfl⟩)), below_drewN HFin.out _⟩
        · have hx1 : 0 ≤ x := by omega
          have hx2 : decide (x < 0) = false := decide_eq_false (by omega)
          have hx3 : decide ((n : Int) ≤ x) = true := decide_eq_true (by omega)
          have HF := hide (show ¬ StepOk es ns 0 from by
            rintro ⟨m', e3, h1, h2, h3⟩
            have h9 := HX.out; rw [h1] at h9; injection h9 with h9
            have h8 := (List.getElem?_eq_some_iff.1 h2).1; rw [HL.out] at h8; omega)
          have hx0 : ¬ (x < 0 ∧ (n : Int) ≤ x) := by omega
          clear hx0
          go_wp2
          go_quiet (fail)
          go_wp2
          go_ret2
          exact ⟨weighEnds (.inr (.inr ⟨HG.out, ⟨0, by rw [HL'.out]; exact hlt, HF.out⟩, rfl, rfl⟩)), below_drewN HFin.out _⟩
        · obtain ⟨ad2, e2, rfl, _, he, d0, d1, d2⟩ := hE1.src_ hB hm
          have HE := hide he
          have HS := hide (show StepOk es ns 0 from ⟨m, e2, HX.out, he, .inl rfl⟩)
          have HWI := hide (wI_succ HX.out he)
          have m0 : (0 : Int) ≤ (m : Int) := Int.natCast_nonneg _
          have m1 : (m : Int) < (n : Int) := by omega
          have m2 : decide ((m : Int) < 0) = false := by simp
          have m3 : decide ((n : Int) ≤ (m : Int)) = false := decide_eq_false (by omega)
          have m4 : decide (n ≤ m) = false := decide_eq_false (by omega)
          clear hE1 he
          go_wp2
          go_quiet (fail)
          go_wp2
          go_roundw
          case rel => exact ⟨1, by omega, by go_num, by rw [HWI.out]; first | rfl | simp only [IntWalk.i64_left], hide fun j hj => by
            rcases (show j < 0 ∨ j = 0 by omega) with h4 | rfl
            · exact HA.out j h4
            · exact HS.out, below_drewN hB _⟩
          case measure => (simp [intOf] <;> omega)
      · subst h0
        obtain ⟨ad, x, rfl, hbd, hc, HX⟩ := hI1.getS hB hlt
        obtain ⟨p, e', hp, hep, _⟩ := HA.out q (by omega)
        have hpn : p < n := by have := (List.getElem?_eq_some_iff.1 hep).1; rw [HL.out] at this; exact this
        obtain ⟨ad3, x3, he3, hbd3, hc3, HX3⟩ := hI1.getB hB (show q < n' by omega)
        obtain rfl : ad3 = ad := by injection he3 with he3; exact he3.symm
        obtain rfl : x3 = (p : Int) := by have := HX3.out; rw [hp] at this; injection this with this; exact this.symm
        obtain ⟨ad4, e4, rfl, _, he4, f0, f1, f2⟩ := hE1.src_ hB hpn
        obtain rfl : e' = e4 := by rw [hep] at he4; injection he4
        have HEP := hide hep
        have q0 : (0 : Int) ≤ (q : Int) := Int.natCast_nonneg _
        have q1 : (0 : Int) < (q : Int) + 1 := by omega
        have q4 : decide ((0 : Int) < (q : Int) + 1) = true := decide_eq_true (by omega)
        have q2 : (q : Int) < (n' : Int) := by omega
        have q3 : (q : Int) + 1 < (n' : Int) := by omega
        have hw1 : IntKind.i64.wrap ((q : Int) + 1 - 1) = (q : Int) := by rw [show (q : Int) + 1 - 1 = (q : Int) by omega]; exact IntWalk.i64_in _ (by omega)
        have hw2 : IntKind.i64.wrap (q : Int) = (q : Int) := IntWalk.i64_in _ (by omega)
        have p0 : (0 : Int) ≤ (p : Int) := Int.natCast_nonneg _
        have p1 : (p : Int) < (n : Int) := by omega
        clear hI1 hep he4 hp he3
        rcases (show x < 0 ∨ (n : Int) ≤ x ∨ ∃ m : Nat, x = (m : Int) ∧ m < n from by rcases (show x < 0 ∨ (n : Int) ≤ x ∨ (0 ≤ x ∧ x < n) by omega) with h | h | ⟨h1, h2⟩; exact .inl h; exact .inr (.inl h); exact .inr (.inr ⟨x.toNat, by omega, by omega⟩)) with hx | hx | ⟨m, rfl, hm⟩
        · clear hw1 hw2
          have HF := hide (show ¬ StepOk es ns (q + 1) from by
            rintro ⟨m', e3, h1, h2, h3⟩
            have h9 := HX.out; rw [h1] at h9; injection h9 with h9
            have h8 := (List.getElem?_eq_some_iff.1 h2).1; rw [HL.out] at h8; omega)
          have hx0 : ¬ (x < 0 ∧ (n : Int) ≤ x) := by omega
          clear hx0
          go_wp2
          go_quiet (fail)
          go_wp2
          go_ret2
          exact ⟨weighEnds (.inr (.inr ⟨HG.out, ⟨(q + 1), by rw [HL'.out]; exact hlt, HF.out⟩, rfl, rfl⟩)), below_drewN HFin.out _⟩
        · clear hw1 hw2
          have hx1 : 0 ≤ x := by omega
          have hx2 : decide (x < 0) = false := decide_eq_false (by omega)
          have hx3 : decide ((n : Int) ≤ x) = true := decide_eq_true (by omega)
          have HF := hide (show ¬ StepOk es ns (q + 1) from by
            rintro ⟨m', e3, h1, h2, h3⟩
            have h9 := HX.out; rw [h1] at h9; injection h9 with h9
            have h8 := (List.getElem?_eq_some_iff.1 h2).1; rw [HL.out] at h8; omega)
          have hx0 : ¬ (x < 0 ∧ (n : Int) ≤ x) := by omega
          clear hx0
          go_wp2
          go_quiet (fail)
          go_wp2
          go_ret2
          exact ⟨weighEnds (.inr (.inr ⟨HG.out, ⟨(q + 1), by rw [HL'.out]; exact hlt, HF.out⟩, rfl, rfl⟩)), below_drewN HFin.out _⟩
        · obtain ⟨ad2, e2, he2, _, he, d0, d1, d2⟩ := hE1.src_ hB hm
          obtain rfl : ad2 = ad4 := by injection he2 with he2; exact he2.symm
          have HE := hide he
          have m0 : (0 : Int) ≤ (m : Int) := Int.natCast_nonneg _
          have m1 : (m : Int) < (n : Int) := by omega
          have m2 : decide ((m : Int) < 0) = false := by simp
          have m3 : decide ((n : Int) ≤ (m : Int)) = false := decide_eq_false (by omega)
          have m4 : decide (n ≤ m) = false := decide_eq_false (by omega)
          clear hE1 he2
          by_cases hd : e'.dst = e2.src
          · have HS := hide (show StepOk es ns (q + 1) from ⟨m, e2, HX.out, he, .inr ⟨p, e', HX3.out, HEP.out, hd⟩⟩)
            have HWI := hide (wI_succ HX.out he)
            have hd2 : (e'.dst != e2.src) = false := by simp [hd]
            have hd3 : (e2.src != e2.src) = false := by simp
            rw [hd] at f1
            clear he hd
            go_wp2
            go_quiet (fail)
            clear hw1 hw2
            go_wp2
            go_roundw
            case rel => exact ⟨q + 1 + 1, by omega, by go_num, by rw [HWI.out]; first | rfl | simp only [IntWalk.i64_left], hide fun j hj => by
              rcases (show j < q + 1 ∨ j = q + 1 by omega) with h4 | rfl
              · exact HA.out j h4
              · exact HS.out, below_drewN hB _⟩
            case measure => (simp [intOf] <;> omega)
          · have HF := hide (show ¬ StepOk es ns (q + 1) from by
              rintro ⟨m', e3, h1, h2, h3⟩
              have := HX.out; rw [h1] at this; injection this with this
              obtain rfl : m' = m := by omega
              have := HE.out; rw [h2] at this; injection this with this; subst this
              rcases h3 with h3 | ⟨p', e5, h4, h5, h6⟩
              · omega
              · simp only [Nat.add_sub_cancel] at h4
                have := HX3.out; rw [h4] at this; injection this with this
                obtain rfl : p' = p := by omega
                have := HEP.out; rw [h5] at this; injection this with this; subst this
                exact hd h6)
            have hd2 : (e'.dst != e2.src) = true := by simp [hd]
            clear he hd
            go_wp2
            go_quiet (fail)
            clear hw1 hw2
            go_wp2
            go_ret2
            exact ⟨weighEnds (.inr (.inr ⟨HG.out, ⟨q + 1, by rw [HL'.out]; exact hlt, HF.out⟩, rfl, rfl⟩)), below_drewN HFin.out _⟩
    · obtain rfl : k = n' := by omega
      have HFin := hide (HBw.out.trans (hB.mono hs2))
      clear hI1 hE1
      go_wp2
      go_ret2
      exact ⟨weighEnds (.inr (.inl ⟨HG.out, fun j hj => HA.out j (by rw [HL'.out] at hj; exact hj), by rw [HL'.out], rfl⟩)), HFin.out⟩

end Go.Proofs.Ytdlljemabbccjaa
