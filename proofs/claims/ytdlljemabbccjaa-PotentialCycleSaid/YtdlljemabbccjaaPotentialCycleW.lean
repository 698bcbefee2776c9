/-
  THE WALK of PotentialCycle.
-/
import Derived.Test.YtdlljemabbccjaaCycle
import Derived.Test.YtdlljemabbccjaaQMost
import Derived.Test.YtdlljemabbccjaaQWeigh
import Derived.Test.YtdlljemabbccjaaQWrong
import Derived.Test.YtdlljemabbccjaaMem
namespace Go.Proofs.Ytdlljemabbccjaa
open Go.RowKit
set_option linter.unusedSimpArgs false
set_option linter.unusedVariables false

attribute [local go_sem] iteMin iteMax iteMinN iteMaxN

set_option maxRecDepth 100000 in
set_option maxHeartbeats 4000000 in
theorem pc_bad (w : World) (N : Int) (a : Option Addr) (n c : Nat) (es : List GE) (h : EdgesAt w a n c es) (hg : ¬ GraphOk N es) :
    Calls Try.prog 11 #[.agg #[.int .i64 N, .slice a n c]] w fun e w' => e = .returned (.bool true) ∧ Below w.heap.size w w' := by
  obtain ⟨G, hG⟩ : ∃ G, w.heap.size = G := ⟨_, rfl⟩
  obtain ⟨W, hW⟩ : ∃ W, W = w.alloc (.cells #[.int .i64 N, .slice a n c] 61) := ⟨_, rfl⟩
  have hWB : Below w.heap.size w W := by rw [hW]; exact (Below.refl _ _).alloc (Nat.le_refl _) _
  have hWs : W.heap.size = G + 1 := by rw [hW, ← hG]; simp
  have e0 : W.cell? ⟨G, 0, none⟩ = some (.int .i64 N) := by rw [hW, ← hG]; simp [go_sem]
  have e1 : W.cell? ⟨G, 1, none⟩ = some (.slice a n c) := by rw [hW, ← hG]; simp [go_sem]
  have hE := h.below hWB
  have HG := hide hg
  have HGs := hide hG
  have C0 := hide hWB
  clear hg h hWB
  go_enter Try.func11, Try.ntmps11
  rw [hG]
  go_wp2_with fail
  (try rw [hG])
  rw [← hW]
  clear hW
  have hG1 : G < W.heap.size := by omega
  refine (cycle_bad _ _ _ _ _ _ hE HG.out).mono ?_
  rintro e w1 ⟨hm, B1⟩
  obtain rfl : e = .returned (.tuple #[.slice none 0 0, .int .i64 2]) := by
    rcases hm with ⟨_, h1⟩ | ⟨h1, _⟩ | ⟨h1, _⟩
    · exact h1
    · exact absurd h1 HG.out
    · exact absurd h1 HG.out
  have a10 := (B1.cell hG1).trans e0
  have a11 := (B1.cell hG1).trans e1
  have hE1 := hE.below B1
  have C1 := hide (C0.out.trans (B1.mono C0.out.size))
  have hG2 : G < w1.heap.size := by have := B1.size; omega
  clear hm e0 e1 hE B1 hG1
  go_wp2_with fail
  refine (qwrong_any _ _ _ _ _ _ hE1).mono ?_
  rintro e w2 ⟨⟨r, hr, rfl⟩, B2⟩
  obtain rfl : r = 2 := by rcases hr with ⟨_, h2⟩ | ⟨h1, _⟩; exact absurd h2 HG.out; exact h1
  have a20 := (B2.cell hG2).trans a10
  have a21 := (B2.cell hG2).trans a11
  have hE2 := hE1.below B2
  have C2 := hide (C1.out.trans (B2.mono C1.out.size))
  have hG3 : G < w2.heap.size := by have := B2.size; omega
  clear hr a10 a11 hE1 B2 hG2
  go_wp2
  go_ret
  exact ⟨by first | rfl | simp, by rw [← HGs.out]; exact C2.out⟩

set_option maxRecDepth 100000 in
set_option maxHeartbeats 4000000 in
theorem pc_ok (w : World) (N : Nat) (a : Option Addr) (n c : Nat) (es : List GE) (h : EdgesAt w a n c es) (hg : GraphOk (N : Int) es) :
    Calls Try.prog 11 #[.agg #[.int .i64 N, .slice a n c]] w fun e w' => e = .returned (.bool true) ∧ Below w.heap.size w w' := by
  obtain ⟨G, hG⟩ : ∃ G, w.heap.size = G := ⟨_, rfl⟩
  obtain ⟨W, hW⟩ : ∃ W, W = w.alloc (.cells #[.int .i64 N, .slice a n c] 61) := ⟨_, rfl⟩
  have hWB : Below w.heap.size w W := by rw [hW]; exact (Below.refl _ _).alloc (Nat.le_refl _) _
  have hWs : W.heap.size = G + 1 := by rw [hW, ← hG]; simp
  have e0 : W.cell? ⟨G, 0, none⟩ = some (.int .i64 N) := by rw [hW, ← hG]; simp [go_sem]
  have e1 : W.cell? ⟨G, 1, none⟩ = some (.slice a n c) := by rw [hW, ← hG]; simp [go_sem]
  have hE := h.below hWB
  have HG := hide hg
  have HGs := hide hG
  have C0 := hide hWB
  clear hg h hWB
  go_enter Try.func11, Try.ntmps11
  rw [hG]
  go_wp2_with fail
  (try rw [hG])
  rw [← hW]
  clear hW
  have hG1 : G < W.heap.size := by omega
  refine (cycle_ok _ _ _ _ _ _ hE HG.out).mono ?_
  rintro e w1 ⟨hm, B1⟩
  have a10 := (B1.cell hG1).trans e0
  have a11 := (B1.cell hG1).trans e1
  have hE1 := hE.below B1
  have C1 := hide (C0.out.trans (B1.mono C0.out.size))
  have hG2 : G < w1.heap.size := by have := B1.size; omega
  clear e0 e1 hE B1 hG1
  rcases hm with ⟨h1, _⟩ | ⟨_, hp, rfl⟩ | ⟨_, hp, b, m, d, ns, rfl, hI1, hcy⟩
  · exact absurd HG.out h1
  · have HP := hide hp
    clear hp
    go_wp2_with fail
    refine (qwrong_any _ _ _ _ _ _ hE1).mono ?_
    rintro e w2 ⟨⟨r, hr, rfl⟩, B2⟩
    obtain rfl : r = 0 := by rcases hr with ⟨h1, _⟩ | ⟨_, h2⟩; exact h1; exact absurd HG.out h2
    have a20 := (B2.cell hG2).trans a10
    have a21 := (B2.cell hG2).trans a11
    have hE2 := hE1.below B2
    have C2 := hide (C1.out.trans (B2.mono C1.out.size))
    have hG3 : G < w2.heap.size := by have := B2.size; omega
    clear hr a10 a11 hE1 B2 hG2
    go_wp2_with fail
    refine (qmost_any _ _ _ _ _ _ hE2 HG.out).mono ?_
    rintro e w3 ⟨hq, B3⟩
    have C3 := hide (C2.out.trans (B3.mono C2.out.size))
    rcases hq with ⟨_, b', d', rfl, hJ⟩ | ⟨h1, _⟩
    case inr => exact absurd HP.out h1
    clear hJ B3 hE2 a20 a21 hG3
    go_wp2
    go_ret
    exact ⟨by first | rfl | simp, by rw [← HGs.out]; exact C3.out⟩
  · have HP := hide hp
    have HCY := hide hcy
    clear hp hcy
    go_wp2_with fail
    refine (qwrong_any _ _ _ _ _ _ hE1).mono ?_
    rintro e w2 ⟨⟨r, hr, rfl⟩, B2⟩
    obtain rfl : r = 0 := by rcases hr with ⟨h1, _⟩ | ⟨_, h2⟩; exact h1; exact absurd HG.out h2
    have hI2 := hI1.below B2
    have a20 := (B2.cell hG2).trans a10
    have a21 := (B2.cell hG2).trans a11
    have hE2 := hE1.below B2
    have C2 := hide (C1.out.trans (B2.mono C1.out.size))
    have hG3 : G < w2.heap.size := by have := B2.size; omega
    clear hr a10 a11 hE1 B2 hG2 hI1
    go_wp2_with fail
    refine (qmost_any _ _ _ _ _ _ hE2 HG.out).mono ?_
    rintro e w3 ⟨hq, B3⟩
    have hI3 := hI2.below B3
    rcases hq with ⟨h1, _⟩ | ⟨_, rfl⟩
    case inl => exact absurd h1 HP.out
    have a30 := (B3.cell hG3).trans a20
    have a31 := (B3.cell hG3).trans a21
    have hE3 := hE2.below B3
    have C3 := hide (C2.out.trans (B3.mono C2.out.size))
    have hG4 : G < w3.heap.size := by have := B3.size; omega
    clear hE2 a20 a21 B3 hG3 hI2
    go_wp2_with fail
    refine (qweigh_ok _ _ _ _ _ _ _ _ _ _ hE3 hI3 HG.out).mono ?_
    rintro e w4 ⟨⟨s, r, rfl, hs⟩, B4⟩
    obtain ⟨rfl, rfl⟩ : s = wI es ns ns.length ∧ r = 0 := by
      rcases hs with ⟨h1, _⟩ | ⟨_, _, h2, h3⟩ | ⟨_, ⟨k, hk, h2⟩, _⟩
      · exact absurd HG.out h1
      · exact ⟨h2, h3⟩
      · exact absurd (HCY.out.ok k hk) h2
    have hI4 := hI3.below B4
    have a40 := (B4.cell hG4).trans a30
    have a41 := (B4.cell hG4).trans a31
    have hE4 := hE3.below B4
    have C4 := hide (C3.out.trans (B4.mono C3.out.size))
    have hG5 : G < w4.heap.size := by have := B4.size; omega
    clear hs hE3 a30 a31 B4 hG4 hI3
    obtain ⟨m1, m2, f1, f2, hn1, hf1, hn2, hf2, hends⟩ := HCY.out.ends
    have hlen := hI4.len
    have hpos := HCY.out.pos
    have hle := HCY.out.le
    have hmore := HCY.out.more
    obtain ⟨q, rfl⟩ : ∃ q, m = q + 1 := ⟨m - 1, by omega⟩
    rw [hlen] at hn2 hle
    rw [show q + 1 - 1 = q from rfl] at hn2
    obtain ⟨s, hs⟩ : ∃ s, wI es ns ns.length = s := ⟨_, rfl⟩
    rw [hs] at hmore ⊢
    obtain ⟨adn, y0, rfl, hby, g0, HY0⟩ := hI4.get0 (Below.refl _ _) (by omega)
    obtain rfl : y0 = (m1 : Int) := by have := HY0.out; rw [hn1] at this; injection this with this; exact this.symm
    obtain ⟨adn', y1, hadn, hby', g1, HY1⟩ := hI4.getB (Below.refl _ _) (show q < q + 1 by omega)
    injection hadn with hadn
    subst hadn
    obtain rfl : y1 = (m2 : Int) := by have := HY1.out; rw [hn2] at this; injection this with this; exact this.symm
    have hm1 : m1 < n := by rw [← hE4.len]; exact (List.getElem?_eq_some_iff.1 hf1).1
    have hm2 : m2 < n := by rw [← hE4.len]; exact (List.getElem?_eq_some_iff.1 hf2).1
    obtain ⟨ade, x1, x2, x3, rfl, hbe, HX, k0, k1, k2⟩ := hE4.getB (Below.refl _ _) hm1
    obtain ⟨ade', z1, z2, z3, hade, hbe', HZ, l0, l1, l2⟩ := hE4.getB (Below.refl _ _) hm2
    injection hade with hade
    subst hade
    obtain rfl : x1 = f1.src := by have := HX.out; rw [hf1] at this; injection this with this; rw [this]
    obtain rfl : z2 = f2.dst := by have := HZ.out; rw [hf2] at this; injection this with this; rw [this]
    have hq0 : (0 : Int) ≤ (q : Int) := Int.natCast_nonneg _
    have hm1' : (m1 : Int) < (n : Int) := by omega
    have hm2' : (m2 : Int) < (n : Int) := by omega
    have hm10 : (0 : Int) ≤ (m1 : Int) := Int.natCast_nonneg _
    have hm20 : (0 : Int) ≤ (m2 : Int) := Int.natCast_nonneg _
    have hle' : (q : Int) + 1 ≤ (N : Int) := by omega
    have hN3 : (N : Int) ≤ 300 := by have := HG.out.1.2.1; omega
    obtain ⟨u, hu⟩ : ∃ u, f1.src = u := ⟨_, rfl⟩
    rw [hu] at k0
    rw [← hends, hu] at l1
    clear hn1 hn2 hf1 hf2 hlen hpos hE4 hI4 hs hm1 hm2 HX HZ HY0 HY1 hle k1 k2 l0 l2 hends hu hby hby' hbe hbe'
    go_wp2
    go_quiet (fail)
    go_wp2
    go_ret
    exact ⟨by first | rfl | simp, by rw [← HGs.out]; first | exact C4.out | exact below_drewN C4.out _⟩

theorem potentialCycleW (w : World) (N : Int) (a : Option Addr) (n c : Nat) (es : List GE) (h : EdgesAt w a n c es) :
    Calls Try.prog 11 #[.agg #[.int .i64 N, .slice a n c]] w fun e w' => e = .returned (.bool true) ∧ Below w.heap.size w w' := by
  by_cases hg : GraphOk N es
  · obtain ⟨M, rfl⟩ : ∃ M : Nat, N = (M : Int) := ⟨N.toNat, by have := hg.1.1; omega⟩
    exact pc_ok _ _ _ _ _ _ h hg
  · exact pc_bad _ _ _ _ _ _ h hg

end Go.Proofs.Ytdlljemabbccjaa
