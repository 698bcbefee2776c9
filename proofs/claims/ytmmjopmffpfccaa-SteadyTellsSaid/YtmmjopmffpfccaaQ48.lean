/-
  Lemmas and walks for the statement: StCon2.
-/
import Derived.Test.YtmmjopmffpfccaaQ46
import Derived.Test.YtmmjopmffpfccaaQ47
namespace Go.Proofs.Ytmmjopmffpfccaa
open Go.RowKit
set_option linter.unusedSimpArgs false
set_option linter.unusedVariables false
section
variable {k0 k1 R Q : Int} {q kk : Nat}
theorem full_bad (hk : kindsOk k0 k1) (hr : rangeOk R Q (q : Int)) (hE : SxEnds (step := stp k0 k1 R Q q) (startI k0 k1) (q + 1) kk) (hf : (rnds k0 k1 R Q q kk).full = true) : StBad k0 k1 R Q (q : Int) 4 := by
 refine ⟨.inr (.inr rfl), fun w => (sof_run k0 k1 R Q q w hk hr).mono ?_, fun w => (states_run k0 k1 R Q q w hk hr).mono ?_, fun n w => (lead_run k0 k1 R Q q n w hk hr).mono ?_, fun who ratio w hb => (graph_run k0 k1 R Q q who ratio w hb hk hr).mono ?_⟩
 · rintro e w' ⟨kk', hE', hb, ⟨PB, B, v0, v1, v2, v3, v4, hf', _⟩ | ⟨_, rfl⟩⟩
   · obtain rfl := hE.one hE'
     rw [hf] at hf'; cases hf'
   · exact ⟨rfl, hb⟩
 · rintro e w' ⟨⟨kk', hE', ⟨hf', _⟩ | ⟨_, rfl⟩⟩, hb⟩
   · obtain rfl := hE.one hE'
     rw [hf] at hf'; cases hf'
   · exact ⟨rfl, hb⟩
 · rintro e w' ⟨⟨kk', hE', ⟨hf', _⟩ | ⟨hf', _⟩ | ⟨_, rfl⟩⟩, hb⟩
   · obtain rfl := hE.one hE'
     rw [hf] at hf'; cases hf'
   · obtain rfl := hE.one hE'
     rw [hf] at hf'; cases hf'
   · exact ⟨rfl, hb⟩
 · rintro e w' ⟨⟨kk', hE', ⟨hf', _⟩ | ⟨_, rfl⟩⟩, hb⟩
   · obtain rfl := hE.one hE'
     rw [hf] at hf'; cases hf'
   · exact ⟨rfl, hb⟩
theorem good_good (hk : kindsOk k0 k1) (hr : rangeOk R Q (q : Int)) (hE : SxEnds (step := stp k0 k1 R Q q) (startI k0 k1) (q + 1) kk) (hf : (rnds k0 k1 R Q q kk).full = false) : StGood k0 k1 R Q (q : Int) (rnds k0 k1 R Q q kk) := by
 have hq : q ≤ 3 := by unfold rangeOk at hr; omega
 have hok := sx_upto hk hr hE.1
 have hed := sx_edges (fun j hj => (hE.1 j hj).1) hf
 have hm := hok.most
 have h1 := hok.one
 have hle : (rnds k0 k1 R Q q kk).states.length ≤ kk := by
  rcases hE.2 with h | h
  · have h' : (rnds k0 k1 R Q q kk).full = true := h
    rw [hf] at h'; cases h'
  · exact Nat.le_of_not_lt h
 have hk3 : kk ≤ 300 := by
  rcases (show kk = 0 ∨ 0 < kk by omega) with h | h
  · omega
  · have h2 := (hE.1 (kk - 1) (by omega)).2
    have h3 := (sx_upto hk hr (n := kk - 1) (fun j hj => hE.1 j (by omega))).most
    have h4 : kk - 1 < (rnds k0 k1 R Q q (kk - 1)).states.length := h2
    omega
 have hq1 : 1 ≤ (q + 1) * (q + 1) := Nat.mul_le_mul (show 1 ≤ q + 1 by omega) (show 1 ≤ q + 1 by omega)
 have hq2 : (q + 1) * (q + 1) ≤ 4 * 4 := Nat.mul_le_mul (by omega) (by omega)
 refine ⟨⟨hok.weak (fun s h => h.2), q, rfl, hq, ?_⟩, ?_, ?_, fun w => (sof_run k0 k1 R Q q w hk hr).mono ?_, fun w => (states_run k0 k1 R Q q w hk hr).mono ?_, fun n w => (lead_run k0 k1 R Q q n w hk hr).mono ?_, fun who ratio w hb => (graph_run k0 k1 R Q q who ratio w hb hk hr).mono ?_⟩
 · have hge : kk ≤ (rnds k0 k1 R Q q kk).states.length := by
    rcases (show kk = 0 ∨ 0 < kk by omega) with h | h
    · omega
    · have h2 : kk - 1 < (rnds k0 k1 R Q q (kk - 1)).states.length := (hE.1 (kk - 1) (by omega)).2
      have h3 := Sx.walk_mono (step := stp k0 k1 R Q q) (rnds k0 k1 R Q q (kk - 1)) (kk - 1) (latesP (q + 1) ((q + 1) * (q + 1)))
      rw [← rnds_succ, show kk - 1 + 1 = kk by omega] at h3
      omega
   rw [sx_fl (fun j hj => (hE.1 j hj).1) hf, show (rnds k0 k1 R Q q kk).states.length = kk by omega]
 · rw [hed]; exact Nat.mul_pos (by omega) (by omega)
 · rw [hed]; exact Nat.le_trans (Nat.mul_le_mul hk3 hq2) (by decide)
 · rintro e w' ⟨kk', hE', hb, ⟨PB, B, v0, v1, v2, v3, v4, hf', rfl, hRS⟩ | ⟨hf', _⟩⟩
   · obtain rfl := hE.one hE'
     exact ⟨v0, v1, v2, v3, v4, B, rfl, hb, hRS.sp.r0, hRS.sp.r1, hRS.sp.r2, hRS.sp.r3, hRS.sp.r4⟩
   · obtain rfl := hE.one hE'
     rw [hf] at hf'; cases hf'
 · rintro e w' ⟨⟨kk', hE', ⟨hf', v, B, rfl, h⟩ | ⟨hf', _⟩⟩, hb⟩
   · obtain rfl := hE.one hE'
     exact ⟨v, B, rfl, h, hb⟩
   · obtain rfl := hE.one hE'
     rw [hf] at hf'; cases hf'
 · rintro e w' ⟨⟨kk', hE', ⟨hf', m, h1, h2, v, B, rfl, h⟩ | ⟨hf', h1, rfl⟩ | ⟨hf', _⟩⟩, hb⟩
   · obtain rfl := hE.one hE'
     exact ⟨.inr ⟨m, h1, h2, v, B, rfl, h⟩, hb⟩
   · obtain rfl := hE.one hE'
     exact ⟨.inl ⟨h1, rfl⟩, hb⟩
   · obtain rfl := hE.one hE'
     rw [hf] at hf'; cases hf'
 · rintro e w' ⟨⟨kk', hE', ⟨hf', v, B, rfl, h⟩ | ⟨hf', _⟩⟩, hb⟩
   · obtain rfl := hE.one hE'
     exact ⟨v, B, rfl, h, hb⟩
   · obtain rfl := hE.one hE'
     rw [hf] at hf'; cases hf'
end
theorem st_cases (k0 k1 R Q J : Int) : (∃ r, StBad k0 k1 R Q J r) ∨ ∃ X, StGood k0 k1 R Q J X := by
 by_cases hok : kindsOk k0 k1 ∧ rangeOk R Q J
 case neg =>
  obtain ⟨r, hw, h0, hr⟩ : ∃ r, WrongSays k0 k1 R Q J r ∧ r ≠ 0 ∧ (r = 5 ∨ r = 2 ∨ r = 4) := by
   by_cases hk : kindsOk k0 k1
   · exact ⟨2, .inr (.inl ⟨hk, fun h => hok ⟨hk, h⟩, rfl⟩), by omega, by omega⟩
   · exact ⟨5, .inl ⟨hk, rfl⟩, by omega, by omega⟩
  exact .inl ⟨r, hr, fun w => sof_wrong k0 k1 R Q J r w hw h0, fun w => states_wrong k0 k1 R Q J r w hw h0, fun n w => lead_wrong k0 k1 R Q J n r w hw h0, fun who ratio w hb => graph_wrong k0 k1 R Q J who ratio r w hb hw h0⟩
 obtain ⟨hk, hr⟩ := hok
 obtain ⟨q, rfl⟩ : ∃ q : Nat, J = (q : Int) := ⟨J.toNat, by unfold rangeOk at hr; omega⟩
 obtain ⟨kk, hE⟩ := sx_ex hk hr
 cases hf : (rnds k0 k1 R Q q kk).full with
 | true => exact .inl ⟨4, full_bad hk hr hE hf⟩
 | false => exact .inr ⟨_, good_good hk hr hE hf⟩
end Go.Proofs.Ytmmjopmffpfccaa
