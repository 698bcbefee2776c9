/-
  Lemmas and walks for the statement: VSr, VGr, PGraph.
-/
import Derived.Test.YtjjikhaaimfneaaGreatDoorU27
import Derived.Test.YtjjikhaaimfneaaGreatDoorU26
import Derived.Test.YtjjikhaaimfneaaGreatDoorU16
namespace Go.Proofs.YtjjikhaaimfneaaGreatDoor
open Go.RowKit
set_option linter.unusedSimpArgs false
set_option linter.unusedVariables false
section
variable {k0 k1 R Q : Int} {q : Nat}
theorem sx_upto (hk : kindsOk k0 k1) (hr : rangeOk R Q (q : Int)) {n : Nat} (h : ∀ j, j < n → (rnds k0 k1 R Q q j).full = false ∧ j < (rnds k0 k1 R Q q j).states.length) : SxOk (GG k0 k1 R Q q) UU (rnds k0 k1 R Q q n) := by
 induction n with
 | zero => exact start_good hk hr
 | succ n ih =>
   have h1 := ih (fun j hj => h j (by omega))
   have h2 := (h n (by omega)).2
   rw [rnds_succ]
   exact h1.walk h2 (fun l hl s hs => stp_good (latesP_ok (Nat.le_refl _) l hl) hs)
theorem sx_edges {n : Nat} (h : ∀ j, j < n → (rnds k0 k1 R Q q j).full = false) (hf : (rnds k0 k1 R Q q n).full = false) : (rnds k0 k1 R Q q n).edges.length = n * ((q + 1) * (q + 1)) := by
 induction n with
 | zero => simp [rnds, rounds]
 | succ n ih =>
   have h1 := ih (fun j hj => h j (by omega)) (h n (by omega))
   rw [rnds_succ] at hf ⊢
   rw [Sx.walk_edges hf, h1, latesP_len]; exact (Nat.succ_mul n _).symm
theorem sx_ex (hk : kindsOk k0 k1) (hr : rangeOk R Q (q : Int)) : ∃ kk, SxEnds (step := stp k0 k1 R Q q) (startI k0 k1) (q + 1) kk := by
 have key : ∀ n, (∃ kk, SxEnds (step := stp k0 k1 R Q q) (startI k0 k1) (q + 1) kk) ∨ (∀ j, j < n → (rnds k0 k1 R Q q j).full = false ∧ j < (rnds k0 k1 R Q q j).states.length) := by
  intro n
  induction n with
  | zero => exact .inr fun j hj => absurd hj (by omega)
  | succ n ih =>
    rcases ih with h | h
    · exact .inl h
    · by_cases hc : (rnds k0 k1 R Q q n).full = false ∧ n < (rnds k0 k1 R Q q n).states.length
      · refine .inr fun j hj => ?_
        rcases (show j < n ∨ j = n by omega) with h' | rfl
        · exact h j h'
        · exact hc
      · refine .inl ⟨n, h, ?_⟩
        by_cases hf : (rnds k0 k1 R Q q n).full = false
        · exact .inr (fun h' => hc ⟨hf, h'⟩)
        · refine .inl ?_
          cases h9 : (rnds k0 k1 R Q q n).full with
          | true => exact h9
          | false => exact (hf h9).elim
 rcases key 301 with h | h
 · exact h
 · have h1 := (h 300 (by omega)).2
   have h2 := (sx_upto hk hr (n := 300) (fun j hj => h j (by omega))).most
   omega
theorem SxOk.weak {G G' U : List Int → Prop} {B : Sx} (h : SxOk G U B) (hg : ∀ s, G s → G' s) : SxOk G' U B := ⟨h.flen, h.blen, h.one, h.most, h.nodup, fun s hs => hg s (h.good s hs), h.tos, h.born⟩
end
def SxStep (step : List Int → P2 → List Int × List Int) (B : Sx) : Prop := ∀ (e : Nat) (E : Edg), B.edges[e]? = some E → ∃ s s', B.states[E.f]? = some s ∧ B.states[E.t]? = some s' ∧ step s E.l = (s', E.us)
section
variable {step : List Int → P2 → List Int × List Int}
theorem SxStep.go {B : Sx} {k : Nat} {l : P2} (h : SxStep step B) (hk : k < B.states.length) (hd : B.states.Nodup) : SxStep step (B.go step k l) := by
 cases hf : B.full with
 | true => rw [Sx.go_full hf]; exact h
 | false =>
   obtain ⟨s, hs⟩ : ∃ s, B.states[k]? = some s := ⟨_, List.getElem?_eq_getElem hk⟩
   obtain ⟨nx, us, he⟩ : ∃ nx us, step s l = (nx, us) := ⟨_, _, rfl⟩
   by_cases hm : nx ∈ B.states
   · obtain ⟨i, hi⟩ := List.mem_iff_getElem?.1 hm
     rw [Sx.go_old hf hs he hi hd]
     intro e E hE
     rcases app_getX hE with ⟨_, hE⟩ | ⟨_, rfl⟩
     · exact h e E hE
     · exact ⟨s, nx, hs, hi, he⟩
   · by_cases hl : B.states.length = 300
     · rw [Sx.go_stop hf hs he hm hl]; exact h
     · rw [Sx.go_new hf hs he hm hl]
       intro e E hE
       rcases app_getX hE with ⟨_, hE⟩ | ⟨_, rfl⟩
       · obtain ⟨s1, s2, h1, h2, h3⟩ := h e E hE
         exact ⟨s1, s2, get_appX h1, get_appX h2, h3⟩
       · exact ⟨s, nx, get_appX hs, List.getElem?_concat_length, he⟩
theorem SxStep.walk {G U : List Int → Prop} {B : Sx} {k : Nat} {ls : List P2} (h : SxStep step B) (ho : SxOk G U B) (hk : k < B.states.length) (hG : ∀ l ∈ ls, ∀ s, G s → G (step s l).1 ∧ U (step s l).2) : SxStep step (B.walk step k ls) := by
 induction ls generalizing B with
 | nil => exact h
 | cons l ls ih =>
   cases hf : B.full with
   | true => rw [Sx.walk_full hf]; exact h
   | false => exact ih (B := B.go step k l) (h.go hk ho.nodup) (ho.go hf hk (hG l (by simp))) (Nat.lt_of_lt_of_le hk (Sx.go_mono B k l)) (fun l' hl' => hG l' (by simp [hl']))
theorem Sx.go_first {B : Sx} {k : Nat} {l : P2} {s : List Int} (h : B.states[0]? = some s) : (B.go step k l).states[0]? = some s := by
 unfold Sx.go
 (repeat' split) <;> first | exact h | exact get_appX h
theorem Sx.walk_first {B : Sx} {k : Nat} {ls : List P2} {s : List Int} (h : B.states[0]? = some s) : (B.walk step k ls).states[0]? = some s := by
 induction ls generalizing B with
 | nil => exact h
 | cons l ls ih => exact ih (B := B.go step k l) (Sx.go_first h)
end
section
variable {k0 k1 R Q : Int} {q : Nat}
theorem sx_step (hk : kindsOk k0 k1) (hr : rangeOk R Q (q : Int)) {n : Nat} (h : ∀ j, j < n → (rnds k0 k1 R Q q j).full = false ∧ j < (rnds k0 k1 R Q q j).states.length) : SxStep (stp k0 k1 R Q q) (rnds k0 k1 R Q q n) ∧ (rnds k0 k1 R Q q n).states[0]? = some (startI k0 k1) := by
 induction n with
 | zero => exact ⟨fun e E hE => by simp [rnds, rounds] at hE, by simp [rnds, rounds]⟩
 | succ n ih =>
   obtain ⟨h1, h3⟩ := ih (fun j hj => h j (by omega))
   have h2 := (h n (by omega)).2
   rw [rnds_succ]
   exact ⟨h1.walk (sx_upto hk hr (fun j hj => h j (by omega))) h2 (fun l hl s hs => stp_good (latesP_ok (Nat.le_refl _) l hl) hs), Sx.walk_first h3⟩
end
structure SrGood (k0 k1 R Q J : Int) (X : Sx) : Prop where
 ok : SxOk Gd UU X
 kinds : kindsOk k0 k1
 range : rangeOk R Q J
 fl : ∃ q : Nat, J = q ∧ q ≤ 3 ∧ X.edges.map Edg.fl = flOf (q + 1) X.states.length ∧ SxStep (stp k0 k1 R Q q) X
 pos : 0 < X.edges.length
 most : X.edges.length ≤ 4800
 first : X.states[0]? = some (startI k0 k1)
section
variable {k0 k1 R Q : Int} {q kk : Nat}
theorem good_facts (hk : kindsOk k0 k1) (hr : rangeOk R Q (q : Int)) (hE : SxEnds (step := stp k0 k1 R Q q) (startI k0 k1) (q + 1) kk) (hf : (rnds k0 k1 R Q q kk).full = false) : SrGood k0 k1 R Q (q : Int) (rnds k0 k1 R Q q kk) := by
 have hq : q ≤ 3 := by unfold rangeOk at hr; omega
 have hok := sx_upto hk hr hE.1
 have hed := sx_edges (fun j hj => (hE.1 j hj).1) hf
 have hm := hok.most
 have h1 := hok.one
 have hle : (rnds k0 k1 R Q q kk).states.length ≤ kk := by
  rcases hE.2 with h | h
  · have h' : (rnds k0 k1 R Q q kk).full = true := h
    rw [hf] at h'; cases h'
  · exact Nat.le_of_not_lt h
 have hk3 : kk ≤ 300 := by
  rcases (show kk = 0 ∨ 0 < kk by omega) with h | h
  · omega
  · have h2 := (hE.1 (kk - 1) (by omega)).2
    have h3 := (sx_upto hk hr (n := kk - 1) (fun j hj => hE.1 j (by omega))).most
    have h4 : kk - 1 < (rnds k0 k1 R Q q (kk - 1)).states.length := h2
    omega
 have hq1 : 1 ≤ (q + 1) * (q + 1) := Nat.mul_le_mul (show 1 ≤ q + 1 by omega) (show 1 ≤ q + 1 by omega)
 have hq2 : (q + 1) * (q + 1) ≤ 4 * 4 := Nat.mul_le_mul (by omega) (by omega)
 obtain ⟨hst, hfi⟩ := sx_step hk hr hE.1
 refine ⟨hok.weak (fun s h => h.2), hk, hr, ⟨q, rfl, hq, ?_, hst⟩, ?_, ?_, hfi⟩
 · have hge : kk ≤ (rnds k0 k1 R Q q kk).states.length := by
    rcases (show kk = 0 ∨ 0 < kk by omega) with h | h
    · omega
    · have h2 : kk - 1 < (rnds k0 k1 R Q q (kk - 1)).states.length := (hE.1 (kk - 1) (by omega)).2
      have h3 := Sx.walk_mono (step := stp k0 k1 R Q q) (rnds k0 k1 R Q q (kk - 1)) (kk - 1) (latesP (q + 1) ((q + 1) * (q + 1)))
      rw [← rnds_succ, show kk - 1 + 1 = kk by omega] at h3
      omega
   rw [sx_fl (fun j hj => (hE.1 j hj).1) hf, show (rnds k0 k1 R Q q kk).states.length = kk by omega]
 · rw [hed]; exact Nat.mul_pos (by omega) (by omega)
 · rw [hed]; exact Nat.le_trans (Nat.mul_le_mul hk3 hq2) (by decide)
end
def Srch (k0 k1 R Q J r : Int) (X : Sx) : Prop :=
 (r ≠ 0 ∧ (r = 5 ∨ r = 2) ∧ WrongSays k0 k1 R Q J r ∧ ¬ (kindsOk k0 k1 ∧ rangeOk R Q J)) ∨
 (∃ q kk : Nat, J = (q : Int) ∧ kindsOk k0 k1 ∧ rangeOk R Q (q : Int) ∧ SxEnds (step := stp k0 k1 R Q q) (startI k0 k1) (q + 1) kk ∧ (((rnds k0 k1 R Q q kk).full = true ∧ r = 4) ∨ ((rnds k0 k1 R Q q kk).full = false ∧ r = 0 ∧ X = rnds k0 k1 R Q q kk)))
theorem srch_ex (k0 k1 R Q J : Int) : ∃ r X, Srch k0 k1 R Q J r X := by
 by_cases hok : kindsOk k0 k1 ∧ rangeOk R Q J
 case neg =>
  by_cases hk : kindsOk k0 k1
  · exact ⟨2, ⟨[], [], [], [], false⟩, .inl ⟨by omega, .inr rfl, .inr (.inl ⟨hk, fun h => hok ⟨hk, h⟩, rfl⟩), hok⟩⟩
  · exact ⟨5, ⟨[], [], [], [], false⟩, .inl ⟨by omega, .inl rfl, .inl ⟨hk, rfl⟩, hok⟩⟩
 obtain ⟨hk, hr⟩ := hok
 obtain ⟨q, rfl⟩ : ∃ q : Nat, J = (q : Int) := ⟨J.toNat, by unfold rangeOk at hr; omega⟩
 obtain ⟨kk, hE⟩ := sx_ex hk hr
 cases hf : (rnds k0 k1 R Q q kk).full with
 | true => exact ⟨4, ⟨[], [], [], [], false⟩, .inr ⟨q, kk, rfl, hk, hr, hE, .inl ⟨hf, rfl⟩⟩⟩
 | false => exact ⟨0, _, .inr ⟨q, kk, rfl, hk, hr, hE, .inr ⟨hf, rfl, rfl⟩⟩⟩
theorem srch_good {k0 k1 R Q J : Int} {X : Sx} (h : Srch k0 k1 R Q J 0 X) : SrGood k0 k1 R Q J X := by
 rcases h with ⟨h0, _⟩ | ⟨q, kk, rfl, hk, hr, hE, ⟨_, h1⟩ | ⟨hf, _, rfl⟩⟩
 · exact absurd rfl h0
 · cases h1
 · exact good_facts hk hr hE hf
end Go.Proofs.YtjjikhaaimfneaaGreatDoor
namespace Go.Proofs.YtjjikhaaimfneaaGreatDoor
open Go.RowKit
set_option linter.unusedSimpArgs false
set_option linter.unusedVariables false
def LeadOk (X : Sx) (n : Int) (w : World) (e : Ending) (w' : World) : Prop :=
 ((n < 0 ∨ (X.states.length : Int) ≤ n) ∧ e = .returned (.tuple #[.slice none 0 0, .int .i64 3]) ∨ ∃ m : Nat, n = m ∧ m < X.states.length ∧ ∃ v B, e = .returned (.tuple #[v, .int .i64 0]) ∧ w'.ownsRow B 47 2 v (wayB X.fr X.bys m m).reverse.length (flat2 (wayB X.fr X.bys m m).reverse)) ∧ Below w.heap.size w w'
def GrfOk (X : Sx) (who ratio : Int) (w : World) (e : Ending) (w' : World) : Prop := ∃ v B, e = .returned (.tuple #[.agg #[.int .i64 X.states.length, v], .int .i64 0]) ∧ w'.ownsRow B 86 3 v X.edges.length (flatE who ratio X.edges) ∧ Below w.heap.size w w'
def badArgs (who ratio : Int) : Prop := who < 0 ∨ (0 ≤ who ∧ 1 < who) ∨ (0 ≤ who ∧ who ≤ 1 ∧ ratio < 1) ∨ (0 ≤ who ∧ who ≤ 1 ∧ 1 ≤ ratio ∧ 100 < ratio)
def goodArgs (who ratio : Int) : Prop := 0 ≤ who ∧ who ≤ 1 ∧ 1 ≤ ratio ∧ ratio ≤ 100
theorem lead_srch {k0 k1 R Q J r : Int} {X : Sx} (h : Srch k0 k1 R Q J r X) (n : Int) (w : World) :
 Calls Tryz.prog 41 #[.agg #[.int .i64 k0, .int .i64 k1, .int .i64 R, .int .i64 Q, .int .i64 J], .int .i64 n] w fun e w' => (r ≠ 0 ∧ e = .returned (.tuple #[.slice none 0 0, .int .i64 r]) ∧ Below w.heap.size w w') ∨ (r = 0 ∧ LeadOk X n w e w') := by
 rcases h with ⟨h0, _, hw, _⟩ | ⟨q, kk, rfl, hk, hr, hE, ho⟩
 · exact (lead_wrong k0 k1 R Q J n r w hw h0).mono fun e w' ⟨h1, h2⟩ => .inl ⟨h0, h1, h2⟩
 · refine (lead_run k0 k1 R Q q n w hk hr).mono ?_
   rintro e w' ⟨⟨kk', hE', hh⟩, hb⟩
   obtain rfl := hE.one hE'
   rcases ho with ⟨hf, rfl⟩ | ⟨hf, rfl, rfl⟩
   · rcases hh with ⟨hf', _⟩ | ⟨hf', _⟩ | ⟨_, rfl⟩
     · rw [hf] at hf'; cases hf'
     · rw [hf] at hf'; cases hf'
     · exact .inl ⟨by omega, rfl, hb⟩
   · rcases hh with ⟨hf', m, h1, h2, v, B, rfl, h⟩ | ⟨hf', h1, rfl⟩ | ⟨hf', _⟩
     · exact .inr ⟨rfl, .inr ⟨m, h1, h2, v, B, rfl, h⟩, hb⟩
     · exact .inr ⟨rfl, .inl ⟨h1, rfl⟩, hb⟩
     · rw [hf] at hf'; cases hf'
theorem graph_srch {k0 k1 R Q J r : Int} {X : Sx} (h : Srch k0 k1 R Q J r X) (who ratio : Int) (w : World) (hg : goodArgs who ratio) :
 Calls Tryz.prog 22 #[.agg #[.int .i64 k0, .int .i64 k1, .int .i64 R, .int .i64 Q, .int .i64 J], .int .i64 who, .int .i64 ratio] w fun e w' => (r ≠ 0 ∧ e = .returned (.tuple #[.agg #[.int .i64 0, .slice none 0 0], .int .i64 r]) ∧ Below w.heap.size w w') ∨ (r = 0 ∧ GrfOk X who ratio w e w') := by
 rcases h with ⟨h0, _, hw, _⟩ | ⟨q, kk, rfl, hk, hr, hE, ho⟩
 · exact (graph_wrong k0 k1 R Q J who ratio r w hg hw h0).mono fun e w' ⟨h1, h2⟩ => .inl ⟨h0, h1, h2⟩
 · refine (graph_run k0 k1 R Q q who ratio w hg hk hr).mono ?_
   rintro e w' ⟨⟨kk', hE', hh⟩, hb⟩
   obtain rfl := hE.one hE'
   rcases ho with ⟨hf, rfl⟩ | ⟨hf, rfl, rfl⟩
   · rcases hh with ⟨hf', _⟩ | ⟨_, rfl⟩
     · rw [hf] at hf'; cases hf'
     · exact .inl ⟨by omega, rfl, hb⟩
   · rcases hh with ⟨hf', v, B, rfl, h⟩ | ⟨hf', _⟩
     · exact .inr ⟨rfl, v, B, rfl, h, hb⟩
     · rw [hf] at hf'; cases hf'
end Go.Proofs.YtjjikhaaimfneaaGreatDoor
namespace Go.Proofs.YtjjikhaaimfneaaGreatDoor
open Go.RowKit
set_option linter.unusedSimpArgs false
set_option linter.unusedVariables false
def EdgeOk (N : Int) (e : GE) : Prop := 0 ≤ e.src ∧ e.src < N ∧ 0 ≤ e.dst ∧ e.dst < N ∧ -1048576 ≤ e.wt ∧ e.wt ≤ 1048576
def GraphOk (N : Int) (es : List GE) : Prop := (0 ≤ N ∧ N ≤ 300 ∧ es.length ≤ 4800) ∧ ∀ e ∈ es, EdgeOk N e
end Go.Proofs.YtjjikhaaimfneaaGreatDoor
