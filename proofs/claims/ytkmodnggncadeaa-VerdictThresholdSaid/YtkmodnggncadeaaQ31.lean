/-
  Lemmas and walks for the statement: VdP, VLate, R3.
-/
import Derived.Test.YtkmodnggncadeaaQ27
import Derived.Test.YtkmodnggncadeaaQ30
import Derived.Test.YtkmodnggncadeaaQ16
import Derived.Test.YtkmodnggncadeaaQ01
import Derived.Test.YtkmodnggncadeaaQ09
import Derived.Test.YtkmodnggncadeaaProg
import Derived.BigRegion
import Derived.Deep.DeepCutAuto
import Derived.OneCell
namespace Go.Proofs.Ytkmodnggncadeaa
open Go.RowKit
set_option linter.unusedSimpArgs false
set_option linter.unusedVariables false
section
variable {X : Sx} {who ratio : Int}
def geOf (X : Sx) (who ratio : Int) : List GE := X.edges.map fun E => ⟨(E.f : Int), (E.t : Int), wtE who ratio E.us⟩
theorem geOf_len : (geOf X who ratio).length = X.edges.length := by simp [geOf]
theorem geOf_at {k : Nat} {E : Edg} (h : X.edges[k]? = some E) : (geOf X who ratio)[k]? = some ⟨(E.f : Int), (E.t : Int), wtE who ratio E.us⟩ := by simp [geOf, h]
theorem geOf_inv {k : Nat} {e : GE} (h : (geOf X who ratio)[k]? = some e) : ∃ E, X.edges[k]? = some E ∧ e = ⟨(E.f : Int), (E.t : Int), wtE who ratio E.us⟩ := by
 simp only [geOf, List.getElem?_map, Option.map_eq_some_iff] at h
 obtain ⟨E, h1, h2⟩ := h
 exact ⟨E, h1, h2.symm⟩
theorem geOf_ok (hok : SxOk Gd UU X) (hm : X.edges.length ≤ 4800) (hg : goodArgs who ratio) : GraphOk (X.states.length : Int) (geOf X who ratio) := by
 have hmost := hok.most
 refine ⟨⟨by omega, by omega, by rw [geOf_len]; exact hm⟩, fun e he => ?_⟩
 obtain ⟨E, hE, rfl⟩ := List.mem_map.1 he
 obtain ⟨i, hi⟩ := List.mem_iff_getElem?.1 hE
 obtain ⟨h1, h2, h3⟩ := hok.tos i E hi
 obtain ⟨g0, g1, g2, g3⟩ := hg
 have h4 := wtE_sml h3 (show who = 0 ∨ who = 1 by omega) ⟨g2, g3⟩
 unfold EdgeOk
 dsimp only
 omega
theorem edgesAt_row {w : World} {B m c : Nat} {a : Option Addr} (h : w.ownsRow B 66 3 (.slice a m c) m (flatE who ratio X.edges)) (hm : X.edges.length = m) (hm3 : m ≤ 4800) : EdgesAt w a m c (geOf X who ratio) := by
 have e : flatE who ratio X.edges = flatS (X.edges.map fun E => [(E.f : Int), (E.t : Int), wtE who ratio E.us]) := flatE_S _ _ _
 rcases h.2 with ⟨h1, h2⟩ | ⟨g, cap, cur, h1, hg, hh, hn, hc, hs, hx⟩
 · injection h1 with h1 h3 h4
   subst h1; subst h2; subst h4
   exact ⟨by rw [geOf_len]; exact hm, Nat.le_refl _, by omega, fun h => by omega⟩
 · injection h1 with h1 _ h4
   subst h1; subst h4
   have hlt := (Array.getElem?_eq_some_iff.1 hh).1
   refine ⟨by rw [geOf_len]; exact hm, hn, by omega, fun _ => ⟨_, rfl, hlt, fun j e he => ?_⟩⟩
   obtain ⟨E, hE, rfl⟩ := geOf_inv he
   have key : ∀ (i : Nat) (x : Int), [(E.f : Int), (E.t : Int), wtE who ratio E.us][i]? = some x → w.cell? ⟨g, j * 3 + i, none⟩ = some (.int .i64 x) := fun i x hi => by
    have h5 := flatS_get (L := X.edges.map fun E => [(E.f : Int), (E.t : Int), wtE who ratio E.us]) (sz := 3) (fun t ht => by
     obtain ⟨E', _, rfl⟩ := List.mem_map.1 ht; rfl) (k := j) (by rw [List.getElem?_map, hE]; rfl) hi
    rw [← e, ← hx, List.getElem?_take] at h5
    split at h5
    · simp [World.cell?, hh]
      simpa using h5
    · cases h5
   have ea : ∀ i, (⟨g, 0, none⟩ : Addr).add i = ⟨g, i, none⟩ := fun i => by unfold Addr.add; split <;> simp_all
   rw [ea, ea, ea]
   exact ⟨key 0 _ rfl, key 1 _ rfl, key 2 _ rfl⟩
end
def mostOf (N : Nat) (es : List GE) : Int := (tabI N (siter (pes es) N)).foldl max 0
theorem foldl_max_ge (l : List Int) : ∀ a : Int, a ≤ l.foldl max a := by
 induction l with
 | nil => intro a; exact Int.le_refl a
 | cons x l ih => intro a; exact Int.le_trans (Int.le_max_left a x) (ih (max a x))
theorem foldl_max_le (l : List Int) {M : Int} : ∀ a : Int, a ≤ M → (∀ x ∈ l, x ≤ M) → l.foldl max a ≤ M := by
 induction l with
 | nil => intro a h _; exact h
 | cons x l ih => intro a h h'; exact ih (max a x) (Int.max_le.2 ⟨h, h' x (by simp)⟩) (fun y hy => h' y (by simp [hy]))
theorem mostOf_b {N : Nat} {es : List GE} (h : GraphOk (N : Int) es) : 0 ≤ mostOf N es ∧ mostOf N es ≤ 314572800 := by
 refine ⟨foldl_max_ge _ _, foldl_max_le _ _ (by omega) (fun x hx => ?_)⟩
 simp only [tabI, List.mem_map, List.mem_range] at hx
 obtain ⟨v, hv, rfl⟩ := hx
 have h1 := (siter_b h N v).2
 have h2 := h.1.2.1
 have h3 : (N : Int) * 1048576 ≤ 300 * 1048576 := Int.mul_le_mul_of_nonneg_right h2 (by omega)
 omega
theorem flOf_get {q : Nat} : ∀ {n i : Nat}, i < n * ((q + 1) * (q + 1)) → (flOf (q + 1) n)[i]? = some (i / ((q + 1) * (q + 1)), ⟨((i % ((q + 1) * (q + 1)) / (q + 1) : Nat) : Int), ((i % (q + 1) : Nat) : Int)⟩) := by
 intro n
 have hM : 0 < (q + 1) * (q + 1) := Nat.mul_pos (by omega) (by omega)
 obtain ⟨M, hMM⟩ : ∃ M, (q + 1) * (q + 1) = M := ⟨_, rfl⟩
 have hlen : ∀ n, (flOf (q + 1) n).length = n * M := by
  intro n
  induction n with
  | zero => simp [flOf]
  | succ n ih => rw [flOf_succ, List.length_append, ih, List.length_map, latesP_len, hMM, Nat.succ_mul]
 induction n with
 | zero => intro i hi; omega
 | succ n ih =>
   intro i hi
   rw [hMM] at hi ih hM ⊢
   rw [flOf_succ]
   by_cases h : i < n * M
   · rw [List.getElem?_append_left (by rw [hlen]; exact h)]
     exact ih h
   · rw [Nat.succ_mul] at hi
     have hi2 : i - n * M < M := by omega
     have hdv : i / M = n := by
      rw [Nat.div_eq_iff hM]
      have := Nat.succ_mul n M
      have := Nat.mul_comm n M
      omega
     have hmd : i % M = i - n * M := by
      have := Nat.div_add_mod i M
      rw [hdv, Nat.mul_comm] at this
      omega
     rw [List.getElem?_append_right (by rw [hlen]; omega), hlen, List.getElem?_map]
     have hl : (latesP (q + 1) ((q + 1) * (q + 1)))[i - n * M]? = some ⟨((((i - n * M) / (q + 1) : Nat)) : Int), (((i - n * M) % (q + 1) : Nat) : Int)⟩ := by
      rw [hMM]
      simp [latesP, List.getElem?_range, hi2]
     rw [hl, hdv, ← hmd]
     simp only [Option.map_some]
     have : i % M % (q + 1) = i % (q + 1) := by rw [← hMM]; exact Nat.mod_mul_left_mod i (q + 1) (q + 1)
     rw [this]
end Go.Proofs.Ytkmodnggncadeaa
namespace Go.Proofs.Ytkmodnggncadeaa
open Go.RowKit
set_option linter.unusedSimpArgs false
set_option linter.unusedVariables false
attribute [local go_sem] iteMin iteMax iteMinN iteMaxN
def lateF (N1 n : Nat) : P2 := ⟨((n % (N1 * N1) / N1 : Nat) : Int), ((n % N1 : Nat) : Int)⟩
set_option maxRecDepth 100000 in
set_option maxHeartbeats 2000000 in
theorem late_any (k0 k1 R Q : Int) (q n : Nat) (w : World) (hq : q ≤ 3) (hn : n ≤ 4800) :
 Calls Try.prog 19 #[.agg #[.int .i64 k0, .int .i64 k1, .int .i64 R, .int .i64 Q, .int .i64 q], .int .i64 n] w fun e w' => e = .returned (.agg #[.int .i64 (lateF (q + 1) n).x, .int .i64 (lateF (q + 1) n).y]) ∧ Below w.heap.size w w' := by
 obtain ⟨S, hS⟩ : ∃ S, w.heap.size = S := ⟨_, rfl⟩
 obtain ⟨N1, hN1⟩ : ∃ N1 : Nat, q + 1 = N1 := ⟨_, rfl⟩
 have h1 : 1 ≤ N1 ∧ N1 ≤ 4 := by omega
 have hc : (q : Int) + 1 = (N1 : Int) := by omega
 have hw1 : IntKind.i64.wrap ((q : Int) + 1) = (N1 : Int) := by rw [hc]; exact IntWalk.i64_in _ (by omega)
 obtain ⟨M, hM⟩ : ∃ M : Nat, N1 * N1 = M := ⟨_, rfl⟩
 have hM1 : 1 ≤ M ∧ M ≤ 16 := by
  have a1 := Nat.mul_le_mul h1.1 h1.1
  have a2 := Nat.mul_le_mul h1.2 h1.2
  omega
 have hw2 : IntKind.i64.wrap ((N1 : Int) * (N1 : Int)) = (M : Int) := by rw [← Int.natCast_mul, hM]; exact IntWalk.i64_in _ (by omega)
 obtain ⟨a, ha⟩ : ∃ a : Nat, n % M = a := ⟨_, rfl⟩
 obtain ⟨b, hb⟩ : ∃ b : Nat, a / N1 = b := ⟨_, rfl⟩
 obtain ⟨d, hd⟩ : ∃ d : Nat, n % N1 = d := ⟨_, rfl⟩
 have t1 : Int.tmod (n : Int) (M : Int) = (a : Int) := by rw [← ha]; rfl
 have t2 : Int.tdiv (a : Int) (N1 : Int) = (b : Int) := by rw [← hb]; rfl
 have t3 : Int.tmod (n : Int) (N1 : Int) = (d : Int) := by rw [← hd]; rfl
 have b1 : b ≤ a := by rw [← hb]; exact Nat.div_le_self _ _
 have b2 : a < M := by rw [← ha]; exact Nat.mod_lt _ (by omega)
 have b3 : d < N1 := by rw [← hd]; exact Nat.mod_lt _ (by omega)
 have w3 : IntKind.i64.wrap (a : Int) = (a : Int) := IntWalk.i64_in _ (by omega)
 have w4 : IntKind.i64.wrap (b : Int) = (b : Int) := IntWalk.i64_in _ (by omega)
 have w5 : IntKind.i64.wrap (d : Int) = (d : Int) := IntWalk.i64_in _ (by omega)
 have z1 : ((N1 : Int) == 0) = false := by simp; omega
 have z2 : ((M : Int) == 0) = false := by simp; omega
 have z3 : ¬ ((N1 : Int) = 0) := by omega
 have z4 : ¬ ((M : Int) = 0) := by omega
 have z5 : ¬ N1 = 0 := by omega
 have z6 : ¬ M = 0 := by omega
 have HR : Hid (lateF (q + 1) n = ⟨(b : Int), (d : Int)⟩) := hide (by unfold lateF; rw [hN1, hM, ha, hb, hd])
 rw [HR.out]
 clear hM ha hb hd hN1 hc
 go_enter Try.func19, Try.ntmps19
 go_upto_region 2 with fail
 obtain ⟨W, hW⟩ : ∃ W, W = (w.alloc (.cells #[.int .i64 k0, .int .i64 k1, .int .i64 R, .int .i64 Q, .int .i64 q] 24)).alloc (.cells #[.int .i64 0, .int .i64 0] 22) := ⟨_, rfl⟩
 rw [← hW]
 have hB : Below S w W := by rw [hW, ← hS]; exact ((Below.refl _ _).alloc (Nat.le_refl _) _).alloc (by simp) _
 have c0 : W.cell? ⟨S + 1, 0, none⟩ = some (.int .i64 0) := by rw [hW, ← hS]; simp [go_sem]
 have c1 : W.cell? ⟨S + 1, 1, none⟩ = some (.int .i64 0) := by rw [hW, ← hS]; simp [go_sem]
 have cf : ∀ j, W.frozen? ⟨S + 1, j, none⟩ = false := by intro j; rw [hW, ← hS]; simp [go_sem]
 clear hW
 go_region
 go_wp2
 refine bodyPost_ret (v := .agg #[.int .i64 (b : Int), .int .i64 (d : Int)]) ?_ rfl ⟨rfl, ?_⟩
 · simp [results, Try.f19, go_sem, c0, c1]
 · rw [hS]; exact ((hB.setCell (by simp only; omega) _).setCell (by simp only; omega) _).drew
end Go.Proofs.Ytkmodnggncadeaa
namespace Go.Proofs.Ytkmodnggncadeaa
open Go.RowKit
set_option linter.unusedSimpArgs false
set_option linter.unusedVariables false
def Ap (a b : Value) : Prop := a.ownBlock = none ∨ a.ownBlock ≠ b.ownBlock
theorem Ap.symm {a b : Value} (h : Ap a b) : Ap b a := by
 unfold Ap at *
 rcases h with h | h
 · by_cases hb : b.ownBlock = none
   · exact .inl hb
   · exact .inr (by rw [h]; exact hb)
 · exact .inr (fun e => h e.symm)
theorem Ap.new {a v : Value} {g H cap n : Nat} (h : Ap a v) (hg : v.ownBlock = some g ∨ g = H) (ha : ∀ k, a.ownBlock = some k → k < H) : Ap a (.slice (some ⟨g, 0, none⟩) n cap) := by
 unfold Ap at *
 rcases h with h | h
 · exact .inl h
 · by_cases hn : a.ownBlock = none
   · exact .inl hn
   · right
     intro e
     have e2 : a.ownBlock = some g := e
     rcases hg with hg | rfl
     · exact h (by rw [hg, e2])
     · have := ha _ e2; omega
theorem Ap.nil (b : Value) : Ap (.slice none 0 0) b := .inl rfl
structure R3 (w : World) (B e : Nat) (A1 A2 A3 : List Int) (v1 : Value) (k1 : Nat) (v2 : Value) (k2 : Nat) (v3 : Value) (k3 : Nat) : Prop where
 o1 : w.ownsRow B e 1 v1 k1 ((A1.take k1).map (Value.int .i64))
 o2 : w.ownsRow B e 1 v2 k2 ((A2.take k2).map (Value.int .i64))
 o3 : w.ownsRow B e 1 v3 k3 ((A3.take k3).map (Value.int .i64))
 a12 : Ap v1 v2
 a13 : Ap v1 v3
 a23 : Ap v2 v3
section
variable {w w' : World} {B e k1 k2 k3 : Nat} {A1 A2 A3 : List Int} {v1 v2 v3 : Value}
theorem R3.alloc (h : R3 w B e A1 A2 A3 v1 k1 v2 k2 v3 k3) (o : Obj) : R3 (w.alloc o) B e A1 A2 A3 v1 k1 v2 k2 v3 k3 := ⟨h.o1.alloc o, h.o2.alloc o, h.o3.alloc o, h.a12, h.a13, h.a23⟩
theorem R3.drew (h : R3 w B e A1 A2 A3 v1 k1 v2 k2 v3 k3) : R3 w.drew B e A1 A2 A3 v1 k1 v2 k2 v3 k3 := ⟨h.o1, h.o2, h.o3, h.a12, h.a13, h.a23⟩
theorem R3.drewN (h : R3 w B e A1 A2 A3 v1 k1 v2 k2 v3 k3) (m : Nat) : R3 (w.drewN m) B e A1 A2 A3 v1 k1 v2 k2 v3 k3 := ⟨h.o1, h.o2, h.o3, h.a12, h.a13, h.a23⟩
theorem R3.kept (h : R3 w B e A1 A2 A3 v1 k1 v2 k2 v3 k3) {g : Nat} (hg : w.grownBy w' (some g)) (hB : g < B) : R3 w' B e A1 A2 A3 v1 k1 v2 k2 v3 k3 := by
 have key : ∀ {v : Value} {n : Nat} {xs : List Value}, w.ownsRow B e 1 v n xs → w'.ownsRow B e 1 v n xs := fun ho => ho.kept hg (.inr (fun e => by have := own_row ho g e; omega))
 exact ⟨key h.o1, key h.o2, key h.o3, h.a12, h.a13, h.a23⟩
theorem R3.push1 (h : R3 w B e A1 A2 A3 v1 k1 v2 k2 v3 k3) {g cap H : Nat} {x : Int} (hk : k1 < A1.length) (hx : x = A1.getD k1 0) (ho : w'.ownsRow B e 1 (.slice (some ⟨g, 0, none⟩) (k1 + 1) cap) (k1 + 1) ((A1.take k1).map (Value.int .i64) ++ [.int .i64 x]))
 (hg : w.grownBy w' v1.ownBlock) (hat : v1.ownBlock = some g ∨ g = H) (hH : w.heap.size ≤ H) : R3 w' B e A1 A2 A3 (.slice (some ⟨g, 0, none⟩) (k1 + 1) cap) (k1 + 1) v2 k2 v3 k3 :=
 ⟨own_next hk hx ho, h.o2.kept hg h.a12.symm, h.o3.kept hg h.a13.symm, (h.a12.symm.new hat (fun k hk => Nat.lt_of_lt_of_le (h.o2.lt k hk).2 hH)).symm, (h.a13.symm.new hat (fun k hk => Nat.lt_of_lt_of_le (h.o3.lt k hk).2 hH)).symm, h.a23⟩
theorem R3.push2 (h : R3 w B e A1 A2 A3 v1 k1 v2 k2 v3 k3) {g cap H : Nat} {x : Int} (hk : k2 < A2.length) (hx : x = A2.getD k2 0) (ho : w'.ownsRow B e 1 (.slice (some ⟨g, 0, none⟩) (k2 + 1) cap) (k2 + 1) ((A2.take k2).map (Value.int .i64) ++ [.int .i64 x]))
 (hg : w.grownBy w' v2.ownBlock) (hat : v2.ownBlock = some g ∨ g = H) (hH : w.heap.size ≤ H) : R3 w' B e A1 A2 A3 v1 k1 (.slice (some ⟨g, 0, none⟩) (k2 + 1) cap) (k2 + 1) v3 k3 :=
 ⟨h.o1.kept hg h.a12, own_next hk hx ho, h.o3.kept hg h.a23.symm, h.a12.new hat (fun k hk => Nat.lt_of_lt_of_le (h.o1.lt k hk).2 hH), h.a13, (h.a23.symm.new hat (fun k hk => Nat.lt_of_lt_of_le (h.o3.lt k hk).2 hH)).symm⟩
theorem R3.push3 (h : R3 w B e A1 A2 A3 v1 k1 v2 k2 v3 k3) {g cap H : Nat} {x : Int} (hk : k3 < A3.length) (hx : x = A3.getD k3 0) (ho : w'.ownsRow B e 1 (.slice (some ⟨g, 0, none⟩) (k3 + 1) cap) (k3 + 1) ((A3.take k3).map (Value.int .i64) ++ [.int .i64 x]))
 (hg : w.grownBy w' v3.ownBlock) (hat : v3.ownBlock = some g ∨ g = H) (hH : w.heap.size ≤ H) : R3 w' B e A1 A2 A3 v1 k1 v2 k2 (.slice (some ⟨g, 0, none⟩) (k3 + 1) cap) (k3 + 1) :=
 ⟨h.o1.kept hg h.a13, h.o2.kept hg h.a23, own_next hk hx ho, h.a12, h.a13.new hat (fun k hk => Nat.lt_of_lt_of_le (h.o1.lt k hk).2 hH), h.a23.new hat (fun k hk => Nat.lt_of_lt_of_le (h.o2.lt k hk).2 hH)⟩
end
theorem far_row {w w' : World} {B e n S b : Nat} {v u : Value} {xs : List Value} {w0 : World} (h0 : w0.ownsRow B e 1 v n xs) (hg : w.grownBy w' v.ownBlock) (hS : w0.heap.size = S) (hb : S ≤ b) (hc : w.cell? ⟨b, 0, none⟩ = some u) : w'.cell? ⟨b, 0, none⟩ = some u := by
 have hlt := World.block_lt_of_cell? w _ hc
 refine (hg.cell_far _ hlt (fun e => ?_)).trans hc
 have := (h0.lt b e.symm).2
 omega
theorem box_row {w w' : World} {B e n b j : Nat} {v u : Value} {xs : List Value} {w0 : World} (h0 : w0.ownsRow B e 1 v n xs) (hg : w.grownBy w' v.ownBlock) (hb : b < B) (hc : w.cell? ⟨b, j, none⟩ = some u) : w'.cell? ⟨b, j, none⟩ = some u := by
 have hlt := World.block_lt_of_cell? w _ hc
 exact (hg.cell_far _ hlt (own_far h0 hb)).trans hc
theorem news_alloc {w : World} {b : Nat} {u : Value} {o : Obj} (h : w.cell? ⟨b, 0, none⟩ = some u) : (w.alloc o).cell? ⟨b, 0, none⟩ = some u := by
 have hlt := World.block_lt_of_cell? w _ h
 exact (((Below.refl w.heap.size w).alloc (Nat.le_refl _) o).cell hlt).trans h
theorem alloc_cell {w : World} {p : Addr} {u : Value} {o : Obj} (h : w.cell? p = some u) : (w.alloc o).cell? p = some u :=
 (((Below.refl w.heap.size w).alloc (Nat.le_refl _) o).cell (World.block_lt_of_cell? w _ h)).trans h
theorem drew_cell {w : World} {p : Addr} {u : Value} (h : w.cell? p = some u) : w.drew.cell? p = some u := h
theorem blk_alloc {w : World} {b : Nat} {o p : Obj} (h : w.heap[b]? = some o) : (w.alloc p).heap[b]? = some o := (Below.heap_alloc w p b (lt_of_block h)).trans h
theorem blk_drew {w : World} {b : Nat} {o : Obj} (h : w.heap[b]? = some o) : w.drew.heap[b]? = some o := h
theorem blk_row {w w' : World} {B e n b : Nat} {v : Value} {o : Obj} {xs : List Value} {w0 : World} (h0 : w0.ownsRow B e 1 v n xs) (hg : w.grownBy w' v.ownBlock) (hb : b < B) (h : w.heap[b]? = some o) : w'.heap[b]? = some o :=
 (hg.block b (lt_of_block h) (own_far h0 hb)).trans h
theorem bel_row {a w w' : World} {B e n C : Nat} {v : Value} {xs : List Value} {w0 : World} (h0 : w0.ownsRow B e 1 v n xs) (hg : w.grownBy w' v.ownBlock) (hC : C ≤ B) (hs : C ≤ w.heap.size) (h : Below C a w) : Below C a w' :=
 h.grown hg hs (fun k hk => Nat.le_trans hC (own_row h0 k hk))
theorem news_drew {w : World} {b : Nat} {u : Value} (h : w.cell? ⟨b, 0, none⟩ = some u) : w.drew.cell? ⟨b, 0, none⟩ = some u := h
theorem news_new {w : World} {b : Nat} {u : Value} {t : TypeId} (h : w.heap.size = b) : (w.alloc (.cells #[u] t)).cell? ⟨b, 0, none⟩ = some u := by
 subst h; unfold World.cell?; rw [heap_alloc_new w _]; rfl
theorem news_list {w : World} {b : Nat} {u : Value} (h : w.cell? ⟨b, 0, none⟩ = some u) : ∀ (j : Nat) (x : Value), [u][j]? = some x → w.cell? ((⟨b, 0, none⟩ : Addr).add j) = some x := by
 intro j x hj
 have hj0 : j = 0 := by
  have := (List.getElem?_eq_some_iff.1 hj).1
  simp at this; omega
 subst hj0
 simp at hj
 subst hj
 have : (⟨b, 0, none⟩ : Addr).add 0 = ⟨b, 0, none⟩ := by unfold Addr.add; simp
 rw [this]; exact h
end Go.Proofs.Ytkmodnggncadeaa
