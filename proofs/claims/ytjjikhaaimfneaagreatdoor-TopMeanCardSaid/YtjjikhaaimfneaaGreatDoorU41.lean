/-
  Lemmas and walks for the statement: Karp, PMostW, MnP, TMnP, MLow.
-/
import Derived.Test.YtjjikhaaimfneaaGreatDoorU29
import Derived.Test.YtjjikhaaimfneaaGreatDoorU30
import Derived.Test.YtjjikhaaimfneaaGreatDoorU02
import Derived.Test.YtjjikhaaimfneaaGreatDoorProg
import Derived.Test.YtjjikhaaimfneaaGreatDoorU01
import Derived.BigRegion
namespace Go.Proofs.YtjjikhaaimfneaaGreatDoor
set_option linter.unusedSimpArgs false
set_option linter.unusedVariables false
/-! ### the greatest mean of a way round -/
def scl (es : List PE) (a b : Int) : List PE := es.map fun e => ⟨e.src, e.dst, e.wt * b - a⟩
def sclW (l : List PE) (a b : Int) : List PE := l.map fun e => ⟨e.src, e.dst, e.wt * b - a⟩
theorem sclW_len (l : List PE) (a b : Int) : (sclW l a b).length = l.length := by simp [sclW]
theorem sclW_sum (l : List PE) (a b : Int) : wsum (sclW l a b) = wsum l * b - l.length * a := by
 induction l with
 | nil => simp [sclW, wsum]
 | cons e l ih =>
   have h : sclW (e :: l) a b = ⟨e.src, e.dst, e.wt * b - a⟩ :: sclW l a b := rfl
   rw [h, wsum_cons, ih, wsum_cons, List.length_cons]
   have : ((l.length + 1 : Nat) : Int) = (l.length : Int) + 1 := by omega
   rw [this, Int.add_mul, Int.add_mul]; dsimp only; omega
theorem sclW_walk {es : List PE} {a b : Int} : ∀ {l : List PE} {u v : Nat}, IsWalk es u l v → IsWalk (scl es a b) u (sclW l a b) v := by
 intro l
 induction l with
 | nil => intro u v h; exact h
 | cons e l ih => intro u v h; exact ⟨List.mem_map.2 ⟨e, h.1, rfl⟩, h.2.1, ih h.2.2⟩
theorem unscl_walk {es : List PE} {a b : Int} : ∀ {l : List PE} {u v : Nat}, IsWalk (scl es a b) u l v → ∃ l', IsWalk es u l' v ∧ l = sclW l' a b := by
 intro l
 induction l with
 | nil => intro u v h; exact ⟨[], h, rfl⟩
 | cons e l ih =>
   intro u v h
   obtain ⟨e', he', hee⟩ := List.mem_map.1 h.1
   obtain ⟨l', h1, h2⟩ := ih h.2.2
   subst hee
   exact ⟨e' :: l', ⟨he', h.2.1, h1⟩, by rw [h2]; rfl⟩
theorem scl_inside {es : List PE} {N : Nat} {a b : Int} (h : Inside N es) : Inside N (scl es a b) := by
 intro e he
 obtain ⟨e', he', rfl⟩ := List.mem_map.1 he
 exact h e' he'
theorem pot_of_none {es : List PE} {N : Nat} (hin : Inside N es) (h : ∀ u l, IsWalk es u l u → wsum l ≤ 0) : Pot es (siter es N) :=
 siter_fix fun v => by
  rcases Int.lt_or_le (siter es N v) (siter es (N + 1) v) with h1 | h1
  · obtain ⟨u, l, h2, _, _, h5⟩ := siter_cycle hin (Nat.le_succ N) h1
    have := h u l h2; omega
  · have := siter_mono es N v; omega
theorem sclPot_iff {es : List PE} {N : Nat} (hin : Inside N es) (a b : Int) : (∃ p, Pot (scl es a b) p) ↔ ∀ u l, IsWalk es u l u → wsum l * b ≤ l.length * a := by
 constructor
 · rintro ⟨p, hp⟩ u l hl
   have := pot_no_cycle hp (sclW_walk (a := a) (b := b) hl)
   rw [sclW_sum] at this; omega
 · intro h
   refine ⟨_, pot_of_none (N := N) (scl_inside hin) (fun u l hl => ?_)⟩
   obtain ⟨l', h1, rfl⟩ := unscl_walk hl
   have := h u l' h1
   rw [sclW_sum]; omega
def nodeAt (u : Nat) : List PE → Nat → Nat
 | _, 0 => u
 | [], _ + 1 => u
 | e :: l, k + 1 => nodeAt e.dst l k
theorem nodeAt_lt {es : List PE} {N : Nat} (hin : Inside N es) : ∀ {l : List PE} {u v : Nat}, IsWalk es u l v → 0 < l.length → ∀ k, k ≤ l.length → nodeAt u l k < N := by
 intro l
 induction l with
 | nil => intro u v _ h; simp at h
 | cons e l ih =>
   intro u v h _ k hk
   have h1 := hin e h.1
   cases k with
   | zero => rw [← h.2.1]; exact h1.1
   | succ k =>
     show nodeAt e.dst l k < N
     cases l with
     | nil => cases k <;> exact h1.2
     | cons d l => exact ih h.2.2 (by simp) k (by simpa using hk)
theorem walk_split {es : List PE} : ∀ {l : List PE} {u v : Nat}, IsWalk es u l v → ∀ k, k ≤ l.length → IsWalk es u (l.take k) (nodeAt u l k) ∧ IsWalk es (nodeAt u l k) (l.drop k) v := by
 intro l
 induction l with
 | nil =>
   intro u v h k hk
   have : k = 0 := by simpa using hk
   subst this
   exact ⟨rfl, h⟩
 | cons e l ih =>
   intro u v h k hk
   cases k with
   | zero => exact ⟨rfl, h⟩
   | succ k =>
     obtain ⟨h1, h2⟩ := ih h.2.2 k (by simpa using hk)
     exact ⟨⟨h.1, h.2.1, h1⟩, h2⟩
theorem nodeAt_drop {es : List PE} : ∀ {l : List PE} {u v : Nat}, IsWalk es u l v → ∀ i j, i + j ≤ l.length → nodeAt (nodeAt u l i) (l.drop i) j = nodeAt u l (i + j) := by
 intro l
 induction l with
 | nil =>
   intro u v h i j hij
   have hi : i = 0 := by simp at hij; omega
   have hj : j = 0 := by simp at hij; omega
   subst hi hj; rfl
 | cons e l ih =>
   intro u v h i j hij
   cases i with
   | zero => simp [nodeAt]
   | succ i =>
     rw [show i + 1 + j = i + j + 1 by omega]
     exact ih h.2.2 i j (by simp at hij; omega)
theorem cut_loop {es : List PE} {N : Nat} (hin : Inside N es) {l : List PE} {u v : Nat} (h : IsWalk es u l v) (hl : N ≤ l.length) (h0 : 0 < l.length) :
 ∃ x c r, IsWalk es x c x ∧ 0 < c.length ∧ c.length ≤ N ∧ IsWalk es u r v ∧ r.length + c.length = l.length ∧ wsum l = wsum r + wsum c := by
 obtain ⟨i, j, hij, hj, he⟩ := pigeon N (nodeAt u l) (fun i hi => nodeAt_lt hin h h0 i (by omega))
 obtain ⟨a1, a2⟩ := walk_split h i (by omega)
 have hd : j - i ≤ (l.drop i).length := by simp; omega
 obtain ⟨b1, b2⟩ := walk_split a2 (j - i) hd
 have hn : nodeAt (nodeAt u l i) (l.drop i) (j - i) = nodeAt u l j := by rw [nodeAt_drop h i (j - i) (by omega), show i + (j - i) = j by omega]
 rw [hn] at b1 b2
 rw [← he] at b1 b2
 refine ⟨nodeAt u l i, (l.drop i).take (j - i), l.take i ++ (l.drop i).drop (j - i), b1, ?_, ?_, a1.append b2, ?_, ?_⟩
 · simp; omega
 · simp; omega
 · simp; omega
 · have e1 : l = l.take i ++ ((l.drop i).take (j - i) ++ (l.drop i).drop (j - i)) := by rw [List.take_append_drop, List.take_append_drop]
   conv => lhs; rw [e1]
   rw [wsum_append, wsum_append, wsum_append]; omega
structure IsMean (es : List PE) (p : Int) (q : Nat) : Prop where
 pos : 0 < q
 le : ∀ u l, IsWalk es u l u → wsum l * q ≤ l.length * p
 is : ∃ u c, IsWalk es u c u ∧ c.length = q ∧ wsum c = p
theorem wsum_bd {es : List PE} {M : Int} (hM : ∀ e ∈ es, -M ≤ e.wt ∧ e.wt ≤ M) : ∀ {l : List PE} {u v : Nat}, IsWalk es u l v → -(l.length * M) ≤ wsum l ∧ wsum l ≤ l.length * M := by
 intro l
 induction l with
 | nil => intro u v _; simp [wsum]
 | cons e l ih =>
   intro u v h
   have h1 := ih h.2.2
   have h2 := hM e h.1
   rw [wsum_cons, List.length_cons]
   have : ((l.length + 1 : Nat) : Int) * M = (l.length : Int) * M + M := by
    rw [show ((l.length + 1 : Nat) : Int) = (l.length : Int) + 1 by omega, Int.add_mul]; omega
   omega
theorem mean_short {es : List PE} {N : Nat} {M : Nat} (hM : ∀ e ∈ es, -(M : Int) ≤ e.wt ∧ e.wt ≤ M) (h : ∃ u c, IsWalk es u c u ∧ 0 < c.length ∧ c.length ≤ N) :
 ∃ (p : Int) (q : Nat), 0 < q ∧ q ≤ N ∧ (∃ u c, IsWalk es u c u ∧ c.length = q ∧ wsum c = p) ∧ ∀ u l, IsWalk es u l u → 0 < l.length → l.length ≤ N → wsum l * q ≤ l.length * p := by
 classical
 let S : List (Nat × Nat) := ((List.range (N + 1)).flatMap fun q => (List.range (2 * N * M + 1)).map fun t => (q, t)).filter fun x => decide (0 < x.1 ∧ ∃ u c, IsWalk es u c u ∧ c.length = x.1 ∧ wsum c = (x.2 : Int) - (N * M : Nat))
 have mem : ∀ u c, IsWalk es u c u → 0 < c.length → c.length ≤ N → ∃ t, (c.length, t) ∈ S ∧ wsum c = (t : Int) - (N * M : Nat) := by
  intro u c hc h0 hN
  have hb := wsum_bd hM hc
  have h1 : (c.length : Int) * M ≤ (N * M : Nat) := by
   have : c.length * M ≤ N * M := Nat.mul_le_mul_right M hN
   exact_mod_cast this
  refine ⟨(wsum c + (N * M : Nat)).toNat, ?_, by omega⟩
  have h2 : ((wsum c + (N * M : Nat)).toNat : Int) = wsum c + (N * M : Nat) := by omega
  simp only [S, List.mem_filter, List.mem_flatMap, List.mem_range, List.mem_map, decide_eq_true_eq]
  refine ⟨⟨c.length, by omega, _, ?_, rfl⟩, h0, u, c, hc, rfl, by rw [h2]; omega⟩
  have : 2 * N * M = N * M + N * M := by rw [Nat.mul_assoc, Nat.two_mul]
  omega
 have hne : S ≠ [] := by
  obtain ⟨u, c, hc, h0, hN⟩ := h
  obtain ⟨t, ht, _⟩ := mem u c hc h0 hN
  intro e; rw [e] at ht; simp at ht
 have pos : ∀ x ∈ S, 0 < x.1 ∧ x.1 ≤ N ∧ ∃ u c, IsWalk es u c u ∧ c.length = x.1 ∧ wsum c = (x.2 : Int) - (N * M : Nat) := by
  intro x hx
  simp only [S, List.mem_filter, List.mem_flatMap, List.mem_range, List.mem_map, decide_eq_true_eq] at hx
  obtain ⟨⟨q, hq, t, ht, rfl⟩, h1, h2⟩ := hx
  exact ⟨h1, by simp only; omega, h2⟩
 let f : Nat × Nat → Nat × Nat → Prop := fun x y => x.1 = 0 ∨ y.1 = 0 ∨ ((x.2 : Int) - (N * M : Nat)) * y.1 ≤ x.1 * ((y.2 : Int) - (N * M : Nat))
 have key : ∀ l : List (Nat × Nat), (∀ x ∈ l, 0 < x.1) → l ≠ [] → ∃ m ∈ l, ∀ x ∈ l, ((x.2 : Int) - (N * M : Nat)) * m.1 ≤ x.1 * ((m.2 : Int) - (N * M : Nat)) := by
  intro l
  induction l with
  | nil => intro _ h; exact absurd rfl h
  | cons x l ih =>
    intro hp _
    by_cases hl : l = []
    · subst hl
      exact ⟨x, by simp, fun y hy => by
       obtain rfl : y = x := by simpa using hy
       rw [Int.mul_comm]; exact Int.le_refl _⟩
    · obtain ⟨m, hm, hmx⟩ := ih (fun y hy => hp y (by simp [hy])) hl
      rcases Int.le_total (((x.2 : Int) - (N * M : Nat)) * m.1) (x.1 * ((m.2 : Int) - (N * M : Nat))) with h1 | h1
      · exact ⟨m, by simp [hm], fun y hy => by
         rcases List.mem_cons.1 hy with rfl | hy
         · exact h1
         · exact hmx y hy⟩
      · refine ⟨x, by simp, fun y hy => ?_⟩
        rcases List.mem_cons.1 hy with rfl | hy
        · rw [Int.mul_comm]; exact Int.le_refl _
        · have h2 := hmx y hy
          have hm0 : (0 : Int) < m.1 := by have := hp m (by simp [hm]); omega
          have hy0 : (0 : Int) < y.1 := by have := hp y (by simp [hy]); omega
          have hx0 : (0 : Int) < x.1 := by have := hp x (by simp); omega
          generalize (x.2 : Int) - (N * M : Nat) = X at *
          generalize (y.2 : Int) - (N * M : Nat) = Y at *
          generalize (m.2 : Int) - (N * M : Nat) = Z at *
          have h3 : Y * (m.1 : Int) * x.1 ≤ y.1 * Z * x.1 := Int.mul_le_mul_of_nonneg_right h2 (by omega)
          have h4 : (y.1 : Int) * (x.1 * Z) ≤ y.1 * (X * m.1) := Int.mul_le_mul_of_nonneg_left h1 (by omega)
          have h5 : Y * (m.1 : Int) * x.1 = Y * x.1 * m.1 := by rw [Int.mul_assoc, Int.mul_comm (m.1 : Int), ← Int.mul_assoc]
          have h6 : (y.1 : Int) * Z * x.1 = y.1 * (x.1 * Z) := by rw [Int.mul_assoc, Int.mul_comm Z]
          have h7 : (y.1 : Int) * (X * m.1) = y.1 * X * m.1 := by rw [Int.mul_assoc]
          rw [h5, h6] at h3
          rw [h7] at h4
          have h8 : Y * (x.1 : Int) * m.1 ≤ y.1 * X * m.1 := Int.le_trans h3 h4
          exact Int.le_of_mul_le_mul_right h8 hm0
 obtain ⟨m, hm, hmx⟩ := key S (fun x hx => (pos x hx).1) hne
 obtain ⟨m0, mN, u, c, hc, hcl, hcw⟩ := pos m hm
 refine ⟨(m.2 : Int) - (N * M : Nat), m.1, m0, mN, ⟨u, c, hc, hcl, hcw⟩, fun u l hl h0 hN => ?_⟩
 obtain ⟨t, ht, hw⟩ := mem u l hl h0 hN
 rw [hw]
 exact hmx _ ht
theorem mean_ex {es : List PE} {N M : Nat} (hin : Inside N es) (hM : ∀ e ∈ es, -(M : Int) ≤ e.wt ∧ e.wt ≤ M) (h : ∃ u c, IsWalk es u c u ∧ 0 < c.length) : ∃ (p : Int) (q : Nat), q ≤ N ∧ IsMean es p q := by
 have hs : ∃ u c, IsWalk es u c u ∧ 0 < c.length ∧ c.length ≤ N := by
  obtain ⟨u, c, hc, h0⟩ := h
  by_cases hl : c.length ≤ N
  · exact ⟨u, c, hc, h0, hl⟩
  · obtain ⟨x, c', _, h1, h2, h3, _⟩ := cut_loop hin hc (by omega) h0
    exact ⟨x, c', h1, h2, h3⟩
 obtain ⟨p, q, hq, hqN, his, hle⟩ := mean_short hM hs
 refine ⟨p, q, hqN, hq, ?_, his⟩
 have key : ∀ n (u : Nat) (l : List PE), l.length ≤ n → IsWalk es u l u → wsum l * q ≤ l.length * p := by
  intro n
  induction n with
  | zero =>
    intro u l hl _
    have : l = [] := List.length_eq_zero_iff.1 (by omega)
    subst this; simp [wsum]
  | succ n ih =>
    intro u l hl hw
    by_cases h0 : l.length = 0
    · have : l = [] := List.length_eq_zero_iff.1 h0
      subst this; simp [wsum]
    · by_cases hN : l.length ≤ N
      · exact hle u l hw (by omega) hN
      · obtain ⟨x, c, r, h1, h2, h3, h4, h5, h6⟩ := cut_loop hin hw (by omega) (by omega)
        have a1 := hle x c h1 h2 h3
        have a2 := ih u r (by omega) h4
        rw [h6, ← h5, Int.add_mul]
        have : ((r.length + c.length : Nat) : Int) * p = r.length * p + c.length * p := by
         rw [show ((r.length + c.length : Nat) : Int) = (r.length : Int) + c.length by omega, Int.add_mul]
        omega
 exact fun u l hw => key l.length u l (Nat.le_refl _) hw
/-! ### Karp's table -/
def NONE : Int := -4611686018427387904
def kfold (last : Nat → Int) (es : List PE) (nx : Nat → Int) : Nat → Int :=
 es.foldl (fun nx e => if NONE < last e.src then upd nx e.dst (max (nx e.dst) (last e.src + e.wt)) else nx) nx
def kiter (es : List PE) : Nat → Nat → Int
 | 0 => fun _ => 0
 | k + 1 => kfold (kiter es k) es (fun _ => NONE)
theorem kfold_ge (last : Nat → Int) (es : List PE) : ∀ (nx : Nat → Int) (v : Nat), nx v ≤ kfold last es nx v := by
 induction es with
 | nil => intro nx v; exact Int.le_refl _
 | cons e es ih =>
   intro nx v
   show nx v ≤ kfold last es _ v
   refine Int.le_trans ?_ (ih _ v)
   dsimp only
   split
   · simp only [upd]; split
     · subst v; omega
     · omega
   · omega
theorem kfold_edge (last : Nat → Int) (es : List PE) : ∀ (nx : Nat → Int), ∀ e ∈ es, NONE < last e.src → last e.src + e.wt ≤ kfold last es nx e.dst := by
 induction es with
 | nil => intro nx e h; simp at h
 | cons d es ih =>
   intro nx e h hn
   rcases List.mem_cons.1 h with rfl | h
   · show _ ≤ kfold last es _ e.dst
     dsimp only
     rw [if_pos hn]
     refine Int.le_trans ?_ (kfold_ge last es _ e.dst)
     simp [upd]; omega
   · exact ih _ e h hn
theorem kfold_from (last : Nat → Int) (es : List PE) : ∀ (nx : Nat → Int) (v : Nat), kfold last es nx v = nx v ∨ ∃ e ∈ es, e.dst = v ∧ NONE < last e.src ∧ kfold last es nx v = last e.src + e.wt := by
 induction es with
 | nil => intro nx v; exact .inl rfl
 | cons d es ih =>
   intro nx v
   have hd : kfold last (d :: es) nx = kfold last es (if NONE < last d.src then upd nx d.dst (max (nx d.dst) (last d.src + d.wt)) else nx) := rfl
   rw [hd]
   rcases ih (if NONE < last d.src then upd nx d.dst (max (nx d.dst) (last d.src + d.wt)) else nx) v with h | ⟨e, he, hv, hn, h⟩
   · rw [h]
     split
     · rename_i hn
       by_cases hv : v = d.dst
       · subst hv
         simp only [upd, if_pos]
         rcases Int.le_total (nx d.dst) (last d.src + d.wt) with h1 | h1
         · exact .inr ⟨d, by simp, rfl, hn, by omega⟩
         · exact .inl (by omega)
       · exact .inl (by simp [upd, hv])
     · exact .inl rfl
   · exact .inr ⟨e, List.mem_cons_of_mem _ he, hv, hn, h⟩
structure KSays (es : List PE) (k v : Nat) (x : Int) : Prop where
 no : x = NONE → ∀ u l, IsWalk es u l v → l.length ≠ k
 is : x ≠ NONE → ∃ u l, IsWalk es u l v ∧ l.length = k ∧ wsum l = x
 ge : ∀ u l, IsWalk es u l v → l.length = k → wsum l ≤ x
theorem IsWalk.last_ {es : List PE} : ∀ {l : List PE} {u v : Nat}, IsWalk es u l v → 0 < l.length → ∃ r e, l = r ++ [e] ∧ e ∈ es ∧ e.dst = v ∧ IsWalk es u r e.src := by
 intro l
 induction l with
 | nil => intro u v _ h; simp at h
 | cons e l ih =>
   intro u v h _
   cases l with
   | nil => exact ⟨[], e, rfl, h.1, h.2.2, h.2.1.symm⟩
   | cons d l =>
     obtain ⟨r, e', h1, h2, h3, h4⟩ := ih h.2.2 (by simp)
     exact ⟨e :: r, e', by rw [h1]; rfl, h2, h3, h.1, h.2.1, h4⟩
theorem kiter_says {es : List PE} (hM : ∀ e ∈ es, -(1048576 : Int) ≤ e.wt ∧ e.wt ≤ 1048576) : ∀ k, k ≤ 1000000 → ∀ v, KSays es k v (kiter es k v) := by
 intro k
 induction k with
 | zero =>
   intro _ v
   refine ⟨fun h => by simp [kiter, NONE] at h, fun _ => ⟨v, [], rfl, rfl, rfl⟩, fun u l _ h => ?_⟩
   have : l = [] := List.length_eq_zero_iff.1 h
   subst this; simp [wsum, kiter]
 | succ k ih =>
   intro hk v
   have hI := ih (by omega)
   have big : ∀ {u x : Nat} {l : List PE}, IsWalk es u l x → l.length = k → NONE < kiter es k x := by
    intro u x l hl hlk
    have h1 := (hI x).ge u l hl hlk
    have h2 := (wsum_bd hM hl).1
    rw [hlk] at h2
    have : (k : Int) * 1048576 ≤ 1000000 * 1048576 := by omega
    unfold NONE; omega
   have ex : ∀ {u : Nat} {l : List PE}, IsWalk es u l v → l.length = k + 1 → wsum l ≤ kiter es (k + 1) v ∧ NONE < kiter es (k + 1) v := by
    intro u l hl hlk
    have hb := (wsum_bd hM hl).1
    obtain ⟨r, e, rfl, he, hd, hr⟩ := hl.last_ (by omega)
    have hrk : r.length = k := by simpa using hlk
    have h1 := big hr hrk
    have h2 := kfold_edge (kiter es k) es (fun _ => NONE) e he h1
    have h3 := (hI e.src).ge u r hr hrk
    rw [hd] at h2
    have h4 : kiter es (k + 1) v = kfold (kiter es k) es (fun _ => NONE) v := rfl
    rw [wsum_append, wsum_cons, wsum_nil] at hb ⊢
    have h5 : ((r ++ [e]).length : Int) * 1048576 ≤ 1000001 * 1048576 := by simp; omega
    refine ⟨by rw [h4]; omega, ?_⟩
    have hno : NONE = -4611686018427387904 := rfl
    rw [h4]; omega
   refine ⟨fun h u l hl hlk => ?_, fun h => ?_, fun u l hl hlk => (ex hl hlk).1⟩
   · have := (ex hl hlk).2; rw [h] at this; omega
   · rcases kfold_from (kiter es k) es (fun _ => NONE) v with h1 | ⟨e, he, hd, hn, h1⟩
     · exact absurd h1 h
     · obtain ⟨u, l, h2, h3, h4⟩ := (hI e.src).is (by omega)
       refine ⟨u, l ++ [e], h2.append ⟨he, rfl, hd⟩, by simp [h3], ?_⟩
       rw [wsum_append, wsum_cons, wsum_nil, h4]
       show _ = kfold (kiter es k) es (fun _ => NONE) v
       rw [h1]; omega
theorem kiter_b {es : List PE} (hM : ∀ e ∈ es, -(1048576 : Int) ≤ e.wt ∧ e.wt ≤ 1048576) {k : Nat} (hk : k ≤ 1000000) {v : Nat} (h : kiter es k v ≠ NONE) : -(k * 1048576 : Int) ≤ kiter es k v ∧ kiter es k v ≤ k * 1048576 := by
 obtain ⟨u, l, h1, h2, h3⟩ := (kiter_says hM k hk v).is h
 have := wsum_bd hM h1
 rw [h2, h3] at this; exact this
theorem go_round {es : List PE} {x : Nat} {C : List PE} (hC : IsWalk es x C x) (h0 : 0 < C.length) : ∀ n, ∃ y l C2 j, IsWalk es x l y ∧ l.length = n ∧ IsWalk es y C2 x ∧ wsum l + wsum C2 = j * wsum C ∧ (n + C2.length : Int) = j * C.length := by
 intro n
 induction n with
 | zero => exact ⟨x, [], C, 1, rfl, rfl, hC, by simp [wsum], by simp⟩
 | succ n ih =>
   obtain ⟨y, l, C2, j, h1, h2, h3, h4, h5⟩ := ih
   cases C2 with
   | nil =>
     have hy : y = x := h3
     subst hy
     cases C with
     | nil => simp at h0
     | cons e C' =>
       refine ⟨e.dst, l ++ [e], C', j + 1, h1.append ⟨hC.1, hC.2.1, rfl⟩, by simp [h2], hC.2.2, ?_, ?_⟩
       · rw [wsum_append, wsum_cons, wsum_nil]
         have : wsum (e :: C') = e.wt + wsum C' := wsum_cons e C'
         rw [Int.add_mul, ← h4, wsum_nil, this]; omega
       · rw [Int.add_mul, ← h5]; simp; omega
   | cons e C2 =>
     refine ⟨e.dst, l ++ [e], C2, j, h1.append ⟨h3.1, h3.2.1, rfl⟩, by simp [h2], h3.2.2, ?_, ?_⟩
     · rw [← h4, wsum_append, wsum_cons, wsum_cons, wsum_nil]; omega
     · rw [← h5]; simp; omega
theorem karp_le {es : List PE} {N : Nat} {p : Int} {q : Nat} (hin : Inside N es) (hM : ∀ e ∈ es, -(1048576 : Int) ≤ e.wt ∧ e.wt ≤ 1048576) (hN : N ≤ 1000000) (h0 : 0 < N) (hm : IsMean es p q) {v : Nat} (hv : kiter es N v ≠ NONE) :
 ∃ k, k < N ∧ kiter es k v ≠ NONE ∧ (kiter es N v - kiter es k v) * q ≤ ((N - k : Nat) : Int) * p := by
 obtain ⟨u, l, h1, h2, h3⟩ := (kiter_says hM N hN v).is hv
 obtain ⟨x, c, r, c1, c2, c3, r1, r2, r3⟩ := cut_loop hin h1 (by omega) (by omega)
 have hk : r.length < N := by omega
 have hg := (kiter_says hM r.length (by omega) v).ge u r r1 rfl
 refine ⟨r.length, hk, fun e => (kiter_says hM r.length (by omega) v).no e u r r1 rfl, ?_⟩
 have h4 := hm.le x c c1
 rw [show N - r.length = c.length by omega]
 refine Int.le_trans (Int.mul_le_mul_of_nonneg_right (?_ : _ ≤ wsum c) (by omega)) h4
 omega
theorem karp_ge {es : List PE} {N : Nat} {p : Int} {q : Nat} (hin : Inside N es) (hM : ∀ e ∈ es, -(1048576 : Int) ≤ e.wt ∧ e.wt ≤ 1048576) (hN : N ≤ 1000000) (hm : IsMean es p q) :
 ∃ v, v < N ∧ kiter es N v ≠ NONE ∧ ∀ k, k < N → kiter es k v ≠ NONE → ((N - k : Nat) : Int) * p ≤ (kiter es N v - kiter es k v) * q := by
 obtain ⟨x, C, hC, hCl, hCw⟩ := hm.is
 have hq := hm.pos
 have hp : Pot (scl es p q) (siter (scl es p q) N) := pot_of_none (scl_inside hin) (fun u l hl => by
  obtain ⟨l', h1, rfl⟩ := unscl_walk hl
  have := hm.le u l' h1
  rw [sclW_sum]; omega)
 obtain ⟨u, W, hW, hWl, hWw⟩ := siter_walk (scl es p q) N x
 obtain ⟨W', hW1, rfl⟩ := unscl_walk hW
 rw [sclW_len] at hWl
 obtain ⟨y, l, C2, j, g1, g2, g3, g4, g5⟩ := go_round hC (by omega) (N - W'.length)
 have hwalk : IsWalk es u (W' ++ l) y := hW1.append g1
 have hlen : (W' ++ l).length = N := by simp; omega
 have hs := kiter_says hM N hN y
 have hge := hs.ge u _ hwalk hlen
 have hny : kiter es N y ≠ NONE := fun e => hs.no e u _ hwalk hlen
 have hy : y < N := by
  by_cases hN0 : N = 0
  · exfalso
    cases C with
    | nil => simp at hCl; omega
    | cons e C => have := (hin e hC.1).1; omega
  · have := nodeAt_lt hin hwalk (by omega) N (by omega)
    have h9 : nodeAt u (W' ++ l) N = y := by
     have h8 := (walk_split hwalk N (by omega)).2
     rw [List.drop_eq_nil_of_le (by omega)] at h8
     exact h8
    rw [h9] at this; exact this
 refine ⟨y, hy, hny, fun k hk hnk => ?_⟩
 obtain ⟨u', l', k1, k2, k3⟩ := (kiter_says hM k (by omega) y).is hnk
 have hF : siter (scl es p q) N x = wsum W' * q - W'.length * p := by rw [hWw, sclW_sum]
 have hb := IsWalk.pot hp.2 (sclW_walk (a := p) (b := q) (k1.append g3))
 have hu0 := hp.1 u'
 rw [sclW_sum, wsum_append, List.length_append] at hb
 have e1 : ((l'.length + C2.length : Nat) : Int) * p = k * p + C2.length * p := by
  rw [show ((l'.length + C2.length : Nat) : Int) = (k : Int) + C2.length by omega, Int.add_mul]
 have e2 : (wsum l + wsum C2) * (q : Int) = ((N - W'.length : Nat) + C2.length : Int) * p := by
  rw [g4, g5, hCw, hCl, Int.mul_assoc, Int.mul_assoc, Int.mul_comm p]
 rw [wsum_append] at hge
 have e3 : (wsum W' + wsum l) * (q : Int) ≤ kiter es N y * q := Int.mul_le_mul_of_nonneg_right hge (by omega)
 have e4 : ((N - k : Nat) : Int) * p = N * p - k * p := by rw [show ((N - k : Nat) : Int) = (N : Int) - k by omega, Int.sub_mul]
 have e5 : ((N - W'.length : Nat) : Int) * p = N * p - W'.length * p := by rw [show ((N - W'.length : Nat) : Int) = (N : Int) - W'.length by omega, Int.sub_mul]
 rw [Int.add_mul] at e2 e3
 rw [Int.add_mul, e5] at e2
 rw [Int.add_mul, k3, e1] at hb
 rw [e4, Int.sub_mul]
 omega
/-! ### what the two programs reckon -/
def moreF (a b : Int × Int) : Prop := b.1 * a.2 < a.1 * b.2
instance (a b : Int × Int) : Decidable (moreF a b) := by unfold moreF; infer_instance
section
variable (es : List PE) (N v : Nat)
def frK (k : Nat) : Int × Int := (kiter es N v - kiter es k v, ((N - k : Nat) : Int))
def leastF : Nat → Int × Int
 | 0 => (0, 0)
 | k + 1 => if kiter es k v = NONE then leastF k else if (leastF k).2 = 0 ∨ moreF (leastF k) (frK es N v k) then frK es N v k else leastF k
end
def bestF (es : List PE) (N : Nat) : Nat → Int × Int
 | 0 => (0, 0)
 | v + 1 => if kiter es N v = NONE then bestF es N v else if (bestF es N v).2 = 0 ∨ moreF (leastF es N v N) (bestF es N v) then leastF es N v N else bestF es N v
theorem cross {a b c d e f : Int} (hd : 0 < d) (h1 : a * d ≤ c * b) (h2 : c * f ≤ e * d) (hb : 0 ≤ b) (hf : 0 ≤ f) : a * f ≤ e * b := by
 have h3 : a * d * f ≤ c * b * f := Int.mul_le_mul_of_nonneg_right h1 hf
 have h4 : c * f * b ≤ e * d * b := Int.mul_le_mul_of_nonneg_right h2 hb
 have e1 : a * d * f = a * f * d := Int.mul_right_comm a d f
 have e2 : c * b * f = c * f * b := Int.mul_right_comm c b f
 have e3 : e * d * b = e * b * d := Int.mul_right_comm e d b
 rw [e1, e2] at h3
 rw [e3] at h4
 exact Int.le_of_mul_le_mul_right (Int.le_trans h3 h4) hd
theorem leastF_says (es : List PE) (N v : Nat) : ∀ k, k ≤ N → ((leastF es N v k).2 = 0 ∧ ∀ j, j < k → kiter es j v = NONE) ∨
 (0 < (leastF es N v k).2 ∧ (∃ j, j < k ∧ kiter es j v ≠ NONE ∧ leastF es N v k = frK es N v j) ∧ ∀ j, j < k → kiter es j v ≠ NONE → (leastF es N v k).1 * (frK es N v j).2 ≤ (frK es N v j).1 * (leastF es N v k).2) := by
 intro k
 induction k with
 | zero => intro _; exact .inl ⟨rfl, fun j h => absurd h (by omega)⟩
 | succ k ih =>
   intro hk
   have ih := ih (by omega)
   have hpos : 0 < (frK es N v k).2 := by unfold frK; dsimp only; omega
   show ((if kiter es k v = NONE then leastF es N v k else if (leastF es N v k).2 = 0 ∨ moreF (leastF es N v k) (frK es N v k) then frK es N v k else leastF es N v k).2 = 0 ∧ _) ∨ _
   have hdef : leastF es N v (k + 1) = (if kiter es k v = NONE then leastF es N v k else if (leastF es N v k).2 = 0 ∨ moreF (leastF es N v k) (frK es N v k) then frK es N v k else leastF es N v k) := rfl
   rw [hdef]
   by_cases hn : kiter es k v = NONE
   · rw [if_pos hn]
     rcases ih with ⟨h1, h2⟩ | ⟨h1, ⟨j, h2, h3, h4⟩, h5⟩
     · refine .inl ⟨h1, fun j hj => ?_⟩
       rcases (show j < k ∨ j = k by omega) with h | rfl
       · exact h2 j h
       · exact hn
     · refine .inr ⟨h1, ⟨j, by omega, h3, h4⟩, fun j hj hj' => ?_⟩
       rcases (show j < k ∨ j = k by omega) with h | rfl
       · exact h5 j h hj'
       · exact absurd hn hj'
   · rw [if_neg hn]
     by_cases hc : (leastF es N v k).2 = 0 ∨ moreF (leastF es N v k) (frK es N v k)
     · rw [if_pos hc]
       refine .inr ⟨hpos, ⟨k, by omega, hn, rfl⟩, fun j hj hj' => ?_⟩
       rcases (show j < k ∨ j = k by omega) with h | rfl
       · rcases ih with ⟨h1, h2⟩ | ⟨h1, _, h5⟩
         · exact absurd (h2 j h) hj'
         · rcases hc with hc | hc
           · omega
           · unfold moreF at hc
             have h6 := h5 j h hj'
             have hj2 : 0 < (frK es N v j).2 := by unfold frK; dsimp only; omega
             exact cross (d := (leastF es N v k).2) h1 (Int.le_of_lt hc) h6 (by omega) (by omega)
       · exact Int.le_refl _
     · rw [if_neg hc]
       rcases ih with ⟨h1, h2⟩ | ⟨h1, ⟨j, h2, h3, h4⟩, h5⟩
       · exact absurd (.inl h1) hc
       · refine .inr ⟨h1, ⟨j, by omega, h3, h4⟩, fun j hj hj' => ?_⟩
         rcases (show j < k ∨ j = k by omega) with h | rfl
         · exact h5 j h hj'
         · have : ¬ moreF (leastF es N v j) (frK es N v j) := fun h => hc (.inr h)
           unfold moreF at this; omega
theorem bestF_says (es : List PE) (N : Nat) (hl : ∀ v, v < N → kiter es N v ≠ NONE → 0 < (leastF es N v N).2) : ∀ v, v ≤ N → ((bestF es N v).2 = 0 ∧ ∀ j, j < v → kiter es N j = NONE) ∨
 (0 < (bestF es N v).2 ∧ (∃ j, j < v ∧ kiter es N j ≠ NONE ∧ bestF es N v = leastF es N j N) ∧ ∀ j, j < v → kiter es N j ≠ NONE → (leastF es N j N).1 * (bestF es N v).2 ≤ (bestF es N v).1 * (leastF es N j N).2) := by
 intro v
 induction v with
 | zero => intro _; exact .inl ⟨rfl, fun j h => absurd h (by omega)⟩
 | succ v ih =>
   intro hv
   have ih := ih (by omega)
   have hdef : bestF es N (v + 1) = (if kiter es N v = NONE then bestF es N v else if (bestF es N v).2 = 0 ∨ moreF (leastF es N v N) (bestF es N v) then leastF es N v N else bestF es N v) := rfl
   rw [hdef]
   by_cases hn : kiter es N v = NONE
   · rw [if_pos hn]
     rcases ih with ⟨h1, h2⟩ | ⟨h1, ⟨j, h2, h3, h4⟩, h5⟩
     · refine .inl ⟨h1, fun j hj => ?_⟩
       rcases (show j < v ∨ j = v by omega) with h | rfl
       · exact h2 j h
       · exact hn
     · refine .inr ⟨h1, ⟨j, by omega, h3, h4⟩, fun j hj hj' => ?_⟩
       rcases (show j < v ∨ j = v by omega) with h | rfl
       · exact h5 j h hj'
       · exact absurd hn hj'
   · rw [if_neg hn]
     have hpos := hl v (by omega) hn
     by_cases hc : (bestF es N v).2 = 0 ∨ moreF (leastF es N v N) (bestF es N v)
     · rw [if_pos hc]
       refine .inr ⟨hpos, ⟨v, by omega, hn, rfl⟩, fun j hj hj' => ?_⟩
       rcases (show j < v ∨ j = v by omega) with h | rfl
       · rcases ih with ⟨h1, h2⟩ | ⟨h1, _, h5⟩
         · exact absurd (h2 j h) hj'
         · rcases hc with hc | hc
           · omega
           · unfold moreF at hc
             have h6 := h5 j h hj'
             have := hl j (by omega) hj'
             exact cross (d := (bestF es N v).2) h1 h6 (Int.le_of_lt hc) (by omega) (by omega)
       · exact Int.le_refl _
     · rw [if_neg hc]
       rcases ih with ⟨h1, h2⟩ | ⟨h1, ⟨j, h2, h3, h4⟩, h5⟩
       · exact absurd (.inl h1) hc
       · refine .inr ⟨h1, ⟨j, by omega, h3, h4⟩, fun j hj hj' => ?_⟩
         rcases (show j < v ∨ j = v by omega) with h | rfl
         · exact h5 j h hj'
         · have : ¬ moreF (leastF es N j N) (bestF es N j) := fun h => hc (.inr h)
           unfold moreF at this; omega
def WtOk (es : List PE) : Prop := ∀ e ∈ es, -(1048576 : Int) ≤ e.wt ∧ e.wt ≤ 1048576
theorem bestF_mean {es : List PE} {N : Nat} {p : Int} {q : Nat} (hin : Inside N es) (hM : WtOk es) (hN : N ≤ 1000000) (hm : IsMean es p q) : 0 < (bestF es N N).2 ∧ (bestF es N N).1 * q = (bestF es N N).2 * p := by
 have hq := hm.pos
 have hN0 : 0 < N := by
  obtain ⟨u, c, hc, hcl, _⟩ := hm.is
  cases c with
  | nil => simp at hcl; omega
  | cons e c => have := (hin e hc.1).1; omega
 have hle : ∀ v, kiter es N v ≠ NONE → 0 < (leastF es N v N).2 ∧ (leastF es N v N).1 * q ≤ (leastF es N v N).2 * p := by
  intro v hv
  obtain ⟨k, hk, hkn, hkl⟩ := karp_le hin hM hN hN0 hm hv
  rcases leastF_says es N v N (Nat.le_refl _) with ⟨_, h2⟩ | ⟨h1, _, h5⟩
  · exact absurd (h2 k hk) hkn
  · refine ⟨h1, ?_⟩
    have h6 := h5 k hk hkn
    have hk2 : 0 < (frK es N v k).2 := by unfold frK; dsimp only; omega
    have h7 : (frK es N v k).1 * q ≤ p * (frK es N v k).2 := by unfold frK; dsimp only; rw [Int.mul_comm p]; exact hkl
    have := cross (d := (frK es N v k).2) hk2 h6 h7 (by omega) (by omega)
    rw [Int.mul_comm _ p]; exact this
 obtain ⟨v, hv, hvn, hvg⟩ := karp_ge hin hM hN hm
 rcases bestF_says es N (fun v _ h => (hle v h).1) N (Nat.le_refl _) with ⟨_, h2⟩ | ⟨h1, ⟨j, hj, hjn, hjb⟩, h5⟩
 · exact absurd (h2 v hv) hvn
 · refine ⟨h1, ?_⟩
   have a1 : (bestF es N N).1 * q ≤ (bestF es N N).2 * p := by rw [hjb]; exact (hle j hjn).2
   have b1 := h5 v hv hvn
   have hl := hle v hvn
   have b2 : p * (leastF es N v N).2 ≤ (leastF es N v N).1 * q := by
    rcases leastF_says es N v N (Nat.le_refl _) with ⟨h3, _⟩ | ⟨_, ⟨i, hi, hin', hie⟩, _⟩
    · omega
    · rw [hie]; unfold frK; dsimp only
      rw [Int.mul_comm]; exact hvg i hi hin'
   have b3 := cross (d := (leastF es N v N).2) hl.1 b2 b1 (by omega) (by omega)
   rw [Int.mul_comm _ p] at a1 ⊢
   omega
theorem bestF_none {es : List PE} {N : Nat} (hin : Inside N es) (hM : WtOk es) (hN : N ≤ 1000000) (h : ¬ ∃ u c, IsWalk es u c u ∧ 0 < c.length) : (bestF es N N).2 = 0 := by
 have hno : ∀ v, v < N → kiter es N v = NONE := by
  intro v hv
  by_cases hn : kiter es N v = NONE
  · exact hn
  · obtain ⟨u, l, h1, h2, _⟩ := (kiter_says hM N hN v).is hn
    obtain ⟨x, c, _, c1, c2, _⟩ := cut_loop hin h1 (by omega) (by omega)
    exact absurd ⟨x, c, c1, c2⟩ h
 rcases bestF_says es N (fun v hv h => absurd (hno v hv) h) N (Nat.le_refl _) with ⟨h1, _⟩ | ⟨_, ⟨j, hj, hjn, _⟩, _⟩
 · exact h1
 · exact absurd (hno j hj) hjn
/-! ### the reference: for each number of edges the least whole weight -/
def Above (es : List PE) (a b : Int) : Prop := ¬ ∃ p, Pot (scl es a b) p
theorem above_iff {es : List PE} {N : Nat} {p : Int} {q : Nat} (hin : Inside N es) (hm : IsMean es p q) {a b : Int} (hb : 0 < b) : Above es a b ↔ a * q < p * b := by
 have hq := hm.pos
 unfold Above
 rw [sclPot_iff hin]
 constructor
 · intro h
   apply Int.not_le.1
   intro hle
   apply h
   intro u l hl
   have h1 := hm.le u l hl
   have h2 : wsum l * q ≤ p * l.length := by rw [Int.mul_comm p]; exact h1
   have h3 : p * b ≤ a * q := hle
   have := cross (a := wsum l) (b := l.length) (c := p) (d := q) (e := a) (f := b) (by omega) h2 h3 (by omega) (by omega)
   rw [Int.mul_comm _ a]; exact this
 · intro h hall
   obtain ⟨u, c, hc, hcl, hcw⟩ := hm.is
   have := hall u c hc
   rw [hcw, hcl, Int.mul_comm _ a] at this
   omega
def IsHi (es : List PE) (b a : Int) : Prop := ¬ Above es a b ∧ Above es (a - 1) b
def refBest (his : Nat → Int) : Nat → Int × Int
 | 0 => (0, 0)
 | b + 1 => if (refBest his b).2 = 0 ∨ his (b + 1) * (refBest his b).2 < (refBest his b).1 * ((b + 1 : Nat) : Int) then (his (b + 1), ((b + 1 : Nat) : Int)) else refBest his b
theorem gcd_pos_right {a b : Int} (hb : 0 < b) : 0 < Int.gcd a b := Nat.pos_of_ne_zero (fun h => by have := (Int.gcd_eq_zero_iff.1 h).2; omega)
theorem dvd_of_gcd_one {x y z : Int} (h : x ∣ y * z) (hg : Int.gcd x y = 1) : x ∣ z := by
 have h1 : x.natAbs ∣ y.natAbs * z.natAbs := by rw [← Int.natAbs_mul]; exact Int.natAbs_dvd_natAbs.2 h
 have h2 : Nat.Coprime x.natAbs y.natAbs := by rw [Int.gcd_eq_natAbs_gcd_natAbs] at hg; exact hg
 exact Int.natAbs_dvd_natAbs.1 (h2.dvd_of_dvd_mul_left h1)
theorem reduce_eq {a b c d : Int} (hb : 0 < b) (hd : 0 < d) (h : a * d = c * b) : a / (Int.gcd a b : Int) = c / (Int.gcd c d : Int) ∧ b / (Int.gcd a b : Int) = d / (Int.gcd c d : Int) := by
 obtain ⟨g, hg⟩ : ∃ g : Nat, Int.gcd a b = g := ⟨_, rfl⟩
 obtain ⟨g', hg'⟩ : ∃ g : Nat, Int.gcd c d = g := ⟨_, rfl⟩
 have gp : 0 < g := by rw [← hg]; exact gcd_pos_right hb
 have gp' : 0 < g' := by rw [← hg']; exact gcd_pos_right hd
 obtain ⟨a1, ha1⟩ : (g : Int) ∣ a := by rw [← hg]; exact Int.gcd_dvd_left ..
 obtain ⟨b1, hb1⟩ : (g : Int) ∣ b := by rw [← hg]; exact Int.gcd_dvd_right ..
 obtain ⟨c1, hc1⟩ : (g' : Int) ∣ c := by rw [← hg']; exact Int.gcd_dvd_left ..
 obtain ⟨d1, hd1⟩ : (g' : Int) ∣ d := by rw [← hg']; exact Int.gcd_dvd_right ..
 have k1 : Int.gcd a1 b1 = 1 := by
  have : Int.gcd (g * a1) (g * b1) = g * Int.gcd a1 b1 := by rw [Int.gcd_mul_left]; simp
  rw [← ha1, ← hb1, hg] at this
  exact Nat.eq_of_mul_eq_mul_left gp (by omega)
 have k2 : Int.gcd c1 d1 = 1 := by
  have : Int.gcd (g' * c1) (g' * d1) = g' * Int.gcd c1 d1 := by rw [Int.gcd_mul_left]; simp
  rw [← hc1, ← hd1, hg'] at this
  exact Nat.eq_of_mul_eq_mul_left gp' (by omega)
 have b0 : 0 < b1 := by
  rw [hb1] at hb
  exact Int.pos_of_mul_pos_right hb (by omega)
 have d0 : 0 < d1 := by
  rw [hd1] at hd
  exact Int.pos_of_mul_pos_right hd (by omega)
 have e : a1 * d1 = c1 * b1 := by
  rw [ha1, hb1, hc1, hd1] at h
  have h2 : ((g : Int) * g') * (a1 * d1) = (g * g') * (c1 * b1) := by
   rw [show ((g : Int) * g') * (a1 * d1) = g * a1 * (g' * d1) by rw [Int.mul_assoc, Int.mul_assoc, Int.mul_left_comm (g' : Int)], h, show ((g : Int) * g') * (c1 * b1) = g' * c1 * (g * b1) by rw [Int.mul_comm (g : Int), Int.mul_assoc, Int.mul_assoc, Int.mul_left_comm (g : Int)]]
  exact Int.eq_of_mul_eq_mul_left (by have := Int.mul_pos (show (0 : Int) < g by omega) (show (0 : Int) < g' by omega); omega) h2
 have hbd : b1 ∣ d1 := by
  have h1 : b1 ∣ a1 * d1 := ⟨c1, by rw [e, Int.mul_comm]⟩
  exact dvd_of_gcd_one h1 (by rw [Int.gcd_comm]; exact k1)
 have hdb : d1 ∣ b1 := by
  have h1 : d1 ∣ c1 * b1 := ⟨a1, by rw [← e, Int.mul_comm]⟩
  exact dvd_of_gcd_one h1 (by rw [Int.gcd_comm]; exact k2)
 have hbd2 : b1 = d1 := Int.le_antisymm (Int.le_of_dvd d0 hbd) (Int.le_of_dvd b0 hdb)
 subst hbd2
 have hac : a1 = c1 := Int.eq_of_mul_eq_mul_right (by omega) e
 subst hac
 rw [hg, hg', ha1, hb1, hc1, hd1]
 rw [Int.mul_ediv_cancel_left _ (by omega), Int.mul_ediv_cancel_left _ (by omega), Int.mul_ediv_cancel_left _ (by omega), Int.mul_ediv_cancel_left _ (by omega)]
 exact ⟨rfl, rfl⟩
/-! ### along tight edges: a depth-first search -/
structure DS where
 st : Nat → Int
 by_ : Nat → Int
def Tight (hi : Nat → Int) (e : PE) : Prop := hi e.dst = hi e.src + e.wt
structure DInv (es : List PE) (N : Nat) (hi : Nat → Int) (S : DS) (path : List Nat) : Prop where
 gray : ∀ x, S.st x = 1 ↔ x ∈ path
 nd : path.Nodup
 lt : ∀ x ∈ path, x < N
 link : ∀ (i : Nat) (a b : Nat), path[i]? = some a → path[i + 1]? = some b → ∃ (k : Nat) (e : PE), S.by_ b = (k : Int) ∧ es[k]? = some e ∧ Tight hi e ∧ e.src = a ∧ e.dst = b
 black : ∃ tau : Nat → Nat, ∀ u, S.st u = 2 → ∀ e ∈ es, Tight hi e → e.src = u → S.st e.dst = 2 ∧ tau e.dst < tau u
 vals : ∀ x, S.st x = 0 ∨ S.st x = 1 ∨ S.st x = 2
theorem DInv.start (es : List PE) (N : Nat) (hi : Nat → Int) : DInv es N hi ⟨fun _ => 0, fun _ => -1⟩ [] :=
 ⟨fun x => by simp, List.nodup_nil, fun x h => (by cases h), fun i a b h => by simp at h, ⟨fun _ => 0, fun u h => by simp at h⟩, fun x => .inl rfl⟩
section
variable {es : List PE} {N : Nat} {hi : Nat → Int} {S : DS} {path : List Nat} {v : Nat}
theorem DInv.enter (h : DInv es N hi S path) (hv : S.st v = 0) (hvN : v < N) (hl : ∀ a, path.getLast? = some a → ∃ (k : Nat) (e : PE), S.by_ v = (k : Int) ∧ es[k]? = some e ∧ Tight hi e ∧ e.src = a ∧ e.dst = v) :
 DInv es N hi ⟨upd S.st v 1, S.by_⟩ (path ++ [v]) := by
 have hvp : v ∉ path := fun hm => by have := (h.gray v).2 hm; omega
 refine ⟨fun x => ?_, ?_, fun x hx => ?_, fun i a b ha hb => ?_, ?_, fun x => ?_⟩
 · by_cases hx : x = v
   · subst hx; simp [upd]
   · simp only [upd, if_neg hx, List.mem_append, List.mem_singleton, hx, or_false]; exact h.gray x
 · refine List.nodup_append.2 ⟨h.nd, by simp, fun a ha b hb => ?_⟩
   rw [List.mem_singleton] at hb
   subst hb
   exact fun e => hvp (e ▸ ha)
 · rcases List.mem_append.1 hx with hx | hx
   · exact h.lt x hx
   · rw [List.mem_singleton] at hx; subst hx; exact hvN
 · by_cases hi1 : i + 1 < path.length
   · rw [List.getElem?_append_left (by omega)] at ha
     rw [List.getElem?_append_left hi1] at hb
     exact h.link i a b ha hb
   · have hb2 := (List.getElem?_eq_some_iff.1 hb).1
     simp only [List.length_append, List.length_cons, List.length_nil] at hb2
     have hi2 : i + 1 = path.length := by omega
     rw [hi2, List.getElem?_append_right (Nat.le_refl _)] at hb
     simp at hb
     subst hb
     rw [List.getElem?_append_left (by omega)] at ha
     refine hl a ?_
     rw [List.getLast?_eq_getElem?, ← hi2]
     simpa using ha
 · obtain ⟨tau, ht⟩ := h.black
   refine ⟨tau, fun u hu e he hti hs => ?_⟩
   have huv : u ≠ v := fun e => by subst e; simp [upd] at hu
   have hu' : S.st u = 2 := by simpa [upd, huv] using hu
   obtain ⟨h1, h2⟩ := ht u hu' e he hti hs
   have hdv : e.dst ≠ v := fun e' => by rw [e'] at h1; omega
   exact ⟨by simp only [upd, if_neg hdv]; exact h1, h2⟩
 · by_cases hx : x = v
   · subst hx; simp [upd]
   · simp only [upd, if_neg hx]; exact h.vals x
theorem DInv.short (h : DInv es N hi S path) : path.length ≤ N := by
 apply Nat.le_of_not_lt
 intro hlt
 obtain ⟨i, j, hij, hj, he⟩ := pigeon N (fun i => path.getD i 0) (fun i hi => by
  have : i < path.length := by omega
  show path.getD i 0 < N
  rw [List.getD_eq_getElem?_getD, List.getElem?_eq_getElem this]
  exact h.lt _ (List.getElem_mem this))
 have hi' : i < path.length := by omega
 have hj' : j < path.length := by omega
 have he' : path[i] = path[j] := by
  have e := he
  simp only [List.getD_eq_getElem?_getD, List.getElem?_eq_getElem hi', List.getElem?_eq_getElem hj'] at e
  exact e
 have := (List.getElem_inj h.nd).1 he'
 omega
end
structure FoundC (es : List PE) (N : Nat) (hi : Nat → Int) (ns : List Int) : Prop where
 pos : 0 < ns.length
 le : ns.length ≤ N
 walk : ∃ (u : Nat) (l : List PE), IsWalk es u l u ∧ (∀ e ∈ l, Tight hi e) ∧ l.length = ns.length ∧ ∀ (i : Nat) (e : PE), l[i]? = some e → ∃ k : Nat, ns[i]? = some (k : Int) ∧ es[k]? = some e
theorem link_walk {es : List PE} {hi : Nat → Int} {b_ : Nat → Int} : ∀ (B : List Nat) (x v : Nat), (x :: B).getLast? = some v → (∀ (i : Nat) (a b : Nat), (x :: B)[i]? = some a → (x :: B)[i + 1]? = some b → ∃ (k : Nat) (e : PE), b_ b = (k : Int) ∧ es[k]? = some e ∧ Tight hi e ∧ e.src = a ∧ e.dst = b) →
 ∃ l : List PE, IsWalk es x l v ∧ (∀ e ∈ l, Tight hi e) ∧ l.length = B.length ∧ ∀ (i : Nat) (e : PE), l[i]? = some e → ∃ k : Nat, (B.map b_)[i]? = some (k : Int) ∧ es[k]? = some e := by
 intro B
 induction B with
 | nil =>
   intro x v hv _
   have : x = v := by simpa using hv
   subst this
   exact ⟨[], rfl, fun e h => (by cases h), rfl, fun i e h => by simp at h⟩
 | cons y B ih =>
   intro x v hv hl
   obtain ⟨k, e, h1, h2, h3, h4, h5⟩ := hl 0 x y rfl rfl
   obtain ⟨l, g1, g2, g3, g4⟩ := ih y v (by simpa using hv) (fun i a b ha hb => hl (i + 1) a b (by simpa using ha) (by simpa using hb))
   refine ⟨e :: l, ⟨List.mem_of_getElem? h2, h4, by rw [h5]; exact g1⟩, fun d hd => ?_, by simp [g3], fun i d hd => ?_⟩
   · rcases List.mem_cons.1 hd with rfl | hd
     · exact h3
     · exact g2 d hd
   · cases i with
     | zero =>
       have : e = d := by simpa using hd
       subst this
       exact ⟨k, by simp [h1], h2⟩
     | succ i => exact g4 i d (by simpa using hd)
theorem DInv.found {es : List PE} {N : Nat} {hi : Nat → Int} {S : DS} {A B : List Nat} {x v k : Nat} {e : PE} (h : DInv es N hi S (A ++ x :: B)) (hv : (x :: B).getLast? = some v) (he : es[k]? = some e) (ht : Tight hi e) (hs : e.src = v) (hd : e.dst = x) :
 FoundC es N hi (B.map S.by_ ++ [(k : Int)]) := by
 obtain ⟨l, h1, h2, h3, h4⟩ := link_walk (es := es) (hi := hi) (b_ := S.by_) B x v hv (fun i a b ha hb => by
  refine h.link (A.length + i) a b ?_ ?_
  · rw [List.getElem?_append_right (by omega)]; simpa using ha
  · rw [List.getElem?_append_right (by omega)]
    rw [show A.length + i + 1 - A.length = i + 1 by omega]; exact hb)
 have hlen := h.short
 simp only [List.length_append, List.length_cons] at hlen
 refine ⟨by simp, by simp; omega, x, l ++ [e], h1.append ⟨List.mem_of_getElem? he, hs, hd⟩, fun d hd' => ?_, by simp [h3], fun i d hd' => ?_⟩
 · rcases List.mem_append.1 hd' with hd' | hd'
   · exact h2 d hd'
   · rw [List.mem_singleton] at hd'; subst hd'; exact ht
 · by_cases hil : i < l.length
   · rw [List.getElem?_append_left hil] at hd'
     obtain ⟨k', q1, q2⟩ := h4 i d hd'
     exact ⟨k', by rw [List.getElem?_append_left (by simp; omega)]; exact q1, q2⟩
   · have hi2 := (List.getElem?_eq_some_iff.1 hd').1
     simp only [List.length_append, List.length_cons, List.length_nil] at hi2
     have hi3 : i = l.length := by omega
     subst hi3
     rw [List.getElem?_append_right (Nat.le_refl _)] at hd'
     have : e = d := by simpa using hd'
     subst this
     exact ⟨k, by rw [h3, List.getElem?_append_right (by simp)]; simp, he⟩
theorem DInv.none {es : List PE} {N : Nat} {hi : Nat → Int} {S : DS} (h : DInv es N hi S []) (hin : Inside N es) (hall : ∀ v, v < N → S.st v = 2) {u : Nat} {l : List PE} (hl : IsWalk es u l u) (h0 : 0 < l.length) (ht : ∀ e ∈ l, Tight hi e) : False := by
 obtain ⟨tau, hb⟩ := h.black
 have key : ∀ (l : List PE) (u v : Nat), IsWalk es u l v → (∀ e ∈ l, Tight hi e) → tau v + l.length ≤ tau u := by
  intro l
  induction l with
  | nil => intro u v hw _; have : u = v := hw; subst this; simp
  | cons e l ih =>
    intro u v hw ht
    have h1 := ih e.dst v hw.2.2 (fun d hd => ht d (by simp [hd]))
    have h2 := hb e.src (hall _ (hin e hw.1).1) e hw.1 (ht e (by simp)) rfl
    rw [← hw.2.1, List.length_cons]; omega
 have := key l u u hl ht
 omega
end Go.Proofs.YtjjikhaaimfneaaGreatDoor
namespace Go.Proofs.YtjjikhaaimfneaaGreatDoor
open Go.RowKit
set_option linter.unusedSimpArgs false
set_option linter.unusedVariables false
def EdgeOkW (N : Int) (e : GE) : Prop := 0 ≤ e.src ∧ e.src < N ∧ 0 ≤ e.dst ∧ e.dst < N ∧ -1099511627776 ≤ e.wt ∧ e.wt ≤ 1099511627776
def GraphOkW (N : Int) (es : List GE) : Prop := (0 ≤ N ∧ N ≤ 300 ∧ es.length ≤ 4800) ∧ ∀ e ∈ es, EdgeOkW N e
def QMostEndsW (N : Nat) (es : List GE) (e : Ending) (w' : World) : Prop :=
 (HasPot es ∧ ∃ b d, e = .returned (.tuple #[.slice b N d, .bool true]) ∧ IntsAt w' b N d (tabI N (siter (pes es) N))) ∨ (¬ HasPot es ∧ e = .returned (.tuple #[.slice none 0 0, .bool false]))
end Go.Proofs.YtjjikhaaimfneaaGreatDoor
namespace Go.Proofs.YtjjikhaaimfneaaGreatDoor
open Go.RowKit
set_option linter.unusedSimpArgs false
set_option linter.unusedVariables false
theorem wtOk_of {N : Nat} {es : List GE} (h : GraphOk (N : Int) es) : WtOk (pes es) := by
 intro e he
 obtain ⟨d, hd, rfl⟩ := List.mem_map.1 he
 have := h.2 d hd
 unfold EdgeOk at this
 exact ⟨this.2.2.2.2.1, this.2.2.2.2.2⟩
def HasCyc (es : List GE) : Prop := ∃ u c, IsWalk (pes es) u c u ∧ 0 < c.length
def GreatSays (N : Int) (es : List GE) (a b r : Int) : Prop :=
 (¬ GraphOk N es ∧ a = 0 ∧ b = 0 ∧ r = 2) ∨ (GraphOk N es ∧ ¬ HasCyc es ∧ a = 0 ∧ b = 0 ∧ r = 3) ∨
 (GraphOk N es ∧ r = 0 ∧ ∃ (p : Int) (q : Nat), IsMean (pes es) p q ∧ a = p / (Int.gcd p q : Int) ∧ b = (q : Int) / (Int.gcd p q : Int))
theorem IsMean.one {es : List PE} {p p' : Int} {q q' : Nat} (h : IsMean es p q) (h' : IsMean es p' q') : p * q' = p' * q := by
 obtain ⟨u, c, h1, h2, h3⟩ := h.is
 obtain ⟨u', c', h1', h2', h3'⟩ := h'.is
 have a1 := h'.le u c h1
 have a2 := h.le u' c' h1'
 rw [h2, h3, Int.mul_comm (q : Int)] at a1
 rw [h2', h3', Int.mul_comm (q' : Int)] at a2
 omega
theorem mean_of {N : Nat} {es : List GE} (h : GraphOk (N : Int) es) (hc : HasCyc es) : ∃ (p : Int) (q : Nat), q ≤ N ∧ IsMean (pes es) p q :=
 mean_ex (M := 1048576) (pes_in h) (wtOk_of h) hc
theorem great_prog {N : Nat} {es : List GE} (h : GraphOk (N : Int) es) (hc : HasCyc es) : 0 < (bestF (pes es) N N).2 ∧ GreatSays N es ((bestF (pes es) N N).1 / (Int.gcd (bestF (pes es) N N).1 (bestF (pes es) N N).2 : Int)) ((bestF (pes es) N N).2 / (Int.gcd (bestF (pes es) N N).1 (bestF (pes es) N N).2 : Int)) 0 := by
 obtain ⟨p, q, hq, hm⟩ := mean_of h hc
 have hN : N ≤ 300 := by have := h.1.2.1; omega
 obtain ⟨h1, h2⟩ := bestF_mean (pes_in h) (wtOk_of h) (by omega) hm
 have hp := hm.pos
 obtain ⟨e1, e2⟩ := reduce_eq (a := (bestF (pes es) N N).1) (b := (bestF (pes es) N N).2) (c := p) (d := q) h1 (by omega) (by rw [h2, Int.mul_comm])
 exact ⟨h1, .inr (.inr ⟨h, rfl, p, q, hm, e1, e2⟩)⟩
theorem great_none {N : Nat} {es : List GE} (h : GraphOk (N : Int) es) (hc : ¬ HasCyc es) : (bestF (pes es) N N).2 = 0 :=
 bestF_none (pes_in h) (wtOk_of h) (by have := h.1.2.1; omega) hc
def sclG (es : List GE) (a b : Int) : List GE := es.map fun e => ⟨e.src, e.dst, e.wt * b - a⟩
end Go.Proofs.YtjjikhaaimfneaaGreatDoor
namespace Go.Proofs.YtjjikhaaimfneaaGreatDoor
open Go.RowKit
set_option linter.unusedSimpArgs false
set_option linter.unusedVariables false
noncomputable def outE (es : List PE) (v : Nat) : PE := by
 classical
 exact if h : ∃ e ∈ es, e.src = v then Classical.choose h else ⟨0, 0, 0⟩
theorem outE_is {es : List PE} {v : Nat} (h : ∃ e ∈ es, e.src = v) : outE es v ∈ es ∧ (outE es v).src = v := by
 unfold outE
 rw [dif_pos h]
 exact Classical.choose_spec h
noncomputable def outN (es : List PE) : Nat → Nat
 | 0 => 0
 | i + 1 => (outE es (outN es i)).dst
theorem outN_lt {es : List PE} {N : Nat} (hin : Inside N es) (h0 : 0 < N) (hout : ∀ v, v < N → ∃ e ∈ es, e.src = v) : ∀ i, outN es i < N
 | 0 => h0
 | i + 1 => (hin _ (outE_is (hout _ (outN_lt hin h0 hout i))).1).2
theorem outN_walk {es : List PE} {N : Nat} (hin : Inside N es) (h0 : 0 < N) (hout : ∀ v, v < N → ∃ e ∈ es, e.src = v) (i : Nat) : ∀ j, ∃ c, IsWalk es (outN es i) c (outN es (i + j)) ∧ c.length = j
 | 0 => ⟨[], rfl, rfl⟩
 | j + 1 => by
   obtain ⟨c, h1, h2⟩ := outN_walk hin h0 hout i j
   have h := outE_is (hout _ (outN_lt hin h0 hout (i + j)))
   exact ⟨c ++ [outE es (outN es (i + j))], h1.append ⟨h.1, h.2, rfl⟩, by simp [h2]⟩
theorem cyc_of_out {es : List PE} {N : Nat} (hin : Inside N es) (h0 : 0 < N) (hout : ∀ v, v < N → ∃ e ∈ es, e.src = v) : ∃ u c, IsWalk es u c u ∧ 0 < c.length := by
 obtain ⟨i, j, hij, _, he⟩ := pigeon N (outN es) (fun i _ => outN_lt hin h0 hout i)
 obtain ⟨c, h1, h2⟩ := outN_walk hin h0 hout i (j - i)
 rw [show i + (j - i) = j by omega, ← he] at h1
 exact ⟨_, c, h1, by omega⟩
theorem scl_id (es : List PE) : scl es 0 1 = es := by
 unfold scl
 have : (fun e : PE => (⟨e.src, e.dst, e.wt * 1 - 0⟩ : PE)) = id := by funext e; cases e; simp
 rw [this, List.map_id]
theorem mean_sign {es : List PE} {N : Nat} {p : Int} {q : Nat} (hin : Inside N es) (hm : IsMean es p q) : 0 < p ↔ ¬ ∃ pt, Pot es pt := by
 have h := above_iff hin hm (a := 0) (b := 1) (by omega)
 unfold Above at h
 rw [scl_id] at h
 rw [h]; simp
theorem gcd_sign {p : Int} {q : Nat} (hq : 0 < q) : 0 < p / (Int.gcd p q : Int) ↔ 0 < p := by
 have hg : 0 < (Int.gcd p q : Int) := by
  have : Int.gcd p q ≠ 0 := fun h => by have := (Int.gcd_eq_zero_iff.1 h).2; omega
  omega
 obtain ⟨k, hk⟩ : (Int.gcd p q : Int) ∣ p := Int.gcd_dvd_left ..
 generalize (Int.gcd p q : Int) = g at *
 subst hk
 rw [Int.mul_ediv_cancel_left _ (by omega)]
 constructor
 · intro h; exact Int.mul_pos hg h
 · intro h; rcases Int.lt_or_le 0 k with h1 | h1
   · exact h1
   · have := Int.mul_nonneg (Int.le_of_lt hg) (show 0 ≤ -k by omega)
     rw [Int.mul_neg] at this; omega
end Go.Proofs.YtjjikhaaimfneaaGreatDoor
namespace Go.Proofs.YtjjikhaaimfneaaGreatDoor
open Go.RowKit
set_option linter.unusedSimpArgs false
set_option linter.unusedVariables false
attribute [local go_sem] iteMin iteMax iteMinN iteMaxN
theorem gcd_step2 (x y : Nat) : Nat.gcd y (x % y) = Nat.gcd x y := by rw [Nat.gcd_comm, ← Nat.gcd_rec, Nat.gcd_comm]
theorem low_facts {a b : Int} (hb : 0 < b) (ha : -4611686018427387904 ≤ a ∧ a ≤ 4611686018427387904) (hb' : b ≤ 4611686018427387904) : ∃ (g n m : Nat) (u v : Int), Int.gcd a b = g ∧ Nat.gcd n m = g ∧ max a (-a) = (n : Int) ∧ b = (m : Int) ∧ 0 < m ∧ n ≤ 4611686018427387904 ∧ m ≤ 4611686018427387904 ∧ 0 < g ∧ g ≤ m ∧
 a / (g : Int) = u ∧ b / (g : Int) = v ∧ Int.tdiv a (g : Int) = u ∧ Int.tdiv b (g : Int) = v ∧ IntKind.i64.wrap u = u ∧ IntKind.i64.wrap v = v := by
 obtain ⟨m, rfl⟩ : ∃ m : Nat, b = (m : Int) := ⟨b.toNat, by omega⟩
 have hg : Int.gcd a m = Nat.gcd a.natAbs m := by rw [Int.gcd_eq_natAbs_gcd_natAbs]; rfl
 have gp : 0 < Int.gcd a m := gcd_pos_right hb
 have gm : Int.gcd a m ≤ m := by rw [hg]; exact Nat.gcd_le_right _ (by omega)
 obtain ⟨g, hgg⟩ : ∃ g, Int.gcd a m = g := ⟨_, rfl⟩
 have d1 : (g : Int) ∣ a := by rw [← hgg]; exact Int.gcd_dvd_left ..
 have d2 : (g : Int) ∣ (m : Int) := by rw [← hgg]; exact Int.gcd_dvd_right ..
 have key : ∀ z : Int, -4611686018427387904 ≤ z ∧ z ≤ 4611686018427387904 → (g : Int) ∣ z → -4611686018427387904 ≤ z / g ∧ z / g ≤ 4611686018427387904 := by
  intro z hz hd
  obtain ⟨u, hu⟩ := hd
  have g1 : (1 : Int) ≤ g := by omega
  rw [hu, Int.mul_ediv_cancel_left _ (by omega)]
  rcases Int.le_total 0 u with h | h
  · have := Int.mul_le_mul_of_nonneg_right g1 h
    omega
  · have := Int.mul_le_mul_of_nonneg_right g1 (show 0 ≤ -u by omega)
    have e9 : (g : Int) * -u = -(g * u) := Int.mul_neg _ _
    rw [e9] at this
    omega
 have k1 := key a ha d1
 have k2 := key m ⟨by omega, hb'⟩ d2
 refine ⟨g, a.natAbs, m, a / g, (m : Int) / g, hgg, by rw [← hg, hgg], by omega, rfl, by omega, by omega, by omega, by omega, by omega, rfl, rfl, Int.tdiv_eq_ediv_of_dvd d1, Int.tdiv_eq_ediv_of_dvd d2, ?_, ?_⟩
 · exact IntWalk.i64_in _ (by omega)
 · exact IntWalk.i64_in _ (by omega)
def FracEnd (w : World) (S : Nat) (u v : Int) (Z : World) : Prop := Z.cell? ⟨S, 0, none⟩ = some (.int .i64 u) ∧ Z.cell? ⟨S, 1, none⟩ = some (.int .i64 v) ∧ Below S w Z
theorem frac_end0 {w wr : World} {S : Nat} {u v : Int} {x y : Value} (z0 : wr.cell? ⟨S, 0, none⟩ = some x) (z1 : wr.cell? ⟨S, 1, none⟩ = some y) (hB : Below S w wr) : FracEnd w S u v ((wr.setCell ⟨S, 0, none⟩ (.int .i64 u)).setCell ⟨S, 1, none⟩ (.int .i64 v)) := by
 refine ⟨?_, ?_, (hB.setCell (by simp only; omega) _).setCell (by simp only; omega) _⟩
 · rw [World.cell?_setCell_other _ _ _ _ (fun e => by injection e with _ e; omega)]
   exact World.cell?_setCell_same' _ _ _ (by rw [z0]; rfl)
 · exact World.cell?_setCell_same' _ _ _ (by rw [World.cell?_setCell_other _ _ _ _ (fun e => by injection e with _ e; omega), z1]; rfl)
theorem frac_end {w wr : World} {S : Nat} {u v : Int} {x y : Value} (z0 : wr.cell? ⟨S, 0, none⟩ = some x) (z1 : wr.cell? ⟨S, 1, none⟩ = some y) (hB : Below S w wr) : FracEnd w S u v ((wr.setCell ⟨S, 0, none⟩ (.int .i64 u)).setCell ⟨S, 1, none⟩ (.int .i64 v)).drew := by
 obtain ⟨h1, h2, h3⟩ := frac_end0 (u := u) (v := v) z0 z1 hB
 exact ⟨h1, h2, h3.drew⟩
theorem frac_end2 {w wr : World} {S : Nat} {u v : Int} {x y : Value} (z0 : wr.cell? ⟨S, 0, none⟩ = some x) (z1 : wr.cell? ⟨S, 1, none⟩ = some y) (hB : Below S w wr) : FracEnd w S u v ((wr.drew.setCell ⟨S, 0, none⟩ (.int .i64 u)).setCell ⟨S, 1, none⟩ (.int .i64 v)) :=
 frac_end0 (wr := wr.drew) z0 z1 hB.drew
set_option maxHeartbeats 2000000 in
theorem more_any (x y u v : Int) (w : World) (hx : -1000000000 ≤ x ∧ x ≤ 1000000000) (hu : -1000000000 ≤ u ∧ u ≤ 1000000000) (hy : 0 ≤ y ∧ y ≤ 300) (hv : 0 ≤ v ∧ v ≤ 300) :
 Calls Tryz.prog 47 #[.agg #[.int .i64 x, .int .i64 y], .agg #[.int .i64 u, .int .i64 v]] w fun e w' => e = .returned (.bool (decide (u * y < x * v))) ∧ Below w.heap.size w w' := by
 have key : ∀ p q : Int, -1000000000 ≤ p ∧ p ≤ 1000000000 → 0 ≤ q ∧ q ≤ 300 → -300000000000 ≤ p * q ∧ p * q ≤ 300000000000 := by
  intro p q hp hq
  have h1 : p * q ≤ 1000000000 * q := Int.mul_le_mul_of_nonneg_right hp.2 hq.1
  have h2 : -1000000000 * q ≤ p * q := Int.mul_le_mul_of_nonneg_right hp.1 hq.1
  omega
 have k1 := key x v hx hv
 have k2 := key u y hu hy
 have w1 : IntKind.i64.wrap (x * v) = x * v := IntWalk.i64_in _ (by omega)
 have w2 : IntKind.i64.wrap (u * y) = u * y := IntWalk.i64_in _ (by omega)
 have HB : Hid (Below w.heap.size w ((w.alloc (.cells #[.int .i64 x, .int .i64 y] 61)).alloc (.cells #[.int .i64 u, .int .i64 v] 61))) := hide (((Below.refl _ _).alloc (Nat.le_refl _) _).alloc (by simp) _)
 clear key k1 k2
 go_enter Tryz.func47, Tryz.ntmps47
 go_wp2
 all_goals
  go_ret
  exact ⟨by first | rfl | (simp [*]; done) | (congr 2; simp [*]; done), HB.out⟩
set_option maxRecDepth 100000 in
set_option maxHeartbeats 4000000 in
theorem mlowest_any (a b : Int) (w : World) (hb : 0 < b) (ha : -4611686018427387904 ≤ a ∧ a ≤ 4611686018427387904) (hb' : b ≤ 4611686018427387904) :
 Calls Tryz.prog 48 #[.int .i64 a, .int .i64 b] w fun e w' => e = .returned (.agg #[.int .i64 (a / (Int.gcd a b : Int)), .int .i64 (b / (Int.gcd a b : Int))]) ∧ Below w.heap.size w w' := by
 obtain ⟨S, hS⟩ : ∃ S, w.heap.size = S := ⟨_, rfl⟩
 obtain ⟨g, n, m, u, v, h1, h2, hmx, rfl, m0, n1, m1, hg0, hgm, e1, e2, q1, q2, hw2, hw3⟩ := low_facts hb ha hb'
 rw [h1, e1, e2]
 have HGG := hide h2
 have hw1 : IntKind.i64.wrap (-a) = -a := IntWalk.i64_in _ (by omega)
 have g1 : ¬ (g : Int) = 0 := by omega
 have g2 : ((g : Int) == 0) = false := by simp; omega
 clear h1 h2 e1 e2
 go_enter Tryz.func48, Tryz.ntmps48
 go_wp2_with fail
 obtain ⟨W, hW⟩ : ∃ W, W = w.alloc (.cells #[.int .i64 0, .int .i64 0] 61) := ⟨_, rfl⟩
 rw [← hW]
 have b0 : W.cell? ⟨S, 0, none⟩ = some (.int .i64 0) := by rw [hW, ← hS]; simp [go_sem]
 have b1 : W.cell? ⟨S, 1, none⟩ = some (.int .i64 0) := by rw [hW, ← hS]; simp [go_sem]
 have fz : ∀ j, W.frozen? ⟨S, j, none⟩ = false := by intro j; rw [hW, ← hS]; simp [go_sem]
 have BS : Below S w W := by rw [hW, ← hS]; exact (Below.refl _ _).alloc (Nat.le_refl _) _
 have HBS := hide BS
 clear hW BS
 go_loopw [5, 6] (fun p q wr => ∃ x y k : Nat, p = .int .i64 (x : Int) ∧ q = .int .i64 (y : Int) ∧ Hid (Nat.gcd x y = g) ∧ wr = W.drewN k) (fun _ q _ => (intOf q).toNat)
 case atStart => exact ⟨n, m, 0, rfl, rfl, HGG, rfl⟩
 case round =>
  obtain ⟨x, y, k, rfl, rfl, HG, hwr⟩ := hrel
  have z0 : wr.cell? ⟨S, 0, none⟩ = some (.int .i64 0) := by rw [hwr]; exact b0
  have z1 : wr.cell? ⟨S, 1, none⟩ = some (.int .i64 0) := by rw [hwr]; exact b1
  have zf : ∀ j, wr.frozen? ⟨S, j, none⟩ = false := by rw [hwr]; exact fz
  have hBW : Below S w wr := by rw [hwr]; exact Go.below_drewN HBS.out k
  have HWR := hide hwr
  clear hwr
  by_cases hy : y = 0
  · subst hy
    have hx : x = g := by have := HG.out; rw [Nat.gcd_zero_right] at this; exact this
    subst hx
    clear HG
    go_wp2
    go_region
    go_wp2
    first
     | (obtain ⟨Z, hZ, c0, c1, zB⟩ : ∃ Z, Z = ((wr.setCell ⟨S, 0, none⟩ (.int .i64 u)).setCell ⟨S, 1, none⟩ (.int .i64 v)).drew ∧ FracEnd w S u v Z := ⟨_, rfl, frac_end z0 z1 hBW⟩
        rw [← hZ])
     | (obtain ⟨Z, hZ, c0, c1, zB⟩ : ∃ Z, Z = (wr.drew.setCell ⟨S, 0, none⟩ (.int .i64 u)).setCell ⟨S, 1, none⟩ (.int .i64 v) ∧ FracEnd w S u v Z := ⟨_, rfl, frac_end2 z0 z1 hBW⟩
        rw [← hZ])
    clear hZ
    refine bodyPost_ret (v := .agg #[.int .i64 u, .int .i64 v]) ?_ rfl ⟨rfl, ?_⟩
    · simp [results, Tryz.f48, go_sem, c0, c1]
    · first | exact zB | (rw [hS]; exact zB)
  · have y0 : ¬ (y : Int) = 0 := by omega
    have y1 : ((y : Int) == 0) = false := by simp; omega
    have hrem : Int.tmod (x : Int) (y : Int) = ((x % y : Nat) : Int) := (Int.ofNat_tmod x y).symm
    have hlt : x % y < y := Nat.mod_lt _ (by omega)
    have HN := hide (show Nat.gcd y (x % y) = g by rw [gcd_step2, HG.out])
    obtain ⟨z, hz⟩ : ∃ z, x % y = z := ⟨_, rfl⟩
    rw [hz] at hrem hlt HN
    clear hz HG
    go_wp2
    go_region
    go_wp2
    go_roundw
    case rel => exact ⟨y, z, k + 1, rfl, rfl, HN, by rw [HWR.out]; rfl⟩
    case measure => (simp [intOf] <;> omega)
end Go.Proofs.YtjjikhaaimfneaaGreatDoor
