/-
  Lemmas and walks for the statement: PPot, PCycle, PNum.
-/
import Derived.Test.YtjjikhaaimfneaaGreatDoorU28
import Derived.Test.YtjjikhaaimfneaaGreatDoorU01
namespace Go.Proofs.YtjjikhaaimfneaaGreatDoor
open Go.RowKit
set_option linter.unusedSimpArgs false
set_option linter.unusedVariables false
structure PE where
 src : Nat
 dst : Nat
 wt : Int
def upd {α : Type} (f : Nat → α) (i : Nat) (x : α) : Nat → α := fun j => if j = i then x else f j
def Pot (es : List PE) (p : Nat → Int) : Prop := (∀ v, 0 ≤ p v) ∧ ∀ e ∈ es, p e.src + e.wt ≤ p e.dst
/-! ### the in-place rounds -/
structure PS where
 m : Nat → Int
 b : Nat → Int
 last : Int
def pstep (s : PS) (k : Nat) (e : PE) : PS :=
 if s.m e.dst < s.m e.src + e.wt then ⟨upd s.m e.dst (s.m e.src + e.wt), upd s.b e.dst k, e.dst⟩ else s
def prun : List PE → Nat → PS → PS
 | [], _, s => s
 | e :: es, k, s => prun es (k + 1) (pstep s k e)
def pround (es : List PE) (s : PS) : PS := prun es 0 { s with last := -1 }
def psolve (es : List PE) : Nat → PS → PS
 | 0, s => s
 | n + 1, s => if (pround es s).last < 0 then pround es s else psolve es n (pround es s)
def pzero : PS := ⟨fun _ => 0, fun _ => -1, -1⟩
theorem pstep_le (s : PS) (k : Nat) (e : PE) (v : Nat) : s.m v ≤ (pstep s k e).m v := by
 unfold pstep; split
 · simp only [upd]; split
   · subst v; omega
   · omega
 · omega
theorem prun_le (es : List PE) : ∀ (k : Nat) (s : PS) (v : Nat), s.m v ≤ (prun es k s).m v := by
 induction es with
 | nil => intro k s v; exact Int.le_refl _
 | cons e es ih => intro k s v; exact Int.le_trans (pstep_le s k e v) (ih _ _ v)
theorem pround_le (es : List PE) (s : PS) (v : Nat) : s.m v ≤ (pround es s).m v := prun_le es 0 { s with last := -1 } v
theorem pstep_pot {s : PS} {p : Nat → Int} {es : List PE} (hp : Pot es p) (k : Nat) {e : PE} (he : e ∈ es) (hs : ∀ v, s.m v ≤ p v) (v : Nat) : (pstep s k e).m v ≤ p v := by
 unfold pstep; split
 · simp only [upd]; split
   · subst v; have := hp.2 e he; have := hs e.src; omega
   · exact hs v
 · exact hs v
theorem prun_pot {p : Nat → Int} {es : List PE} (hp : Pot es p) : ∀ (l : List PE) (k : Nat) (s : PS), (∀ e ∈ l, e ∈ es) → (∀ v, s.m v ≤ p v) → ∀ v, (prun l k s).m v ≤ p v := by
 intro l
 induction l with
 | nil => intro k s _ hs v; exact hs v
 | cons e l ih => intro k s hl hs v; exact ih _ _ (fun x hx => hl x (List.mem_cons_of_mem _ hx)) (pstep_pot hp k (hl e (by simp)) hs) v
theorem pround_pot {p : Nat → Int} {es : List PE} (hp : Pot es p) {s : PS} (hs : ∀ v, s.m v ≤ p v) (v : Nat) : (pround es s).m v ≤ p v :=
 prun_pot hp es 0 { s with last := -1 } (fun _ h => h) hs v
theorem pstep_last (s : PS) (k : Nat) (e : PE) : (pstep s k e).last = s.last ∨ (pstep s k e).last = e.dst := by
 unfold pstep; split <;> simp
theorem prun_last_ge (es : List PE) : ∀ (k : Nat) (s : PS), 0 ≤ s.last → 0 ≤ (prun es k s).last := by
 induction es with
 | nil => intro k s h; exact h
 | cons e es ih =>
   intro k s h
   refine ih _ _ ?_
   rcases pstep_last s k e with h1 | h1 <;> rw [h1] <;> omega
theorem prun_still (es : List PE) : ∀ (k : Nat) (s : PS), (prun es k s).last < 0 → prun es k s = s ∧ ∀ e ∈ es, s.m e.src + e.wt ≤ s.m e.dst := by
 induction es with
 | nil => intro k s h; exact ⟨rfl, by simp⟩
 | cons e es ih =>
   intro k s h
   have hn : ¬ s.m e.dst < s.m e.src + e.wt := by
    intro hlt
    have h1 : (pstep s k e).last = e.dst := by simp [pstep, hlt]
    have := prun_last_ge es (k + 1) (pstep s k e) (by rw [h1]; omega)
    simp only [prun] at h
    omega
   have hs : pstep s k e = s := by simp [pstep, hn]
   simp only [prun, hs] at h ⊢
   obtain ⟨h1, h2⟩ := ih (k + 1) s h
   refine ⟨h1, fun x hx => ?_⟩
   rcases List.mem_cons.1 hx with rfl | hx
   · omega
   · exact h2 x hx
def sfold (es : List PE) (m : Nat → Int) (nx : Nat → Int) : Nat → Int :=
 es.foldl (fun nx e => upd nx e.dst (max (nx e.dst) (m e.src + e.wt))) nx
def sround (es : List PE) (m : Nat → Int) : Nat → Int := sfold es m m
def siter (es : List PE) : Nat → Nat → Int
 | 0 => fun _ => 0
 | k + 1 => sround es (siter es k)
theorem sfold_ge (m : Nat → Int) (es : List PE) : ∀ (nx : Nat → Int) (v : Nat), nx v ≤ sfold es m nx v := by
 induction es with
 | nil => intro nx v; exact Int.le_refl _
 | cons e es ih =>
   intro nx v
   refine Int.le_trans ?_ (ih (upd nx e.dst (max (nx e.dst) (m e.src + e.wt))) v)
   simp only [upd]; split
   · subst v; omega
   · omega
theorem sfold_edge (m : Nat → Int) (es : List PE) : ∀ (nx : Nat → Int), ∀ e ∈ es, m e.src + e.wt ≤ sfold es m nx e.dst := by
 induction es with
 | nil => intro nx e h; simp at h
 | cons d es ih =>
   intro nx e h
   rcases List.mem_cons.1 h with rfl | h
   · refine Int.le_trans ?_ (sfold_ge m es (upd nx e.dst (max (nx e.dst) (m e.src + e.wt))) e.dst)
     simp [upd]; omega
   · exact ih _ e h
theorem sfold_from (m : Nat → Int) (es : List PE) : ∀ (nx : Nat → Int) (v : Nat), sfold es m nx v = nx v ∨ ∃ e ∈ es, e.dst = v ∧ sfold es m nx v = m e.src + e.wt := by
 induction es with
 | nil => intro nx v; exact .inl rfl
 | cons d es ih =>
   intro nx v
   rcases ih (upd nx d.dst (max (nx d.dst) (m d.src + d.wt))) v with h | ⟨e, he, hv, h⟩
   · simp only [sfold, List.foldl_cons] at h ⊢
     rw [h]
     by_cases hv : v = d.dst
     · subst hv
       simp only [upd, if_pos]
       rcases Int.le_total (nx d.dst) (m d.src + d.wt) with h1 | h1
       · exact .inr ⟨d, by simp, rfl, by omega⟩
       · exact .inl (by omega)
     · exact .inl (by simp [upd, hv])
   · exact .inr ⟨e, List.mem_cons_of_mem _ he, hv, h⟩
theorem siter_mono (es : List PE) (k : Nat) (v : Nat) : siter es k v ≤ siter es (k + 1) v := sfold_ge _ es _ v
theorem siter_le (es : List PE) (j k : Nat) (h : j ≤ k) (v : Nat) : siter es j v ≤ siter es k v := by
 induction h with
 | refl => exact Int.le_refl _
 | step _ ih => exact Int.le_trans ih (siter_mono es _ v)
theorem siter_pot {es : List PE} {p : Nat → Int} (hp : Pot es p) (k : Nat) : ∀ v, siter es k v ≤ p v := by
 induction k with
 | zero => exact hp.1
 | succ k ih =>
   intro v
   rcases sfold_from (siter es k) es (siter es k) v with h | ⟨e, he, hv, h⟩
   · show sfold es (siter es k) (siter es k) v ≤ p v
     rw [h]; exact ih v
   · show sfold es (siter es k) (siter es k) v ≤ p v
     rw [h, ← hv]
     have := hp.2 e he; have := ih e.src; omega
/-! ### pigeons; chains; walks -/
theorem pigeon : ∀ (N : Nat) (f : Nat → Nat), (∀ i, i ≤ N → f i < N) → ∃ i j, i < j ∧ j ≤ N ∧ f i = f j := by
 intro N
 induction N with
 | zero => intro f h; exact absurd (h 0 (Nat.le_refl _)) (by omega)
 | succ N ih =>
   intro f h
   by_cases hc : ∃ i, i ≤ N ∧ f i = f (N + 1)
   · obtain ⟨i, hi, he⟩ := hc
     exact ⟨i, N + 1, by omega, Nat.le_refl _, he⟩
   · have hne : ∀ i, i ≤ N → f i ≠ f (N + 1) := fun i hi he => hc ⟨i, hi, he⟩
     have hl := h (N + 1) (Nat.le_refl _)
     obtain ⟨i, j, hij, hj, he⟩ := ih (fun i => if f (N + 1) < f i then f i - 1 else f i) (by
      intro i hi
      have h1 := hne i hi
      have h2 := h i (by omega)
      show (if f (N + 1) < f i then f i - 1 else f i) < N
      split <;> omega)
     refine ⟨i, j, hij, by omega, ?_⟩
     have h1 := hne i (by omega)
     have h2 := hne j (by omega)
     have h3 : (if f (N + 1) < f i then f i - 1 else f i) = (if f (N + 1) < f j then f j - 1 else f j) := he
     split at h3 <;> split at h3 <;> omega
def IsWalk (es : List PE) : Nat → List PE → Nat → Prop
 | u, [], v => u = v
 | u, e :: l, v => e ∈ es ∧ e.src = u ∧ IsWalk es e.dst l v
def wsum (l : List PE) : Int := (l.map PE.wt).sum
theorem wsum_nil : wsum [] = 0 := rfl
theorem wsum_cons (e : PE) (l : List PE) : wsum (e :: l) = e.wt + wsum l := by simp [wsum]
theorem wsum_append (a b : List PE) : wsum (a ++ b) = wsum a + wsum b := by simp [wsum]
theorem IsWalk.append {es : List PE} : ∀ {a b : List PE} {u v x : Nat}, IsWalk es u a v → IsWalk es v b x → IsWalk es u (a ++ b) x := by
 intro a
 induction a with
 | nil => intro b u v x h1 h2; have : u = v := h1; subst this; exact h2
 | cons e a ih => intro b u v x h1 h2; exact ⟨h1.1, h1.2.1, ih h1.2.2 h2⟩
theorem IsWalk.pot {es : List PE} {p : Nat → Int} (hp : ∀ e ∈ es, p e.src + e.wt ≤ p e.dst) : ∀ {l : List PE} {u v : Nat}, IsWalk es u l v → p u + wsum l ≤ p v := by
 intro l
 induction l with
 | nil => intro u v h; have : u = v := h; subst this; simp [wsum]
 | cons e l ih =>
   intro u v h
   have h1 := ih h.2.2
   have h2 := hp e h.1
   have h3 := h.2.1
   subst h3
   rw [wsum_cons]; omega
theorem pot_no_cycle {es : List PE} {p : Nat → Int} (hp : Pot es p) {l : List PE} {u : Nat} (h : IsWalk es u l u) : wsum l ≤ 0 := by
 have := IsWalk.pot hp.2 h; omega
theorem siter_walk (es : List PE) : ∀ (k v : Nat), ∃ u l, IsWalk es u l v ∧ l.length ≤ k ∧ siter es k v = wsum l := by
 intro k
 induction k with
 | zero => intro v; exact ⟨v, [], rfl, Nat.le_refl _, rfl⟩
 | succ k ih =>
   intro v
   rcases sfold_from (siter es k) es (siter es k) v with h | ⟨e, he, hv, h⟩
   · obtain ⟨u, l, h1, h2, h3⟩ := ih v
     exact ⟨u, l, h1, by omega, h.trans h3⟩
   · obtain ⟨u, l, h1, h2, h3⟩ := ih e.src
     refine ⟨u, l ++ [e], IsWalk.append h1 ⟨he, rfl, hv⟩, by simp; omega, ?_⟩
     rw [wsum_append, wsum_cons, wsum_nil, ← h3]
     show sfold es (siter es k) (siter es k) v = _
     rw [h]; omega
theorem siter_chain (es : List PE) : ∀ (k v : Nat), siter es k v < siter es (k + 1) v → ∃ c : Nat → Nat, c (k + 1) = v ∧
 ∀ i, i ≤ k → siter es i (c (i + 1)) < siter es (i + 1) (c (i + 1)) ∧ ∃ e ∈ es, e.src = c i ∧ e.dst = c (i + 1) ∧ siter es (i + 1) (c (i + 1)) = siter es i (c i) + e.wt := by
 intro k
 induction k with
 | zero =>
   intro v h
   rcases sfold_from (siter es 0) es (siter es 0) v with h1 | ⟨e, he, hv, h1⟩
   · have h2 : siter es (0 + 1) v = siter es 0 v := h1; omega
   · refine ⟨fun i => if i = 0 then e.src else v, rfl, fun i hi => ?_⟩
     obtain rfl : i = 0 := by omega
     exact ⟨h, e, he, rfl, hv, h1⟩
 | succ k ih =>
   intro v h
   rcases sfold_from (siter es (k + 1)) es (siter es (k + 1)) v with h1 | ⟨e, he, hv, h1⟩
   · have h2 : siter es (k + 1 + 1) v = siter es (k + 1) v := h1; omega
   · have h2 : siter es (k + 1 + 1) v = siter es (k + 1) e.src + e.wt := h1
     have h3 : siter es k e.src + e.wt ≤ siter es (k + 1) e.dst := sfold_edge (siter es k) es (siter es k) e he
     rw [hv] at h3
     obtain ⟨c, hc, hi⟩ := ih e.src (by omega)
     refine ⟨fun i => if i = k + 1 + 1 then v else c i, by simp, fun i hi' => ?_⟩
     by_cases hk : i = k + 1
     · subst hk
       have a : (fun i => if i = k + 1 + 1 then v else c i) (k + 1) = c (k + 1) := by simp
       have b : (fun i => if i = k + 1 + 1 then v else c i) (k + 1 + 1) = v := by simp
       rw [a, b, hc]
       exact ⟨h, e, he, rfl, hv, h2⟩
     · have a : (fun i => if i = k + 1 + 1 then v else c i) i = c i := by simp; omega
       have b : (fun i => if i = k + 1 + 1 then v else c i) (i + 1) = c (i + 1) := by simp; omega
       rw [a, b]
       exact hi i (by omega)
theorem chain_walk {es : List PE} {c : Nat → Nat} {S : Nat → Nat → Int} {k : Nat} (hc : ∀ i, i ≤ k → ∃ e ∈ es, e.src = c i ∧ e.dst = c (i + 1) ∧ S (i + 1) (c (i + 1)) = S i (c i) + e.wt) (i : Nat) :
 ∀ d, i + d ≤ k + 1 → ∃ l, IsWalk es (c i) l (c (i + d)) ∧ l.length = d ∧ S (i + d) (c (i + d)) = S i (c i) + wsum l := by
 intro d
 induction d with
 | zero => intro _; exact ⟨[], rfl, rfl, by simp [wsum]⟩
 | succ d ih =>
   intro h
   obtain ⟨l, h1, h2, h3⟩ := ih (by omega)
   obtain ⟨e, he, ha, hb, hd⟩ := hc (i + d) (by omega)
   refine ⟨l ++ [e], IsWalk.append h1 ⟨he, ha, hb⟩, by simp [h2], ?_⟩
   rw [wsum_append, wsum_cons, wsum_nil]
   show S (i + d + 1) (c (i + d + 1)) = _
   omega
def Inside (N : Nat) (es : List PE) : Prop := ∀ e ∈ es, e.src < N ∧ e.dst < N
theorem siter_cycle {es : List PE} {N k v : Nat} (hin : Inside N es) (hN : N ≤ k + 1) (h : siter es k v < siter es (k + 1) v) :
 ∃ u l, IsWalk es u l u ∧ 1 ≤ l.length ∧ l.length ≤ N ∧ 0 < wsum l := by
 obtain ⟨c, hc, hi⟩ := siter_chain es k v h
 have hlt : ∀ i, i ≤ k + 1 → c i < N := by
  intro i hik
  rcases Nat.lt_or_ge i (k + 1) with h1 | h1
  · obtain ⟨_, e, he, ha, _, _⟩ := hi i (by omega)
    rw [← ha]; exact (hin e he).1
  · obtain rfl : i = k + 1 := by omega
    obtain ⟨_, e, he, _, hb, _⟩ := hi k (by omega)
    rw [← hb]; exact (hin e he).2
 obtain ⟨i, j, hij, hj, he⟩ := pigeon N c (fun i hi => hlt i (by omega))
 obtain ⟨l, h1, h2, h3⟩ := chain_walk (S := siter es) (fun i hik => (hi i hik).2) i (j - i) (by omega)
 rw [show i + (j - i) = j from by omega] at h1 h3
 rw [he] at h1 h3
 refine ⟨c j, l, h1, by omega, by omega, ?_⟩
 have h4 := (hi (j - 1) (by omega)).1
 rw [show j - 1 + 1 = j from by omega] at h4
 have h5 := siter_le es i (j - 1) (by omega) (c j)
 omega
theorem siter_still {es : List PE} {N k : Nat} {p : Nat → Int} (hin : Inside N es) (hN : N ≤ k + 1) (hp : Pot es p) (v : Nat) : siter es (k + 1) v = siter es k v := by
 rcases Int.lt_or_le (siter es k v) (siter es (k + 1) v) with h | h
 · obtain ⟨u, l, h1, _, _, h4⟩ := siter_cycle hin hN h
   have := pot_no_cycle hp h1; omega
 · have := siter_mono es k v; omega
theorem siter_fix {es : List PE} {k : Nat} (h : ∀ v, siter es (k + 1) v = siter es k v) : Pot es (siter es k) :=
 ⟨fun v => by have := siter_le es 0 k (by omega) v; exact this, fun e he => by
  have h1 : siter es k e.src + e.wt ≤ siter es (k + 1) e.dst := sfold_edge (siter es k) es (siter es k) e he
  rw [h] at h1; exact h1⟩
theorem prun_edge (es : List PE) : ∀ (k : Nat) (s : PS) (m : Nat → Int), (∀ v, m v ≤ s.m v) → ∀ e ∈ es, m e.src + e.wt ≤ (prun es k s).m e.dst := by
 induction es with
 | nil => intro k s m _ e h; simp at h
 | cons d es ih =>
   intro k s m hm e h
   rcases List.mem_cons.1 h with rfl | h
   · refine Int.le_trans ?_ (prun_le es (k + 1) (pstep s k e) e.dst)
     have := hm e.src
     unfold pstep; split
     · simp [upd]; omega
     · omega
   · exact ih (k + 1) (pstep s k d) m (fun v => Int.le_trans (hm v) (pstep_le s k d v)) e h
theorem pround_ge_sround (es : List PE) (s : PS) (m : Nat → Int) (hm : ∀ v, m v ≤ s.m v) (v : Nat) : sround es m v ≤ (pround es s).m v := by
 rcases sfold_from m es m v with h | ⟨e, he, hv, h⟩
 · show sfold es m m v ≤ _
   rw [h]; exact Int.le_trans (hm v) (pround_le es s v)
 · show sfold es m m v ≤ _
   rw [h, ← hv]; exact prun_edge es 0 { s with last := -1 } m hm e he
def piter (es : List PE) : Nat → PS
 | 0 => pzero
 | k + 1 => pround es (piter es k)
theorem piter_ge_siter (es : List PE) (k : Nat) (v : Nat) : siter es k v ≤ (piter es k).m v := by
 induction k generalizing v with
 | zero => exact Int.le_refl _
 | succ k ih => exact pround_ge_sround es (piter es k) (siter es k) ih v
theorem piter_pot {es : List PE} {p : Nat → Int} (hp : Pot es p) (k : Nat) : ∀ v, (piter es k).m v ≤ p v := by
 induction k with
 | zero => exact hp.1
 | succ k ih => exact pround_pot hp ih
theorem piter_eq {es : List PE} {N k : Nat} {p : Nat → Int} (hin : Inside N es) (hN : N ≤ k + 1) (hp : Pot es p) (v : Nat) : (piter es k).m v = siter es k v := by
 have h1 := siter_fix (siter_still (k := k) hin hN hp)
 have h2 := piter_pot h1 k v
 have h3 := piter_ge_siter es k v
 omega
/-! ### in place: by which edge a node got more; a time for each turn -/
def PInv (es : List PE) (q k : Nat) (s : PS) : Prop :=
 ∃ T : Nat → Nat,
  (∀ v, T v ≤ q * es.length + k) ∧
  (∀ v, (T v = 0 ∧ s.b v = -1) ∨ (0 < T v ∧ ∃ (j : Nat) (e : PE), es[j]? = some e ∧ s.b v = (j : Int) ∧ e.dst = v ∧ s.m v ≤ s.m e.src + e.wt ∧ (T v ≤ T e.src → s.m v < s.m e.src + e.wt) ∧ T v ≤ T e.src + es.length)) ∧
  (∀ (j : Nat) (e : PE), es[j]? = some e → (if j < k then T e.src < q * es.length + j + 1 else 0 < q ∧ T e.src + es.length < q * es.length + j + 1) → s.m e.src + e.wt ≤ s.m e.dst) ∧
  (s.last = -1 ∨ ∃ v : Nat, s.last = (v : Int) ∧ q * es.length < T v)
theorem PInv.zero (es : List PE) : PInv es 0 0 pzero :=
 ⟨fun _ => 0, fun v => by simp, fun v => .inl ⟨rfl, rfl⟩, fun j e _ h => by simp at h, .inl rfl⟩
theorem PInv.next {es : List PE} {q : Nat} {s : PS} (h : PInv es q es.length s) : PInv es (q + 1) 0 { s with last := -1 } := by
 obtain ⟨T, h1, h2, h3, _⟩ := h
 have e1 : (q + 1) * es.length = q * es.length + es.length := by rw [Nat.add_mul, Nat.one_mul]
 refine ⟨T, fun v => by have := h1 v; omega, h2, fun j e hj hc => ?_, .inl rfl⟩
 have hl : j < es.length := (List.getElem?_eq_some_iff.1 hj).1
 refine h3 j e hj ?_
 rw [if_pos hl]
 simp only [Nat.not_lt_zero, if_false] at hc
 omega
theorem PInv.step {es : List PE} {q k : Nat} {s : PS} {e : PE} (he : es[k]? = some e) (h : PInv es q k s) : PInv es q (k + 1) (pstep s k e) := by
 obtain ⟨T, h1, h2, h3, h4⟩ := h
 have hl : k < es.length := (List.getElem?_eq_some_iff.1 he).1
 by_cases hu : s.m e.dst < s.m e.src + e.wt
 · have hs : pstep s k e = ⟨upd s.m e.dst (s.m e.src + e.wt), upd s.b e.dst k, e.dst⟩ := by simp [pstep, hu]
   have hT : q * es.length + k + 1 ≤ T e.src + es.length := by
    rcases Nat.lt_or_ge (T e.src + es.length) (q * es.length + k + 1) with hc | hc
    · have := h3 k e he (by
       rw [if_neg (by omega)]
       refine ⟨?_, hc⟩
       rcases Nat.eq_zero_or_pos q with h0 | h0
       · subst h0; simp at hc; omega
       · exact h0)
      omega
    · exact hc
   rw [hs]
   refine ⟨upd T e.dst (q * es.length + k + 1), fun v => ?_, fun v => ?_, fun j d hj hc => ?_, .inr ⟨e.dst, rfl, ?_⟩⟩
   · have := h1 v
     simp only [upd]; split <;> omega
   · by_cases hv : v = e.dst
     · subst hv
       refine .inr ⟨by simp [upd], k, e, he, by simp [upd], rfl, ?_, ?_, ?_⟩
       · simp only [upd, if_pos]
         split
         · rename_i hsd; rw [hsd] at hu ⊢; omega
         · omega
       · simp only [upd, if_pos]
         intro hle
         split at hle
         · rename_i hsd; rw [if_pos hsd]; rw [hsd] at hu ⊢; omega
         · have := h1 e.src; omega
       · simp only [upd, if_pos]
         split <;> omega
     · have hv' : ∀ (α : Type) (f : Nat → α) (x : α), upd f e.dst x v = f v := fun α f x => by simp [upd, hv]
       rcases h2 v with ⟨ha, hb⟩ | ⟨hp, j, d, hj, hb, hd, hm, hst, hlim⟩
       · exact .inl ⟨(hv' _ _ _).trans ha, (hv' _ _ _).trans hb⟩
       · refine .inr ⟨by rw [hv']; exact hp, j, d, hj, (hv' _ _ _).trans hb, hd, ?_, ?_, ?_⟩
         · show upd s.m e.dst (s.m e.src + e.wt) v ≤ upd s.m e.dst (s.m e.src + e.wt) d.src + d.wt
           rw [hv']
           simp only [upd]; split
           · rename_i hsd; rw [hsd] at hm; omega
           · exact hm
         · show upd T e.dst (q * es.length + k + 1) v ≤ upd T e.dst (q * es.length + k + 1) d.src → upd s.m e.dst (s.m e.src + e.wt) v < upd s.m e.dst (s.m e.src + e.wt) d.src + d.wt
           rw [hv', hv']
           simp only [upd]
           split
           · rename_i hsd; rw [hsd] at hm; intro _; omega
           · exact hst
         · rw [hv']
           have := h1 v
           simp only [upd]; split <;> omega
   · show upd s.m e.dst (s.m e.src + e.wt) d.src + d.wt ≤ upd s.m e.dst (s.m e.src + e.wt) d.dst
     have hjl : j < es.length := (List.getElem?_eq_some_iff.1 hj).1
     have hsrc : d.src ≠ e.dst := by
      intro hsd
      have ht : upd T e.dst (q * es.length + k + 1) d.src = q * es.length + k + 1 := by simp [upd, hsd]
      rw [ht] at hc
      split at hc <;> omega
     have ht : upd T e.dst (q * es.length + k + 1) d.src = T d.src := by simp [upd, hsrc]
     have hm0 : upd s.m e.dst (s.m e.src + e.wt) d.src = s.m d.src := by simp [upd, hsrc]
     rw [ht] at hc
     rw [hm0]
     by_cases hjk : j = k
     · subst hjk
       obtain rfl : e = d := by rw [he] at hj; injection hj
       simp [upd]
     · have h5 := h3 j d hj (by
        by_cases h6 : j < k
        · rw [if_pos h6]; rw [if_pos (by omega)] at hc; exact hc
        · rw [if_neg h6]; rw [if_neg (by omega)] at hc; exact hc)
       simp only [upd]; split
       · rename_i hdd; rw [hdd] at h5; omega
       · exact h5
   · simp [upd]; omega
 · have hs : pstep s k e = s := by simp [pstep, hu]
   rw [hs]
   refine ⟨T, fun v => by have := h1 v; omega, h2, fun j d hj hc => ?_, h4⟩
   by_cases hjk : j = k
   · subst hjk
     obtain rfl : e = d := by rw [he] at hj; injection hj
     omega
   · refine h3 j d hj ?_
     by_cases h6 : j < k
     · rw [if_pos h6]; rw [if_pos (by omega)] at hc; exact hc
     · rw [if_neg h6]; rw [if_neg (by omega)] at hc; exact hc
theorem PInv.run {es : List PE} {q : Nat} : ∀ (l : List PE) (k : Nat) (s : PS), es.drop k = l → k ≤ es.length → PInv es q k s → PInv es q es.length (prun l k s) := by
 intro l
 induction l with
 | nil =>
   intro k s hd hk h
   have : es.length ≤ k := List.drop_eq_nil_iff.1 hd
   obtain rfl : k = es.length := by omega
   exact h
 | cons e l ih =>
   intro k s hd hk h
   have hkl : k < es.length := by
    rcases Nat.lt_or_ge k es.length with h1 | h1
    · exact h1
    · rw [List.drop_of_length_le h1] at hd; cases hd
   have he : es[k]? = some e := by
    have := List.getElem?_drop (xs := es) (i := k) (j := 0)
    rw [hd] at this; simpa using this.symm
   refine ih (k + 1) (pstep s k e) ?_ (by omega) (h.step he)
   rw [← List.tail_drop, hd]; rfl
theorem PInv.iter (es : List PE) (q : Nat) : PInv es q es.length (piter es (q + 1)) := by
 induction q with
 | zero => exact PInv.run es 0 _ rfl (Nat.zero_le _) (PInv.zero es)
 | succ q ih =>
   show PInv es (q + 1) es.length (prun es 0 { piter es (q + 1) with last := -1 })
   exact PInv.run es 0 _ rfl (Nat.zero_le _) ih.next
structure Back (es : List PE) (N : Nat) (s : PS) (T : Nat → Nat) (v : Nat) : Prop where
 lt : v < N
 step : ∃ (j : Nat) (e : PE), es[j]? = some e ∧ s.b v = (j : Int) ∧ e.dst = v ∧ s.m v ≤ s.m e.src + e.wt ∧ (T v ≤ T e.src → s.m v < s.m e.src + e.wt)
def eby (es : List PE) (s : PS) (v : Nat) : PE := (es[(s.b v).toNat]?).getD ⟨0, 0, 0⟩
def prev (es : List PE) (s : PS) (v : Nat) : Nat := (eby es s v).src
def prevN (es : List PE) (s : PS) : Nat → Nat → Nat
 | 0, v => v
 | k + 1, v => prev es s (prevN es s k v)
theorem Back.info {es : List PE} {N : Nat} {s : PS} {T : Nat → Nat} {v : Nat} (h : Back es N s T v) :
 eby es s v ∈ es ∧ es[(s.b v).toNat]? = some (eby es s v) ∧ 0 ≤ s.b v ∧ (s.b v).toNat < es.length ∧ (eby es s v).dst = v ∧ s.m v ≤ s.m (prev es s v) + (eby es s v).wt ∧ (T v ≤ T (prev es s v) → s.m v < s.m (prev es s v) + (eby es s v).wt) := by
 obtain ⟨j, e, hj, hb, hd, h1, h2⟩ := h.step
 have e1 : (s.b v).toNat = j := by rw [hb]; simp
 have e2 : eby es s v = e := by unfold eby; rw [e1, hj]; rfl
 unfold prev
 rw [e2, e1]
 exact ⟨List.mem_of_getElem? hj, hj, by rw [hb]; omega, (List.getElem?_eq_some_iff.1 hj).1, hd, h1, h2⟩
end Go.Proofs.YtjjikhaaimfneaaGreatDoor
namespace Go.Proofs.YtjjikhaaimfneaaGreatDoor
open Go.RowKit
set_option linter.unusedSimpArgs false
set_option linter.unusedVariables false
theorem prevN_add (es : List PE) (s : PS) (a v : Nat) : ∀ b, prevN es s (a + b) v = prevN es s b (prevN es s a v)
 | 0 => rfl
 | b + 1 => by show prev es s (prevN es s (a + b) v) = prev es s (prevN es s b (prevN es s a v)); rw [prevN_add es s a v b]
def TInv (es : List PE) (s : PS) (T : Nat → Nat) : Prop := ∀ v, 0 < T v → ∃ (j : Nat) (e : PE), es[j]? = some e ∧ s.b v = (j : Int) ∧ e.dst = v ∧ s.m v ≤ s.m e.src + e.wt ∧ (T v ≤ T e.src → s.m v < s.m e.src + e.wt) ∧ T v ≤ T e.src + es.length
theorem TInv.back {es : List PE} {s : PS} {T : Nat → Nat} {N v : Nat} (h : TInv es s T) (hin : Inside N es) (hv : 0 < T v) : Back es N s T v ∧ T v ≤ T (prev es s v) + es.length := by
 obtain ⟨j, e, hj, hb, hd, h1, h2, h3⟩ := h v hv
 have hl : v < N := by have := (hin e (List.mem_of_getElem? hj)).2; omega
 have e1 : (s.b v).toNat = j := by rw [hb]; simp
 have e2 : eby es s v = e := by unfold eby; rw [e1, hj]; rfl
 exact ⟨⟨hl, j, e, hj, hb, hd, h1, h2⟩, by unfold prev; rw [e2]; exact h3⟩
theorem TInv.far {es : List PE} {s : PS} {T : Nat → Nat} {N v : Nat} (h : TInv es s T) (hin : Inside N es) (hv : N * es.length < T v) : ∀ i, i ≤ N → (N - i) * es.length < T (prevN es s i v)
 | 0, _ => by show (N - 0) * es.length < T v; simpa using hv
 | i + 1, hi => by
   have ih := TInv.far h hin hv i (by omega)
   have h1 := (h.back hin (show 0 < T (prevN es s i v) by omega)).2
   have h2 : (N - i) * es.length = (N - (i + 1)) * es.length + es.length := by
    rw [show N - i = (N - (i + 1)) + 1 by omega, Nat.add_mul, Nat.one_mul]
   show _ < T (prev es s (prevN es s i v))
   omega
def backW (es : List PE) (s : PS) (u : Nat) : Nat → Int
 | 0 => 0
 | k + 1 => backW es s u k + (eby es s (prevN es s k u)).wt
theorem backW_ge {es : List PE} {N : Nat} {s : PS} {T : Nat → Nat} {u : Nat} (h : ∀ k, Back es N s T (prevN es s k u)) : ∀ k, s.m u ≤ s.m (prevN es s k u) + backW es s u k ∧ (s.m u < s.m (prevN es s k u) + backW es s u k ∨ T (prevN es s k u) + k ≤ T u)
 | 0 => ⟨by simp [backW, prevN], .inr (Nat.le_refl _)⟩
 | k + 1 => by
   obtain ⟨h1, h2⟩ := backW_ge h k
   obtain ⟨_, _, _, _, _, h3, h4⟩ := (h k).info
   have e1 : prevN es s (k + 1) u = prev es s (prevN es s k u) := rfl
   have e2 : backW es s u (k + 1) = backW es s u k + (eby es s (prevN es s k u)).wt := rfl
   rw [e1, e2]
   refine ⟨by omega, ?_⟩
   by_cases hT : T (prevN es s k u) ≤ T (prev es s (prevN es s k u))
   · have := h4 hT; left; omega
   · rcases h2 with h2 | h2
     · left; omega
     · right; omega
theorem least_pos {P : Nat → Prop} : ∀ p, 0 < p → P p → ∃ q, 0 < q ∧ q ≤ p ∧ P q ∧ ∀ k, 0 < k → k < q → ¬ P k := by
 intro p
 induction p using Nat.strongRecOn with
 | ind p ih =>
   intro hp h
   by_cases hx : ∃ k, 0 < k ∧ k < p ∧ P k
   · obtain ⟨k, h1, h2, h3⟩ := hx
     obtain ⟨q, q1, q2, q3, q4⟩ := ih k h2 h1 h3
     exact ⟨q, q1, by omega, q3, q4⟩
   · exact ⟨p, hp, Nat.le_refl _, h, fun k h1 h2 h3 => hx ⟨k, h1, h2, h3⟩⟩
structure Found (es : List PE) (N : Nat) (s : PS) (v p : Nat) : Prop where
 last : s.last = (v : Int)
 on : ∀ k, prevN es s k v < N ∧ 0 ≤ s.b (prevN es s k v) ∧ es[(s.b (prevN es s k v)).toNat]? = some (eby es s (prevN es s k v)) ∧ (s.b (prevN es s k v)).toNat < es.length ∧ (eby es s (prevN es s k v)).dst = prevN es s k v
 pos : 0 < p
 le : p ≤ N
 back : prevN es s p (prevN es s N v) = prevN es s N v
 first : ∀ k, 0 < k → k < p → prevN es s k (prevN es s N v) ≠ prevN es s N v
 more : 0 < backW es s (prevN es s N v) p
theorem found {es : List PE} {N : Nat} (hin : Inside N es) (hl : 0 ≤ (piter es (N + 1)).last) : ∃ v p, Found es N (piter es (N + 1)) v p := by
 obtain ⟨T, _, h2, _, h4⟩ := PInv.iter es N
 generalize piter es (N + 1) = s at *
 have hT : TInv es s T := fun v hv => by
  rcases h2 v with ⟨h, _⟩ | ⟨_, h⟩
  · omega
  · exact h
 rcases h4 with h4 | ⟨v, hv, h4⟩
 · omega
 have far := hT.far hin h4
 have bk : ∀ i, i ≤ N → Back es N s T (prevN es s i v) := fun i hi => (hT.back hin (by have := far i hi; omega)).1
 obtain ⟨i, j, hij, hjN, he⟩ := pigeon N (fun i => prevN es s i v) (fun i hi => (bk i hi).lt)
 have he : prevN es s i v = prevN es s j v := he
 have per : ∀ d, prevN es s (i + d) v = prevN es s (j + d) v := fun d => by rw [prevN_add, prevN_add, he]
 have all : ∀ k, Back es N s T (prevN es s k v) := by
  intro k
  induction k using Nat.strongRecOn with
  | ind k ih =>
    by_cases hk : k ≤ N
    · exact bk k hk
    · have h5 := per (k - j)
      rw [show j + (k - j) = k by omega] at h5
      rw [← h5]
      exact ih _ (by omega)
 have hp : prevN es s (j - i) (prevN es s N v) = prevN es s N v := by
  have h5 := per (N - i)
  rw [show i + (N - i) = N by omega, show j + (N - i) = N + (j - i) by omega, prevN_add] at h5
  exact h5.symm
 obtain ⟨p, p1, p2, p3, p4⟩ := least_pos (P := fun k => prevN es s k (prevN es s N v) = prevN es s N v) (j - i) (by omega) hp
 have p3 : prevN es s p (prevN es s N v) = prevN es s N v := p3
 refine ⟨v, p, hv, fun k => ?_, p1, by omega, p3, p4, ?_⟩
 · obtain ⟨_, a2, a3, a4, a5, _, _⟩ := (all k).info
   exact ⟨(all k).lt, a3, a2, a4, a5⟩
 · obtain ⟨g1, g2⟩ := backW_ge (es := es) (N := N) (s := s) (T := T) (u := prevN es s N v) (fun k => by rw [← prevN_add]; exact all _) p
   rw [p3] at g1 g2
   omega
end Go.Proofs.YtjjikhaaimfneaaGreatDoor
namespace Go.Proofs.YtjjikhaaimfneaaGreatDoor
open Go.RowKit
set_option linter.unusedSimpArgs false
set_option linter.unusedVariables false
def fitI (a : Int) : Int := if a < 0 then 0 else if 1152921504606846976 < a then 1152921504606846976 else a
def plusI (a b : Int) : Int := if 1152921504606846976 < fitI a + fitI b then 1152921504606846976 else fitI a + fitI b
def lessI (a b : Int) : Int := if fitI b = 1152921504606846976 then 0 else if fitI a < fitI b then 0 else if fitI a = 1152921504606846976 then 1152921504606846976 else fitI a - fitI b
theorem fit_ge (a : Int) : 0 ≤ fitI a := by unfold fitI; omega
theorem fit_le (a : Int) : fitI a ≤ 1152921504606846976 := by unfold fitI; omega
theorem plus_ge (a b : Int) : 0 ≤ plusI a b := by have := fit_ge a; have := fit_ge b; unfold plusI; omega
theorem plus_le (a b : Int) : plusI a b ≤ 1152921504606846976 := by unfold plusI; omega
end Go.Proofs.YtjjikhaaimfneaaGreatDoor
