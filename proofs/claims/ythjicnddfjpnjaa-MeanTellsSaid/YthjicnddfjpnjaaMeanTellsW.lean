/-
  THE WALK of MeanTells.
-/
import Derived.Test.YthjicnddfjpnjaaMBest
import Derived.Test.YthjicnddfjpnjaaQWeigh
import Derived.Test.YthjicnddfjpnjaaQWrong
import Derived.Test.YthjicnddfjpnjaaMem
namespace Go.Proofs.Ythjicnddfjpnjaa
open Go.RowKit
set_option linter.unusedSimpArgs false
set_option linter.unusedVariables false

attribute [local go_sem] iteMin iteMax iteMinN iteMaxN

theorem walk_adj {es : List PE} : ∀ {l : List PE} {u v : Nat}, IsWalk es u l v → ∀ (i : Nat) (a b : PE), l[i]? = some a → l[i + 1]? = some b → a.dst = b.src := by
  intro l
  induction l with
  | nil => intro u v _ i a b h; simp at h
  | cons d l ih =>
    intro u v h i a b ha hb
    cases i with
    | zero =>
      simp at ha; subst ha
      cases l with
      | nil => simp at hb
      | cons c l => simp at hb; subst hb; exact h.2.2.2.1.symm
    | succ i => exact ih h.2.2 i a b (by simpa using ha) (by simpa using hb)
theorem walk_first {es : List PE} {l : List PE} {u v : Nat} (h : IsWalk es u l v) {a : PE} (ha : l[0]? = some a) : a.src = u := by
  cases l with
  | nil => simp at ha
  | cons d l => simp at ha; subst ha; exact h.2.1
theorem walk_last {es : List PE} : ∀ {l : List PE} {u v : Nat}, IsWalk es u l v → ∀ (a : PE), l[l.length - 1]? = some a → a.dst = v := by
  intro l
  induction l with
  | nil => intro u v _ a h; simp at h
  | cons d l ih =>
    intro u v h a ha
    cases l with
    | nil => simp at ha; subst ha; exact h.2.2
    | cons c l => exact ih h.2.2 a (by simpa using ha)
theorem pes_back {es : List GE} {k : Nat} {e : PE} (h : (pes es)[k]? = some e) : ∃ g, es[k]? = some g ∧ peOf g = e := by
  unfold pes at h
  rw [List.getElem?_map] at h
  exact Option.map_eq_some_iff.1 h
structure BestF (N : Nat) (es : List GE) (ns : List Int) (x y : Int) (s : Int) : Prop where
  pos : 0 < ns.length
  le : ns.length ≤ N
  ok : ∀ k, k < ns.length → StepOk es ns k
  sum : wI es ns ns.length = s
  bd : -(314572800 : Int) ≤ s ∧ s ≤ 314572800
  mean : s * y = x * ns.length
  ends : ∃ (m1 m2 : Nat) (f1 f2 : GE), ns[0]? = some (m1 : Int) ∧ es[m1]? = some f1 ∧ ns[ns.length - 1]? = some (m2 : Int) ∧ es[m2]? = some f2 ∧ f1.src = f2.dst
theorem best_facts {N : Nat} {es : List GE} {ns : List Int} {x y : Int} (hg : GraphOk (N : Int) es) (h : BestL N es ns x y) : ∃ s, BestF N es ns x y s := by
  obtain ⟨u, l, h1, h2, h3, h4⟩ := h.walk
  have hN : N ≤ 300 := by have := hg.1.2.1; omega
  have hle := h.le
  have hpos := h.pos
  have hnn : ∀ g ∈ es, 0 ≤ g.src ∧ 0 ≤ g.dst := fun g hgm => by have := hg.2 g hgm; unfold EdgeOk at this; omega
  have get : ∀ i, i < ns.length → ∃ e, l[i]? = some e := fun i hi => ⟨_, List.getElem?_eq_getElem (by omega)⟩
  have sumk : ∀ k, k ≤ ns.length → wI es ns k = wsum (l.take k) := by
    intro k
    induction k with
    | zero => intro _; simp [wI, wsum]
    | succ k ih =>
      intro hk
      have ih := ih (by omega)
      obtain ⟨e, he⟩ := get k (by omega)
      obtain ⟨m, q1, q2⟩ := h3 k e he
      obtain ⟨g, q3, q4⟩ := pes_back q2
      have htk : l.take (k + 1) = l.take k ++ [e] := by rw [List.take_add_one, he]; rfl
      have hb := wsum_bd (M := 1048576) (wtOk_of hg) (walk_split h1 (k + 1) (by omega)).1
      rw [wI_succ q1 q3, ih, htk, wsum_append, wsum_cons, wsum_nil]
      rw [htk, wsum_append, wsum_cons, wsum_nil] at hb
      have hlen : (l.take k ++ [e]).length = k + 1 := by rw [← htk, List.length_take]; omega
      rw [hlen] at hb
      have hw : e.wt = g.wt := by rw [← q4]; rfl
      rw [hw] at hb ⊢
      rw [IntWalk.i64_in _ (by omega)]; omega
  have hall : l.take ns.length = l := List.take_of_length_le (by omega)
  have hb := wsum_bd (M := 1048576) (wtOk_of hg) h1
  refine ⟨wsum l, hpos, hle, fun k hk => ?_, by rw [sumk _ (Nat.le_refl _), hall], by omega, by rw [h4, Int.mul_comm], ?_⟩
  · obtain ⟨e, he⟩ := get k hk
    obtain ⟨m, q1, q2⟩ := h3 k e he
    obtain ⟨g, q3, q4⟩ := pes_back q2
    refine ⟨m, g, q1, q3, ?_⟩
    rcases Nat.eq_zero_or_pos k with h0 | h0
    · exact .inl h0
    · right
      obtain ⟨e', he'⟩ := get (k - 1) (by omega)
      obtain ⟨m', r1, r2⟩ := h3 (k - 1) e' he'
      obtain ⟨g', r3, r4⟩ := pes_back r2
      refine ⟨m', g', r1, r3, ?_⟩
      have := walk_adj h1 (k - 1) e' e he' (by rw [show k - 1 + 1 = k by omega]; exact he)
      rw [← q4, ← r4] at this
      have n1 := hnn g (List.mem_of_getElem? q3)
      have n2 := hnn g' (List.mem_of_getElem? r3)
      simp only [peOf] at this
      omega
  · obtain ⟨e, he⟩ := get 0 hpos
    obtain ⟨m, q1, q2⟩ := h3 0 e he
    obtain ⟨g, q3, q4⟩ := pes_back q2
    obtain ⟨e', he'⟩ := get (ns.length - 1) (by omega)
    obtain ⟨m', r1, r2⟩ := h3 _ e' he'
    obtain ⟨g', r3, r4⟩ := pes_back r2
    refine ⟨m, m', g, g', q1, q3, r1, r3, ?_⟩
    have a1 := walk_first h1 he
    have a2 := walk_last h1 e' (by rw [h2]; exact he')
    rw [← q4] at a1
    rw [← r4] at a2
    have n1 := hnn g (List.mem_of_getElem? q3)
    have n2 := hnn g' (List.mem_of_getElem? r3)
    simp only [peOf] at a1 a2
    omega

theorem great_graph {N : Int} {es : List GE} {x y : Int} (h : GreatSays N es x y 0) : GraphOk N es := by
  rcases h with ⟨_, _, _, h3⟩ | ⟨_, _, _, _, h3⟩ | ⟨hg, _⟩
  · cases h3
  · cases h3
  · exact hg

set_option maxRecDepth 100000 in
set_option maxHeartbeats 8000000 in
theorem mt_bad (w : World) (N : Int) (a : Option Addr) (n c : Nat) (es : List GE) (h : EdgesAt w a n c es) (hg : ¬ GraphOk N es) :
    Calls Try.prog 5 #[.agg #[.int .i64 N, .slice a n c]] w fun e w' => e = .returned (.bool true) ∧ Below w.heap.size w w' := by
  obtain ⟨G, hG⟩ : ∃ G, w.heap.size = G := ⟨_, rfl⟩
  obtain ⟨W, hW⟩ : ∃ W, W = w.alloc (.cells #[.int .i64 N, .slice a n c] 39) := ⟨_, rfl⟩
  have hWB : Below w.heap.size w W := by rw [hW]; exact (Below.refl _ _).alloc (Nat.le_refl _) _
  have e0 : W.cell? ⟨G, 0, none⟩ = some (.int .i64 N) := by rw [hW, ← hG]; simp [go_sem]
  have e1 : W.cell? ⟨G, 1, none⟩ = some (.slice a n c) := by rw [hW, ← hG]; simp [go_sem]
  have hE := h.below hWB
  have HG := hide hg
  have HGs := hide hG
  have C0 := hide hWB
  clear hg h hWB
  go_enter Try.func5, Try.ntmps5
  go_upto_region 1 with fail
  (try rw [hG])
  rw [← hW]
  clear hW
  go_wp2_with fail
  refine (great_bad _ _ _ _ _ _ hE HG.out).mono ?_
  rintro e w1 ⟨rfl, B1⟩
  have hE1 := hE.below B1
  have C1 := hide (C0.out.trans (B1.mono C0.out.size))
  have e0 := (B1.cell (World.block_lt_of_cell? W _ e0)).trans e0
  have e1 := (B1.cell (World.block_lt_of_cell? W _ e1)).trans e1
  clear B1 hE
  obtain ⟨V1, hV1⟩ : ∃ V, V = w1.alloc (.cells #[.int .i64 0, .int .i64 0] 30) := ⟨_, rfl⟩
  obtain ⟨F1, hF1⟩ : ∃ F, w1.heap.size = F := ⟨_, rfl⟩
  have hB1 : Below w1.heap.size w1 V1 := by rw [hV1]; exact (Below.refl _ _).alloc (Nat.le_refl _) _
  have p0 : V1.cell? ⟨F1, 0, none⟩ = some (.int .i64 0) := by rw [hV1, ← hF1]; simp [go_sem]
  have p1 : V1.cell? ⟨F1, 1, none⟩ = some (.int .i64 0) := by rw [hV1, ← hF1]; simp [go_sem]
  have e0 := (hB1.cell (World.block_lt_of_cell? w1 _ e0)).trans e0
  have e1 := (hB1.cell (World.block_lt_of_cell? w1 _ e1)).trans e1
  have hE1 := hE1.below hB1
  have C1 := hide (C1.out.trans (hB1.mono C1.out.size))
  go_upto_region 2 with fail
  (try rw [hF1])
  rw [← hV1]
  clear hV1 hB1 hF1
  go_wp2_with fail
  refine (rgreat_bad _ _ _ _ _ _ hE1 HG.out).mono ?_
  rintro e w2 ⟨rfl, B2⟩
  have hE2 := hE1.below B2
  have C2 := hide (C1.out.trans (B2.mono C1.out.size))
  have e0 := (B2.cell (World.block_lt_of_cell? V1 _ e0)).trans e0
  have e1 := (B2.cell (World.block_lt_of_cell? V1 _ e1)).trans e1
  have p0 := (B2.cell (World.block_lt_of_cell? V1 _ p0)).trans p0
  have p1 := (B2.cell (World.block_lt_of_cell? V1 _ p1)).trans p1
  clear B2 hE1
  obtain ⟨V2, hV2⟩ : ∃ V, V = w2.alloc (.cells #[.int .i64 0, .int .i64 0] 30) := ⟨_, rfl⟩
  obtain ⟨F2, hF2⟩ : ∃ F, w2.heap.size = F := ⟨_, rfl⟩
  have hB2 : Below w2.heap.size w2 V2 := by rw [hV2]; exact (Below.refl _ _).alloc (Nat.le_refl _) _
  have q0 : V2.cell? ⟨F2, 0, none⟩ = some (.int .i64 0) := by rw [hV2, ← hF2]; simp [go_sem]
  have q1 : V2.cell? ⟨F2, 1, none⟩ = some (.int .i64 0) := by rw [hV2, ← hF2]; simp [go_sem]
  have e0 := (hB2.cell (World.block_lt_of_cell? w2 _ e0)).trans e0
  have e1 := (hB2.cell (World.block_lt_of_cell? w2 _ e1)).trans e1
  have p0 := (hB2.cell (World.block_lt_of_cell? w2 _ p0)).trans p0
  have p1 := (hB2.cell (World.block_lt_of_cell? w2 _ p1)).trans p1
  have hE2 := hE2.below hB2
  have C2 := hide (C2.out.trans (hB2.mono C2.out.size))
  go_upto_region 3 with fail
  (try rw [hF2])
  rw [← hV2]
  clear hV2 hB2 hF2
  go_wp2_with fail
  refine (best_bad _ _ _ _ _ _ hE2 HG.out).mono ?_
  rintro e w3 ⟨hb, B3⟩
  have C3 := hide (C2.out.trans (B3.mono C2.out.size))
  have p0 := (B3.cell (World.block_lt_of_cell? V2 _ p0)).trans p0
  have p1 := (B3.cell (World.block_lt_of_cell? V2 _ p1)).trans p1
  have q0 := (B3.cell (World.block_lt_of_cell? V2 _ q0)).trans q0
  have q1 := (B3.cell (World.block_lt_of_cell? V2 _ q1)).trans q1
  obtain rfl : e = .returned (.tuple #[.slice none 0 0, .int .i64 2]) := by
    rcases hb with ⟨r, hr, hs, rfl⟩ | ⟨_, _, _, _, _, _, _, hs, _⟩
    · obtain ⟨_, _, rfl⟩ := greatSays_one hs (.inl ⟨HG.out, rfl, rfl, rfl⟩)
      rfl
    · exact absurd (great_graph hs) HG.out
  clear hb B3 e0 e1 hE2
  go_wp2
  go_ret
  exact ⟨by first | rfl | simp, C3.out⟩

set_option maxRecDepth 100000 in
set_option maxHeartbeats 8000000 in
theorem mt_ok (w : World) (N : Nat) (a : Option Addr) (n c : Nat) (es : List GE) (h : EdgesAt w a n c es) (hg : GraphOk (N : Int) es) :
    Calls Try.prog 5 #[.agg #[.int .i64 N, .slice a n c]] w fun e w' => e = .returned (.bool true) ∧ Below w.heap.size w w' := by
  obtain ⟨G, hG⟩ : ∃ G, w.heap.size = G := ⟨_, rfl⟩
  obtain ⟨W, hW⟩ : ∃ W, W = w.alloc (.cells #[.int .i64 N, .slice a n c] 39) := ⟨_, rfl⟩
  have hWB : Below w.heap.size w W := by rw [hW]; exact (Below.refl _ _).alloc (Nat.le_refl _) _
  have e0 : W.cell? ⟨G, 0, none⟩ = some (.int .i64 N) := by rw [hW, ← hG]; simp [go_sem]
  have e1 : W.cell? ⟨G, 1, none⟩ = some (.slice a n c) := by rw [hW, ← hG]; simp [go_sem]
  have hE := h.below hWB
  have HG := hide hg
  have HGs := hide hG
  have C0 := hide hWB
  clear hg h hWB
  go_enter Try.func5, Try.ntmps5
  go_upto_region 1 with fail
  (try rw [hG])
  rw [← hW]
  clear hW
  go_wp2_with fail
  refine (great_ok _ _ _ _ _ _ hE HG.out).mono ?_
  rintro e w1 ⟨⟨x, y, r, rfl, hgs⟩, B1⟩
  have HGS := hide hgs
  have hE1 := hE.below B1
  have C1 := hide (C0.out.trans (B1.mono C0.out.size))
  have e0 := (B1.cell (World.block_lt_of_cell? W _ e0)).trans e0
  have e1 := (B1.cell (World.block_lt_of_cell? W _ e1)).trans e1
  clear B1 hE hgs
  obtain ⟨V1, hV1⟩ : ∃ V, V = w1.alloc (.cells #[.int .i64 x, .int .i64 y] 30) := ⟨_, rfl⟩
  obtain ⟨F1, hF1⟩ : ∃ F, w1.heap.size = F := ⟨_, rfl⟩
  have hB1 : Below w1.heap.size w1 V1 := by rw [hV1]; exact (Below.refl _ _).alloc (Nat.le_refl _) _
  have p0 : V1.cell? ⟨F1, 0, none⟩ = some (.int .i64 x) := by rw [hV1, ← hF1]; simp [go_sem]
  have p1 : V1.cell? ⟨F1, 1, none⟩ = some (.int .i64 y) := by rw [hV1, ← hF1]; simp [go_sem]
  have e0 := (hB1.cell (World.block_lt_of_cell? w1 _ e0)).trans e0
  have e1 := (hB1.cell (World.block_lt_of_cell? w1 _ e1)).trans e1
  have hE1 := hE1.below hB1
  have C1 := hide (C1.out.trans (hB1.mono C1.out.size))
  go_upto_region 2 with fail
  (try rw [hF1])
  rw [← hV1]
  clear hV1 hB1 hF1
  go_wp2_with fail
  refine (rgreat_ok _ _ _ _ _ _ hE1 HG.out).mono ?_
  rintro e w2 ⟨⟨x', y', r', rfl, hgs'⟩, B2⟩
  obtain ⟨rfl, rfl, rfl⟩ := greatSays_one HGS.out hgs'
  have hE2 := hE1.below B2
  have C2 := hide (C1.out.trans (B2.mono C1.out.size))
  have e0 := (B2.cell (World.block_lt_of_cell? V1 _ e0)).trans e0
  have e1 := (B2.cell (World.block_lt_of_cell? V1 _ e1)).trans e1
  have p0 := (B2.cell (World.block_lt_of_cell? V1 _ p0)).trans p0
  have p1 := (B2.cell (World.block_lt_of_cell? V1 _ p1)).trans p1
  clear B2 hE1 hgs'
  obtain ⟨V2, hV2⟩ : ∃ V, V = w2.alloc (.cells #[.int .i64 x, .int .i64 y] 30) := ⟨_, rfl⟩
  obtain ⟨F2, hF2⟩ : ∃ F, w2.heap.size = F := ⟨_, rfl⟩
  have hB2 : Below w2.heap.size w2 V2 := by rw [hV2]; exact (Below.refl _ _).alloc (Nat.le_refl _) _
  have q0 : V2.cell? ⟨F2, 0, none⟩ = some (.int .i64 x) := by rw [hV2, ← hF2]; simp [go_sem]
  have q1 : V2.cell? ⟨F2, 1, none⟩ = some (.int .i64 y) := by rw [hV2, ← hF2]; simp [go_sem]
  have e0 := (hB2.cell (World.block_lt_of_cell? w2 _ e0)).trans e0
  have e1 := (hB2.cell (World.block_lt_of_cell? w2 _ e1)).trans e1
  have p0 := (hB2.cell (World.block_lt_of_cell? w2 _ p0)).trans p0
  have p1 := (hB2.cell (World.block_lt_of_cell? w2 _ p1)).trans p1
  have hE2 := hE2.below hB2
  have C2 := hide (C2.out.trans (hB2.mono C2.out.size))
  go_upto_region 3 with fail
  (try rw [hF2])
  rw [← hV2]
  clear hV2 hB2 hF2
  go_wp2_with fail
  refine (best_ok _ _ _ _ _ _ hE2 HG.out).mono ?_
  rintro e w3 ⟨hb, B3⟩
  have C3 := hide (C2.out.trans (B3.mono C2.out.size))
  have p0 := (B3.cell (World.block_lt_of_cell? V2 _ p0)).trans p0
  have p1 := (B3.cell (World.block_lt_of_cell? V2 _ p1)).trans p1
  have q0 := (B3.cell (World.block_lt_of_cell? V2 _ q0)).trans q0
  have q1 := (B3.cell (World.block_lt_of_cell? V2 _ q1)).trans q1
  have e0 := (B3.cell (World.block_lt_of_cell? V2 _ e0)).trans e0
  have e1 := (B3.cell (World.block_lt_of_cell? V2 _ e1)).trans e1
  have hE3 := hE2.below B3
  clear B3 hE2
  rcases hb with ⟨r', hr, hs, rfl⟩ | ⟨b, cp, ns, x', y', rfl, hI, hs, hbl⟩
  · obtain ⟨rfl, rfl, rfl⟩ := greatSays_one hs HGS.out
    have hrb : ((r' : Int) == 0) = false := by simpa using hr
    clear hs e0 e1 hE3
    go_wp2
    go_ret
    exact ⟨by first | rfl | simp, C3.out⟩
  · obtain ⟨rfl, rfl, rfl⟩ := greatSays_one hs HGS.out
    obtain ⟨-, hy0, hy300, hx, -, -⟩ := great_facts HGS.out
    obtain ⟨s, hbf⟩ := best_facts HG.out (show BestL N es ns x' y' from hbl)
    have HBF := hide hbf
    clear hs hbl hbf
    go_wp2_with fail
    refine (qweigh_ok _ _ _ _ _ _ _ _ _ _ hE3 hI HG.out).mono ?_
    rintro e w4 ⟨⟨s4, r4, rfl, hs4⟩, B4⟩
    obtain ⟨rfl, rfl⟩ : s4 = s ∧ r4 = 0 := by
      rcases hs4 with ⟨h1, _⟩ | ⟨_, _, h2, h3⟩ | ⟨_, ⟨k, hk, h2⟩, _⟩
      · exact absurd HG.out h1
      · exact ⟨h2.trans HBF.out.sum, h3⟩
      · exact absurd (HBF.out.ok k hk) h2
    have hI4 := hI.below B4
    have hE4 := hE3.below B4
    have C4 := hide (C3.out.trans (B4.mono C3.out.size))
    have q0 := (B4.cell (World.block_lt_of_cell? w3 _ q0)).trans q0
    have q1 := (B4.cell (World.block_lt_of_cell? w3 _ q1)).trans q1
    have e0 := (B4.cell (World.block_lt_of_cell? w3 _ e0)).trans e0
    have e1 := (B4.cell (World.block_lt_of_cell? w3 _ e1)).trans e1
    clear hs4 hE3 B4 hI p0 p1
    obtain ⟨m1, m2, f1, f2, hn1, hf1, hn2, hf2, hends⟩ := HBF.out.ends
    have hpos := HBF.out.pos
    have hle := HBF.out.le
    have hmean := HBF.out.mean
    have hbd := HBF.out.bd
    obtain ⟨q, hq⟩ : ∃ q, ns.length = q + 1 := ⟨ns.length - 1, by omega⟩
    rw [hq] at hn2 hle hI4 hmean
    rw [show q + 1 - 1 = q from rfl] at hn2
    rw [hq]
    obtain ⟨adn, y0, rfl, hby, g0, HY0⟩ := hI4.get0 (Below.refl _ _) (by omega)
    obtain rfl : y0 = (m1 : Int) := by have := HY0.out; rw [hn1] at this; injection this with this; exact this.symm
    obtain ⟨adn', y1, hadn, hby', g1, HY1⟩ := hI4.getB (Below.refl _ _) (show q < q + 1 by omega)
    injection hadn with hadn
    subst hadn
    obtain rfl : y1 = (m2 : Int) := by have := HY1.out; rw [hn2] at this; injection this with this; exact this.symm
    have hm1 : m1 < n := by rw [← hE4.len]; exact (List.getElem?_eq_some_iff.1 hf1).1
    have hm2 : m2 < n := by rw [← hE4.len]; exact (List.getElem?_eq_some_iff.1 hf2).1
    obtain ⟨ade, x1, x2, x3, rfl, hbe, HX, k0, k1, k2⟩ := hE4.getB (Below.refl _ _) hm1
    obtain ⟨ade', z1, z2, z3, hade, hbe', HZ, l0, l1, l2⟩ := hE4.getB (Below.refl _ _) hm2
    injection hade with hade
    subst hade
    obtain rfl : x1 = f1.src := by have := HX.out; rw [hf1] at this; injection this with this; rw [this]
    obtain rfl : z2 = f2.dst := by have := HZ.out; rw [hf2] at this; injection this with this; rw [this]
    have hq0 : (0 : Int) ≤ (q : Int) := Int.natCast_nonneg _
    have hm1' : (m1 : Int) < (n : Int) := by omega
    have hm2' : (m2 : Int) < (n : Int) := by omega
    have hm10 : (0 : Int) ≤ (m1 : Int) := Int.natCast_nonneg _
    have hm20 : (0 : Int) ≤ (m2 : Int) := Int.natCast_nonneg _
    have hle' : (q : Int) + 1 ≤ (N : Int) := by omega
    have hN3 : (N : Int) ≤ 300 := by have := HG.out.1.2.1; omega
    obtain ⟨u, hu⟩ : ∃ u, f1.src = u := ⟨_, rfl⟩
    rw [hu] at k0
    rw [← hends, hu] at l1
    have hb1 : -(314572800 * 300 : Int) ≤ s4 * y' ∧ s4 * y' ≤ 314572800 * 300 := by
      have h1 : s4 * y' ≤ 314572800 * y' := Int.mul_le_mul_of_nonneg_right hbd.2 (by omega)
      have h2 : -314572800 * y' ≤ s4 * y' := Int.mul_le_mul_of_nonneg_right hbd.1 (by omega)
      omega
    have hw1 : IntKind.i64.wrap (s4 * y') = s4 * y' := IntWalk.i64_in _ (by omega)
    rw [show ((q + 1 : Nat) : Int) = (q : Int) + 1 by omega] at hmean
    have hw2 : IntKind.i64.wrap (x' * ((q : Int) + 1)) = x' * ((q : Int) + 1) := IntWalk.i64_in _ (by omega)
    clear hb1 hbd hx
    clear hn1 hn2 hf1 hf2 hpos hE4 hI4 hm1 hm2 HX HZ HY0 HY1 hle k1 k2 l0 l2 hends hu hby hby' hbe hbe'
    go_wp2
    go_quiet (fail)
    go_wp2
    go_ret
    exact ⟨by first | rfl | simp | simp [hmean], by first | exact C4.out | exact below_drewN C4.out _⟩
theorem meanTellsW (w : World) (N : Int) (a : Option Addr) (n c : Nat) (es : List GE) (h : EdgesAt w a n c es) :
    Calls Try.prog 5 #[.agg #[.int .i64 N, .slice a n c]] w fun e w' => e = .returned (.bool true) ∧ Below w.heap.size w w' := by
  by_cases hg : GraphOk N es
  · obtain ⟨M, rfl⟩ : ∃ M : Nat, N = (M : Int) := ⟨N.toNat, by have := hg.1.1; omega⟩
    exact mt_ok _ _ _ _ _ _ h hg
  · exact mt_bad _ _ _ _ _ _ h hg

end Go.Proofs.Ythjicnddfjpnjaa
