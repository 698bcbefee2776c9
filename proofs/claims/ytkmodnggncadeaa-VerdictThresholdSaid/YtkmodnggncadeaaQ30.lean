/-
  Lemmas and walks for the statement: PMost, PWeigh, PCycle2.
-/
import Derived.Test.YtkmodnggncadeaaQ28
import Derived.Test.YtkmodnggncadeaaQ29
namespace Go.Proofs.Ytkmodnggncadeaa
open Go.RowKit
set_option linter.unusedSimpArgs false
set_option linter.unusedVariables false
def peOf (e : GE) : PE := ⟨e.src.toNat, e.dst.toNat, e.wt⟩
def pes (es : List GE) : List PE := es.map peOf
theorem pes_len (es : List GE) : (pes es).length = es.length := by simp [pes]
theorem pes_get {es : List GE} {k : Nat} {e : GE} (h : es[k]? = some e) : (pes es)[k]? = some (peOf e) := by simp [pes, h]
theorem pes_in {N : Nat} {es : List GE} (h : GraphOk (N : Int) es) : Inside N (pes es) := by
 intro e he
 obtain ⟨d, hd, rfl⟩ := List.mem_map.1 he
 have := h.2 d hd
 unfold EdgeOk at this
 simp only [peOf]; omega
theorem wsum_b {es : List GE} {N : Int} (h : GraphOk N es) : ∀ {l : List PE} {u v : Nat}, IsWalk (pes es) u l v → -(l.length * 1048576 : Int) ≤ wsum l ∧ wsum l ≤ l.length * 1048576
 | [], _, _, _ => by simp [wsum]
 | e :: l, u, v, ⟨he, _, hw⟩ => by
   have ih := wsum_b h hw
   obtain ⟨d, hd, rfl⟩ := List.mem_map.1 he
   have hd := h.2 d hd
   unfold EdgeOk at hd
   rw [wsum_cons, List.length_cons]
   simp only [peOf] at *
   omega
theorem siter_b {es : List GE} {N : Int} (h : GraphOk N es) (k v : Nat) : 0 ≤ siter (pes es) k v ∧ siter (pes es) k v ≤ k * 1048576 := by
 have h0 := siter_le (pes es) 0 k (by omega) v
 obtain ⟨u, l, hw, hl, he⟩ := siter_walk (pes es) k v
 have := (wsum_b h hw).2
 have h1 : siter (pes es) 0 v = 0 := rfl
 refine ⟨by omega, ?_⟩
 rw [he]; omega
theorem sfold_snoc (m nx : Nat → Int) (l : List PE) (e : PE) : sfold (l ++ [e]) m nx = upd (sfold l m nx) e.dst (max (sfold l m nx e.dst) (m e.src + e.wt)) := by
 unfold sfold; rw [List.foldl_append]; rfl
theorem sfold_take {es : List PE} {k : Nat} {e : PE} (h : es[k]? = some e) (m nx : Nat → Int) : sfold (es.take (k + 1)) m nx = upd (sfold (es.take k) m nx) e.dst (max (sfold (es.take k) m nx e.dst) (m e.src + e.wt)) := by
 have hk := (List.getElem?_eq_some_iff.1 h).1
 have e1 : es.take (k + 1) = es.take k ++ [e] := by
  rw [List.take_succ_eq_append_getElem hk]
  rw [List.getElem?_eq_getElem hk] at h; injection h with h; rw [h]
 rw [e1, sfold_snoc]
theorem siter_stay {es : List PE} {r : Nat} (h : ∀ v, siter es (r + 1) v = siter es r v) : ∀ k, r ≤ k → ∀ v, siter es k v = siter es r v := by
 intro k hk
 induction k with
 | zero => intro v; rw [show r = 0 by omega]
 | succ k ih =>
   intro v
   rcases (show r = k + 1 ∨ r ≤ k by omega) with h1 | h1
   · rw [h1]
   · have e : siter es k = siter es r := funext (ih h1)
     show sround es (siter es k) v = _
     rw [e]; exact h v
theorem siter_out {es : List PE} {N : Nat} (hin : Inside N es) : ∀ k v, N ≤ v → siter es k v = 0
 | 0, _, _ => rfl
 | k + 1, v, hv => by
   rcases sfold_from (siter es k) es (siter es k) v with h | ⟨e, he, hd, _⟩
   · show sfold es (siter es k) (siter es k) v = 0
     rw [h]; exact siter_out hin k v hv
   · have := (hin e he).2; omega
theorem tab_inj {N : Nat} {p q : Nat → Int} (h : tabI N p = tabI N q) : ∀ t, t < N → p t = q t := by
 intro t ht
 have h1 := tab_at (p := p) ht
 rw [h, tab_at ht] at h1
 injection h1 with h1; exact h1.symm
def HasPot (es : List GE) : Prop := ∃ p, Pot (pes es) p
theorem hasPot_of {es : List GE} {N r : Nat} (hg : GraphOk (N : Int) es) (h : tabI N (siter (pes es) (r + 1)) = tabI N (siter (pes es) r)) : HasPot es ∧ ∀ k, r ≤ k → ∀ v, siter (pes es) k v = siter (pes es) r v := by
 have hv : ∀ v, siter (pes es) (r + 1) v = siter (pes es) r v := fun v => by
  rcases Nat.lt_or_ge v N with h1 | h1
  · exact tab_inj h v h1
  · rw [siter_out (pes_in hg) _ _ h1, siter_out (pes_in hg) _ _ h1]
 exact ⟨⟨_, siter_fix hv⟩, siter_stay hv⟩
theorem same_of {es : List GE} {N k : Nat} (hg : GraphOk (N : Int) es) (hp : HasPot es) (hN : N ≤ k + 1) : tabI N (siter (pes es) (k + 1)) = tabI N (siter (pes es) k) := by
 obtain ⟨p, hp⟩ := hp
 exact tab_eq fun t _ => siter_still (pes_in hg) hN hp t
def QMostEnds (N : Nat) (es : List GE) (e : Ending) (w' : World) : Prop :=
 (HasPot es ∧ ∃ b d, e = .returned (.tuple #[.slice b N d, .bool true]) ∧ IntsAt w' b N d (tabI N (siter (pes es) N))) ∨ (¬ HasPot es ∧ e = .returned (.tuple #[.slice none 0 0, .bool false]))
end Go.Proofs.Ytkmodnggncadeaa
namespace Go.Proofs.Ytkmodnggncadeaa
open Go.RowKit
set_option linter.unusedSimpArgs false
set_option linter.unusedVariables false
def StepOk (es : List GE) (ns : List Int) (k : Nat) : Prop := ∃ m e, ns[k]? = some ((m : Nat) : Int) ∧ es[m]? = some e ∧ (k = 0 ∨ ∃ m' e', ns[k - 1]? = some ((m' : Nat) : Int) ∧ es[m']? = some e' ∧ e'.dst = e.src)
def wI (es : List GE) (ns : List Int) : Nat → Int
 | 0 => 0
 | k + 1 => IntKind.i64.wrap (wI es ns k + ((es[(ns.getD k 0).toNat]?).map GE.wt).getD 0)
theorem wI_succ {es : List GE} {ns : List Int} {k m : Nat} {e : GE} (hn : ns[k]? = some (m : Int)) (he : es[m]? = some e) : wI es ns (k + 1) = IntKind.i64.wrap (wI es ns k + e.wt) := by
 simp only [wI]; rw [getD_of hn]; simp [he]
def WeighSays (N : Int) (es : List GE) (ns : List Int) (s r : Int) : Prop :=
 (¬ GraphOk N es ∧ s = 0 ∧ r = 2) ∨ (GraphOk N es ∧ (∀ k, k < ns.length → StepOk es ns k) ∧ s = wI es ns ns.length ∧ r = 0) ∨ (GraphOk N es ∧ (∃ k, k < ns.length ∧ ¬ StepOk es ns k) ∧ s = 0 ∧ r = 1)
theorem weigh_one {N : Int} {es : List GE} {ns : List Int} {s r s' r' : Int} (h : WeighSays N es ns s r) (h' : WeighSays N es ns s' r') : s = s' ∧ r = r' := by
 rcases h with ⟨h1, rfl, rfl⟩ | ⟨h1, h2, rfl, rfl⟩ | ⟨h1, ⟨k, hk, h2⟩, rfl, rfl⟩ <;> rcases h' with ⟨g1, rfl, rfl⟩ | ⟨g1, g2, rfl, rfl⟩ | ⟨g1, ⟨j, hj, g2⟩, rfl, rfl⟩
 · exact ⟨rfl, rfl⟩
 · exact absurd g1 h1
 · exact absurd g1 h1
 · exact absurd h1 g1
 · exact ⟨rfl, rfl⟩
 · exact absurd (h2 j hj) g2
 · exact absurd h1 g1
 · exact absurd (g2 k hk) h2
 · exact ⟨rfl, rfl⟩
def WeighEnds (N : Int) (es : List GE) (ns : List Int) (e : Ending) : Prop := ∃ s r, e = .returned (.tuple #[.int .i64 s, .int .i64 r]) ∧ WeighSays N es ns s r
theorem weighEnds {N : Int} {es : List GE} {ns : List Int} {s r : Int} (h : WeighSays N es ns s r) : WeighEnds N es ns (.returned (.tuple #[.int .i64 s, .int .i64 r])) := ⟨s, r, rfl, h⟩
theorem EdgesAt.src_ {w w' : World} {a : Option Addr} {n c : Nat} {es : List GE} {k : Nat} (h : EdgesAt w a n c es) (hb : Below w.heap.size w w') (hk : k < n) : ∃ ad e, a = some ad ∧ (ad.add (k * 3)).block < w.heap.size ∧ es[k]? = some e ∧
 w'.cell? (ad.add (k * 3)) = some (.int .i64 e.src) ∧ w'.cell? ⟨(ad.add (k * 3)).block, (ad.add (k * 3)).off + 1, none⟩ = some (.int .i64 e.dst) ∧ w'.cell? ⟨(ad.add (k * 3)).block, (ad.add (k * 3)).off + 2, none⟩ = some (.int .i64 e.wt) := by
 obtain ⟨ad, x, y, z, h1, h2, h3, h4, h5, h6⟩ := h.getB hb hk
 exact ⟨ad, ⟨x, y, z⟩, h1, h2, h3.out, h4, h5, h6⟩
end Go.Proofs.Ytkmodnggncadeaa
namespace Go.Proofs.Ytkmodnggncadeaa
open Go.RowKit
set_option linter.unusedSimpArgs false
set_option linter.unusedVariables false
theorem wrap_small {x : Int} (h1 : -9223372036854775808 ≤ x) (h2 : x ≤ 9223372036854775807) : IntKind.i64.wrap x = x := by
 rw [IntWalk.i64_left]; unfold wrap64; omega
def bRow (es : List PE) (s : PS) (u p : Nat) : List Int := (List.range p).map fun k => s.b (prevN es s k u)
theorem bRow_len (es : List PE) (s : PS) (u p : Nat) : (bRow es s u p).length = p := by simp [bRow]
theorem bRow_at {es : List PE} {s : PS} {u p k : Nat} (hk : k < p) : (bRow es s u p)[k]? = some (s.b (prevN es s k u)) := by
 unfold bRow; rw [List.getElem?_map, List.getElem?_range hk]; rfl
theorem bRow_succ (es : List PE) (s : PS) (u p : Nat) : bRow es s u (p + 1) = bRow es s u p ++ [s.b (prevN es s p u)] := by
 unfold bRow; rw [List.range_succ, List.map_append]; rfl
structure CycSays (N : Nat) (es : List GE) (ns : List Int) : Prop where
 pos : 0 < ns.length
 le : ns.length ≤ N
 ok : ∀ k, k < ns.length → StepOk es ns k
 more : 0 < wI es ns ns.length
 ends : ∃ (m m' : Nat) (e e' : GE), ns[0]? = some (m : Int) ∧ es[m]? = some e ∧ ns[ns.length - 1]? = some (m' : Int) ∧ es[m']? = some e' ∧ e.src = e'.dst
theorem cyc_says {N : Nat} {es : List GE} {s : PS} {v p : Nat} (hg : GraphOk (N : Int) es) (hf : Found (pes es) N s v p) : CycSays N es (bRow (pes es) s (prevN (pes es) s N v) p).reverse := by
 obtain ⟨u, hu⟩ : ∃ u, prevN (pes es) s N v = u := ⟨_, rfl⟩
 have key : ∀ k, ∃ (m : Nat) (g : GE), s.b (prevN (pes es) s k u) = (m : Int) ∧ es[m]? = some g ∧ g.src = (prevN (pes es) s (k + 1) u : Nat) ∧ g.dst = (prevN (pes es) s k u : Nat) ∧ g.wt = (eby (pes es) s (prevN (pes es) s k u)).wt ∧ -1048576 ≤ g.wt ∧ g.wt ≤ 1048576 := by
  intro k
  have h1 := hf.on (N + k)
  rw [prevN_add, hu] at h1
  obtain ⟨_, h2, h3, h4, h5⟩ := h1
  have e1 : prevN (pes es) s (k + 1) u = (eby (pes es) s (prevN (pes es) s k u)).src := rfl
  rw [e1]
  generalize prevN (pes es) s k u = c at *
  generalize eby (pes es) s c = q at *
  rw [pes, List.getElem?_map] at h3
  obtain ⟨g, hg1, hg2⟩ := Option.map_eq_some_iff.1 h3
  have hok := hg.2 _ (List.mem_of_getElem? hg1)
  unfold EdgeOk at hok
  subst hg2
  simp only [peOf] at h5 ⊢
  exact ⟨(s.b c).toNat, g, by omega, hg1, by omega, by omega, rfl, by omega, by omega⟩
 rw [hu]
 have hlen : (bRow (pes es) s u p).reverse.length = p := by rw [List.length_reverse, bRow_len]
 have at' : ∀ k, k < p → (bRow (pes es) s u p).reverse[k]? = some (s.b (prevN (pes es) s (p - 1 - k) u)) := by
  intro k hk
  rw [List.getElem?_reverse (by rw [bRow_len]; exact hk), bRow_len]
  exact bRow_at (by omega)
 have hN : N ≤ 300 := by have := hg.1.2.1; omega
 have hw : ∀ k, k ≤ p → wI es (bRow (pes es) s u p).reverse k = backW (pes es) s u p - backW (pes es) s u (p - k) ∧ -(k * 1048576 : Int) ≤ wI es (bRow (pes es) s u p).reverse k ∧ wI es (bRow (pes es) s u p).reverse k ≤ k * 1048576 := by
  intro k
  induction k with
  | zero => intro _; simp [wI]
  | succ k ih =>
    intro hk
    obtain ⟨i1, i2, i3⟩ := ih (by omega)
    obtain ⟨m, g, g1, g2, g3, g4, g5, g6, g7⟩ := key (p - 1 - k)
    have hn := at' k (by omega)
    rw [g1] at hn
    have hpl := hf.le
    rw [wI_succ hn g2, wrap_small (by omega) (by omega)]
    have e2 : backW (pes es) s u (p - k) = backW (pes es) s u (p - 1 - k) + (eby (pes es) s (prevN (pes es) s (p - 1 - k) u)).wt := by
     rw [show p - k = p - 1 - k + 1 by omega]; rfl
    rw [show p - (k + 1) = p - 1 - k by omega]
    refine ⟨by omega, by omega, by omega⟩
 refine ⟨by rw [hlen]; exact hf.pos, by rw [hlen]; exact hf.le, fun k hk => ?_, ?_, ?_⟩
 · rw [hlen] at hk
   obtain ⟨m, g, g1, g2, g3, g4, _⟩ := key (p - 1 - k)
   have hn := at' k hk
   rw [g1] at hn
   refine ⟨m, g, hn, g2, ?_⟩
   rcases Nat.eq_zero_or_pos k with h0 | h0
   · exact .inl h0
   · right
     obtain ⟨m', g', f1, f2, f3, f4, _⟩ := key (p - 1 - (k - 1))
     have hn' := at' (k - 1) (by omega)
     rw [f1] at hn'
     refine ⟨m', g', hn', f2, ?_⟩
     rw [g3, f4, show p - 1 - (k - 1) = p - 1 - k + 1 by omega]
 · rw [hlen]
   have := (hw p (Nat.le_refl _)).1
   rw [this, Nat.sub_self]
   have h9 := hf.more
   rw [hu] at h9
   simp only [backW]
   omega
 · rw [hlen]
   have hpp := hf.pos
   obtain ⟨m, g, g1, g2, g3, g4, _⟩ := key (p - 1)
   obtain ⟨m', g', f1, f2, f3, f4, _⟩ := key 0
   have hn := at' 0 hpp
   have hn' := at' (p - 1) (by omega)
   rw [show p - 1 - 0 = p - 1 by omega, g1] at hn
   rw [show p - 1 - (p - 1) = 0 by omega, f1] at hn'
   refine ⟨m, m', g, g', hn, g2, hn', f2, ?_⟩
   have hb := hf.back
   rw [hu] at hb
   rw [g3, f4, show p - 1 + 1 = p by omega, hb]; rfl
end Go.Proofs.Ytkmodnggncadeaa
