/-
  Lemmas and walks for the statement: StInv, RegG3, StStart.
-/
import Derived.Test.YtkmodnggncadeaaQ20
import Derived.RangeFuncWrites
import Derived.RangeFuncLeaves
import Derived.Test.YtkmodnggncadeaaQ02
import Derived.RangeFuncFrom
namespace Go.Proofs.Ytkmodnggncadeaa
open Go.RowKit
set_option linter.unusedSimpArgs false
set_option linter.unusedVariables false
structure Chg (w w' : World) (Ft : Nat → Prop) : Prop where
 os : w'.os = w.os
 tape : w'.tape = w.tape
 output : w'.output = w.output
 size : w.heap.size ≤ w'.heap.size
 block : ∀ b, b < w.heap.size → ¬ Ft b → w'.heap[b]? = w.heap[b]?
theorem Chg.refl (w : World) (Ft : Nat → Prop) : Chg w w Ft := ⟨rfl, rfl, rfl, Nat.le_refl _, fun _ _ _ => rfl⟩
theorem Chg.of_below {w w' : World} {Ft : Nat → Prop} (h : Below w.heap.size w w') : Chg w w' Ft := ⟨h.os, h.tape, h.output, h.size, fun b hb _ => h.block b hb⟩
theorem Chg.trans {a b c : World} {F G : Nat → Prop} (h : Chg a b F) (k : Chg b c G) (hG : ∀ x, G x → F x ∨ a.heap.size ≤ x) : Chg a c F :=
 ⟨k.os.trans h.os, k.tape.trans h.tape, k.output.trans h.output, Nat.le_trans h.size k.size, fun x hx hn => (k.block x (Nat.lt_of_lt_of_le hx h.size) (fun hg => by
  rcases hG x hg with h1 | h1
  · exact hn h1
  · omega)).trans (h.block x hx hn)⟩
theorem Chg.mono {a b : World} {F G : Nat → Prop} (h : Chg a b F) (hG : ∀ x, F x → G x) : Chg a b G := ⟨h.os, h.tape, h.output, h.size, fun x hx hn => h.block x hx (fun hf => hn (hG x hf))⟩
theorem Chg.below {w w' : World} (h : Chg w w' (fun _ => False)) : Below w.heap.size w w' := ⟨h.os, h.tape, h.output, h.size, fun b hb => h.block b hb id⟩
theorem Chg.of_sfr {w w' : World} {PB MB : Nat} {v1 v2 v3 u1 u2 u3 : Value} (h : SFr w w' PB MB v1 v2 v3 u1 u2 u3) : Chg w w' (Foot PB MB v1 v2 v3) := ⟨h.os, h.tape, h.output, h.size, h.block⟩
structure TellOk (K : Nat) (caps : Array Value) (T : List Edg → (Nat → Prop) → World → Prop) : Prop where
 enters : EntersF K
 lt : ∀ {es F w}, T es F w → ∀ b, F b → b < w.heap.size ∧ ∀ o, w.heap[b]? = some o → o.isCells = true
 kept : ∀ {es F w w'}, T es F w → (∀ b, F b → w'.heap[b]? = w.heap[b]?) → T es F w'
 det : ∀ {es es' F F' w}, T es F w → T es' F' w → ∀ b, F b ↔ F' b
 run : ∀ {es F w} (k t : Nat) (l : P2) (x0 x1 x2 x3 x4 x5 : Int), T es F w → es.length < 4800 → k ≤ 300 → t ≤ 300 → (∀ z ∈ [x0, x1, x2, x3, x4, x5], 0 ≤ z ∧ z ≤ 100) →
  Calls Try.prog K (#[.int .i64 k, .int .i64 t, .agg #[.int .i64 x0, .int .i64 x1, .int .i64 x2, .int .i64 x3, .int .i64 x4, .int .i64 x5]] ++ caps) w fun e w' => (∃ v, e = .returned v) ∧ ∃ F', T (es ++ [⟨k, t, l, [x0, x1, x2, x3, x4, x5]⟩]) F' w' ∧ Chg w w' F ∧ (∀ b, F' b → F b ∨ w.heap.size ≤ b)
structure EI (w : World) (F0 : Nat → Prop) (T : List Edg → (Nat → Prop) → World → Prop) (TR : List (Nat × Obj)) (PB MB B : Nat) (v1 v2 v3 : Value) (ss : List (List Int)) (fr : List Int) (bys : List P2) (es : List Edg) (F : Nat → Prop) (W : World) : Prop where
 sp : Spc W PB MB B v1 v2 v3 ss fr bys
 tl : T es F W
 dis : ∀ b, F b → ¬ Foot PB MB v1 v2 v3 b
 tr : ∀ p ∈ TR, W.heap[p.1]? = some p.2 ∧ ¬ Foot PB MB v1 v2 v3 p.1 ∧ ¬ F p.1
 chg : Chg w W F0
 fold : ∀ b, b < w.heap.size → Foot PB MB v1 v2 v3 b ∨ F b → F0 b
 mbc : ∀ b, b ≠ MB → Foot PB MB v1 v2 v3 b → ∀ o, W.heap[b]? = some o → o.isCells = true
section
variable {w W W' : World} {F0 : Nat → Prop} {T : List Edg → (Nat → Prop) → World → Prop} {TR : List (Nat × Obj)} {PB MB B : Nat} {v1 v2 v3 : Value} {ss : List (List Int)} {fr : List Int} {bys : List P2} {es : List Edg} {F : Nat → Prop} {K : Nat} {caps : Array Value}
theorem EI.kept (hT : TellOk K caps T) (h : EI w F0 T TR PB MB B v1 v2 v3 ss fr bys es F W) (hc : Chg W W' (fun b => ¬ Foot PB MB v1 v2 v3 b ∧ ¬ F b ∧ (∀ p ∈ TR, p.1 ≠ b) ∧ w.heap.size ≤ b)) : EI w F0 T TR PB MB B v1 v2 v3 ss fr bys es F W' := by
 have kf : ∀ b, Foot PB MB v1 v2 v3 b → W'.heap[b]? = W.heap[b]? := fun b hb => hc.block b (h.sp.foot_lt hb) (fun hn => hn.1 hb)
 have kF : ∀ b, F b → W'.heap[b]? = W.heap[b]? := fun b hb => hc.block b ((hT.lt h.tl b hb).1) (fun hn => hn.2.1 hb)
 refine ⟨h.sp.kept kf, hT.kept h.tl kF, h.dis, fun p hp => ?_, ?_, h.fold, fun b hb hf o ho => h.mbc b hb hf o ((kf b hf).symm.trans ho)⟩
 · obtain ⟨h1, h2⟩ := h.tr p hp
   exact ⟨(hc.block p.1 (Array.getElem?_eq_some_iff.1 h1).1 (fun hn => hn.2.2.1 p hp rfl)).trans h1, h2⟩
 · exact h.chg.trans (hc.mono (G := fun b => w.heap.size ≤ b) (fun x hx => hx.2.2.2)) (fun x hx => .inr hx)
theorem EI.below (hT : TellOk K caps T) (h : EI w F0 T TR PB MB B v1 v2 v3 ss fr bys es F W) (hb : Below W.heap.size W W') : EI w F0 T TR PB MB B v1 v2 v3 ss fr bys es F W' := h.kept hT (Chg.of_below hb)
theorem EI.drop {p : Nat × Obj} (h : EI w F0 T (p :: TR) PB MB B v1 v2 v3 ss fr bys es F W) : EI w F0 T TR PB MB B v1 v2 v3 ss fr bys es F W :=
 ⟨h.sp, h.tl, h.dis, fun p hp => h.tr p (List.mem_cons_of_mem _ hp), h.chg, h.fold, h.mbc⟩
theorem EI.sub {TR' : List (Nat × Obj)} (h : EI w F0 T TR PB MB B v1 v2 v3 ss fr bys es F W) (hs : ∀ p ∈ TR', p ∈ TR) : EI w F0 T TR' PB MB B v1 v2 v3 ss fr bys es F W :=
 ⟨h.sp, h.tl, h.dis, fun p hp => h.tr p (hs p hp), h.chg, h.fold, h.mbc⟩
theorem EI.track {b : Nat} {o : Obj} (h : EI w F0 T TR PB MB B v1 v2 v3 ss fr bys es F W) (hb : W.heap[b]? = some o) (h1 : ¬ Foot PB MB v1 v2 v3 b) (h2 : ¬ F b) : EI w F0 T ((b, o) :: TR) PB MB B v1 v2 v3 ss fr bys es F W :=
 ⟨h.sp, h.tl, h.dis, fun p hp => by
  rcases List.mem_cons.1 hp with rfl | hp
  · exact ⟨hb, h1, h2⟩
  · exact h.tr p hp, h.chg, h.fold, h.mbc⟩
theorem EI.fresh (hT : TellOk K caps T) (h : EI w F0 T TR PB MB B v1 v2 v3 ss fr bys es F W) {b : Nat} (hb : W.heap.size ≤ b) : ¬ Foot PB MB v1 v2 v3 b ∧ ¬ F b :=
 ⟨fun hf => by have := h.sp.foot_lt hf; omega, fun hf => by have := (hT.lt h.tl b hf).1; omega⟩
theorem EI.new (hT : TellOk K caps T) (h : EI w F0 T TR PB MB B v1 v2 v3 ss fr bys es F W) (hb : Below W.heap.size W W') {b : Nat} {o : Obj} (hle : W.heap.size ≤ b) (ho : W'.heap[b]? = some o) : EI w F0 T ((b, o) :: TR) PB MB B v1 v2 v3 ss fr bys es F W' :=
 (h.below hT hb).track ho (h.fresh hT hle).1 (h.fresh hT hle).2
theorem EI.alloc (hT : TellOk K caps T) (h : EI w F0 T TR PB MB B v1 v2 v3 ss fr bys es F W) (o : Obj) : EI w F0 T ((W.heap.size, o) :: TR) PB MB B v1 v2 v3 ss fr bys es F (W.alloc o) :=
 h.new hT ((Below.refl _ _).alloc (Nat.le_refl _) o) (Nat.le_refl _) (World.alloc_heap_new W o)
theorem EI.turn (hT : TellOk K caps T) {b : Nat} {o o' : Obj} (h : EI w F0 T ((b, o) :: TR) PB MB B v1 v2 v3 ss fr bys es F W) (hn : ∀ p ∈ TR, p.1 ≠ b) (hw : w.heap.size ≤ b) (hc : Chg W W' (fun x => x = b)) (ho : W'.heap[b]? = some o') : EI w F0 T ((b, o') :: TR) PB MB B v1 v2 v3 ss fr bys es F W' := by
 obtain ⟨_, h1, h2⟩ := h.tr (b, o) (by simp)
 exact (h.drop.kept hT (hc.mono (fun x hx => by subst hx; exact ⟨h1, h2, hn, hw⟩))).track ho h1 h2
theorem setCell_chg (W : World) (p : Addr) (v : Value) : Chg W (W.setCell p v) (fun x => x = p.block) := by
 have ks : (W.setCell p v).os = W.os ∧ (W.setCell p v).tape = W.tape ∧ (W.setCell p v).output = W.output := by
  refine ⟨?_, ?_, ?_⟩ <;> (unfold World.setCell; split <;> (try split) <;> rfl)
 exact ⟨ks.1, ks.2.1, ks.2.2, by simp, fun b _ hn => Below.heap_setCell _ _ _ _ hn⟩
theorem own_cells {n size : Nat} {e : TypeId} {v : Value} {xs : List Value} (h : W.ownsRow B e size v n xs) {b : Nat} (hb : v.ownBlock = some b) {o : Obj} (ho : W.heap[b]? = some o) : o.isCells = true := by
 rcases h.2 with ⟨rfl, _⟩ | ⟨g', cap, cur, rfl, _, hh, _⟩
 · simp [Value.ownBlock] at hb
 · simp only [Value.ownBlock, Option.some.injEq] at hb; subst hb
   rw [hh] at ho; injection ho with ho; subst ho; rfl
theorem EI.found (hT : TellOk K caps T) {u1 u2 u3 : Value} {ss' : List (List Int)} {fr' : List Int} {bys' : List P2} (h : EI w F0 T TR PB MB B v1 v2 v3 ss fr bys es F W) (hs : SFr W W' PB MB v1 v2 v3 u1 u2 u3) (hp : Spc W' PB MB B u1 u2 u3 ss' fr' bys') :
 EI w F0 T TR PB MB B u1 u2 u3 ss' fr' bys' es F W' := by
 have nf : ∀ b, b < W.heap.size → ¬ Foot PB MB v1 v2 v3 b → ¬ Foot PB MB u1 u2 u3 b := fun b hb hn hf => by
  rcases hs.foot b hf with h1 | h1
  · exact hn h1
  · omega
 have kF : ∀ b, F b → W'.heap[b]? = W.heap[b]? := fun b hb => hs.block b ((hT.lt h.tl b hb).1) (h.dis b hb)
 refine ⟨hp, hT.kept h.tl kF, fun b hb => nf b ((hT.lt h.tl b hb).1) (h.dis b hb), fun p hpp => ?_, ?_, fun b hb hf => ?_, fun b hb hf o ho => ?_⟩
 · obtain ⟨h1, h2, h3⟩ := h.tr p hpp
   have hl := (Array.getElem?_eq_some_iff.1 h1).1
   exact ⟨(hs.block p.1 hl h2).trans h1, nf p.1 hl h2, h3⟩
 · exact ⟨hs.os.trans h.chg.os, hs.tape.trans h.chg.tape, hs.output.trans h.chg.output, Nat.le_trans h.chg.size hs.size, fun b hb hn => (hs.block b (Nat.lt_of_lt_of_le hb h.chg.size) (fun hf => hn (h.fold b hb (.inl hf)))).trans (h.chg.block b hb hn)⟩
 · rcases hf with hf | hf
   · rcases hs.foot b hf with h1 | h1
     · exact h.fold b hb (.inl h1)
     · have := h.chg.size; omega
   · exact h.fold b hb (.inr hf)
 · rcases hf with rfl | rfl | hf | hf | hf
   · have := hp.c0
     unfold World.cell? at this
     rw [ho] at this
     cases o <;> first | rfl | (simp at this)
   · exact absurd rfl hb
   · exact own_cells hp.r1 hf ho
   · exact own_cells hp.r2 hf ho
   · exact own_cells hp.r3 hf ho
theorem EI.told (hT : TellOk K caps T) {es' : List Edg} {F' : Nat → Prop} (h : EI w F0 T TR PB MB B v1 v2 v3 ss fr bys es F W) (ht : T es' F' W') (hc : Chg W W' F) (hF : ∀ b, F' b → F b ∨ W.heap.size ≤ b) : EI w F0 T TR PB MB B v1 v2 v3 ss fr bys es' F' W' := by
 have kf : ∀ b, Foot PB MB v1 v2 v3 b → W'.heap[b]? = W.heap[b]? := fun b hb => hc.block b (h.sp.foot_lt hb) (fun hn => h.dis b hn hb)
 refine ⟨h.sp.kept kf, ht, fun b hb hf => ?_, fun p hp => ?_, ?_, fun b hb hf => ?_, fun b hb hf o ho => h.mbc b hb hf o ((kf b hf).symm.trans ho)⟩
 · rcases hF b hb with h1 | h1
   · exact h.dis b h1 hf
   · have := h.sp.foot_lt hf; omega
 · obtain ⟨h1, h2, h3⟩ := h.tr p hp
   have hl := (Array.getElem?_eq_some_iff.1 h1).1
   refine ⟨(hc.block p.1 hl h3).trans h1, h2, fun hf => ?_⟩
   rcases hF _ hf with h4 | h4
   · exact h3 h4
   · omega
 · exact ⟨hc.os.trans h.chg.os, hc.tape.trans h.chg.tape, hc.output.trans h.chg.output, Nat.le_trans h.chg.size hc.size, fun b hb hn => (hc.block b (Nat.lt_of_lt_of_le hb h.chg.size) (fun hf => hn (h.fold b hb (.inr hf)))).trans (h.chg.block b hb hn)⟩
 · rcases hf with hf | hf
   · exact h.fold b hb (.inl hf)
   · rcases hF b hf with h1 | h1
     · exact h.fold b hb (.inr h1)
     · have := h.chg.size; omega
theorem EI.merge (hT : TellOk K caps T) {u1 u2 u3 : Value} {ss' : List (List Int)} {fr' : List Int} {bys' : List P2} {es' : List Edg} {F' : Nat → Prop} {p : Nat × Obj} (h : EI w F0 T TR PB MB B v1 v2 v3 ss fr bys es F W) (h' : EI w F0 T [p] PB MB B u1 u2 u3 ss' fr' bys' es' F' W) : EI w F0 T (p :: TR) PB MB B v1 v2 v3 ss fr bys es F W := by
 have e1 : v1 = u1 := by have := h.sp.c1; rw [h'.sp.c1] at this; injection this with this; exact this.symm
 have e2 : v2 = u2 := by have := h.sp.c2; rw [h'.sp.c2] at this; injection this with this; exact this.symm
 have e3 : v3 = u3 := by have := h.sp.c3; rw [h'.sp.c3] at this; injection this with this; exact this.symm
 subst e1; subst e2; subst e3
 obtain ⟨h1, h2, h3⟩ := h'.tr p (by simp)
 exact h.track h1 h2 (fun hf => h3 ((hT.det h.tl h'.tl p.1).1 hf))
end
end Go.Proofs.Ytkmodnggncadeaa
namespace Go.Proofs.Ytkmodnggncadeaa
open Go Go.RowKit
set_option linter.unusedSimpArgs false
set_option linter.unusedVariables false
section
variable {P : Program} {ops : Array Oper} {Q : Exit → Act → World → Prop} {md : Region.Mode} {c : Nat} {F : World → Prop}
theorem wpAnyG_threeF {i j k : Nat} {oi oj ok : Oper} {fuel : Nat} {listed : Array Bool} {a : Act} {w : World} (hoi : ops[i]? = some oi) (hoj : ops[j]? = some oj) (hok : ops[k]? = some ok) (hr : Region.ready md ops listed = [i, j, k])
 (hi : ∀ K' : Act → World → Prop, Shut (∀ a w, F w → wpAnyG P md ops Q c F fuel (listed.setIfInBounds i true) a w → K' a w) → if Region.wanted oi (yielded ops a.tmps) = true then Oper.wp P oi a w K' Q else K' (a.put oi.dst undef) w)
 (hj : ∀ K' : Act → World → Prop, Shut (∀ a w, F w → wpAnyG P md ops Q c F fuel (listed.setIfInBounds j true) a w → K' a w) → if Region.wanted oj (yielded ops a.tmps) = true then Oper.wp P oj a w K' Q else K' (a.put oj.dst undef) w)
 (hk : ∀ K' : Act → World → Prop, Shut (∀ a w, F w → wpAnyG P md ops Q c F fuel (listed.setIfInBounds k true) a w → K' a w) → if Region.wanted ok (yielded ops a.tmps) = true then Oper.wp P ok a w K' Q else K' (a.put ok.dst undef) w) : wpAnyG P md ops Q c F (fuel + 1) listed a w := by
 refine ⟨fun h0 => (by rw [hr] at h0; cases h0), fun m hm => ?_⟩
 rw [hr] at hm
 rcases (show m = i ∨ m = j ∨ m = k by simpa using hm) with rfl | rfl | rfl
 · exact wpOp_step hoi (fun K' hK => hi K' (fun a w hF hW => hK a w ⟨fun _ => hF, hW⟩))
 · exact wpOp_step hoj (fun K' hK => hj K' (fun a w hF hW => hK a w ⟨fun _ => hF, hW⟩))
 · exact wpOp_step hok (fun K' hK => hk K' (fun a w hF hW => hK a w ⟨fun _ => hF, hW⟩))
theorem wpAnyG_meet2 {fuel : Nat} {L0 : Array Bool} {a0 : Act} {w0 : World} (Lc : Array Bool) (f : Nat) (mk : Act → Nat → Nat → Act) (J : Nat → Nat → World → Prop)
 (hc : ∀ NB OB w, J NB OB w → wpAnyG P md ops Q c F f Lc (mk a0 NB OB) w)
 (hgo : Shut (∀ L a NB OB w, L = Lc → a = mk a0 NB OB → J NB OB w → wpAnyG P md ops Q c F f L a w) → wpAnyG P md ops Q c F fuel L0 a0 w0) : wpAnyG P md ops Q c F fuel L0 a0 w0 :=
 hgo (fun L a NB OB w h1 h2 h3 => by subst h1; subst h2; exact hc NB OB w h3)
end
structure TwoNew (V : World) (o1 o2 : Obj) (NB OB : Nat) (W : World) : Prop where
 below : Below V.heap.size V W
 n1 : V.heap.size ≤ NB
 n2 : V.heap.size ≤ OB
 ne : NB ≠ OB
 h1 : W.heap[NB]? = some o1
 h2 : W.heap[OB]? = some o2
def dfr (D : Nat) : Deferred := { target := .collected D, args := #[] }
theorem putObj_chg (W : World) (D : Nat) (o : Obj) : Chg W (W.putObj D o) (fun b => b = D) := by
 have h := grownBy_putObj' W D o
 exact ⟨h.os, h.tape, h.output, h.size, fun b hb hn => h.block b hb (fun e => by injection e with e; exact hn e)⟩
theorem leaves_all {F : Fence} {n : Nat} {P : Program} {fn : Func} {tmps : Array Value} {R : Ending → World → Prop} : ∀ (ds : List Nat) (W : World), ds.Nodup → (∀ D ∈ ds, W.heap[D]? = some (.deferred (some []))) → (∀ W', Chg W W' (fun b => b ∈ ds) → LeavesIn F n P fn tmps R [] .returning W') → LeavesInM F n P fn tmps R (ds.map dfr) .returning W
 | [], W, _, _, h => h W (Chg.refl _ _)
 | D :: ds, W, hn, hk, h => by
   have hd := hk D (by simp)
   rw [List.nodup_cons] at hn
   have hc := putObj_chg W D (.deferred none)
   have hl : ∀ E ∈ ds, E < W.heap.size := fun E hE => (Array.getElem?_eq_some_iff.1 (hk E (by simp [hE]))).1
   refine ⟨by simp, .inl ⟨D, _, rfl, run_takeDeferred hd, leaves_all ds _ hn.2 (fun E hE => ?_) (fun W' hW' => h W' ?_)⟩⟩
   · have hne : E ≠ D := fun e => hn.1 (e ▸ hE)
     exact (hc.block E (hl E hE) hne).trans (hk E (by simp [hE]))
   · refine (hc.mono (G := fun b => b ∈ D :: ds) (fun x hx => by subst hx; simp)).trans hW' (fun x hx => .inl (by simp [hx]))
end Go.Proofs.Ytkmodnggncadeaa
namespace Go.Proofs.Ytkmodnggncadeaa
open Go.RowKit
set_option linter.unusedSimpArgs false
set_option linter.unusedVariables false
theorem heap_new (W : World) (o : Obj) : (W.alloc o).heap[W.heap.size]? = some o := World.alloc_heap_new W o
theorem heap_old (W : World) (o : Obj) {b : Nat} (h : b < W.heap.size) : (W.alloc o).heap[b]? = W.heap[b]? := ((Below.refl W.heap.size W).alloc (Nat.le_refl _) o).block b h
theorem cell_heap {W : World} {b j : Nat} {vs : List Value} {t : TypeId} {v : Value} (h : W.heap[b]? = some (.cells vs.toArray t (0, 0))) (hv : vs[j]? = some v) : W.cell? ⟨b, j, none⟩ = some v := by simp [World.cell?, h, hv]
theorem froz_heap {W : World} {b j : Nat} {vs : Array Value} {t : TypeId} (h : W.heap[b]? = some (.cells vs t (0, 0))) : W.frozen? ⟨b, j, none⟩ = false := by simp [World.frozen?, h]
theorem blk_heap {W : World} {b : Nat} {vs : List Value} {t : TypeId} (h : W.heap[b]? = some (.cells vs.toArray t (0, 0))) : Blk W b vs := fun j v hj => ⟨cell_heap h hj, froz_heap h⟩
def trs (S PX PB : Nat) (RL : List Value) (fv : Value) : List (Nat × Obj) := [(S, (.cells RL.toArray 24 (0, 0))), (S + 1, (.cells #[fv] 80 (0, 0))), (S + 1 + 1, (.cells #[.pointer none] 77 (0, 0))), (S + 1 + 1 + 1, (.cells #[.int .i64 0] 25 (0, 0))), (PX, (.cells #[.pointer (some ⟨PB, 0, none⟩)] 77 (0, 0)))]
theorem ei_start {K : Nat} {caps : Array Value} {T : List Edg → (Nat → Prop) → World → Prop} (hT : TellOk K caps T) {F0 : Nat → Prop} {w W w1 X : World} {S N : Nat} {RL : List Value} {s0 : List Value} {fv : Value} (h0 : T [] F0 w) (hS : w.heap.size = S)
 (hW : W = (((w.alloc (.cells RL.toArray 24 (0, 0))).alloc (.cells #[fv] 80 (0, 0))).alloc (.cells #[.pointer none] 77 (0, 0))).alloc (.cells #[.int .i64 0] 25 (0, 0))) (hA : Below W.heap.size W w1) (hN : w1.heap.size = N)
 (hX : X = (((w1.alloc (.cells s0.toArray 41)).alloc (.map #[] 0)).alloc (.cells #[.map (some (N + 1)), (.slice none 0 0), (.slice none 0 0), (.slice none 0 0)] 83)).alloc (.cells #[.pointer (some ⟨N + 1 + 1, 0, none⟩)] 77)) :
 EI w F0 T (trs S (N + 1 + 1 + 1) (N + 1 + 1) RL fv) (N + 1 + 1) (N + 1) (N + 4) (.slice none 0 0) (.slice none 0 0) (.slice none 0 0) [] [] [] [] F0 X ∧ X.heap.size = N + 4 ∧ S + 4 ≤ N := by
 have sW : W.heap.size = S + 4 := by rw [hW, ← hS]; simp
 have hSN : S + 4 ≤ N := by have := hA.size; omega
 have sX : X.heap.size = N + 4 := by rw [hX]; simp [hN]
 have bX : Below N w1 X := by rw [hX, ← hN]; exact ((((Below.refl _ _).alloc (Nat.le_refl _) _).alloc (by simp) _).alloc (by simp; omega) _).alloc (by simp; omega) _
 have bW : Below S w W := by rw [hW, ← hS]; exact ((((Below.refl _ _).alloc (Nat.le_refl _) _).alloc (by simp) _).alloc (by simp; omega) _).alloc (by simp; omega) _
 have bAll : Below S w X := (bW.trans (hA.mono (by omega))).trans (bX.mono (by omega))
 have old : ∀ b, b < S + 4 → X.heap[b]? = W.heap[b]? := fun b hb => (bX.block b (by omega)).trans (hA.block b (by omega))
 have w0 : W.heap[S]? = some (.cells RL.toArray 24 (0, 0)) := by
  rw [hW, heap_old _ _ (by simp; omega), heap_old _ _ (by simp; omega), heap_old _ _ (by simp; omega), ← hS]; exact heap_new _ _
 have w1' : W.heap[S + 1]? = some (.cells #[fv] 80 (0, 0)) := by
  rw [hW, heap_old _ _ (by simp; omega), heap_old _ _ (by simp; omega)]
  have := heap_new (w.alloc (.cells RL.toArray 24 (0, 0))) (.cells #[fv] 80 (0, 0))
  simpa [hS] using this
 have w2 : W.heap[S + 1 + 1]? = some (.cells #[.pointer none] 77 (0, 0)) := by
  rw [hW, heap_old _ _ (by simp; omega)]
  have := heap_new ((w.alloc (.cells RL.toArray 24 (0, 0))).alloc (.cells #[fv] 80 (0, 0))) (.cells #[.pointer none] 77 (0, 0))
  simpa [hS] using this
 have w3 : W.heap[S + 1 + 1 + 1]? = some (.cells #[.int .i64 0] 25 (0, 0)) := by
  rw [hW]
  have := heap_new (((w.alloc (.cells RL.toArray 24 (0, 0))).alloc (.cells #[fv] 80 (0, 0))).alloc (.cells #[.pointer none] 77 (0, 0))) (.cells #[.int .i64 0] 25 (0, 0))
  simpa [hS] using this
 have x1 : X.heap[N + 1]? = some (.map #[] 0) := by
  rw [hX, heap_old _ _ (by simp; omega), heap_old _ _ (by simp; omega)]
  have := heap_new (w1.alloc (.cells s0.toArray 41)) (.map #[] 0)
  simpa [hN] using this
 have x2 : X.heap[N + 1 + 1]? = some (.cells [.map (some (N + 1)), (.slice none 0 0), (.slice none 0 0), (.slice none 0 0)].toArray 83 (0, 0)) := by
  rw [hX, heap_old _ _ (by simp; omega)]
  have := heap_new ((w1.alloc (.cells s0.toArray 41)).alloc (.map #[] 0)) (.cells [.map (some (N + 1)), (.slice none 0 0), (.slice none 0 0), (.slice none 0 0)].toArray 83 (0, 0))
  simpa [hN] using this
 have x3 : X.heap[N + 1 + 1 + 1]? = some (.cells #[.pointer (some ⟨N + 1 + 1, 0, none⟩)] 77 (0, 0)) := by
  rw [hX]
  have := heap_new (((w1.alloc (.cells s0.toArray 41)).alloc (.map #[] 0)).alloc (.cells #[.map (some (N + 1)), (.slice none 0 0), (.slice none 0 0), (.slice none 0 0)] 83)) (.cells #[.pointer (some ⟨N + 1 + 1, 0, none⟩)] 77 (0, 0))
  simpa [hN] using this
 have mm : MapAt X (N + 1) [] := by
  have h := MapAt.made w1
  have e : X.heap[N + 1]? = (w1.alloc (.map #[] 0)).heap[w1.heap.size]? := by rw [x1, heap_new]
  obtain ⟨D, ⟨es, clock, hb, h1⟩, h2⟩ := h
  exact ⟨D, ⟨es, clock, e.trans hb, h1⟩, h2⟩
 have nil : ∀ (t : TypeId) (sz : Nat), X.ownsRow (N + 4) t sz (.slice none 0 0) 0 [] := fun t sz => ⟨by simp, .inl ⟨rfl, rfl⟩⟩
 have sp : Spc X (N + 1 + 1) (N + 1) (N + 4) (.slice none 0 0) (.slice none 0 0) (.slice none 0 0) [] [] [] :=
  ⟨cell_heap (j := 0) x2 rfl, cell_heap (j := 1) x2 rfl, cell_heap (j := 2) x2 rfl, cell_heap (j := 3) x2 rfl, fun j => froz_heap x2, mm, nil _ _, nil _ _, nil _ _, (fun g hg => by cases hg), (fun g hg => by cases hg), (fun g hg => by cases hg), by omega, by omega, by omega⟩
 have ft : ∀ b, Foot (N + 1 + 1) (N + 1) (.slice none 0 0) (.slice none 0 0) (.slice none 0 0) b → b = N + 1 + 1 ∨ b = N + 1 := fun b hb => by
  rcases hb with h | h | h | h | h
  · exact .inl h
  · exact .inr h
  · cases h
  · cases h
  · cases h
 have f0 : ∀ b, F0 b → b < S := fun b hb => by rw [← hS]; exact (hT.lt h0 b hb).1
 refine ⟨⟨sp, hT.kept h0 (fun b hb => bAll.block b (f0 b hb)), fun b hb hf => ?_, fun p hp => ?_, Chg.of_below (by rw [hS]; exact bAll), fun b hb hf => ?_, fun b hb hf o ho => ?_⟩, sX, hSN⟩
 · have := f0 b hb
   rcases ft b hf with h | h <;> omega
 · have key : ∀ b, (b < S + 4 ∨ b = N + 1 + 1 + 1) → S ≤ b → ¬ Foot (N + 1 + 1) (N + 1) (.slice none 0 0) (.slice none 0 0) (.slice none 0 0) b ∧ ¬ F0 b := fun b hb hs => ⟨fun hf => by rcases ft b hf with h | h <;> omega, fun hf => by have := f0 b hf; omega⟩
   simp only [trs, List.mem_cons, List.not_mem_nil, or_false] at hp
   rcases hp with rfl | rfl | rfl | rfl | rfl
   · exact ⟨(old _ (by omega)).trans w0, key _ (.inl (by omega)) (by omega)⟩
   · exact ⟨(old _ (by omega)).trans w1', key _ (.inl (by omega)) (by omega)⟩
   · exact ⟨(old _ (by omega)).trans w2, key _ (.inl (by omega)) (by omega)⟩
   · exact ⟨(old _ (by omega)).trans w3, key _ (.inl (by omega)) (by omega)⟩
   · exact ⟨x3, key _ (.inr rfl) (by simp only; omega)⟩
 · rcases hf with hf | hf
   · rcases ft b hf with h | h <;> omega
   · exact hf
 · rcases ft b hf with h | h
   · rw [h, x2] at ho; injection ho with ho; subst ho; rfl
   · exact absurd h hb
end Go.Proofs.Ytkmodnggncadeaa
