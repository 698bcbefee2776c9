/-
  PLAIN AND MEMORY: the search's state; visit at a node that is done.
-/
import Derived.Test.YthjicnddfjpnjaaMGr
import Derived.Test.YthjicnddfjpnjaaPSolve2
import Derived.Test.YthjicnddfjpnjaaRev
namespace Go.Proofs.Ythjicnddfjpnjaa
open Go.RowKit
set_option linter.unusedSimpArgs false
set_option linter.unusedVariables false

attribute [local go_sem] iteMin iteMax iteMinN iteMaxN

theorem countP_lt {α : Type} (p q : α → Bool) (l : List α) (h : ∀ x ∈ l, q x = true → p x = true) (v : α) (hv : v ∈ l) (h1 : p v = true) (h2 : q v = false) : l.countP q < l.countP p := by
  induction l with
  | nil => cases hv
  | cons a l ih =>
    have hle : l.countP q ≤ l.countP p := List.countP_mono_left (fun x hx => h x (by simp [hx]))
    rw [List.countP_cons, List.countP_cons]
    rcases List.mem_cons.1 hv with rfl | hv'
    · rw [h1, h2]; simp; omega
    · have := ih (fun x hx => h x (by simp [hx])) hv'
      by_cases hq : q a = true
      · rw [hq, h a (by simp) hq]; simp; omega
      · simp [hq]; omega
/-- how many nodes are new -/
def whites (N : Nat) (S : DS) : Nat := (List.range N).countP (fun u => S.st u == 0)
theorem whites_lt {N v : Nat} {S S' : DS} (h : ∀ u, S'.st u = 0 → S.st u = 0 ∧ u ≠ v) (hv : S.st v = 0) (hvN : v < N) : whites N S' < whites N S := by
  unfold whites
  refine countP_lt _ _ _ (fun x _ hx => ?_) v (List.mem_range.2 hvN) ?_ ?_
  · have := (h x (by simpa using hx)).1
    simpa using this
  · simpa using hv
  · have : S'.st v ≠ 0 := fun e => (h v e).2 rfl
    simpa using this
/-- in the loop over the edges -/
structure VS (es : List PE) (N : Nat) (hi : Nat → Int) (S0 S : DS) (path : List Nat) (v k : Nat) : Prop where
  inv : DInv es N hi S (path ++ [v])
  sub : ∀ u, S.st u = 0 → S0.st u = 0 ∧ u ≠ v
  blk : ∀ u, S0.st u = 2 → S.st u = 2
  done : ∀ (j : Nat) (e : PE), j < k → es[j]? = some e → Tight hi e → e.src = v → S.st e.dst = 2
section
variable {es : List PE} {N : Nat} {hi : Nat → Int} {S0 S S' : DS} {path : List Nat} {v k : Nat} {e : PE}
theorem VS.start (h : DInv es N hi S0 path) (hv : S0.st v = 0) (hvN : v < N) (hl : ∀ a, path.getLast? = some a → ∃ (k : Nat) (e : PE), S0.by_ v = (k : Int) ∧ es[k]? = some e ∧ Tight hi e ∧ e.src = a ∧ e.dst = v) : VS es N hi S0 ⟨upd S0.st v 1, S0.by_⟩ path v 0 := by
  refine ⟨h.enter hv hvN hl, fun u hu => ?_, fun u hu => ?_, fun j e hj => by omega⟩
  · by_cases huv : u = v
    · subst huv; simp [upd] at hu
    · simp only [upd, if_neg huv] at hu; exact ⟨hu, huv⟩
  · have huv : u ≠ v := fun e => by rw [e, hv] at hu; cases hu
    simp only [upd, if_neg huv]; exact hu
theorem VS.skip (h : VS es N hi S0 S path v k) (he : es[k]? = some e) (hn : Tight hi e → e.src = v → S.st e.dst = 2) : VS es N hi S0 S path v (k + 1) :=
  ⟨h.inv, h.sub, h.blk, fun j d hj hd ht hs => by
    by_cases hjk : j = k
    · subst hjk; rw [he] at hd; injection hd with hd; subst hd; exact hn ht hs
    · exact h.done j d (by omega) hd ht hs⟩
theorem VS.back (h : VS es N hi S0 S path v k) (he : es[k]? = some e) (h' : DInv es N hi S' (path ++ [v])) (hb : S'.st e.dst = 2) (hs : ∀ u, S'.st u = 0 → S.st u = 0) (hbl : ∀ u, S.st u = 2 → S'.st u = 2) : VS es N hi S0 S' path v (k + 1) :=
  ⟨h', fun u hu => h.sub u (hs u hu), fun u hu => hbl u (h.blk u hu), fun j d hj hd ht hsr => by
    by_cases hjk : j = k
    · subst hjk; rw [he] at hd; injection hd with hd; subst hd; exact hb
    · exact hbl _ (h.done j d (by omega) hd ht hsr)⟩
theorem VS.leave (h : VS es N hi S0 S path v es.length) : DInv es N hi ⟨upd S.st v 2, S.by_⟩ path ∧ (∀ u, upd S.st v 2 u = 0 → S0.st u = 0) ∧ (∀ u, S0.st u = 2 → upd S.st v 2 u = 2) := by
  refine ⟨h.inv.leave (fun e he ht hs => ?_), fun u hu => ?_, fun u hu => ?_⟩
  · obtain ⟨j, hj⟩ := List.getElem?_of_mem he
    exact h.done j e (List.getElem?_eq_some_iff.1 hj).1 hj ht hs
  · by_cases huv : u = v
    · subst huv; simp [upd] at hu
    · simp only [upd, if_neg huv] at hu; exact (h.sub u hu).1
  · by_cases huv : u = v
    · simp [upd, huv]
    · simp only [upd, if_neg huv]; exact h.blk u hu
/-- the way back: split at x -/
theorem VS.split (h : VS es N hi S0 S path v k) {x : Nat} (hx : S.st x = 1) : ∃ A B, path ++ [v] = A ++ x :: B ∧ (x :: B).getLast? = some v ∧ x ∉ B := by
  obtain ⟨A, B, hAB⟩ := List.append_of_mem ((h.inv.gray x).1 hx)
  refine ⟨A, B, hAB, ?_, ?_⟩
  · have h1 : (path ++ [v]).getLast? = some v := by simp
    rw [hAB, List.getLast?_append] at h1
    cases hB : (x :: B).getLast? with
    | none => simp at hB
    | some y => rw [hB] at h1; simpa using h1
  · have := h.inv.nd
    rw [hAB] at this
    exact (List.nodup_cons.1 (List.nodup_append.1 this).2.1).1
end
/-- at the way back's loop: so much of it is behind us -/
structure BackI (A B : List Nat) (x : Nat) (B1 B2 : List Nat) (m : Nat) : Prop where
  sp : B = B1 ++ B2
  last : (x :: B1).getLast? = some m
theorem BackI.start {A B : List Nat} {x v : Nat} (h : (x :: B).getLast? = some v) : BackI A B x B [] v := ⟨by simp, h⟩
theorem BackI.end_ {A B B1 B2 : List Nat} {x : Nat} (h : BackI A B x B1 B2 x) (hx : x ∉ B) : B1 = [] := by
  rcases List.eq_nil_or_concat B1 with h1 | ⟨C, b, h1⟩
  · exact h1
  · rw [List.concat_eq_append] at h1
    have := h.last
    rw [h1, ← List.cons_append, List.getLast?_append] at this
    simp at this
    exact absurd (show x ∈ B by rw [h.sp, h1, this]; simp) hx
theorem BackI.next {es : List PE} {N : Nat} {hi : Nat → Int} {S : DS} {A B B1 B2 : List Nat} {x m : Nat} (h : BackI A B x B1 B2 m) (hd : DInv es N hi S (A ++ x :: B)) (hm : m ≠ x) : m < N ∧ ∃ (C : List Nat) (j : Nat) (e : PE), B1 = C ++ [m] ∧ S.by_ m = (j : Int) ∧ es[j]? = some e ∧ BackI A B x C (m :: B2) e.src := by
  rcases List.eq_nil_or_concat B1 with h1 | ⟨C, b, h1⟩
  · exfalso
    have := h.last; rw [h1] at this; simp at this; exact hm this.symm
  · rw [List.concat_eq_append] at h1
    have hl := h.last
    rw [h1, ← List.cons_append, List.getLast?_append] at hl
    simp at hl
    subst hl
    have hB : A ++ x :: B = A ++ (x :: C ++ b :: B2) := by rw [h.sp, h1]; simp
    have hlt : b < N := hd.lt b (by rw [hB]; simp)
    have e1 : (A ++ x :: B)[A.length + C.length + 1]? = some b := by
      rw [hB, List.getElem?_append_right (by omega), show A.length + C.length + 1 - A.length = (x :: C).length by simp; omega, List.getElem?_append_right (Nat.le_refl _)]
      simp
    have e0 : (A ++ x :: B)[A.length + C.length]? = (x :: C).getLast? := by
      rw [hB, List.getElem?_append_right (by omega), show A.length + C.length - A.length = C.length by omega, List.getElem?_append_left (by simp), List.getLast?_eq_getElem?]
      simp
    obtain ⟨a, ha⟩ : ∃ a, (x :: C).getLast? = some a := by
      cases hh : (x :: C).getLast? with
      | none => simp at hh
      | some a => exact ⟨a, rfl⟩
    obtain ⟨j, e, h2, h3, _, h4, _⟩ := hd.link (A.length + C.length) a b (by rw [e0, ha]) e1
    exact ⟨hlt, C, j, e, h1, h2, h3, by rw [h.sp, h1]; simp, by rw [h4]; exact ha⟩
/-- the list that is built on the way back -/
def outL (S : DS) (k : Nat) (B2 : List Nat) : List Int := (k : Int) :: (B2.map S.by_).reverse
theorem outL_cons (S : DS) (k : Nat) (B2 : List Nat) (m : Nat) : outL S k (m :: B2) = outL S k B2 ++ [S.by_ m] := by simp [outL]
theorem outL_rev (S : DS) (k : Nat) (B2 : List Nat) : (outL S k B2).reverse = B2.map S.by_ ++ [(k : Int)] := by simp [outL]
theorem outL_len (S : DS) (k : Nat) (B2 : List Nat) : (outL S k B2).length = B2.length + 1 := by simp [outL]
/-- the walker in memory -/
structure VMem (w : World) (WB B hb hc n c gb cb gt ct N : Nat) (ea : Option Addr) (les : List GE) (hi : Nat → Int) (S : DS) : Prop where
  c0 : w.cell? ⟨WB, 0, none⟩ = some (.slice (some ⟨hb, 0, none⟩) N hc)
  c1 : w.cell? ⟨WB, 1, none⟩ = some (.slice ea n c)
  c2 : w.cell? ⟨WB, 2, none⟩ = some (.slice (some ⟨gb, 0, none⟩) N cb)
  c3 : w.cell? ⟨WB, 3, none⟩ = some (.slice (some ⟨gt, 0, none⟩) N ct)
  th : OTab w B 3 hb N hc hi
  te : EdgesAt w ea n c les
  tb : OTab w B 3 gb N cb S.by_
  ts : OTab w B 3 gt N ct S.st
  ne : (WB ≠ gb ∧ WB ≠ gt ∧ hb ≠ gb ∧ hb ≠ gt ∧ gb ≠ gt) ∧ ∀ ad, ea = some ad → ad.block ≠ gb ∧ ad.block ≠ gt
section
variable {w w' : World} {WB B hb hc n c gb cb gt ct N : Nat} {ea : Option Addr} {les : List GE} {hi : Nat → Int} {S : DS}
theorem VMem.below (h : VMem w WB B hb hc n c gb cb gt ct N ea les hi S) (hb' : Below w.heap.size w w') : VMem w' WB B hb hc n c gb cb gt ct N ea les hi S :=
  have kc : ∀ {p : Addr} {v : Value}, w.cell? p = some v → w'.cell? p = some v := fun {p v} e => (hb'.cell (World.block_lt_of_cell? w _ e)).trans e
  ⟨kc h.c0, kc h.c1, kc h.c2, kc h.c3, h.th.below hb', h.te.below hb', h.tb.below hb', h.ts.below hb', h.ne⟩
theorem edges_set {a : Option Addr} {g j : Nat} {u : Value} (h : EdgesAt w a n c les) (hne : ∀ ad, a = some ad → ad.block ≠ g) : EdgesAt (w.setCell ⟨g, j, none⟩ u) a n c les :=
  ⟨h.1, h.2.1, h.2.2.1, fun hn => by
    obtain ⟨ad, e, hlt, hc⟩ := h.2.2.2 hn
    refine ⟨ad, e, by simpa using hlt, fun j' x hx => ?_⟩
    obtain ⟨c0, c1, c2⟩ := hc j' x hx
    have key : ∀ i, ad.add i ≠ ⟨g, j, none⟩ := fun i e' => hne ad e (by have := block_add ad i; rw [e'] at this; exact this.symm)
    refine ⟨?_, ?_, ?_⟩
    · rw [World.cell?_setCell_other _ _ _ _ (Ne.symm (key _))]; exact c0
    · rw [World.cell?_setCell_other _ _ _ _ (Ne.symm (key _))]; exact c1
    · rw [World.cell?_setCell_other _ _ _ _ (Ne.symm (key _))]; exact c2⟩
theorem VMem.setSt (h : VMem w WB B hb hc n c gb cb gt ct N ea les hi S) {v : Nat} (hv : v < N) (x : Int) : VMem (w.setCell ⟨gt, v, none⟩ (.int .i64 x)) WB B hb hc n c gb cb gt ct N ea les hi ⟨upd S.st v x, S.by_⟩ := by
  obtain ⟨⟨n1, n2, n3, n4, n5⟩, n6⟩ := h.ne
  have kc : ∀ {j : Nat} {u : Value}, w.cell? ⟨WB, j, none⟩ = some u → (w.setCell ⟨gt, v, none⟩ (.int .i64 x)).cell? ⟨WB, j, none⟩ = some u := fun {j u} e => by
    rw [World.cell?_setCell_other _ _ _ _ (fun e' => n2 (by injection e' with e1; exact e1.symm))]; exact e
  exact ⟨kc h.c0, kc h.c1, kc h.c2, kc h.c3, h.th.setFar (Ne.symm n4), edges_set h.te (fun ad e => (n6 ad e).2), h.tb.setFar (Ne.symm n5), h.ts.set hv (by simp [upd]) (fun t _ hne => by simp [upd, hne]), h.ne⟩
theorem VMem.setBy (h : VMem w WB B hb hc n c gb cb gt ct N ea les hi S) {v : Nat} (hv : v < N) (x : Int) : VMem (w.setCell ⟨gb, v, none⟩ (.int .i64 x)) WB B hb hc n c gb cb gt ct N ea les hi ⟨S.st, upd S.by_ v x⟩ := by
  obtain ⟨⟨n1, n2, n3, n4, n5⟩, n6⟩ := h.ne
  have kc : ∀ {j : Nat} {u : Value}, w.cell? ⟨WB, j, none⟩ = some u → (w.setCell ⟨gb, v, none⟩ (.int .i64 x)).cell? ⟨WB, j, none⟩ = some u := fun {j u} e => by
    rw [World.cell?_setCell_other _ _ _ _ (fun e' => n1 (by injection e' with e1; exact e1.symm))]; exact e
  exact ⟨kc h.c0, kc h.c1, kc h.c2, kc h.c3, h.th.setFar (Ne.symm n3), edges_set h.te (fun ad e => (n6 ad e).1), h.tb.set hv (by simp [upd]) (fun t _ hne => by simp [upd, hne]), h.ts.setFar n5, h.ne⟩
end
/-- what visit answers -/
def VEnds (w : World) (WB B hb hc n c gb cb gt ct N : Nat) (ea : Option Addr) (les : List GE) (hi : Nat → Int) (S : DS) (path : List Nat) (v : Nat) (e : Ending) (w' : World) : Prop :=
  ((∃ a cp ns, e = .returned (.slice a ns.length cp) ∧ IntsAt w' a ns.length cp ns ∧ FoundC (pes les) N hi ns) ∨
   (∃ S', e = .returned (.slice none 0 0) ∧ VMem w' WB B hb hc n c gb cb gt ct N ea les hi S' ∧ DInv (pes les) N hi S' path ∧ S'.st v = 2 ∧ (∀ u, S'.st u = 0 → S.st u = 0) ∧ (∀ u, S.st u = 2 → S'.st u = 2))) ∧ Two w w' gb gt
theorem intInfoVi : (Try.prog.info? 3).map (fun i => (i.zero, i.size, i.bytes)) = some (some (.int .i64 0), 1, 8) := by kernel_rfl

set_option maxRecDepth 100000 in
set_option maxHeartbeats 2000000 in
theorem visit_black (WB B hb hc n c gb cb gt ct N : Nat) (ea : Option Addr) (les : List GE) (hi : Nat → Int) (S : DS) (path : List Nat) (v : Nat) (w : World)
    (hN : N ≤ 300) (hm : VMem w WB B hb hc n c gb cb gt ct N ea les hi S) (hd : DInv (pes les) N hi S path) (hv : v < N) (hs : S.st v = 2) :
    Calls Try.prog 45 #[.pointer (some ⟨WB, 0, none⟩), .int .i64 v] w fun e w' => VEnds w WB B hb hc n c gb cb gt ct N ea les hi S path v e w' := by
  have c3 := hm.c3
  have s0 := hm.ts.cell hv
  rw [hs] at s0
  have v0 : (0 : Int) ≤ (v : Int) := Int.natCast_nonneg _
  have v1 : (v : Int) < (N : Int) := by omega
  have HV := hide (show VEnds w WB B hb hc n c gb cb gt ct N ea les hi S path v (.returned (.slice none 0 0)) w from ⟨.inr ⟨S, rfl, hm, hd, hs, fun _ h => h, fun _ h => h⟩, Two.refl _ _ _⟩)
  clear hm hd hs
  go_enter Try.func45, Try.ntmps45
  go_wp2
  go_ret
  exact HV.out

end Go.Proofs.Ythjicnddfjpnjaa
