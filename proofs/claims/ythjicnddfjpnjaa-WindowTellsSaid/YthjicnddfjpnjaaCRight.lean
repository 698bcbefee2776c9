/-
  WALKS: clock.Right.
-/
import Derived.Test.YthjicnddfjpnjaaPairs
import Derived.Test.YthjicnddfjpnjaaMin
import Derived.Test.YthjicnddfjpnjaaProg
import Derived.Laws.EntriesVeiled
namespace Go.Proofs.Ythjicnddfjpnjaa
open Go.RowKit
set_option linter.unusedSimpArgs false
set_option linter.unusedVariables false

attribute [local go_sem] iteMin iteMax iteMinN iteMaxN

theorem Blk1.new (w : World) (v : Value) (t : TypeId) : (w.alloc (.cells #[v] t)).cell? ⟨w.heap.size, 0, none⟩ = some v := by
  unfold World.cell?; rw [heap_alloc_new w _]; rfl

def PkOk (p : P2) : Prop := -1099511627776 ≤ p.x ∧ p.x ≤ 1099511627776 ∧ -1099511627776 ≤ p.y ∧ p.y ≤ 1099511627776
def AllPk (es : List P2) : Prop := ∀ p ∈ es, PkOk p
theorem pk_at_ {es : List P2} (h : AllPk es) {k : Nat} {p : P2} (hx : es[k]? = some p) : PkOk p := h p (List.mem_of_getElem? hx)
theorem pk_of {es : List P2} (h : ∀ (k : Nat) (p : P2), es[k]? = some p → PkOk p) : AllPk es := fun x hx => by
  obtain ⟨k, hk⟩ := List.mem_iff_getElem?.1 hx
  exact h k x hk
def BadC (x : Int) : Prop := x < -1099511627776 ∨ 1099511627776 < x
def IdxC (P : Prop) (e : Ending) : Prop := (P ∧ ∃ r : Int, 0 ≤ r ∧ r ≤ 17592186044416 ∧ e = .returned (.int .i64 r)) ∨ (¬ P ∧ e = .returned (.int .i64 (-1)))

set_option maxHeartbeats 1000000 in
theorem cBad (x : Int) (w : World) : Calls Try.prog 28 #[.int .i64 x] w fun e w' => IsB (BadC x) e ∧ w = w' := by
  rcases (show x < -1099511627776 ∨ 1099511627776 < x ∨ (-1099511627776 ≤ x ∧ x ≤ 1099511627776) by omega) with h | h | ⟨h, h'⟩
  · have HF := hide (show BadC x from .inl h)
    go_enter Try.func28, Try.ntmps28
    go_wp2
    go_ret
    exact ⟨IsB.t HF.out, rfl⟩
  · have HF := hide (show BadC x from .inr h)
    go_enter Try.func28, Try.ntmps28
    go_wp2
    go_ret
    exact ⟨IsB.t HF.out, rfl⟩
  · have HF := hide (show ¬ BadC x by unfold BadC; omega)
    go_enter Try.func28, Try.ntmps28
    go_wp2
    go_ret
    exact ⟨IsB.d (by have := HF.out; unfold BadC at *; first | (simp; done) | (simp; omega)), rfl⟩

set_option maxHeartbeats 2000000 in
theorem cBad2 (x y : Int) (b : Nat) (w : World) (hb : w.cell? ⟨b, 0, none⟩ = some (.func (.func 28) #[] #[])) : Calls Try.prog 30 #[.agg #[.int .i64 x, .int .i64 y], .pointer (some ⟨b, 0, none⟩)] w fun e w' => IsB (¬ PkOk ⟨x, y⟩) e ∧ Below w.heap.size w w' := by
  have hlt := World.block_lt_of_cell? w _ hb
  have hc : (w.alloc (.cells #[.int .i64 x, .int .i64 y] 53)).cell? ⟨b, 0, none⟩ = some (.func (.func 28) #[] #[]) := (World.cell?_alloc_lt _ _ _ hlt).trans hb
  have hB : Below w.heap.size w (w.alloc (.cells #[.int .i64 x, .int .i64 y] 53)) := (Below.refl _ _).alloc (Nat.le_refl _) _
  have HB := hide hB
  clear hB
  by_cases h1 : BadC x
  · have HF := hide (show ¬ PkOk ⟨x, y⟩ by unfold BadC at h1; unfold PkOk; simp only; omega)
    have H1 := hide h1
    clear h1
    go_enter Try.func30, Try.ntmps30
    go_wp2_with (go_at_call 28; refine (callT (cBad _ _) H1.out).mono ?_; rintro e w1 ⟨rfl, rfl⟩)
    go_ret
    exact ⟨IsB.t HF.out, HB.out⟩
  · by_cases h2 : BadC y
    · have HF := hide (show ¬ PkOk ⟨x, y⟩ by unfold BadC at h2; unfold PkOk; simp only; omega)
      have H1 := hide h1
      have H2 := hide h2
      clear h1 h2
      go_enter Try.func30, Try.ntmps30
      go_wp2_with fail
      refine (callF (cBad _ _) H1.out).mono ?_
      rintro e w1 ⟨rfl, rfl⟩
      go_wp2_with fail
      refine (callT (cBad _ _) H2.out).mono ?_
      rintro e w1 ⟨rfl, rfl⟩
      go_wp2
      go_ret
      exact ⟨IsB.t HF.out, HB.out⟩
    · have HF := hide (show ¬ ¬ PkOk ⟨x, y⟩ by unfold BadC at h1 h2; unfold PkOk; simp only; omega)
      have H1 := hide h1
      have H2 := hide h2
      clear h1 h2
      go_enter Try.func30, Try.ntmps30
      go_wp2_with fail
      refine (callF (cBad _ _) H1.out).mono ?_
      rintro e w1 ⟨rfl, rfl⟩
      go_wp2_with fail
      refine (callF (cBad _ _) H2.out).mono ?_
      rintro e w1 ⟨rfl, rfl⟩
      go_wp2
      go_ret
      exact ⟨IsB.f HF.out, HB.out⟩

set_option maxHeartbeats 2000000 in
theorem cIdx (a : Option Addr) (n c b : Nat) (es : List P2) (w : World) (h : PairsAt w a n c es) (hb : w.cell? ⟨b, 0, none⟩ = some (.func (.func 28) #[] #[])) :
    Calls Try.prog 52 #[.slice a n c, .func (.func 30) #[] #[.pointer (some ⟨b, 0, none⟩)]] w fun e w' => IdxC (¬ AllPk es) e ∧ Below w.heap.size w w' := by
  have HL := hide h.len
  have hlim := h.lim
  have hlt' := World.block_lt_of_cell? w _ hb
  go_enter Try.func52, Try.ntmps52
  go_wp2
  go_loopw [8] (fun i wr => ∃ k : Nat, k ≤ n ∧ i = .int .i64 k ∧ (∀ (j : Nat) (p : P2), j < k → es[j]? = some p → PkOk p) ∧ Below w.heap.size w wr) (fun i _ => n - (intOf i).toNat)
  case atStart => exact ⟨0, Nat.zero_le _, rfl, (fun j x hj => absurd hj (by omega)), Below.refl _ _⟩
  case round =>
    obtain ⟨k, hk, rfl, hall, hB⟩ := hrel
    have HA := hide hall
    have hbr : wr.cell? ⟨b, 0, none⟩ = some (.func (.func 28) #[] #[]) := (hB.cell hlt').trans hb
    have HB := hide hB
    clear hall
    by_cases hlt : k < n
    · obtain ⟨ad, x, y, rfl, hbd, HX, f0, f1⟩ := h.getB hB hlt
      have k0 : (0 : Int) ≤ (k : Int) := Int.natCast_nonneg _
      have k1 : (k : Int) < (n : Int) := by omega
      clear h hB
      by_cases hx : ¬ PkOk ⟨x, y⟩
      · have HN := hide (show ¬ AllPk es from fun hs => hx (pk_at_ hs HX.out))
        have HX' := hide hx
        clear hx
        go_wp2_with (go_at_call 30; refine (callT (cBad2 _ _ _ _ hbr) HX'.out).mono ?_; rintro e w1 ⟨rfl, hB1⟩)
        go_ret
        exact ⟨.inl ⟨HN.out, (k : Int), k0, by omega, rfl⟩, HB.out.trans (hB1.mono HB.out.size)⟩
      · have HX' := hide hx
        clear hx
        go_wp2_with (go_at_call 30; refine (callF (cBad2 _ _ _ _ hbr) HX'.out).mono ?_; rintro e w1 ⟨rfl, hB1⟩)
        go_roundw
        case rel => exact ⟨k + 1, by omega, by go_num, (fun j z hj hz => by
          rcases (show j < k ∨ j = k by omega) with h3 | rfl
          · exact HA.out j z h3 hz
          · rw [HX.out] at hz; injection hz with hz; subst hz; exact Classical.not_not.1 HX'.out), HB.out.trans (hB1.mono HB.out.size)⟩
        case measure => simp [intOf]; omega
    · have HN := hide (show ¬ ¬ AllPk es from fun hn => hn (pk_of fun j x hx => HA.out j x (by have := (List.getElem?_eq_some_iff.1 hx).1; rw [HL.out] at this; omega) hx))
      clear h
      go_wp2
      go_ret
      exact ⟨.inr ⟨HN.out, rfl⟩, HB.out⟩

set_option maxHeartbeats 1000000 in
theorem cHas (a : Option Addr) (n c b : Nat) (es : List P2) (w : World) (h : PairsAt w a n c es) (hb : w.cell? ⟨b, 0, none⟩ = some (.func (.func 28) #[] #[])) :
    Calls Try.prog 29 #[.slice a n c, .func (.func 30) #[] #[.pointer (some ⟨b, 0, none⟩)]] w fun e w' => IsB (¬ AllPk es) e ∧ Below w.heap.size w w' := by
  have HI := hide (cIdx a n c b es w h hb)
  clear h hb
  go_enter Try.func29, Try.ntmps29
  go_wp2_with fail
  refine HI.out.mono ?_
  rintro e w1 ⟨⟨hn, r, r0, r1, rfl⟩ | ⟨hn, rfl⟩, hB⟩
  · have HN := hide hn
    clear hn
    go_wp2
    go_ret
    exact ⟨IsB.t HN.out, hB⟩
  · have HN := hide hn
    clear hn
    go_wp2
    go_ret
    exact ⟨IsB.f HN.out, hB⟩

set_option maxHeartbeats 1000000 in
theorem cRight_any (a : Option Addr) (n c : Nat) (es : List P2) (w : World) (h : PairsAt w a n c es) :
    Calls Try.prog 8 #[.slice a n c] w fun e w' => IsB (AllPk es) e ∧ Below w.heap.size w w' := by
  have hB : Below w.heap.size w (w.alloc (.cells #[.func (.func 28) #[] #[]] 54)) := (Below.refl _ _).alloc (Nat.le_refl _) _
  have hc : (w.alloc (.cells #[.func (.func 28) #[] #[]] 54)).cell? ⟨w.heap.size, 0, none⟩ = some (.func (.func 28) #[] #[]) := (Blk1.new _ _ _)
  have HI := hide (cHas a n c w.heap.size es _ (h.below hB) hc)
  have hs := hB.size
  have HB := hide hB
  clear h hB hc
  by_cases hs' : AllPk es
  · have HS := hide hs'
    have HN := hide (show ¬ ¬ AllPk es from fun h => h hs')
    clear hs'
    go_enter Try.func8, Try.ntmps8
    go_wp2_with (go_at_call 29; refine (callF HI.out HN.out).mono ?_; rintro e w1 ⟨rfl, hB1⟩)
    go_ret
    exact ⟨IsB.t HS.out, HB.out.trans (hB1.mono hs)⟩
  · have HS := hide hs'
    clear hs'
    go_enter Try.func8, Try.ntmps8
    go_wp2_with (go_at_call 29; refine (callT HI.out HS.out).mono ?_; rintro e w1 ⟨rfl, hB1⟩)
    go_ret
    exact ⟨IsB.f HS.out, HB.out.trans (hB1.mono hs)⟩

end Go.Proofs.Ythjicnddfjpnjaa
