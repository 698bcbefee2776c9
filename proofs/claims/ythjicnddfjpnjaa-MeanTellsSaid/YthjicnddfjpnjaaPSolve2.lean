/-
  PLAIN: what solve answers.
-/
import Derived.Test.YthjicnddfjpnjaaPSolve
namespace Go.Proofs.Ythjicnddfjpnjaa
open Go.RowKit
set_option linter.unusedSimpArgs false
set_option linter.unusedVariables false

theorem prun_more (es : List PE) : ∀ (k : Nat) (s : PS), 0 ≤ (prun es k s).last → 0 ≤ s.last ∨ ∃ v, s.m v < (prun es k s).m v := by
  induction es with
  | nil => intro k s h; exact .inl h
  | cons e es ih =>
    intro k s h
    rcases ih (k + 1) (pstep s k e) h with h1 | ⟨v, h1⟩
    · by_cases hu : s.m e.dst < s.m e.src + e.wt
      · refine .inr ⟨e.dst, ?_⟩
        have h2 := prun_le es (k + 1) (pstep s k e) e.dst
        have h3 : (pstep s k e).m e.dst = s.m e.src + e.wt := by simp [pstep, hu, upd]
        show s.m e.dst < (prun es (k + 1) (pstep s k e)).m e.dst
        omega
      · left
        have h3 : pstep s k e = s := by simp [pstep, hu]
        rwa [h3] at h1
    · exact .inr ⟨v, Int.lt_of_le_of_lt (pstep_le s k e v) h1⟩
theorem piter_b {N : Int} {es : List GE} (hg : GraphOk N es) : ∀ r v, 0 ≤ (piter (pes es) r).m v ∧ (piter (pes es) r).m v ≤ r * 5033164800
  | 0, v => by simp [piter, pzero]
  | r + 1, v => by
    have ih := piter_b hg r
    have h1 := prun_b hg (s := { piter (pes es) r with last := -1 }) ih es.length (Nat.le_refl _) v
    have e1 : (pes es).take es.length = pes es := List.take_of_length_le (by rw [pes_len]; exact Nat.le_refl _)
    rw [e1] at h1
    have h2 : (piter (pes es) (r + 1)).m v = (prun (pes es) 0 { piter (pes es) r with last := -1 }).m v := rfl
    have h3 := hg.1.2.2
    rw [h2]
    omega
/-- the state behind r rounds, the last of which changed nothing, or was the last one -/
def Solved (N : Nat) (es : List GE) (q : PS) : Prop := ∃ r, r ≤ N ∧ q = piter (pes es) (r + 1) ∧ (q.last < 0 ∨ (r = N ∧ 0 ≤ q.last))
theorem solved_pot {N : Nat} {es : List GE} {q : PS} (hg : GraphOk (N : Int) es) (h : Solved N es q) (hl : q.last < 0) : HasPot es ∧ ∀ v, q.m v = siter (pes es) N v := by
  obtain ⟨r, hr, rfl, _⟩ := h
  have hst := prun_still (pes es) 0 { piter (pes es) r with last := -1 } hl
  have hp : Pot (pes es) (piter (pes es) (r + 1)).m := by
    refine ⟨fun v => (piter_b hg (r + 1) v).1, fun e he => ?_⟩
    have h2 := hst.2 e he
    have h1 : (prun (pes es) 0 { piter (pes es) r with last := -1 }).m = (piter (pes es) r).m := by rw [hst.1]
    have h1 : (piter (pes es) (r + 1)).m = (piter (pes es) r).m := h1
    rw [h1]; exact h2
  have hin := pes_in hg
  have hs := siter_fix (siter_still (k := N) hin (by omega) hp)
  refine ⟨⟨_, hp⟩, fun v => ?_⟩
  have h1 := piter_pot hs (r + 1) v
  have h2 := siter_pot hp N v
  omega
theorem solved_no {N : Nat} {es : List GE} {q : PS} (hg : GraphOk (N : Int) es) (h : Solved N es q) (hl : 0 ≤ q.last) : ¬ HasPot es := by
  rintro ⟨p, hp⟩
  obtain ⟨r, hr, rfl, h1 | ⟨rfl, h1⟩⟩ := h
  · omega
  · have hin := pes_in hg
    rcases prun_more (pes es) 0 { piter (pes es) r with last := -1 } hl with h2 | ⟨v, h2⟩
    · simp at h2
    · have e1 := piter_eq (k := r) hin (by omega) hp v
      have e2 := piter_eq (k := r + 1) hin (by omega) hp v
      have e3 := siter_still (k := r) hin (by omega) hp v
      have e4 : (prun (pes es) 0 { piter (pes es) r with last := -1 }).m v = (piter (pes es) (r + 1)).m v := rfl
      rw [e4] at h2
      simp only at h2
      omega
/-- what solve hands back: a pointer to the solver, whose rows lie in memory -/
structure SolveEnds (N : Nat) (a : Option Addr) (n c : Nat) (es : List GE) (B : Nat) (e : Ending) (w' : World) (q : PS) (sb gm gb : Nat) : Prop where
  ret : e = .returned (.tuple #[.pointer (some ⟨sb, 0, none⟩), .int .i64 q.last])
  ok : Solved N es q
  c0 : w'.cell? ⟨sb, 0, none⟩ = some (.int .i64 N)
  c1 : w'.cell? ⟨sb, 1, none⟩ = some (.slice a n c)
  c2 : w'.cell? ⟨sb, 2, none⟩ = some (.slice (some ⟨gm, 0, none⟩) N N)
  c3 : w'.cell? ⟨sb, 3, none⟩ = some (.slice (some ⟨gb, 0, none⟩) N N)
  tm : OTab w' B 3 gm N N q.m
  tb : OTab w' B 3 gb N N q.b
theorem rep_tab {w : World} {B e g N : Nat} (h : w.heap[g]? = some (.cells (List.replicate N (Value.int .i64 (-1))).toArray e (0, 0))) (hB : B ≤ g) (hN : N ≤ maxLen) : OTab w B e g N N (fun _ => -1) := by
  refine ⟨by simp [tab_len], .inr ⟨g, N, _, rfl, hB, h, Nat.le_refl _, hN, by simp, ?_⟩⟩
  have e1 : (tabI N (fun _ => (-1 : Int))).map (Value.int .i64) = List.replicate N (Value.int .i64 (-1)) := by
    apply List.ext_getElem?
    intro j
    by_cases hj : j < N
    · rw [List.getElem?_map, tab_at hj, List.getElem?_replicate, if_pos hj]; rfl
    · rw [List.getElem?_eq_none (by simp [tab_len]; omega), List.getElem?_eq_none (by simp; omega)]
  rw [e1]; simp
theorem made_tab (w : World) {B e N : Nat} (hB : B ≤ w.heap.size) (hN : N ≤ maxLen) : OTab (w.alloc (.cells (madeCells (Value.int .i64 0).cells (N * 1)) e)) B e w.heap.size N N (fun _ => 0) := by
  have h := OwnTab.made (w := w.alloc (.cells (madeCells (Value.int .i64 0).cells (N * 1)) e)) (B := B) (e := e) (g := w.heap.size) (N := N) ⟨by simp [madeCells, Value.cells], .inr ⟨w.heap.size, N, _, rfl, hB, heap_alloc_new w _, Nat.le_refl _, hN, by simp [madeCells, Value.cells], List.take_of_length_le (by simp [madeCells, Value.cells])⟩⟩
  exact h

theorem made_tab' {w : World} {B e g N : Nat} (hg : w.heap.size = g) (hB : B ≤ g) (hN : N ≤ maxLen) : OTab (w.alloc (.cells (madeCells (Value.int .i64 0).cells (N * 1)) e)) B e g N N pzero.m := by
  subst hg; exact made_tab w hB hN
theorem made_tab2 {w : World} {B e g N : Nat} (hg : w.heap.size = g) (hB : B ≤ g) (hN : N ≤ maxLen) : OTab (w.alloc (.cells (madeCells #[Value.int .i64 0] N) e)) B e g N N pzero.m := by
  have h := made_tab' (e := e) hg hB hN
  rw [Nat.mul_one] at h
  exact h
theorem lt_of_get {w : World} {g : Nat} {o : Obj} (h : w.heap[g]? = some o) : g < w.heap.size := (Array.getElem?_eq_some_iff.1 h).1
section
variable {w : World} {v0 v1 v2 v3 : Value} {t : TypeId} {g : Nat}
theorem cell40 (hg : w.heap.size = g) : (w.alloc (.cells #[v0, v1, v2, v3] t)).cell? ⟨g, 0, none⟩ = some v0 := by subst hg; unfold World.cell?; rw [heap_alloc_new w _]; rfl
theorem cell41 (hg : w.heap.size = g) : (w.alloc (.cells #[v0, v1, v2, v3] t)).cell? ⟨g, 1, none⟩ = some v1 := by subst hg; unfold World.cell?; rw [heap_alloc_new w _]; rfl
theorem cell42 (hg : w.heap.size = g) : (w.alloc (.cells #[v0, v1, v2, v3] t)).cell? ⟨g, 2, none⟩ = some v2 := by subst hg; unfold World.cell?; rw [heap_alloc_new w _]; rfl
theorem cell43 (hg : w.heap.size = g) : (w.alloc (.cells #[v0, v1, v2, v3] t)).cell? ⟨g, 3, none⟩ = some v3 := by subst hg; unfold World.cell?; rw [heap_alloc_new w _]; rfl
end
/-- the solver as it begins -/
def Began (N : Nat) (a : Option Addr) (n c : Nat) (B : Nat) (W : World) (p : Value) (wx : World) : Prop := ∃ sb gm gb : Nat, p = .pointer (some ⟨sb, 0, none⟩) ∧ wx.cell? ⟨sb, 0, none⟩ = some (.int .i64 N) ∧ wx.cell? ⟨sb, 1, none⟩ = some (.slice a n c) ∧
  wx.cell? ⟨sb, 2, none⟩ = some (.slice (some ⟨gm, 0, none⟩) N N) ∧ wx.cell? ⟨sb, 3, none⟩ = some (.slice (some ⟨gb, 0, none⟩) N N) ∧ OTab wx B 3 gm N N pzero.m ∧ OTab wx B 3 gb N N pzero.b ∧ (gm ≠ gb ∧ sb ≠ gm ∧ sb ≠ gb) ∧ Below B W wx

end Go.Proofs.Ythjicnddfjpnjaa
