/-
  THE WALK of ShareTells.
-/
import Derived.Test.YthjicnddfjpnjaaSEven
import Derived.Test.YthjicnddfjpnjaaSNShare
import Derived.Test.YthjicnddfjpnjaaEqual
import Derived.DeepKeys
import Derived.Laws.StructEq
import Derived.Deep.DeepCutAuto
namespace Go.Proofs.Ythjicnddfjpnjaa
open Go.RowKit
set_option linter.unusedSimpArgs false
set_option linter.unusedVariables false

attribute [local go_sem] iteMin iteMax iteMinN iteMaxN

theorem eqSelfF {m : Nat} {t : TypeId} {x : Value} {D : Nat} {l : List Lit} (hm : m ≤ 10000) (hk : Try.prog.keyTypeAt m t = true) (hf : x.formed Try.prog t = true) (hl : Try.prog.keyLits D t x.cells.toList = some l) (w : World) :
    (Op.equalIn 10000 t x x).run Try.prog w = .ok true w := by
  have := run_equalIn_deep (P := Try.prog) (10000 - m) m t hk w D D x x l l hf hf hl hl
  rw [show 10000 - m + m = 10000 by omega] at this
  obtain ⟨r, hr, hi⟩ := this
  rw [hr, hi.2 rfl]
theorem cellsIntF : Try.prog.cellsOf 3 = 1 := by kernel_rfl
theorem cellsFracF : Try.prog.cellsOf 30 = 2 := by kernel_rfl
theorem litsIntF {x : Int} {D : Nat} (h : (Lit.int .i64 x).wf = true) : Try.prog.keyLits (D + 1) 3 [.int .i64 x] = some [.int .i64 x] := by
  simp only [Program.keyLits, Try.underlying3, h, and_self, if_true]
theorem litsFracF {x y : Int} {D : Nat} (h : (Lit.int .i64 x).wf = true) (h' : (Lit.int .i64 y).wf = true) : Try.prog.keyLits (D + 1 + 1) 30 [.int .i64 x, .int .i64 y] = some [.int .i64 x, .int .i64 y] := by
  unfold Program.keyLits
  simp only [Try.underlying30]
  simp [cellsIntF, cellsFracF, litsIntF h, litsIntF h']
set_option maxRecDepth 100000 in
theorem eqFracF {x y : Int} (h0 : (Lit.int .i64 x).wf = true) (h1 : (Lit.int .i64 y).wf = true) (w : World) : (Op.equalIn 10000 30 (.agg #[.int .i64 x, .int .i64 y]) (.agg #[.int .i64 x, .int .i64 y])).run Try.prog w = .ok true w :=
  eqSelfF (m := 3) (D := 3 + 1 + 1) (by omega) (by kernel_rfl) (by kernel_rfl) (litsFracF h0 h1) w
theorem even_wf {xs : List Int} {u v r : Int} (h : IsEven xs u v r) : (Lit.int .i64 u).wf = true ∧ (Lit.int .i64 v).wf = true := by
  have key : ∀ x : Int, 0 ≤ x → x ≤ 98956046499840000 → (Lit.int .i64 x).wf = true := fun x h0 h1 => by
    simp only [Lit.wf, IntKind.min, IntKind.max, IntKind.signed, IntKind.bits, Bool.and_eq_true, decide_eq_true_eq, if_true]
    omega
  rcases h with ⟨_, rfl, rfl, _⟩ | ⟨_, _, rfl, rfl, _⟩ | ⟨hr, _, a, b, ha, hb, rfl, rfl, _⟩
  · exact ⟨by rfl, by rfl⟩
  · exact ⟨by rfl, by rfl⟩
  · have z1 := s1_bound (f := fun j => xs.getD j 0) xs.length (right_f hr.2)
    have z2 := s2_bound (f := fun j => xs.getD j 0) xs.length (right_f hr.2)
    have hn := hr.1
    have q1 := sq_le z1.1 (by omega)
    have q2 := len_s2 hn z2.1 (by omega)
    rw [← ha] at q1
    rw [← hb] at q2
    have d1 := Nat.div_le_self a (Nat.gcd a b)
    have d2 := Nat.div_le_self b (Nat.gcd a b)
    obtain ⟨x, hx⟩ : ∃ x, a / Nat.gcd a b = x := ⟨_, rfl⟩
    obtain ⟨y, hy⟩ : ∃ y, b / Nat.gcd a b = y := ⟨_, rfl⟩
    rw [hx] at d1 ⊢
    rw [hy] at d2 ⊢
    exact ⟨key _ (by omega) (by omega), key _ (by omega) (by omega)⟩
theorem even_any (a : Option Addr) (n c : Nat) (xs : List Int) (w : World) (h : IntsAt w a n c xs) : Calls Try.prog 13 #[.slice a n c] w fun e w' => EvenBack xs e ∧ Below w.heap.size w w' := by
  by_cases hs : RightS xs
  · exact even_ok a n c xs w h hs
  · exact even_no a n c xs w h hs
theorem neven_any (a : Option Addr) (n c : Nat) (xs : List Int) (w : World) (h : IntsAt w a n c xs) : Calls Try.prog 14 #[.slice a n c] w fun e w' => EvenBack xs e ∧ Below w.heap.size w w' := by
  by_cases hs : RightS xs
  · exact neven_ok a n c xs w h hs
  · exact neven_no a n c xs w h hs
theorem share_any (all : Int) (a : Option Addr) (n c : Nat) (xs : List Int) (w : World) (h : IntsAt w a n c xs) : Calls Try.prog 17 #[.int .i64 all, .slice a n c] w fun e w' => (∃ Z, ((¬ RightS xs ∧ Z = []) ∨ (RightS xs ∧ IsShare xs (fitI all) Z)) ∧ BackS Z e w') ∧ Below w.heap.size w w' := by
  by_cases hs : RightS xs
  · exact (share_ok all a n c xs w h hs).mono fun e w' ⟨⟨Z, h1, h2⟩, hb⟩ => ⟨⟨Z, .inr ⟨hs, h1⟩, h2⟩, hb⟩
  · exact (share_no all a n c xs w h hs).mono fun e w' ⟨h1, hb⟩ => ⟨⟨[], .inl ⟨hs, rfl⟩, h1⟩, hb⟩
theorem nshare_any (all : Int) (a : Option Addr) (n c : Nat) (xs : List Int) (w : World) (h : IntsAt w a n c xs) : Calls Try.prog 18 #[.int .i64 all, .slice a n c] w fun e w' => (∃ Z, ((¬ RightS xs ∧ Z = []) ∨ (RightS xs ∧ IsRef xs (fitI all) Z)) ∧ BackS Z e w') ∧ Below w.heap.size w w' := by
  by_cases hs : RightS xs
  · exact (nshare_ok all a n c xs w h hs).mono fun e w' ⟨⟨Z, h1, h2⟩, hb⟩ => ⟨⟨Z, .inr ⟨hs, h1⟩, h2⟩, hb⟩
  · exact (nshare_no all a n c xs w h hs).mono fun e w' ⟨h1, hb⟩ => ⟨⟨[], .inl ⟨hs, rfl⟩, h1⟩, hb⟩
theorem equal_sameS (a a' : Option Addr) (n n' c c' : Nat) (xs : List Int) (w : World) (h : IntsAt w a n c xs) (h' : IntsAt w a' n' c' xs) :
    Calls Try.prog 9 #[.slice a n c, .slice a' n' c'] w fun e w' => e = .returned (.bool true) ∧ Below w.heap.size w w' :=
  (equal_any a a' n n' c c' xs xs w h h').mono fun e w' ⟨he, hb⟩ => ⟨by rw [he]; simp, hb⟩
set_option maxRecDepth 100000 in
set_option maxHeartbeats 4000000 in
theorem shareTellsW0 (all : Int) (a : Option Addr) (n c : Nat) (xs : List Int) (w : World) (h : IntsAt w a n c xs) (t : Bool) (ht : t = true ↔ RightS xs) :
    Calls Try.prog 4 #[.int .i64 all, .slice a n c] w fun e w' => e = .returned (.bool true) ∧ Below w.heap.size w w' := by
  have isb : ∀ e, IsB (RightS xs) e → e = .returned (.bool t) := fun e ⟨r, hr, he⟩ => by
    rw [he]
    exact retB (by
      have h1 : r = true ↔ t = true := hr.trans ht.symm
      cases r <;> cases t <;> simp_all)
  have HH := hide h
  have H13 := hide (fun (w' : World) (hw : Below w.heap.size w w') => even_any a n c xs w' (h.below hw))
  have H14 := hide (fun (w' : World) (hw : Below w.heap.size w w') => neven_any a n c xs w' (h.below hw))
  have H15 : Hid (∀ w' : World, Below w.heap.size w w' → Calls Try.prog 15 #[.slice a n c] w' fun e w'' => e = .returned (.bool t) ∧ w' = w'') := fun w' hw => (sRight_any a n c xs w' (h.below hw)).mono fun e w'' ⟨h1, hb⟩ => ⟨isb e h1, hb⟩
  have H16 : Hid (∀ w' : World, Below w.heap.size w w' → Calls Try.prog 16 #[.slice a n c] w' fun e w'' => e = .returned (.bool t) ∧ w' = w'') := fun w' hw => (nRight_any a n c xs w' (h.below hw)).mono fun e w'' ⟨h1, hb⟩ => ⟨isb e h1, hb⟩
  have H17 := hide (fun (w' : World) (hw : Below w.heap.size w w') => share_any all a n c xs w' (h.below hw))
  have H18 := hide (fun (w' : World) (hw : Below w.heap.size w w') => nshare_any all a n c xs w' (h.below hw))
  clear h ht isb
  obtain ⟨S, hS⟩ : ∃ S, w.heap.size = S := ⟨_, rfl⟩
  go_enter Try.func4, Try.ntmps4
  go_wp2_with fail
  refine (H13.out w (Below.refl _ _)).mono ?_
  rintro e w1 ⟨⟨u, v, r, hE, rfl⟩, hB1⟩
  have HE := hide hE
  have b1s := hB1.size
  have HB1 := hide (hB1.alloc b1s (.cells #[.int .i64 u, .int .i64 v] 30))
  obtain ⟨T, hT⟩ : ∃ T, w1.heap.size = T := ⟨_, rfl⟩
  obtain ⟨X1, hX1⟩ : ∃ X, X = w1.alloc (.cells #[.int .i64 u, .int .i64 v] 30) := ⟨_, rfl⟩
  have c0 : X1.cell? ⟨T, 0, none⟩ = some (.int .i64 u) := by rw [hX1, ← hT]; simp [go_sem]
  have c1 : X1.cell? ⟨T, 1, none⟩ = some (.int .i64 v) := by rw [hX1, ← hT]; simp [go_sem]
  rw [← hX1] at HB1
  have HX1 := hide hX1
  clear hX1 hB1 hE H13
  go_upto_region 2 with fail
  rw [← HX1.out]
  clear HX1
  go_wp2_with fail
  refine (H14.out X1 HB1.out).mono ?_
  rintro e w2 ⟨⟨u', v', r', hE', rfl⟩, hB2⟩
  obtain ⟨rfl, rfl, rfl⟩ := isEven_one HE.out hE'
  have hlt : T < X1.heap.size := World.block_lt_of_cell? X1 _ c0
  have hA : Below X1.heap.size X1 (w2.alloc (.cells #[.int .i64 u, .int .i64 v] 30)) := hB2.alloc hB2.size _
  obtain ⟨U, hU⟩ : ∃ U, w2.heap.size = U := ⟨_, rfl⟩
  obtain ⟨X2, hX2⟩ : ∃ X, X = w2.alloc (.cells #[.int .i64 u, .int .i64 v] 30) := ⟨_, rfl⟩
  have d0 : X2.cell? ⟨U, 0, none⟩ = some (.int .i64 u) := by rw [hX2, ← hU]; simp [go_sem]
  have d1 : X2.cell? ⟨U, 1, none⟩ = some (.int .i64 v) := by rw [hX2, ← hU]; simp [go_sem]
  rw [← hX2] at hA
  have c0 : X2.cell? ⟨T, 0, none⟩ = some (.int .i64 u) := (hA.cell hlt).trans c0
  have c1 : X2.cell? ⟨T, 1, none⟩ = some (.int .i64 v) := (hA.cell hlt).trans c1
  have HB2 := hide (HB1.out.trans (hA.mono HB1.out.size))
  have HX2 := hide hX2
  clear hX2 hB2 hE' hA HB1 hlt H14
  go_upto_region 3 with fail
  rw [← HX2.out]
  clear HX2
  have k0 : T < X2.heap.size := World.block_lt_of_cell? X2 _ c0
  have k1 : U < X2.heap.size := World.block_lt_of_cell? X2 _ d0
  go_wp2_with (first | (go_at_call 15; refine (H15.out X2 HB2.out).mono ?_; rintro e w3 ⟨rfl, rfl⟩) | (go_at_call 16; refine (H16.out X2 HB2.out).mono ?_; rintro e w3 ⟨rfl, rfl⟩))
  refine (H17.out X2 HB2.out).mono ?_
  rintro e w3 ⟨⟨Z, hZ, b3, m3, e3, rfl, hI3⟩, hB3⟩
  have HZ := hide hZ
  have HI3 := hide hI3
  have HA3 := hide hB3
  have HB3 := hide (HB2.out.trans (hB3.mono HB2.out.size))
  clear hZ hI3 hB3 H15 H16 H17
  go_wp2_with fail
  refine (H18.out w3 HB3.out).mono ?_
  rintro e w4 ⟨⟨Z', hZ', b4, m4, e4, rfl, hI4⟩, hB4⟩
  have hzz : Z' = Z := by
    rcases HZ.out with ⟨q1, rfl⟩ | ⟨q1, q2⟩
    · rcases hZ' with ⟨_, rfl⟩ | ⟨p1, _⟩
      · rfl
      · exact absurd p1 q1
    · rcases hZ' with ⟨p1, _⟩ | ⟨_, p2⟩
      · exact absurd q1 p1
      · exact (share_same q1.2 (fit_ge all) q2 p2).symm
  subst hzz
  have HI3 := hide (HI3.out.below hB4)
  have HI4 := hide hI4
  have HA4 := hide (HA3.out.trans (hB4.mono HA3.out.size))
  have HB4 := hide (HB3.out.trans (hB4.mono HB3.out.size))
  clear hZ' hI4 hB4 H18 HZ HA3 HB3
  go_wp2_with fail
  refine (equal_sameS _ _ _ _ _ _ _ w4 HI3.out HI4.out).mono ?_
  rintro e w5 ⟨rfl, hB5⟩
  have hA5 := HA4.out.trans (hB5.mono HA4.out.size)
  have HB5 := hide (HB4.out.trans (hB5.mono HB4.out.size))
  have c0 : w5.cell? ⟨T, 0, none⟩ = some (.int .i64 u) := (hA5.cell k0).trans c0
  have c1 : w5.cell? ⟨T, 1, none⟩ = some (.int .i64 v) := (hA5.cell k0).trans c1
  have d0 : w5.cell? ⟨U, 0, none⟩ = some (.int .i64 u) := (hA5.cell k1).trans d0
  have d1 : w5.cell? ⟨U, 1, none⟩ = some (.int .i64 v) := (hA5.cell k1).trans d1
  have E1 := eqFracF (even_wf HE.out).1 (even_wf HE.out).2
  clear hA5 hB5 HB4 HA4 HI3 HI4 HB2 k0 k1
  go_wp2
  go_ret
  exact ⟨by first | rfl | simp, HB5.out⟩
theorem shareTellsW (all : Int) (hall : (Lit.int .i64 all).wf = true) (a : Option Addr) (n c : Nat) (xs : List Int) {w : World} (h : IntsAt w a n c xs) :
    Calls Try.prog 4 #[.int .i64 all, .slice a n c] w fun e w' => e = .returned (.bool true) ∧ Below w.heap.size w w' := by
  by_cases hs : RightS xs
  · exact shareTellsW0 all a n c xs w h true (by simp [hs])
  · exact shareTellsW0 all a n c xs w h false (by simp [hs])

end Go.Proofs.Ythjicnddfjpnjaa
