/-
  Lemmas and walks for the statement: Duel5, Duel6.
-/
import Derived.Test.YtjjikhaaimfneaaGreatDoorE11
import Derived.Test.YtjjikhaaimfneaaGreatDoorE04
import Derived.Test.YtjjikhaaimfneaaGreatDoorE05
namespace Go.Proofs.YtjjikhaaimfneaaGreatDoor
open Go.RowKit
set_option linter.unusedSimpArgs false
set_option linter.unusedVariables false
attribute [local go_sem] iteMin iteMax iteMinN iteMaxN
set_option maxRecDepth 100000 in
set_option maxHeartbeats 8000000 in
theorem pnext_g (F : Nat) (k n b y s p d k' n' b' y' s' p' r : Int) (t : Bool) (ht : (r == 0) = t) (hF : (k = 1 ∧ F = 138) ∨ (k = 2 ∧ F = 139) ∨ ((¬ k = 1 ∧ ¬ k = 2) ∧ F = 140))
 (h : ∀ w : World, Calls Tryz.prog F #[.agg #[.int .i64 k, .int .i64 n, .int .i64 b, .int .i64 y, .int .i64 s, .int .i64 p], .int .i64 d] w fun e w' => e = .returned (.tuple #[.agg #[.int .i64 k', .int .i64 n', .int .i64 b', .int .i64 y', .int .i64 s', .int .i64 p'], .int .i64 r]) ∧ Below w.heap.size w w') (w : World) :
 Calls Tryz.prog 110 #[.agg #[.int .i64 k, .int .i64 n, .int .i64 b, .int .i64 y, .int .i64 s, .int .i64 p], .int .i64 d] w fun e w' => e = .returned (.tuple #[.agg #[.int .i64 k', .int .i64 n', .int .i64 b', .int .i64 y', .int .i64 s', .int .i64 p'], .bool t]) ∧ Below w.heap.size w w' := by
 have H := hide h
 clear h
 rcases hF with ⟨hc, rfl⟩ | ⟨hc, rfl⟩ | ⟨hc, rfl⟩
 case' inl => have g1 : (k == 1) = true := by simp [hc]
 case' inr.inl =>
  have g1 : (k == 1) = false := by simp; omega
  have g2 : (k == 2) = true := by simp [hc]
 case' inr.inr =>
  have g1 : (k == 1) = false := by simp; omega
  have g2 : (k == 2) = false := by simp; omega
 all_goals
  clear hc
  obtain ⟨S, hS⟩ : ∃ S, w.heap.size = S := ⟨_, rfl⟩
  go_enter Tryz.func110, Tryz.ntmps110
  go_wp2_with fail
  obtain ⟨W, hW⟩ : ∃ W, W = (w.alloc (.cells #[.int .i64 k, .int .i64 n, .int .i64 b, .int .i64 y, .int .i64 s, .int .i64 p] 36)).alloc (.cells #[.int .i64 0, .int .i64 0, .int .i64 0, .int .i64 0, .int .i64 0, .int .i64 0] 36) := ⟨_, rfl⟩
  rw [← hW]
  have P := (Blk.new w [.int .i64 k, .int .i64 n, .int .i64 b, .int .i64 y, .int .i64 s, .int .i64 p] 36).alloc (.cells #[.int .i64 0, .int .i64 0, .int .i64 0, .int .i64 0, .int .i64 0, .int .i64 0] 36)
  have Q := Blk.new (w.alloc (.cells #[.int .i64 k, .int .i64 n, .int .i64 b, .int .i64 y, .int .i64 s, .int .i64 p] 36)) [.int .i64 0, .int .i64 0, .int .i64 0, .int .i64 0, .int .i64 0, .int .i64 0] 36
  have BS : Below S w W := by rw [hW, ← hS]; exact ((Below.refl _ _).alloc (Nat.le_refl _) _).alloc (by simp) _
  rw [← hW] at P
  rw [← hW] at Q
  simp only [World.size_alloc, hS] at P Q
  clear hW
  refine (H.out W).mono ?_
  rintro e w1 ⟨rfl, hB⟩
  have BS := BS.trans (hB.mono (by have := P.lt; omega))
  have P := P.below hB P.lt
  have Q := Q.below hB Q.lt
  clear hB
  obtain ⟨a_0, a_f0, a_1, a_f1, a_2, a_f2, a_3, a_f3, a_4, a_f4, a_5, a_f5⟩ := P.cf6
  obtain ⟨q_0, q_f0, q_1, q_f1, q_2, q_f2, q_3, q_f3, q_4, q_f4, q_5, q_f5⟩ := Q.cf6
  have HP := hide P; have HQ := hide Q; have HBS := hide BS
  clear P Q BS
  go_wp2
  obtain ⟨Z, hZ⟩ : ∃ Z, Z = ((((((((((((w1.setCell ⟨S, 0, none⟩ (.int .i64 k')).setCell ⟨S, 1, none⟩ (.int .i64 n')).setCell ⟨S, 2, none⟩ (.int .i64 b')).setCell ⟨S, 3, none⟩ (.int .i64 y')).setCell ⟨S, 4, none⟩ (.int .i64 s')).setCell ⟨S, 5, none⟩ (.int .i64 p')).setCell ⟨S + 1, 0, none⟩ (.int .i64 k')).setCell ⟨S + 1, 1, none⟩ (.int .i64 n')).setCell ⟨S + 1, 2, none⟩ (.int .i64 b')).setCell ⟨S + 1, 3, none⟩ (.int .i64 y')).setCell ⟨S + 1, 4, none⟩ (.int .i64 s')).setCell ⟨S + 1, 5, none⟩ (.int .i64 p')) := ⟨_, rfl⟩
  have z : Blk Z (S + 1) [.int .i64 k', .int .i64 n', .int .i64 b', .int .i64 y', .int .i64 s', .int .i64 p'] := by rw [hZ]; exact ((((((((((((HQ.out.other ⟨S, 0, none⟩ (.int .i64 k') (by simp only; omega)).other ⟨S, 1, none⟩ (.int .i64 n') (by simp only; omega)).other ⟨S, 2, none⟩ (.int .i64 b') (by simp only; omega)).other ⟨S, 3, none⟩ (.int .i64 y') (by simp only; omega)).other ⟨S, 4, none⟩ (.int .i64 s') (by simp only; omega)).other ⟨S, 5, none⟩ (.int .i64 p') (by simp only; omega)).set (j := 0) (by simp) (.int .i64 k')).set (j := 1) (by simp) (.int .i64 n')).set (j := 2) (by simp) (.int .i64 b')).set (j := 3) (by simp) (.int .i64 y')).set (j := 4) (by simp) (.int .i64 s')).set (j := 5) (by simp) (.int .i64 p'))
  have zB : Below S w Z := by rw [hZ]; exact ((((((((((((HBS.out.setCell (p := ⟨S, 0, none⟩) (by simp only; omega) _).setCell (p := ⟨S, 1, none⟩) (by simp only; omega) _).setCell (p := ⟨S, 2, none⟩) (by simp only; omega) _).setCell (p := ⟨S, 3, none⟩) (by simp only; omega) _).setCell (p := ⟨S, 4, none⟩) (by simp only; omega) _).setCell (p := ⟨S, 5, none⟩) (by simp only; omega) _).setCell (p := ⟨S + 1, 0, none⟩) (by simp only; omega) _).setCell (p := ⟨S + 1, 1, none⟩) (by simp only; omega) _).setCell (p := ⟨S + 1, 2, none⟩) (by simp only; omega) _).setCell (p := ⟨S + 1, 3, none⟩) (by simp only; omega) _).setCell (p := ⟨S + 1, 4, none⟩) (by simp only; omega) _).setCell (p := ⟨S + 1, 5, none⟩) (by simp only; omega) _)
  rw [← hZ]
  clear hZ
  obtain ⟨z_0, z_1, z_2, z_3, z_4, z_5⟩ := z.c6
  refine bodyPost_ret (v := .tuple #[.agg #[.int .i64 k', .int .i64 n', .int .i64 b', .int .i64 y', .int .i64 s', .int .i64 p'], .bool t]) ?_ rfl ⟨rfl, ?_⟩
  · simp [results, Tryz.f110, go_sem, *]
  · first | exact zB | (rw [hS]; exact zB)
theorem pnext_1 (k n b y s p d k' n' b' y' s' p' r : Int) (t : Bool) (ht : (r == 0) = t) (hc : k = 1)
 (h : ∀ w : World, Calls Tryz.prog 138 #[.agg #[.int .i64 k, .int .i64 n, .int .i64 b, .int .i64 y, .int .i64 s, .int .i64 p], .int .i64 d] w fun e w' => e = .returned (.tuple #[.agg #[.int .i64 k', .int .i64 n', .int .i64 b', .int .i64 y', .int .i64 s', .int .i64 p'], .int .i64 r]) ∧ Below w.heap.size w w') (w : World) :
 Calls Tryz.prog 110 #[.agg #[.int .i64 k, .int .i64 n, .int .i64 b, .int .i64 y, .int .i64 s, .int .i64 p], .int .i64 d] w fun e w' => e = .returned (.tuple #[.agg #[.int .i64 k', .int .i64 n', .int .i64 b', .int .i64 y', .int .i64 s', .int .i64 p'], .bool t]) ∧ Below w.heap.size w w' := pnext_g _ k n b y s p d k' n' b' y' s' p' r t ht (.inl ⟨hc, rfl⟩) h w
theorem pnext_2 (k n b y s p d k' n' b' y' s' p' r : Int) (t : Bool) (ht : (r == 0) = t) (hc : k = 2)
 (h : ∀ w : World, Calls Tryz.prog 139 #[.agg #[.int .i64 k, .int .i64 n, .int .i64 b, .int .i64 y, .int .i64 s, .int .i64 p], .int .i64 d] w fun e w' => e = .returned (.tuple #[.agg #[.int .i64 k', .int .i64 n', .int .i64 b', .int .i64 y', .int .i64 s', .int .i64 p'], .int .i64 r]) ∧ Below w.heap.size w w') (w : World) :
 Calls Tryz.prog 110 #[.agg #[.int .i64 k, .int .i64 n, .int .i64 b, .int .i64 y, .int .i64 s, .int .i64 p], .int .i64 d] w fun e w' => e = .returned (.tuple #[.agg #[.int .i64 k', .int .i64 n', .int .i64 b', .int .i64 y', .int .i64 s', .int .i64 p'], .bool t]) ∧ Below w.heap.size w w' := pnext_g _ k n b y s p d k' n' b' y' s' p' r t ht (.inr (.inl ⟨hc, rfl⟩)) h w
theorem pnext_3 (k n b y s p d k' n' b' y' s' p' r : Int) (t : Bool) (ht : (r == 0) = t) (hc : ¬ k = 1 ∧ ¬ k = 2)
 (h : ∀ w : World, Calls Tryz.prog 140 #[.agg #[.int .i64 k, .int .i64 n, .int .i64 b, .int .i64 y, .int .i64 s, .int .i64 p], .int .i64 d] w fun e w' => e = .returned (.tuple #[.agg #[.int .i64 k', .int .i64 n', .int .i64 b', .int .i64 y', .int .i64 s', .int .i64 p'], .int .i64 r]) ∧ Below w.heap.size w w') (w : World) :
 Calls Tryz.prog 110 #[.agg #[.int .i64 k, .int .i64 n, .int .i64 b, .int .i64 y, .int .i64 s, .int .i64 p], .int .i64 d] w fun e w' => e = .returned (.tuple #[.agg #[.int .i64 k', .int .i64 n', .int .i64 b', .int .i64 y', .int .i64 s', .int .i64 p'], .bool t]) ∧ Below w.heap.size w w' := pnext_g _ k n b y s p d k' n' b' y' s' p' r t ht (.inr (.inr ⟨hc, rfl⟩)) h w
end Go.Proofs.YtjjikhaaimfneaaGreatDoor
namespace Go.Proofs.YtjjikhaaimfneaaGreatDoor
open Go.RowKit
set_option linter.unusedSimpArgs false
set_option linter.unusedVariables false
attribute [local go_sem] iteMin iteMax iteMinN iteMaxN
def rightK (kd : Int) (c : Ctl) : Bool := if kd = 1 then vegRight c else if kd = 2 then copRight c else ledRight c
def EntersF (g : Nat) : Prop := ∀ (args : Array Value) (w : World), (callFunc g args).run Tryz.prog w = .ok (.enter g args) w
def BeginIs (f : Nat) (kd : Int) : Prop := ∀ w : World, Calls Tryz.prog f #[.int .i64 1] w fun e w' => e = .returned (.agg #[.int .i64 kd, .int .i64 1, .int .i64 (-1), .int .i64 0, .int .i64 0, .int .i64 0]) ∧ Below w.heap.size w w'
def RightIs (g : Nat) (kd : Int) : Prop := ∀ (k n b y s p : Int) (w : World), Calls Tryz.prog g #[.agg #[.int .i64 k, .int .i64 n, .int .i64 b, .int .i64 y, .int .i64 s, .int .i64 p]] w fun e w' => e = .returned (.bool (rightK kd ⟨k, n, b, y, s, p⟩)) ∧ Below w.heap.size w w'
def NextIs (h : Nat) (kd : Int) : Prop := ∀ (k n b y s p d : Int), rightK kd ⟨k, n, b, y, s, p⟩ = true → 0 ≤ d → d ≤ 1099511627776 → ∃ k' n' b' y' s' p' : Int, rightK kd ⟨k', n', b', y', s', p'⟩ = true ∧
 (∀ w : World, Calls Tryz.prog h #[.agg #[.int .i64 k, .int .i64 n, .int .i64 b, .int .i64 y, .int .i64 s, .int .i64 p], .int .i64 d] w fun e w' => e = .returned (.tuple #[.agg #[.int .i64 k', .int .i64 n', .int .i64 b', .int .i64 y', .int .i64 s', .int .i64 p'], .int .i64 0]) ∧ Below w.heap.size w w') ∧
 (∀ w : World, Calls Tryz.prog 110 #[.agg #[.int .i64 k, .int .i64 n, .int .i64 b, .int .i64 y, .int .i64 s, .int .i64 p], .int .i64 d] w fun e w' => e = .returned (.tuple #[.agg #[.int .i64 k', .int .i64 n', .int .i64 b', .int .i64 y', .int .i64 s', .int .i64 p'], .bool true]) ∧ Below w.heap.size w w')
def KindIs (kd : Int) (f g h : Nat) : Prop := EntersF f ∧ EntersF g ∧ EntersF h ∧ BeginIs f kd ∧ RightIs g kd ∧ NextIs h kd
theorem kind_of_veg {c : Ctl} (h : vegRight c = true) : c.kind = 1 := by simp only [vegRight, decide_eq_true_eq] at h; omega
theorem kind_of_cop {c : Ctl} (h : copRight c = true) : c.kind = 2 := by simp only [copRight, decide_eq_true_eq] at h; omega
theorem kind_of_led {c : Ctl} (h : ledRight c = true) : c.kind = 3 := by simp only [ledRight, decide_eq_true_eq] at h; omega
theorem kindIs_1 : KindIs 1 112 113 114 := ⟨enters_of Tryz.func112 (by kernel_rfl) rfl, enters_of Tryz.func113 (by kernel_rfl) rfl, enters_of Tryz.func114 (by kernel_rfl) rfl, vegNew_any 1, vegRight_any, fun k n b y s p d hr g0 g1 => by
 obtain ⟨k', n', b', y', s', p', h0, h1, h2⟩ := veg_both hr g0 g1
 exact ⟨k', n', b', y', s', p', h0, h1, fun w => pnext_1 k n b y s p d k' n' b' y' s' p' 0 true rfl (kind_of_veg hr) h2 w⟩⟩
theorem kindIs_2 : KindIs 2 115 116 117 := ⟨enters_of Tryz.func115 (by kernel_rfl) rfl, enters_of Tryz.func116 (by kernel_rfl) rfl, enters_of Tryz.func117 (by kernel_rfl) rfl, copNew_any 1, copRight_any, fun k n b y s p d hr g0 g1 => by
 obtain ⟨k', n', b', y', s', p', h0, h1, h2⟩ := cop_both hr g0 g1
 exact ⟨k', n', b', y', s', p', h0, h1, fun w => pnext_2 k n b y s p d k' n' b' y' s' p' 0 true rfl (kind_of_cop hr) h2 w⟩⟩
theorem kindIs_3 : KindIs 3 16 33 17 := ⟨enters_of Tryz.func16 (by kernel_rfl) rfl, enters_of Tryz.func33 (by kernel_rfl) rfl, enters_of Tryz.func17 (by kernel_rfl) rfl, ledNew_any 1, ledRight_any, fun k n b y s p d hr g0 g1 => by
 obtain ⟨k', n', b', y', s', p', h0, h1, h2⟩ := led_both hr g0 g1
 exact ⟨k', n', b', y', s', p', h0, h1, fun w => pnext_3 k n b y s p d k' n' b' y' s' p' 0 true rfl (by have := kind_of_led hr; simp only at this; omega) h2 w⟩⟩
theorem of_gen (k : Int) (h1 : 1 ≤ k) (h2 : k ≤ 3) : ∃ f g h : Nat, Hid (KindIs k f g h) ∧ ∀ w : World, Calls Tryz.prog 87 #[.int .i64 k] w fun e w' => e = .returned (.tuple #[.agg #[.func (.func f) #[] #[], .func (.func g) #[] #[], .func (.func h) #[] #[]], .bool true]) ∧ Below w.heap.size w w' := by
 rcases (show k = 1 ∨ k = 2 ∨ k = 3 by omega) with rfl | rfl | rfl
 · exact ⟨_, _, _, hide kindIs_1, of_1⟩
 · exact ⟨_, _, _, hide kindIs_2, of_2⟩
 · exact ⟨_, _, _, hide kindIs_3, of_3⟩
theorem pnext_zero (k n b y s p : Int) : ∃ (k' n' b' y' s' p' : Int) (t : Bool), (∀ kd, 1 ≤ kd → kd ≤ 3 → k = kd → t = rightK kd ⟨k, n, b, y, s, p⟩) ∧
 ∀ w : World, Calls Tryz.prog 110 #[.agg #[.int .i64 k, .int .i64 n, .int .i64 b, .int .i64 y, .int .i64 s, .int .i64 p], .int .i64 0] w fun e w' => e = .returned (.tuple #[.agg #[.int .i64 k', .int .i64 n', .int .i64 b', .int .i64 y', .int .i64 s', .int .i64 p'], .bool t]) ∧ Below w.heap.size w w' := by
 by_cases h1 : k = 1
 · cases hr : vegRight ⟨k, n, b, y, s, p⟩ with
   | true =>
     obtain ⟨k', n', b', y', s', p', _, _, h2⟩ := veg_both hr (d := 0) (by omega) (by omega)
     exact ⟨k', n', b', y', s', p', true, fun kd _ _ e => by subst e; subst h1; unfold rightK; simp [hr], fun w => pnext_1 k n b y s p 0 k' n' b' y' s' p' 0 true rfl h1 h2 w⟩
   | false => exact ⟨_, _, _, _, _, _, false, fun kd _ _ e => by subst e; subst h1; unfold rightK; simp [hr], fun w => pnext_1 k n b y s p 0 0 0 0 0 0 0 1 false rfl h1 (kNext_bad k n b y s p 0 hr) w⟩
 by_cases h2 : k = 2
 · cases hr : copRight ⟨k, n, b, y, s, p⟩ with
   | true =>
     obtain ⟨k', n', b', y', s', p', _, _, h3⟩ := cop_both hr (d := 0) (by omega) (by omega)
     exact ⟨k', n', b', y', s', p', true, fun kd _ _ e => by subst e; subst h2; unfold rightK; simp [hr], fun w => pnext_2 k n b y s p 0 k' n' b' y' s' p' 0 true rfl h2 h3 w⟩
   | false => exact ⟨_, _, _, _, _, _, false, fun kd _ _ e => by subst e; subst h2; unfold rightK; simp [hr], fun w => pnext_2 k n b y s p 0 0 0 0 0 0 0 1 false rfl h2 (lNext_bad k n b y s p 0 hr) w⟩
 · cases hr : ledRight ⟨k, n, b, y, s, p⟩ with
   | true =>
     obtain ⟨k', n', b', y', s', p', _, _, h3⟩ := led_both hr (d := 0) (by omega) (by omega)
     exact ⟨k', n', b', y', s', p', true, fun kd _ _ e => by subst e; unfold rightK; simp [hr, h1, h2], fun w => pnext_3 k n b y s p 0 k' n' b' y' s' p' 0 true rfl ⟨h1, h2⟩ h3 w⟩
   | false => exact ⟨_, _, _, _, _, _, false, fun kd _ _ e => by subst e; unfold rightK; simp [hr, h1, h2], fun w => pnext_3 k n b y s p 0 0 0 0 0 0 0 1 false rfl ⟨h1, h2⟩ (mNext_bad k n b y s p 0 hr) w⟩
end Go.Proofs.YtjjikhaaimfneaaGreatDoor
