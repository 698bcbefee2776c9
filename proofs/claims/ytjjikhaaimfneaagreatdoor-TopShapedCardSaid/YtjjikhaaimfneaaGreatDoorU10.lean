/-
  Lemmas and walks for the statement: Duel5, Duel6, Duel7.
-/
import Derived.Test.YtjjikhaaimfneaaGreatDoorU09
import Derived.Test.YtjjikhaaimfneaaGreatDoorU03
import Derived.Test.YtjjikhaaimfneaaGreatDoorU04
import Derived.Deep.DeepCutAuto
import Derived.Shelf.Abstract
namespace Go.Proofs.YtjjikhaaimfneaaGreatDoor
open Go.RowKit
set_option linter.unusedSimpArgs false
set_option linter.unusedVariables false
attribute [local go_sem] iteMin iteMax iteMinN iteMaxN
set_option maxRecDepth 100000 in
set_option maxHeartbeats 8000000 in
theorem pnext_g (F : Nat) (k n b y s p d k' n' b' y' s' p' r : Int) (t : Bool) (ht : (r == 0) = t) (hF : (k = 1 ∧ F = 138) ∨ (k = 2 ∧ F = 139) ∨ ((¬ k = 1 ∧ ¬ k = 2) ∧ F = 140))
 (h : ∀ w : World, Calls Tryz.prog F #[.agg #[.int .i64 k, .int .i64 n, .int .i64 b, .int .i64 y, .int .i64 s, .int .i64 p], .int .i64 d] w fun e w' => e = .returned (.tuple #[.agg #[.int .i64 k', .int .i64 n', .int .i64 b', .int .i64 y', .int .i64 s', .int .i64 p'], .int .i64 r]) ∧ Below w.heap.size w w') (w : World) :
 Calls Tryz.prog 110 #[.agg #[.int .i64 k, .int .i64 n, .int .i64 b, .int .i64 y, .int .i64 s, .int .i64 p], .int .i64 d] w fun e w' => e = .returned (.tuple #[.agg #[.int .i64 k', .int .i64 n', .int .i64 b', .int .i64 y', .int .i64 s', .int .i64 p'], .bool t]) ∧ Below w.heap.size w w' := by
 have H := hide h
 clear h
 rcases hF with ⟨hc, rfl⟩ | ⟨hc, rfl⟩ | ⟨hc, rfl⟩
 case' inl => have g1 : (k == 1) = true := by simp [hc]
 case' inr.inl =>
  have g1 : (k == 1) = false := by simp; omega
  have g2 : (k == 2) = true := by simp [hc]
 case' inr.inr =>
  have g1 : (k == 1) = false := by simp; omega
  have g2 : (k == 2) = false := by simp; omega
 all_goals
  clear hc
  obtain ⟨S, hS⟩ : ∃ S, w.heap.size = S := ⟨_, rfl⟩
  go_enter Tryz.func110, Tryz.ntmps110
  go_wp2_with fail
  obtain ⟨W, hW⟩ : ∃ W, W = (w.alloc (.cells #[.int .i64 k, .int .i64 n, .int .i64 b, .int .i64 y, .int .i64 s, .int .i64 p] 36)).alloc (.cells #[.int .i64 0, .int .i64 0, .int .i64 0, .int .i64 0, .int .i64 0, .int .i64 0] 36) := ⟨_, rfl⟩
  rw [← hW]
  have P := (Blk.new w [.int .i64 k, .int .i64 n, .int .i64 b, .int .i64 y, .int .i64 s, .int .i64 p] 36).alloc (.cells #[.int .i64 0, .int .i64 0, .int .i64 0, .int .i64 0, .int .i64 0, .int .i64 0] 36)
  have Q := Blk.new (w.alloc (.cells #[.int .i64 k, .int .i64 n, .int .i64 b, .int .i64 y, .int .i64 s, .int .i64 p] 36)) [.int .i64 0, .int .i64 0, .int .i64 0, .int .i64 0, .int .i64 0, .int .i64 0] 36
  have BS : Below S w W := by rw [hW, ← hS]; exact ((Below.refl _ _).alloc (Nat.le_refl _) _).alloc (by simp) _
  rw [← hW] at P
  rw [← hW] at Q
  simp only [World.size_alloc, hS] at P Q
  clear hW
  refine (H.out W).mono ?_
  rintro e w1 ⟨rfl, hB⟩
  have BS := BS.trans (hB.mono (by have := P.lt; omega))
  have P := P.below hB P.lt
  have Q := Q.below hB Q.lt
  clear hB
  obtain ⟨a_0, a_f0, a_1, a_f1, a_2, a_f2, a_3, a_f3, a_4, a_f4, a_5, a_f5⟩ := P.cf6
  obtain ⟨q_0, q_f0, q_1, q_f1, q_2, q_f2, q_3, q_f3, q_4, q_f4, q_5, q_f5⟩ := Q.cf6
  have HP := hide P; have HQ := hide Q; have HBS := hide BS
  clear P Q BS
  go_wp2
  obtain ⟨Z, hZ⟩ : ∃ Z, Z = ((((((((((((w1.setCell ⟨S, 0, none⟩ (.int .i64 k')).setCell ⟨S, 1, none⟩ (.int .i64 n')).setCell ⟨S, 2, none⟩ (.int .i64 b')).setCell ⟨S, 3, none⟩ (.int .i64 y')).setCell ⟨S, 4, none⟩ (.int .i64 s')).setCell ⟨S, 5, none⟩ (.int .i64 p')).setCell ⟨S + 1, 0, none⟩ (.int .i64 k')).setCell ⟨S + 1, 1, none⟩ (.int .i64 n')).setCell ⟨S + 1, 2, none⟩ (.int .i64 b')).setCell ⟨S + 1, 3, none⟩ (.int .i64 y')).setCell ⟨S + 1, 4, none⟩ (.int .i64 s')).setCell ⟨S + 1, 5, none⟩ (.int .i64 p')) := ⟨_, rfl⟩
  have z : Blk Z (S + 1) [.int .i64 k', .int .i64 n', .int .i64 b', .int .i64 y', .int .i64 s', .int .i64 p'] := by rw [hZ]; exact ((((((((((((HQ.out.other ⟨S, 0, none⟩ (.int .i64 k') (by simp only; omega)).other ⟨S, 1, none⟩ (.int .i64 n') (by simp only; omega)).other ⟨S, 2, none⟩ (.int .i64 b') (by simp only; omega)).other ⟨S, 3, none⟩ (.int .i64 y') (by simp only; omega)).other ⟨S, 4, none⟩ (.int .i64 s') (by simp only; omega)).other ⟨S, 5, none⟩ (.int .i64 p') (by simp only; omega)).set (j := 0) (by simp) (.int .i64 k')).set (j := 1) (by simp) (.int .i64 n')).set (j := 2) (by simp) (.int .i64 b')).set (j := 3) (by simp) (.int .i64 y')).set (j := 4) (by simp) (.int .i64 s')).set (j := 5) (by simp) (.int .i64 p'))
  have zB : Below S w Z := by rw [hZ]; exact ((((((((((((HBS.out.setCell (p := ⟨S, 0, none⟩) (by simp only; omega) _).setCell (p := ⟨S, 1, none⟩) (by simp only; omega) _).setCell (p := ⟨S, 2, none⟩) (by simp only; omega) _).setCell (p := ⟨S, 3, none⟩) (by simp only; omega) _).setCell (p := ⟨S, 4, none⟩) (by simp only; omega) _).setCell (p := ⟨S, 5, none⟩) (by simp only; omega) _).setCell (p := ⟨S + 1, 0, none⟩) (by simp only; omega) _).setCell (p := ⟨S + 1, 1, none⟩) (by simp only; omega) _).setCell (p := ⟨S + 1, 2, none⟩) (by simp only; omega) _).setCell (p := ⟨S + 1, 3, none⟩) (by simp only; omega) _).setCell (p := ⟨S + 1, 4, none⟩) (by simp only; omega) _).setCell (p := ⟨S + 1, 5, none⟩) (by simp only; omega) _)
  rw [← hZ]
  clear hZ
  obtain ⟨z_0, z_1, z_2, z_3, z_4, z_5⟩ := z.c6
  refine bodyPost_ret (v := .tuple #[.agg #[.int .i64 k', .int .i64 n', .int .i64 b', .int .i64 y', .int .i64 s', .int .i64 p'], .bool t]) ?_ rfl ⟨rfl, ?_⟩
  · simp [results, Tryz.f110, go_sem, *]
  · first | exact zB | (rw [hS]; exact zB)
theorem pnext_1 (k n b y s p d k' n' b' y' s' p' r : Int) (t : Bool) (ht : (r == 0) = t) (hc : k = 1)
 (h : ∀ w : World, Calls Tryz.prog 138 #[.agg #[.int .i64 k, .int .i64 n, .int .i64 b, .int .i64 y, .int .i64 s, .int .i64 p], .int .i64 d] w fun e w' => e = .returned (.tuple #[.agg #[.int .i64 k', .int .i64 n', .int .i64 b', .int .i64 y', .int .i64 s', .int .i64 p'], .int .i64 r]) ∧ Below w.heap.size w w') (w : World) :
 Calls Tryz.prog 110 #[.agg #[.int .i64 k, .int .i64 n, .int .i64 b, .int .i64 y, .int .i64 s, .int .i64 p], .int .i64 d] w fun e w' => e = .returned (.tuple #[.agg #[.int .i64 k', .int .i64 n', .int .i64 b', .int .i64 y', .int .i64 s', .int .i64 p'], .bool t]) ∧ Below w.heap.size w w' := pnext_g _ k n b y s p d k' n' b' y' s' p' r t ht (.inl ⟨hc, rfl⟩) h w
theorem pnext_2 (k n b y s p d k' n' b' y' s' p' r : Int) (t : Bool) (ht : (r == 0) = t) (hc : k = 2)
 (h : ∀ w : World, Calls Tryz.prog 139 #[.agg #[.int .i64 k, .int .i64 n, .int .i64 b, .int .i64 y, .int .i64 s, .int .i64 p], .int .i64 d] w fun e w' => e = .returned (.tuple #[.agg #[.int .i64 k', .int .i64 n', .int .i64 b', .int .i64 y', .int .i64 s', .int .i64 p'], .int .i64 r]) ∧ Below w.heap.size w w') (w : World) :
 Calls Tryz.prog 110 #[.agg #[.int .i64 k, .int .i64 n, .int .i64 b, .int .i64 y, .int .i64 s, .int .i64 p], .int .i64 d] w fun e w' => e = .returned (.tuple #[.agg #[.int .i64 k', .int .i64 n', .int .i64 b', .int .i64 y', .int .i64 s', .int .i64 p'], .bool t]) ∧ Below w.heap.size w w' := pnext_g _ k n b y s p d k' n' b' y' s' p' r t ht (.inr (.inl ⟨hc, rfl⟩)) h w
theorem pnext_3 (k n b y s p d k' n' b' y' s' p' r : Int) (t : Bool) (ht : (r == 0) = t) (hc : ¬ k = 1 ∧ ¬ k = 2)
 (h : ∀ w : World, Calls Tryz.prog 140 #[.agg #[.int .i64 k, .int .i64 n, .int .i64 b, .int .i64 y, .int .i64 s, .int .i64 p], .int .i64 d] w fun e w' => e = .returned (.tuple #[.agg #[.int .i64 k', .int .i64 n', .int .i64 b', .int .i64 y', .int .i64 s', .int .i64 p'], .int .i64 r]) ∧ Below w.heap.size w w') (w : World) :
 Calls Tryz.prog 110 #[.agg #[.int .i64 k, .int .i64 n, .int .i64 b, .int .i64 y, .int .i64 s, .int .i64 p], .int .i64 d] w fun e w' => e = .returned (.tuple #[.agg #[.int .i64 k', .int .i64 n', .int .i64 b', .int .i64 y', .int .i64 s', .int .i64 p'], .bool t]) ∧ Below w.heap.size w w' := pnext_g _ k n b y s p d k' n' b' y' s' p' r t ht (.inr (.inr ⟨hc, rfl⟩)) h w
end Go.Proofs.YtjjikhaaimfneaaGreatDoor
namespace Go.Proofs.YtjjikhaaimfneaaGreatDoor
open Go.RowKit
set_option linter.unusedSimpArgs false
set_option linter.unusedVariables false
attribute [local go_sem] iteMin iteMax iteMinN iteMaxN
def rightK (kd : Int) (c : Ctl) : Bool := if kd = 1 then vegRight c else if kd = 2 then copRight c else ledRight c
def EntersF (g : Nat) : Prop := ∀ (args : Array Value) (w : World), (callFunc g args).run Tryz.prog w = .ok (.enter g args) w
def BeginIs (f : Nat) (kd : Int) : Prop := ∀ w : World, Calls Tryz.prog f #[.int .i64 1] w fun e w' => e = .returned (.agg #[.int .i64 kd, .int .i64 1, .int .i64 (-1), .int .i64 0, .int .i64 0, .int .i64 0]) ∧ Below w.heap.size w w'
def RightIs (g : Nat) (kd : Int) : Prop := ∀ (k n b y s p : Int) (w : World), Calls Tryz.prog g #[.agg #[.int .i64 k, .int .i64 n, .int .i64 b, .int .i64 y, .int .i64 s, .int .i64 p]] w fun e w' => e = .returned (.bool (rightK kd ⟨k, n, b, y, s, p⟩)) ∧ Below w.heap.size w w'
def NextIs (h : Nat) (kd : Int) : Prop := ∀ (k n b y s p d : Int), rightK kd ⟨k, n, b, y, s, p⟩ = true → 0 ≤ d → d ≤ 1099511627776 → ∃ k' n' b' y' s' p' : Int, rightK kd ⟨k', n', b', y', s', p'⟩ = true ∧
 (∀ w : World, Calls Tryz.prog h #[.agg #[.int .i64 k, .int .i64 n, .int .i64 b, .int .i64 y, .int .i64 s, .int .i64 p], .int .i64 d] w fun e w' => e = .returned (.tuple #[.agg #[.int .i64 k', .int .i64 n', .int .i64 b', .int .i64 y', .int .i64 s', .int .i64 p'], .int .i64 0]) ∧ Below w.heap.size w w') ∧
 (∀ w : World, Calls Tryz.prog 110 #[.agg #[.int .i64 k, .int .i64 n, .int .i64 b, .int .i64 y, .int .i64 s, .int .i64 p], .int .i64 d] w fun e w' => e = .returned (.tuple #[.agg #[.int .i64 k', .int .i64 n', .int .i64 b', .int .i64 y', .int .i64 s', .int .i64 p'], .bool true]) ∧ Below w.heap.size w w')
def KindIs (kd : Int) (f g h : Nat) : Prop := EntersF f ∧ EntersF g ∧ EntersF h ∧ BeginIs f kd ∧ RightIs g kd ∧ NextIs h kd
theorem kind_of_veg {c : Ctl} (h : vegRight c = true) : c.kind = 1 := by simp only [vegRight, decide_eq_true_eq] at h; omega
theorem kind_of_cop {c : Ctl} (h : copRight c = true) : c.kind = 2 := by simp only [copRight, decide_eq_true_eq] at h; omega
theorem kind_of_led {c : Ctl} (h : ledRight c = true) : c.kind = 3 := by simp only [ledRight, decide_eq_true_eq] at h; omega
theorem kindIs_1 : KindIs 1 112 113 114 := ⟨enters_of Tryz.func112 (by kernel_rfl) rfl, enters_of Tryz.func113 (by kernel_rfl) rfl, enters_of Tryz.func114 (by kernel_rfl) rfl, vegNew_any 1, vegRight_any, fun k n b y s p d hr g0 g1 => by
 obtain ⟨k', n', b', y', s', p', h0, h1, h2⟩ := veg_both hr g0 g1
 exact ⟨k', n', b', y', s', p', h0, h1, fun w => pnext_1 k n b y s p d k' n' b' y' s' p' 0 true rfl (kind_of_veg hr) h2 w⟩⟩
theorem kindIs_2 : KindIs 2 115 116 117 := ⟨enters_of Tryz.func115 (by kernel_rfl) rfl, enters_of Tryz.func116 (by kernel_rfl) rfl, enters_of Tryz.func117 (by kernel_rfl) rfl, copNew_any 1, copRight_any, fun k n b y s p d hr g0 g1 => by
 obtain ⟨k', n', b', y', s', p', h0, h1, h2⟩ := cop_both hr g0 g1
 exact ⟨k', n', b', y', s', p', h0, h1, fun w => pnext_2 k n b y s p d k' n' b' y' s' p' 0 true rfl (kind_of_cop hr) h2 w⟩⟩
theorem kindIs_3 : KindIs 3 16 33 17 := ⟨enters_of Tryz.func16 (by kernel_rfl) rfl, enters_of Tryz.func33 (by kernel_rfl) rfl, enters_of Tryz.func17 (by kernel_rfl) rfl, ledNew_any 1, ledRight_any, fun k n b y s p d hr g0 g1 => by
 obtain ⟨k', n', b', y', s', p', h0, h1, h2⟩ := led_both hr g0 g1
 exact ⟨k', n', b', y', s', p', h0, h1, fun w => pnext_3 k n b y s p d k' n' b' y' s' p' 0 true rfl (by have := kind_of_led hr; simp only at this; omega) h2 w⟩⟩
theorem of_gen (k : Int) (h1 : 1 ≤ k) (h2 : k ≤ 3) : ∃ f g h : Nat, Hid (KindIs k f g h) ∧ ∀ w : World, Calls Tryz.prog 87 #[.int .i64 k] w fun e w' => e = .returned (.tuple #[.agg #[.func (.func f) #[] #[], .func (.func g) #[] #[], .func (.func h) #[] #[]], .bool true]) ∧ Below w.heap.size w w' := by
 rcases (show k = 1 ∨ k = 2 ∨ k = 3 by omega) with rfl | rfl | rfl
 · exact ⟨_, _, _, hide kindIs_1, of_1⟩
 · exact ⟨_, _, _, hide kindIs_2, of_2⟩
 · exact ⟨_, _, _, hide kindIs_3, of_3⟩
theorem pnext_zero (k n b y s p : Int) : ∃ (k' n' b' y' s' p' : Int) (t : Bool), (∀ kd, 1 ≤ kd → kd ≤ 3 → k = kd → t = rightK kd ⟨k, n, b, y, s, p⟩) ∧
 ∀ w : World, Calls Tryz.prog 110 #[.agg #[.int .i64 k, .int .i64 n, .int .i64 b, .int .i64 y, .int .i64 s, .int .i64 p], .int .i64 0] w fun e w' => e = .returned (.tuple #[.agg #[.int .i64 k', .int .i64 n', .int .i64 b', .int .i64 y', .int .i64 s', .int .i64 p'], .bool t]) ∧ Below w.heap.size w w' := by
 by_cases h1 : k = 1
 · cases hr : vegRight ⟨k, n, b, y, s, p⟩ with
   | true =>
     obtain ⟨k', n', b', y', s', p', _, _, h2⟩ := veg_both hr (d := 0) (by omega) (by omega)
     exact ⟨k', n', b', y', s', p', true, fun kd _ _ e => by subst e; subst h1; unfold rightK; simp [hr], fun w => pnext_1 k n b y s p 0 k' n' b' y' s' p' 0 true rfl h1 h2 w⟩
   | false => exact ⟨_, _, _, _, _, _, false, fun kd _ _ e => by subst e; subst h1; unfold rightK; simp [hr], fun w => pnext_1 k n b y s p 0 0 0 0 0 0 0 1 false rfl h1 (kNext_bad k n b y s p 0 hr) w⟩
 by_cases h2 : k = 2
 · cases hr : copRight ⟨k, n, b, y, s, p⟩ with
   | true =>
     obtain ⟨k', n', b', y', s', p', _, _, h3⟩ := cop_both hr (d := 0) (by omega) (by omega)
     exact ⟨k', n', b', y', s', p', true, fun kd _ _ e => by subst e; subst h2; unfold rightK; simp [hr], fun w => pnext_2 k n b y s p 0 k' n' b' y' s' p' 0 true rfl h2 h3 w⟩
   | false => exact ⟨_, _, _, _, _, _, false, fun kd _ _ e => by subst e; subst h2; unfold rightK; simp [hr], fun w => pnext_2 k n b y s p 0 0 0 0 0 0 0 1 false rfl h2 (lNext_bad k n b y s p 0 hr) w⟩
 · cases hr : ledRight ⟨k, n, b, y, s, p⟩ with
   | true =>
     obtain ⟨k', n', b', y', s', p', _, _, h3⟩ := led_both hr (d := 0) (by omega) (by omega)
     exact ⟨k', n', b', y', s', p', true, fun kd _ _ e => by subst e; unfold rightK; simp [hr, h1, h2], fun w => pnext_3 k n b y s p 0 k' n' b' y' s' p' 0 true rfl ⟨h1, h2⟩ h3 w⟩
   | false => exact ⟨_, _, _, _, _, _, false, fun kd _ _ e => by subst e; unfold rightK; simp [hr, h1, h2], fun w => pnext_3 k n b y s p 0 0 0 0 0 0 0 1 false rfl ⟨h1, h2⟩ (mNext_bad k n b y s p 0 hr) w⟩
end Go.Proofs.YtjjikhaaimfneaaGreatDoor
namespace Go.Proofs.YtjjikhaaimfneaaGreatDoor
open Go.RowKit
set_option linter.unusedSimpArgs false
set_option linter.unusedVariables false
attribute [local go_sem] iteMin iteMax iteMinN iteMaxN
def StRight (k0 k1 R Q J a0 a1 a2 a3 a4 a5 b0 b1 b2 b3 b4 b5 x y : Int) : Prop := kindsOk k0 k1 ∧ rangeOk R Q J ∧ rightK k0 ⟨a0, a1, a2, a3, a4, a5⟩ = true ∧ rightK k1 ⟨b0, b1, b2, b3, b4, b5⟩ = true ∧ 0 ≤ x ∧ 0 ≤ y ∧ x + y ≤ Q
set_option maxRecDepth 100000 in
set_option maxHeartbeats 8000000 in
theorem dright_any (k0 k1 R Q J a0 a1 a2 a3 a4 a5 b0 b1 b2 b3 b4 b5 x y : Int) (w : World) : Calls Tryz.prog 89 #[.agg #[.int .i64 k0, .int .i64 k1, .int .i64 R, .int .i64 Q, .int .i64 J], .agg #[.int .i64 a0, .int .i64 a1, .int .i64 a2, .int .i64 a3, .int .i64 a4, .int .i64 a5, .int .i64 b0, .int .i64 b1, .int .i64 b2, .int .i64 b3, .int .i64 b4, .int .i64 b5, .int .i64 x, .int .i64 y]] w fun e w' => IsB (StRight k0 k1 R Q J a0 a1 a2 a3 a4 a5 b0 b1 b2 b3 b4 b5 x y) e ∧ Below w.heap.size w w' := by
 obtain ⟨S, hS⟩ : ∃ S, w.heap.size = S := ⟨_, rfl⟩
 have i0 : ∀ w : World, (Instr.index 47 (.agg #[.int .i64 k0, .int .i64 k1]) (.int .i64 0)).run Tryz.prog w = .ok (.int .i64 k0) w := fun _ => by kernel_rfl
 have i1 : ∀ w : World, (Instr.index 47 (.agg #[.int .i64 k0, .int .i64 k1]) (.int .i64 1)).run Tryz.prog w = .ok (.int .i64 k1) w := fun _ => by kernel_rfl
 go_enter Tryz.func89, Tryz.ntmps89
 go_wp2_with fail
 obtain ⟨W, hW⟩ : ∃ W, W = (w.alloc (.cells #[.int .i64 k0, .int .i64 k1, .int .i64 R, .int .i64 Q, .int .i64 J] 49)).alloc (.cells #[.int .i64 a0, .int .i64 a1, .int .i64 a2, .int .i64 a3, .int .i64 a4, .int .i64 a5, .int .i64 b0, .int .i64 b1, .int .i64 b2, .int .i64 b3, .int .i64 b4, .int .i64 b5, .int .i64 x, .int .i64 y] 133) := ⟨_, rfl⟩
 rw [← hW]
 have PR : Blk W S [.int .i64 k0, .int .i64 k1, .int .i64 R, .int .i64 Q, .int .i64 J] := by
  have := (Blk.new w [.int .i64 k0, .int .i64 k1, .int .i64 R, .int .i64 Q, .int .i64 J] 49).alloc (.cells #[.int .i64 a0, .int .i64 a1, .int .i64 a2, .int .i64 a3, .int .i64 a4, .int .i64 a5, .int .i64 b0, .int .i64 b1, .int .i64 b2, .int .i64 b3, .int .i64 b4, .int .i64 b5, .int .i64 x, .int .i64 y] 133)
  rw [hW]; simpa [hS] using this
 have PS : Blk W (S + 1) [.int .i64 a0, .int .i64 a1, .int .i64 a2, .int .i64 a3, .int .i64 a4, .int .i64 a5, .int .i64 b0, .int .i64 b1, .int .i64 b2, .int .i64 b3, .int .i64 b4, .int .i64 b5, .int .i64 x, .int .i64 y] := by
  have := Blk.new (w.alloc (.cells #[.int .i64 k0, .int .i64 k1, .int .i64 R, .int .i64 Q, .int .i64 J] 49)) [.int .i64 a0, .int .i64 a1, .int .i64 a2, .int .i64 a3, .int .i64 a4, .int .i64 a5, .int .i64 b0, .int .i64 b1, .int .i64 b2, .int .i64 b3, .int .i64 b4, .int .i64 b5, .int .i64 x, .int .i64 y] 133
  rw [hW]; simpa [hS] using this
 have BS : Below S w W := by rw [hW, ← hS]; exact ((Below.refl _ _).alloc (Nat.le_refl _) _).alloc (by simp) _
 clear hW
 refine (dwrong_any k0 k1 R Q J W).mono ?_
 rintro e w1 ⟨⟨r, rfl, hw⟩, hB1⟩
 have BS := BS.trans (hB1.mono (by have := PR.lt; omega))
 have PR := PR.below hB1 PR.lt
 have PS := PS.below hB1 PS.lt
 clear hB1
 by_cases hok : kindsOk k0 k1 ∧ rangeOk R Q J
 case neg =>
  have h0 : (r == 0) = false := by
   rcases hw with ⟨_, rfl⟩ | ⟨_, _, rfl⟩ | ⟨h1, h2, _⟩
   · rfl
   · rfl
   · exact absurd ⟨h1, h2⟩ hok
  have HBS := hide BS
  have HNO := hide hok
  clear PR PS BS hw hok
  go_wp2
  go_ret
  exact ⟨IsB.f (fun h => HNO.out ⟨h.1, h.2.1⟩), by first | exact HBS.out | (rw [hS]; exact HBS.out)⟩
 obtain ⟨hk, hr⟩ := hok
 obtain rfl : r = 0 := wrongSays_one hw (.inr (.inr ⟨hk, hr, rfl⟩))
 clear hw
 obtain ⟨f0, g0, h0, HK0, hof0⟩ := of_gen k0 hk.1 hk.2.1
 obtain ⟨f1, g1, h1, HK1, hof1⟩ := of_gen k1 hk.2.2.1 hk.2.2.2
 have HOF0 := hide hof0; have HOF1 := hide hof1
 have c0 := (PR 0 _ rfl).1
 have c1 := (PR 1 _ rfl).1
 have HPR := hide PR; have HPS := hide PS; have HBS := hide BS
 clear PR PS BS hof0 hof1
 go_wp2_with fail
 refine wp_loop_rounds 3 ?_
 rw [rounds_succ]
 go_wp2_with fail
 have PR := HPR.out; have PS := HPS.out; have BS := HBS.out
 clear HPR HPS HBS c0 c1
 have hof0 := HOF0.out
 cases hr0 : rightK k0 ⟨a0, a1, a2, a3, a4, a5⟩ with
 | false =>
   refine (hof0 w1).mono ?_
   rintro e u0 ⟨rfl, hA0⟩
   obtain ⟨V0, hV0⟩ : ∃ V, V = u0.alloc (.cells #[.func (.func f0) #[] #[], .func (.func g0) #[] #[], .func (.func h0) #[] #[]] 154) := ⟨_, rfl⟩
   obtain ⟨U0, hU0⟩ : ∃ U, u0.heap.size = U := ⟨_, rfl⟩
   have BS := (BS.trans (hA0.mono (Nat.le_of_lt PR.lt))).alloc (Nat.le_trans (Nat.le_of_lt PR.lt) hA0.size) (.cells #[.func (.func f0) #[] #[], .func (.func g0) #[] #[], .func (.func h0) #[] #[]] 154)
   have PR := (PR.below hA0 PR.lt).alloc (.cells #[.func (.func f0) #[] #[], .func (.func g0) #[] #[], .func (.func h0) #[] #[]] 154)
   have PS := (PS.below hA0 PS.lt).alloc (.cells #[.func (.func f0) #[] #[], .func (.func g0) #[] #[], .func (.func h0) #[] #[]] 154)
   have PC := Blk.new u0 [.func (.func f0) #[] #[], .func (.func g0) #[] #[], .func (.func h0) #[] #[]] 154
   rw [← hV0] at PR PS BS PC
   rw [hU0] at PC
   have HV := hide hV0
   have HPR := hide PR; have HPS := hide PS; have HBS := hide BS; have HPC := hide PC
   clear hV0 PR PS BS PC hA0
   go_upto_region 7 with fail
   rw [← HV.out]
   have eg := HK0.out.2.1
   unfold EntersF at eg
   have HRG := hide (fun w => HK0.out.2.2.2.2.1 a0 a1 a2 a3 a4 a5 w)
   rw [hr0] at HRG
   have F0_0 : ∀ q : Beyond V0, q.w.cell? ⟨U0, 1, none⟩ = some (.func (.func g0) #[] #[]) := fun q => q.cell HPC.out.lt (HPC.out 1 _ rfl).1
   obtain ⟨F0_1, F0_2, F0_3, F0_4, F0_5, F0_6, F0_7, F0_8, F0_9, F0_10, F0_11, F0_12, F0_13, F0_14⟩ := HPS.out.by14
   refine wp_region_beyond (by kernel_rfl) (by kernel_rfl) ?_
   repeat (first | go_big_quiet_step (first | (go_at_fn g0; exact beyondCall (HRG.out _))) | quiet_step (first | (go_at_fn g0; exact beyondCall (HRG.out _))))
   refine wpQuiet_nil ?_
   intro _ hw'
   obtain ⟨pq0, hw''⟩ := hw'
   subst hw''
   clear eg HRG F0_0 F0_1 F0_2 F0_3 F0_4 F0_5 F0_6 F0_7 F0_8 F0_9 F0_10 F0_11 F0_12 F0_13 F0_14
   go_wp2
   go_ret
   exact ⟨IsB.f (fun h => by have := h.2.2.1; rw [hr0] at this; cases this), by first | exact HBS.out.trans (pq0.h.mono (by have := HBS.out.size; omega)) | (rw [hS]; exact HBS.out.trans (pq0.h.mono (by have := HBS.out.size; omega)))⟩
 | true =>
   rcases Int.lt_or_le x 0 with hx0 | hx0
   · refine (hof0 w1).mono ?_
     rintro e u0 ⟨rfl, hA0⟩
     obtain ⟨V0, hV0⟩ : ∃ V, V = u0.alloc (.cells #[.func (.func f0) #[] #[], .func (.func g0) #[] #[], .func (.func h0) #[] #[]] 154) := ⟨_, rfl⟩
     obtain ⟨U0, hU0⟩ : ∃ U, u0.heap.size = U := ⟨_, rfl⟩
     have BS := (BS.trans (hA0.mono (Nat.le_of_lt PR.lt))).alloc (Nat.le_trans (Nat.le_of_lt PR.lt) hA0.size) (.cells #[.func (.func f0) #[] #[], .func (.func g0) #[] #[], .func (.func h0) #[] #[]] 154)
     have PR := (PR.below hA0 PR.lt).alloc (.cells #[.func (.func f0) #[] #[], .func (.func g0) #[] #[], .func (.func h0) #[] #[]] 154)
     have PS := (PS.below hA0 PS.lt).alloc (.cells #[.func (.func f0) #[] #[], .func (.func g0) #[] #[], .func (.func h0) #[] #[]] 154)
     have PC := Blk.new u0 [.func (.func f0) #[] #[], .func (.func g0) #[] #[], .func (.func h0) #[] #[]] 154
     rw [← hV0] at PR PS BS PC
     rw [hU0] at PC
     have HV := hide hV0
     have HPR := hide PR; have HPS := hide PS; have HBS := hide BS; have HPC := hide PC
     clear hV0 PR PS BS PC hA0
     go_upto_region 7 with fail
     rw [← HV.out]
     have eg := HK0.out.2.1
     unfold EntersF at eg
     have HRG := hide (fun w => HK0.out.2.2.2.2.1 a0 a1 a2 a3 a4 a5 w)
     rw [hr0] at HRG
     have F0_0 : ∀ q : Beyond V0, q.w.cell? ⟨U0, 1, none⟩ = some (.func (.func g0) #[] #[]) := fun q => q.cell HPC.out.lt (HPC.out 1 _ rfl).1
     obtain ⟨F0_1, F0_2, F0_3, F0_4, F0_5, F0_6, F0_7, F0_8, F0_9, F0_10, F0_11, F0_12, F0_13, F0_14⟩ := HPS.out.by14
     refine wp_region_beyond (by kernel_rfl) (by kernel_rfl) ?_
     repeat (first | go_big_quiet_step (first | (go_at_fn g0; exact beyondCall (HRG.out _))) | quiet_step (first | (go_at_fn g0; exact beyondCall (HRG.out _))))
     refine wpQuiet_nil ?_
     intro _ hw'
     obtain ⟨pq0, hw''⟩ := hw'
     subst hw''
     clear eg HRG F0_0 F0_1 F0_2 F0_3 F0_4 F0_5 F0_6 F0_7 F0_8 F0_9 F0_10 F0_11 F0_12 F0_13 F0_14
     go_wp2
     go_ret
     exact ⟨IsB.f (fun h => by have := h.2.2.2.2.1; omega), by first | exact HBS.out.trans (pq0.h.mono (by have := HBS.out.size; omega)) | (rw [hS]; exact HBS.out.trans (pq0.h.mono (by have := HBS.out.size; omega)))⟩
   · refine (hof0 w1).mono ?_
     rintro e u0 ⟨rfl, hA0⟩
     obtain ⟨V0, hV0⟩ : ∃ V, V = u0.alloc (.cells #[.func (.func f0) #[] #[], .func (.func g0) #[] #[], .func (.func h0) #[] #[]] 154) := ⟨_, rfl⟩
     obtain ⟨U0, hU0⟩ : ∃ U, u0.heap.size = U := ⟨_, rfl⟩
     have BS := (BS.trans (hA0.mono (Nat.le_of_lt PR.lt))).alloc (Nat.le_trans (Nat.le_of_lt PR.lt) hA0.size) (.cells #[.func (.func f0) #[] #[], .func (.func g0) #[] #[], .func (.func h0) #[] #[]] 154)
     have PR := (PR.below hA0 PR.lt).alloc (.cells #[.func (.func f0) #[] #[], .func (.func g0) #[] #[], .func (.func h0) #[] #[]] 154)
     have PS := (PS.below hA0 PS.lt).alloc (.cells #[.func (.func f0) #[] #[], .func (.func g0) #[] #[], .func (.func h0) #[] #[]] 154)
     have PC := Blk.new u0 [.func (.func f0) #[] #[], .func (.func g0) #[] #[], .func (.func h0) #[] #[]] 154
     rw [← hV0] at PR PS BS PC
     rw [hU0] at PC
     have HV := hide hV0
     have HPR := hide PR; have HPS := hide PS; have HBS := hide BS; have HPC := hide PC
     clear hV0 PR PS BS PC hA0
     go_upto_region 7 with fail
     rw [← HV.out]
     have eg := HK0.out.2.1
     unfold EntersF at eg
     have HRG := hide (fun w => HK0.out.2.2.2.2.1 a0 a1 a2 a3 a4 a5 w)
     rw [hr0] at HRG
     have F0_0 : ∀ q : Beyond V0, q.w.cell? ⟨U0, 1, none⟩ = some (.func (.func g0) #[] #[]) := fun q => q.cell HPC.out.lt (HPC.out 1 _ rfl).1
     obtain ⟨F0_1, F0_2, F0_3, F0_4, F0_5, F0_6, F0_7, F0_8, F0_9, F0_10, F0_11, F0_12, F0_13, F0_14⟩ := HPS.out.by14
     refine wp_region_beyond (by kernel_rfl) (by kernel_rfl) ?_
     repeat (first | go_big_quiet_step (first | (go_at_fn g0; exact beyondCall (HRG.out _))) | quiet_step (first | (go_at_fn g0; exact beyondCall (HRG.out _))))
     refine wpQuiet_nil ?_
     intro _ hw'
     obtain ⟨pq0, hw''⟩ := hw'
     subst hw''
     clear eg HRG F0_0 F0_1 F0_2 F0_3 F0_4 F0_5 F0_6 F0_7 F0_8 F0_9 F0_10 F0_11 F0_12 F0_13 F0_14
     have PR := HPR.out.below pq0.h HPR.out.lt
     have PS := HPS.out.below pq0.h HPS.out.lt
     have BS := HBS.out.trans (pq0.h.mono (by have := HBS.out.size; omega))
     obtain ⟨N0, hN0⟩ : ∃ N, pq0.w = N := ⟨_, rfl⟩
     rw [hN0] at PR PS BS ⊢
     clear hN0 HPR HPS HBS HPC HV hU0 pq0
     have HPR := hide PR; have HPS := hide PS; have HBS := hide BS
     clear PR PS BS
     go_wp2_with fail
     rw [rounds_succ]
     go_wp2_with fail
     have PR := HPR.out; have PS := HPS.out; have BS := HBS.out
     clear HPR HPS HBS
     have hof1 := HOF1.out
     cases hr1 : rightK k1 ⟨b0, b1, b2, b3, b4, b5⟩ with
     | false =>
       refine (hof1 N0).mono ?_
       rintro e u1 ⟨rfl, hA1⟩
       obtain ⟨V1, hV1⟩ : ∃ V, V = u1.alloc (.cells #[.func (.func f1) #[] #[], .func (.func g1) #[] #[], .func (.func h1) #[] #[]] 154) := ⟨_, rfl⟩
       obtain ⟨U1, hU1⟩ : ∃ U, u1.heap.size = U := ⟨_, rfl⟩
       have BS := (BS.trans (hA1.mono (Nat.le_of_lt PR.lt))).alloc (Nat.le_trans (Nat.le_of_lt PR.lt) hA1.size) (.cells #[.func (.func f1) #[] #[], .func (.func g1) #[] #[], .func (.func h1) #[] #[]] 154)
       have PR := (PR.below hA1 PR.lt).alloc (.cells #[.func (.func f1) #[] #[], .func (.func g1) #[] #[], .func (.func h1) #[] #[]] 154)
       have PS := (PS.below hA1 PS.lt).alloc (.cells #[.func (.func f1) #[] #[], .func (.func g1) #[] #[], .func (.func h1) #[] #[]] 154)
       have PC := Blk.new u1 [.func (.func f1) #[] #[], .func (.func g1) #[] #[], .func (.func h1) #[] #[]] 154
       rw [← hV1] at PR PS BS PC
       rw [hU1] at PC
       have HV := hide hV1
       have HPR := hide PR; have HPS := hide PS; have HBS := hide BS; have HPC := hide PC
       clear hV1 PR PS BS PC hA1
       go_upto_region 7 with fail
       rw [← HV.out]
       have eg := HK1.out.2.1
       unfold EntersF at eg
       have HRG := hide (fun w => HK1.out.2.2.2.2.1 b0 b1 b2 b3 b4 b5 w)
       rw [hr1] at HRG
       have F1_0 : ∀ q : Beyond V1, q.w.cell? ⟨U1, 1, none⟩ = some (.func (.func g1) #[] #[]) := fun q => q.cell HPC.out.lt (HPC.out 1 _ rfl).1
       obtain ⟨F1_1, F1_2, F1_3, F1_4, F1_5, F1_6, F1_7, F1_8, F1_9, F1_10, F1_11, F1_12, F1_13, F1_14⟩ := HPS.out.by14
       refine wp_region_beyond (by kernel_rfl) (by kernel_rfl) ?_
       repeat (first | go_big_quiet_step (first | (go_at_fn g1; exact beyondCall (HRG.out _))) | quiet_step (first | (go_at_fn g1; exact beyondCall (HRG.out _))))
       refine wpQuiet_nil ?_
       intro _ hw'
       obtain ⟨pq1, hw''⟩ := hw'
       subst hw''
       clear eg HRG F1_0 F1_1 F1_2 F1_3 F1_4 F1_5 F1_6 F1_7 F1_8 F1_9 F1_10 F1_11 F1_12 F1_13 F1_14
       go_wp2
       go_ret
       exact ⟨IsB.f (fun h => by have := h.2.2.2.1; rw [hr1] at this; cases this), by first | exact HBS.out.trans (pq1.h.mono (by have := HBS.out.size; omega)) | (rw [hS]; exact HBS.out.trans (pq1.h.mono (by have := HBS.out.size; omega)))⟩
     | true =>
       rcases Int.lt_or_le y 0 with hx1 | hx1
       · refine (hof1 N0).mono ?_
         rintro e u1 ⟨rfl, hA1⟩
         obtain ⟨V1, hV1⟩ : ∃ V, V = u1.alloc (.cells #[.func (.func f1) #[] #[], .func (.func g1) #[] #[], .func (.func h1) #[] #[]] 154) := ⟨_, rfl⟩
         obtain ⟨U1, hU1⟩ : ∃ U, u1.heap.size = U := ⟨_, rfl⟩
         have BS := (BS.trans (hA1.mono (Nat.le_of_lt PR.lt))).alloc (Nat.le_trans (Nat.le_of_lt PR.lt) hA1.size) (.cells #[.func (.func f1) #[] #[], .func (.func g1) #[] #[], .func (.func h1) #[] #[]] 154)
         have PR := (PR.below hA1 PR.lt).alloc (.cells #[.func (.func f1) #[] #[], .func (.func g1) #[] #[], .func (.func h1) #[] #[]] 154)
         have PS := (PS.below hA1 PS.lt).alloc (.cells #[.func (.func f1) #[] #[], .func (.func g1) #[] #[], .func (.func h1) #[] #[]] 154)
         have PC := Blk.new u1 [.func (.func f1) #[] #[], .func (.func g1) #[] #[], .func (.func h1) #[] #[]] 154
         rw [← hV1] at PR PS BS PC
         rw [hU1] at PC
         have HV := hide hV1
         have HPR := hide PR; have HPS := hide PS; have HBS := hide BS; have HPC := hide PC
         clear hV1 PR PS BS PC hA1
         go_upto_region 7 with fail
         rw [← HV.out]
         have eg := HK1.out.2.1
         unfold EntersF at eg
         have HRG := hide (fun w => HK1.out.2.2.2.2.1 b0 b1 b2 b3 b4 b5 w)
         rw [hr1] at HRG
         have F1_0 : ∀ q : Beyond V1, q.w.cell? ⟨U1, 1, none⟩ = some (.func (.func g1) #[] #[]) := fun q => q.cell HPC.out.lt (HPC.out 1 _ rfl).1
         obtain ⟨F1_1, F1_2, F1_3, F1_4, F1_5, F1_6, F1_7, F1_8, F1_9, F1_10, F1_11, F1_12, F1_13, F1_14⟩ := HPS.out.by14
         refine wp_region_beyond (by kernel_rfl) (by kernel_rfl) ?_
         repeat (first | go_big_quiet_step (first | (go_at_fn g1; exact beyondCall (HRG.out _))) | quiet_step (first | (go_at_fn g1; exact beyondCall (HRG.out _))))
         refine wpQuiet_nil ?_
         intro _ hw'
         obtain ⟨pq1, hw''⟩ := hw'
         subst hw''
         clear eg HRG F1_0 F1_1 F1_2 F1_3 F1_4 F1_5 F1_6 F1_7 F1_8 F1_9 F1_10 F1_11 F1_12 F1_13 F1_14
         go_wp2
         go_ret
         exact ⟨IsB.f (fun h => by have := h.2.2.2.2.2.1; omega), by first | exact HBS.out.trans (pq1.h.mono (by have := HBS.out.size; omega)) | (rw [hS]; exact HBS.out.trans (pq1.h.mono (by have := HBS.out.size; omega)))⟩
       · refine (hof1 N0).mono ?_
         rintro e u1 ⟨rfl, hA1⟩
         obtain ⟨V1, hV1⟩ : ∃ V, V = u1.alloc (.cells #[.func (.func f1) #[] #[], .func (.func g1) #[] #[], .func (.func h1) #[] #[]] 154) := ⟨_, rfl⟩
         obtain ⟨U1, hU1⟩ : ∃ U, u1.heap.size = U := ⟨_, rfl⟩
         have BS := (BS.trans (hA1.mono (Nat.le_of_lt PR.lt))).alloc (Nat.le_trans (Nat.le_of_lt PR.lt) hA1.size) (.cells #[.func (.func f1) #[] #[], .func (.func g1) #[] #[], .func (.func h1) #[] #[]] 154)
         have PR := (PR.below hA1 PR.lt).alloc (.cells #[.func (.func f1) #[] #[], .func (.func g1) #[] #[], .func (.func h1) #[] #[]] 154)
         have PS := (PS.below hA1 PS.lt).alloc (.cells #[.func (.func f1) #[] #[], .func (.func g1) #[] #[], .func (.func h1) #[] #[]] 154)
         have PC := Blk.new u1 [.func (.func f1) #[] #[], .func (.func g1) #[] #[], .func (.func h1) #[] #[]] 154
         rw [← hV1] at PR PS BS PC
         rw [hU1] at PC
         have HV := hide hV1
         have HPR := hide PR; have HPS := hide PS; have HBS := hide BS; have HPC := hide PC
         clear hV1 PR PS BS PC hA1
         go_upto_region 7 with fail
         rw [← HV.out]
         have eg := HK1.out.2.1
         unfold EntersF at eg
         have HRG := hide (fun w => HK1.out.2.2.2.2.1 b0 b1 b2 b3 b4 b5 w)
         rw [hr1] at HRG
         have F1_0 : ∀ q : Beyond V1, q.w.cell? ⟨U1, 1, none⟩ = some (.func (.func g1) #[] #[]) := fun q => q.cell HPC.out.lt (HPC.out 1 _ rfl).1
         obtain ⟨F1_1, F1_2, F1_3, F1_4, F1_5, F1_6, F1_7, F1_8, F1_9, F1_10, F1_11, F1_12, F1_13, F1_14⟩ := HPS.out.by14
         refine wp_region_beyond (by kernel_rfl) (by kernel_rfl) ?_
         repeat (first | go_big_quiet_step (first | (go_at_fn g1; exact beyondCall (HRG.out _))) | quiet_step (first | (go_at_fn g1; exact beyondCall (HRG.out _))))
         refine wpQuiet_nil ?_
         intro _ hw'
         obtain ⟨pq1, hw''⟩ := hw'
         subst hw''
         clear eg HRG F1_0 F1_1 F1_2 F1_3 F1_4 F1_5 F1_6 F1_7 F1_8 F1_9 F1_10 F1_11 F1_12 F1_13 F1_14
         have PR := HPR.out.below pq1.h HPR.out.lt
         have PS := HPS.out.below pq1.h HPS.out.lt
         have BS := HBS.out.trans (pq1.h.mono (by have := HBS.out.size; omega))
         obtain ⟨N1, hN1⟩ : ∃ N, pq1.w = N := ⟨_, rfl⟩
         rw [hN1] at PR PS BS ⊢
         clear hN1 HPR HPS HBS HPC HV hU1 pq1
         have HPR := hide PR; have HPS := hide PS; have HBS := hide BS
         have d2 := (PR 3 _ rfl).1
         have e12 := (PS 12 _ rfl).1
         have e13 := (PS 13 _ rfl).1
         clear PR PS BS
         by_cases hm : max x y ≤ Q
         case neg => (go_wp2; rw [rounds_succ]; go_wp2; go_ret; exact ⟨by first | exact IsB.f (fun h => by have := h.2.2.2.2.2.2; omega) | exact IsB.d (by simp [StRight]; omega), by first | exact HBS.out | (rw [hS]; exact HBS.out)⟩)
         have hr' := hr
         unfold rangeOk at hr'
         have hQ1 : Q ≤ 16 := by omega
         by_cases hs' : x + y ≤ Q
         case neg => (go_wp2; rw [rounds_succ]; go_wp2; go_ret; exact ⟨by first | exact IsB.f (fun h => by have := h.2.2.2.2.2.2; omega) | exact IsB.d (by simp [StRight]; omega), by first | exact HBS.out | (rw [hS]; exact HBS.out)⟩)
         go_wp2
         rw [rounds_succ]
         go_wp2
         go_ret
         exact ⟨by first | exact IsB.t ⟨hk, hr, hr0, hr1, hx0, hx1, hs'⟩ | exact IsB.d (by simp [StRight, hk, hr, hr0, hr1, hx0, hx1, hs']), by first | exact HBS.out | (rw [hS]; exact HBS.out)⟩
end Go.Proofs.YtjjikhaaimfneaaGreatDoor
