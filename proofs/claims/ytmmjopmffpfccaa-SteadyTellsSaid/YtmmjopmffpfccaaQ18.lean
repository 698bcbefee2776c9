/-
  Lemmas and walks for the statement: Duel1, Duel6.
-/
import Derived.Test.YtmmjopmffpfccaaQ17
import Derived.Test.YtmmjopmffpfccaaQ14
import Derived.Laws.EntriesVeiled
namespace Go.Proofs.Ytmmjopmffpfccaa
open Go.RowKit
set_option linter.unusedSimpArgs false
set_option linter.unusedVariables false
attribute [local go_sem] iteMin iteMax iteMinN iteMaxN
set_option maxRecDepth 100000 in
theorem of_1 (w : World) : Calls Try.prog 26 #[.int .i64 1] w fun e w' => e = .returned (.tuple #[.agg #[.func (.func 36) #[] #[], .func (.func 37) #[] #[], .func (.func 38) #[] #[]], .bool true]) ∧ Below w.heap.size w w' := by
 obtain ⟨S, hS⟩ : ∃ S, w.heap.size = S := ⟨_, rfl⟩
 go_enter Try.func26, Try.ntmps26
 go_wp2
 have z := Blk.new w [.func (.func 36) #[] #[], .func (.func 37) #[] #[], .func (.func 38) #[] #[]] 73
 have z0 := (z 0 _ rfl).1; have z1 := (z 1 _ rfl).1; have z2 := (z 2 _ rfl).1
 rw [hS] at z0 z1 z2
 refine bodyPost_ret (v := .tuple #[.agg #[.func (.func 36) #[] #[], .func (.func 37) #[] #[], .func (.func 38) #[] #[]], .bool true]) ?_ rfl ⟨rfl, ?_⟩
 · simp [results, Try.f26, go_sem, z0, z1, z2]
 · exact (Below.refl _ _).alloc (Nat.le_refl _) _
set_option maxRecDepth 100000 in
theorem of_2 (w : World) : Calls Try.prog 26 #[.int .i64 2] w fun e w' => e = .returned (.tuple #[.agg #[.func (.func 39) #[] #[], .func (.func 40) #[] #[], .func (.func 41) #[] #[]], .bool true]) ∧ Below w.heap.size w w' := by
 obtain ⟨S, hS⟩ : ∃ S, w.heap.size = S := ⟨_, rfl⟩
 go_enter Try.func26, Try.ntmps26
 go_wp2
 have z := Blk.new w [.func (.func 39) #[] #[], .func (.func 40) #[] #[], .func (.func 41) #[] #[]] 73
 have z0 := (z 0 _ rfl).1; have z1 := (z 1 _ rfl).1; have z2 := (z 2 _ rfl).1
 rw [hS] at z0 z1 z2
 refine bodyPost_ret (v := .tuple #[.agg #[.func (.func 39) #[] #[], .func (.func 40) #[] #[], .func (.func 41) #[] #[]], .bool true]) ?_ rfl ⟨rfl, ?_⟩
 · simp [results, Try.f26, go_sem, z0, z1, z2]
 · exact (Below.refl _ _).alloc (Nat.le_refl _) _
set_option maxRecDepth 100000 in
theorem of_3 (w : World) : Calls Try.prog 26 #[.int .i64 3] w fun e w' => e = .returned (.tuple #[.agg #[.func (.func 42) #[] #[], .func (.func 43) #[] #[], .func (.func 44) #[] #[]], .bool true]) ∧ Below w.heap.size w w' := by
 obtain ⟨S, hS⟩ : ∃ S, w.heap.size = S := ⟨_, rfl⟩
 go_enter Try.func26, Try.ntmps26
 go_wp2
 have z := Blk.new w [.func (.func 42) #[] #[], .func (.func 43) #[] #[], .func (.func 44) #[] #[]] 73
 have z0 := (z 0 _ rfl).1; have z1 := (z 1 _ rfl).1; have z2 := (z 2 _ rfl).1
 rw [hS] at z0 z1 z2
 refine bodyPost_ret (v := .tuple #[.agg #[.func (.func 42) #[] #[], .func (.func 43) #[] #[], .func (.func 44) #[] #[]], .bool true]) ?_ rfl ⟨rfl, ?_⟩
 · simp [results, Try.f26, go_sem, z0, z1, z2]
 · exact (Below.refl _ _).alloc (Nat.le_refl _) _
set_option maxRecDepth 100000 in
theorem of_no (k : Int) (h : k < 1 ∨ 3 < k) (w : World) : Calls Try.prog 26 #[.int .i64 k] w fun e w' => e = .returned (.tuple #[.agg #[.nilFunc, .nilFunc, .nilFunc], .bool false]) ∧ Below w.heap.size w w' := by
 obtain ⟨S, hS⟩ : ∃ S, w.heap.size = S := ⟨_, rfl⟩
 have h1 : (k == 1) = false := by simp; omega
 have h2 : (k == 2) = false := by simp; omega
 have h3 : (k == 3) = false := by simp; omega
 clear h
 go_enter Try.func26, Try.ntmps26
 go_wp2
 have z := Blk.new w [.nilFunc, .nilFunc, .nilFunc] 73
 have z0 := (z 0 _ rfl).1; have z1 := (z 1 _ rfl).1; have z2 := (z 2 _ rfl).1
 rw [hS] at z0 z1 z2
 refine bodyPost_ret (v := .tuple #[.agg #[.nilFunc, .nilFunc, .nilFunc], .bool false]) ?_ rfl ⟨rfl, ?_⟩
 · simp [results, Try.f26, go_sem, z0, z1, z2]
 · exact (Below.refl _ _).alloc (Nat.le_refl _) _
theorem of_yes (k : Int) (h1 : 1 ≤ k) (h2 : k ≤ 3) (w : World) : Calls Try.prog 26 #[.int .i64 k] w fun e w' => (∃ f g h : Nat, e = .returned (.tuple #[.agg #[.func (.func f) #[] #[], .func (.func g) #[] #[], .func (.func h) #[] #[]], .bool true])) ∧ Below w.heap.size w w' := by
 rcases (show k = 1 ∨ k = 2 ∨ k = 3 by omega) with rfl | rfl | rfl
 · exact (of_1 w).mono fun e w' ⟨h, hB⟩ => ⟨⟨_, _, _, h⟩, hB⟩
 · exact (of_2 w).mono fun e w' ⟨h, hB⟩ => ⟨⟨_, _, _, h⟩, hB⟩
 · exact (of_3 w).mono fun e w' ⟨h, hB⟩ => ⟨⟨_, _, _, h⟩, hB⟩
end Go.Proofs.Ytmmjopmffpfccaa
namespace Go.Proofs.Ytmmjopmffpfccaa
open Go.RowKit
set_option linter.unusedSimpArgs false
set_option linter.unusedVariables false
attribute [local go_sem] iteMin iteMax iteMinN iteMaxN
def rightK (kd : Int) (c : Ctl) : Bool := if kd = 1 then vegRight c else if kd = 2 then copRight c else ledRight c
def EntersF (g : Nat) : Prop := ∀ (args : Array Value) (w : World), (callFunc g args).run Try.prog w = .ok (.enter g args) w
def BeginIs (f : Nat) (kd : Int) : Prop := ∀ w : World, Calls Try.prog f #[.int .i64 1] w fun e w' => e = .returned (.agg #[.int .i64 kd, .int .i64 1, .int .i64 (-1), .int .i64 0, .int .i64 0, .int .i64 0]) ∧ Below w.heap.size w w'
def RightIs (g : Nat) (kd : Int) : Prop := ∀ (k n b y s p : Int) (w : World), Calls Try.prog g #[.agg #[.int .i64 k, .int .i64 n, .int .i64 b, .int .i64 y, .int .i64 s, .int .i64 p]] w fun e w' => e = .returned (.bool (rightK kd ⟨k, n, b, y, s, p⟩)) ∧ Below w.heap.size w w'
def NextIs (h : Nat) (kd : Int) : Prop := ∀ (k n b y s p d : Int), rightK kd ⟨k, n, b, y, s, p⟩ = true → 0 ≤ d → d ≤ 1099511627776 → ∃ k' n' b' y' s' p' : Int, rightK kd ⟨k', n', b', y', s', p'⟩ = true ∧
 (∀ w : World, Calls Try.prog h #[.agg #[.int .i64 k, .int .i64 n, .int .i64 b, .int .i64 y, .int .i64 s, .int .i64 p], .int .i64 d] w fun e w' => e = .returned (.tuple #[.agg #[.int .i64 k', .int .i64 n', .int .i64 b', .int .i64 y', .int .i64 s', .int .i64 p'], .int .i64 0]) ∧ Below w.heap.size w w') ∧
 (∀ w : World, Calls Try.prog 29 #[.agg #[.int .i64 k, .int .i64 n, .int .i64 b, .int .i64 y, .int .i64 s, .int .i64 p], .int .i64 d] w fun e w' => e = .returned (.tuple #[.agg #[.int .i64 k', .int .i64 n', .int .i64 b', .int .i64 y', .int .i64 s', .int .i64 p'], .bool true]) ∧ Below w.heap.size w w')
def KindIs (kd : Int) (f g h : Nat) : Prop := EntersF f ∧ EntersF g ∧ EntersF h ∧ BeginIs f kd ∧ RightIs g kd ∧ NextIs h kd
theorem kind_of_veg {c : Ctl} (h : vegRight c = true) : c.kind = 1 := by simp only [vegRight, decide_eq_true_eq] at h; omega
theorem kind_of_cop {c : Ctl} (h : copRight c = true) : c.kind = 2 := by simp only [copRight, decide_eq_true_eq] at h; omega
theorem kind_of_led {c : Ctl} (h : ledRight c = true) : c.kind = 3 := by simp only [ledRight, decide_eq_true_eq] at h; omega
theorem kindIs_1 : KindIs 1 36 37 38 := ⟨enters_of Try.func36 (by kernel_rfl) rfl, enters_of Try.func37 (by kernel_rfl) rfl, enters_of Try.func38 (by kernel_rfl) rfl, vegNew_any 1, vegRight_any, fun k n b y s p d hr g0 g1 => by
 obtain ⟨k', n', b', y', s', p', h0, h1, h2⟩ := veg_both hr g0 g1
 exact ⟨k', n', b', y', s', p', h0, h1, fun w => pnext_1 k n b y s p d k' n' b' y' s' p' 0 true rfl (kind_of_veg hr) h2 w⟩⟩
theorem kindIs_2 : KindIs 2 39 40 41 := ⟨enters_of Try.func39 (by kernel_rfl) rfl, enters_of Try.func40 (by kernel_rfl) rfl, enters_of Try.func41 (by kernel_rfl) rfl, copNew_any 1, copRight_any, fun k n b y s p d hr g0 g1 => by
 obtain ⟨k', n', b', y', s', p', h0, h1, h2⟩ := cop_both hr g0 g1
 exact ⟨k', n', b', y', s', p', h0, h1, fun w => pnext_2 k n b y s p d k' n' b' y' s' p' 0 true rfl (kind_of_cop hr) h2 w⟩⟩
theorem kindIs_3 : KindIs 3 42 43 44 := ⟨enters_of Try.func42 (by kernel_rfl) rfl, enters_of Try.func43 (by kernel_rfl) rfl, enters_of Try.func44 (by kernel_rfl) rfl, ledNew_any 1, ledRight_any, fun k n b y s p d hr g0 g1 => by
 obtain ⟨k', n', b', y', s', p', h0, h1, h2⟩ := led_both hr g0 g1
 exact ⟨k', n', b', y', s', p', h0, h1, fun w => pnext_3 k n b y s p d k' n' b' y' s' p' 0 true rfl (by have := kind_of_led hr; simp only at this; omega) h2 w⟩⟩
theorem of_gen (k : Int) (h1 : 1 ≤ k) (h2 : k ≤ 3) : ∃ f g h : Nat, Hid (KindIs k f g h) ∧ ∀ w : World, Calls Try.prog 26 #[.int .i64 k] w fun e w' => e = .returned (.tuple #[.agg #[.func (.func f) #[] #[], .func (.func g) #[] #[], .func (.func h) #[] #[]], .bool true]) ∧ Below w.heap.size w w' := by
 rcases (show k = 1 ∨ k = 2 ∨ k = 3 by omega) with rfl | rfl | rfl
 · exact ⟨_, _, _, hide kindIs_1, of_1⟩
 · exact ⟨_, _, _, hide kindIs_2, of_2⟩
 · exact ⟨_, _, _, hide kindIs_3, of_3⟩
theorem pnext_no (kd k n b y s p : Int) (hkd : 1 ≤ kd ∧ kd ≤ 3) (hk : k = kd) (hr : rightK kd ⟨k, n, b, y, s, p⟩ = false) (w : World) :
 Calls Try.prog 29 #[.agg #[.int .i64 k, .int .i64 n, .int .i64 b, .int .i64 y, .int .i64 s, .int .i64 p], .int .i64 0] w fun e w' => e = .returned (.tuple #[.agg #[.int .i64 0, .int .i64 0, .int .i64 0, .int .i64 0, .int .i64 0, .int .i64 0], .bool false]) ∧ Below w.heap.size w w' := by
 subst hk
 unfold rightK at hr
 rcases (show k = 1 ∨ k = 2 ∨ k = 3 by omega) with rfl | rfl | rfl
 · exact pnext_1 1 n b y s p 0 0 0 0 0 0 0 1 false rfl rfl (kNext_bad 1 n b y s p 0 hr) w
 · exact pnext_2 2 n b y s p 0 0 0 0 0 0 0 1 false rfl rfl (lNext_bad 2 n b y s p 0 hr) w
 · exact pnext_3 3 n b y s p 0 0 0 0 0 0 0 1 false rfl ⟨by omega, by omega⟩ (mNext_bad 3 n b y s p 0 hr) w
theorem pnext_zero (k n b y s p : Int) : ∃ (k' n' b' y' s' p' : Int) (t : Bool), (∀ kd, 1 ≤ kd → kd ≤ 3 → k = kd → t = rightK kd ⟨k, n, b, y, s, p⟩) ∧
 ∀ w : World, Calls Try.prog 29 #[.agg #[.int .i64 k, .int .i64 n, .int .i64 b, .int .i64 y, .int .i64 s, .int .i64 p], .int .i64 0] w fun e w' => e = .returned (.tuple #[.agg #[.int .i64 k', .int .i64 n', .int .i64 b', .int .i64 y', .int .i64 s', .int .i64 p'], .bool t]) ∧ Below w.heap.size w w' := by
 by_cases h1 : k = 1
 · cases hr : vegRight ⟨k, n, b, y, s, p⟩ with
   | true =>
     obtain ⟨k', n', b', y', s', p', _, _, h2⟩ := veg_both hr (d := 0) (by omega) (by omega)
     exact ⟨k', n', b', y', s', p', true, fun kd _ _ e => by subst e; subst h1; unfold rightK; simp [hr], fun w => pnext_1 k n b y s p 0 k' n' b' y' s' p' 0 true rfl h1 h2 w⟩
   | false => exact ⟨_, _, _, _, _, _, false, fun kd _ _ e => by subst e; subst h1; unfold rightK; simp [hr], fun w => pnext_1 k n b y s p 0 0 0 0 0 0 0 1 false rfl h1 (kNext_bad k n b y s p 0 hr) w⟩
 by_cases h2 : k = 2
 · cases hr : copRight ⟨k, n, b, y, s, p⟩ with
   | true =>
     obtain ⟨k', n', b', y', s', p', _, _, h3⟩ := cop_both hr (d := 0) (by omega) (by omega)
     exact ⟨k', n', b', y', s', p', true, fun kd _ _ e => by subst e; subst h2; unfold rightK; simp [hr], fun w => pnext_2 k n b y s p 0 k' n' b' y' s' p' 0 true rfl h2 h3 w⟩
   | false => exact ⟨_, _, _, _, _, _, false, fun kd _ _ e => by subst e; subst h2; unfold rightK; simp [hr], fun w => pnext_2 k n b y s p 0 0 0 0 0 0 0 1 false rfl h2 (lNext_bad k n b y s p 0 hr) w⟩
 · cases hr : ledRight ⟨k, n, b, y, s, p⟩ with
   | true =>
     obtain ⟨k', n', b', y', s', p', _, _, h3⟩ := led_both hr (d := 0) (by omega) (by omega)
     exact ⟨k', n', b', y', s', p', true, fun kd _ _ e => by subst e; unfold rightK; simp [hr, h1, h2], fun w => pnext_3 k n b y s p 0 k' n' b' y' s' p' 0 true rfl ⟨h1, h2⟩ h3 w⟩
   | false => exact ⟨_, _, _, _, _, _, false, fun kd _ _ e => by subst e; unfold rightK; simp [hr, h1, h2], fun w => pnext_3 k n b y s p 0 0 0 0 0 0 0 1 false rfl ⟨h1, h2⟩ (mNext_bad k n b y s p 0 hr) w⟩
end Go.Proofs.Ytmmjopmffpfccaa
