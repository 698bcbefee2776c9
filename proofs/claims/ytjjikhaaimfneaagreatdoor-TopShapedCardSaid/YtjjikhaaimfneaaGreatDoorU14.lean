/-
  Lemmas and walks for the statement: LkRef, LkBoth.
-/
import Derived.Test.YtjjikhaaimfneaaGreatDoorU13
import Derived.Deep.RegionHeld3
import Derived.Deep.DeepCutAuto
import Derived.BigRegion
namespace Go.Proofs.YtjjikhaaimfneaaGreatDoor
open Go.RowKit
set_option linter.unusedSimpArgs false
set_option linter.unusedVariables false
attribute [local go_sem] iteMin iteMax iteMinN iteMaxN
def Counted (R Q a b c d B : Nat) (W : World) (p q : Value) (wx : World) : Prop := ∃ (g h f0 t0 f1 t1 : Nat), p = .pointer (some ⟨g, 0, none⟩) ∧ q = .pointer (some ⟨h, 0, none⟩) ∧ B ≤ g ∧ B ≤ h ∧
 Blk wx g [.int .i64 f0, .int .i64 t0] ∧ Blk wx h [.int .i64 f1, .int .i64 t1] ∧ Hid (UpC a b c d R f0 t0 ∧ UpC a b c d (R + Q) f1 t1) ∧ Below B W wx
theorem tally_of {R Q a b c d f0 t0 f1 t1 : Nat} (h : UpC a b c d R f0 t0) (h' : UpC a b c d (R + Q) f1 t1) :
 f0 ≤ f1 ∧ f1 ≤ a + c ∧ t0 ≤ t1 ∧ t1 ≤ b + d ∧ Tally R Q (rowB a b c d) false f0 (f1 - f0) (a + c - f1) ∧ Tally R Q (rowB a b c d) true t0 (t1 - t0) (b + d - t1) := by
 obtain ⟨rfl, rfl⟩ := up_one h (up_cnt a b c d R)
 obtain ⟨rfl, rfl⟩ := up_one h' (up_cnt a b c d (R + Q))
 obtain ⟨e1, e2⟩ := row_cnt a b c d
 have l1 : ∀ x, List.count x (List.take R (rowB a b c d)) ≤ List.count x (List.take (R + Q) (rowB a b c d)) := fun x => by
  have e : List.take R (rowB a b c d) = List.take R (List.take (R + Q) (rowB a b c d)) := by rw [List.take_take, Nat.min_eq_left (by omega)]
  rw [e]; exact (List.take_sublist _ _).count_le x
 have l2 : ∀ x, List.count x (List.take (R + Q) (rowB a b c d)) ≤ List.count x (rowB a b c d) := fun x => (List.take_sublist _ _).count_le x
 have := l1 false; have := l1 true; have := l2 false; have := l2 true
 unfold Tally
 refine ⟨by omega, by omega, by omega, by omega, ⟨rfl, by omega, by omega⟩, rfl, by omega, by omega⟩
theorem blk2 {W : World} {g : Nat} {u v : Value} (h0 : W.cell? ⟨g, 0, none⟩ = some u) (h1 : W.cell? ⟨g, 1, none⟩ = some v) (f0 : W.frozen? ⟨g, 0, none⟩ = false) (f1 : W.frozen? ⟨g, 1, none⟩ = false) : Blk W g [u, v] := fun j x hj => by
 rcases j with _ | _ | j
 · simp at hj; subst hj; exact ⟨h0, f0⟩
 · simp at hj; subst hj; exact ⟨h1, f1⟩
 · simp at hj
set_option maxRecDepth 100000 in
set_option maxHeartbeats 4000000 in
theorem opass_ok (R Q a b c d : Nat) (w : World) (hok : LinkOk R Q a b c d) :
 Calls Tryz.prog 111 #[.int .i64 R, .int .i64 Q, .agg #[.int .i64 a, .int .i64 b], .agg #[.int .i64 c, .int .i64 d]] w fun e w' => PassEnds R Q a b c d e ∧ Below w.heap.size w w' := by
 have hbd := hok
 unfold LinkOk at hbd
 have HOK := hide hok
 clear hok
 obtain ⟨S, hS⟩ : ∃ S, w.heap.size = S := ⟨_, rfl⟩
 go_enter Tryz.func111, Tryz.ntmps111
 go_wp2_with fail
 obtain ⟨W, hW⟩ : ∃ W, W = ((((w.alloc (.cells #[.int .i64 a, .int .i64 b] 47)).alloc (.cells #[.int .i64 c, .int .i64 d] 47)).alloc (.cells #[.int .i64 0, .int .i64 0, .int .i64 0, .int .i64 0, .int .i64 0, .int .i64 0] 92)).alloc (.cells #[.int .i64 0, .int .i64 0] 47)) := ⟨_, rfl⟩
 rw [← hW]
 have hWB : Below S w W := by rw [hW, ← hS]; exact ((((Below.refl _ _).alloc (Nat.le_refl _) _).alloc (by simp) _).alloc (by simp; omega) _).alloc (by simp; omega) _
 have hWs : W.heap.size = S + 4 := by rw [hW, ← hS]; simp
 have b0 : Blk W S [.int .i64 a, .int .i64 b] := by
  have := (((Blk.new w [.int .i64 a, .int .i64 b] 47).alloc (.cells #[.int .i64 c, .int .i64 d] 47)).alloc (.cells #[.int .i64 0, .int .i64 0, .int .i64 0, .int .i64 0, .int .i64 0, .int .i64 0] 92)).alloc (.cells #[.int .i64 0, .int .i64 0] 47)
  rw [hW]; simpa [hS] using this
 have b1 : Blk W (S + 1) [.int .i64 c, .int .i64 d] := by
  have := ((Blk.new (w.alloc (.cells #[.int .i64 a, .int .i64 b] 47)) [.int .i64 c, .int .i64 d] 47).alloc (.cells #[.int .i64 0, .int .i64 0, .int .i64 0, .int .i64 0, .int .i64 0, .int .i64 0] 92)).alloc (.cells #[.int .i64 0, .int .i64 0] 47)
  rw [hW]; simpa [hS] using this
 have b2 : Blk W (S + 1 + 1) [.int .i64 0, .int .i64 0, .int .i64 0, .int .i64 0, .int .i64 0, .int .i64 0] := by
  have := (Blk.new ((w.alloc (.cells #[.int .i64 a, .int .i64 b] 47)).alloc (.cells #[.int .i64 c, .int .i64 d] 47)) [.int .i64 0, .int .i64 0, .int .i64 0, .int .i64 0, .int .i64 0, .int .i64 0] 92).alloc (.cells #[.int .i64 0, .int .i64 0] 47)
  rw [hW]; simpa [hS] using this
 have b3 : Blk W (S + 1 + 1 + 1) [.int .i64 0, .int .i64 0] := by
  have := (Blk.new (((w.alloc (.cells #[.int .i64 a, .int .i64 b] 47)).alloc (.cells #[.int .i64 c, .int .i64 d] 47)).alloc (.cells #[.int .i64 0, .int .i64 0, .int .i64 0, .int .i64 0, .int .i64 0, .int .i64 0] 92)) [.int .i64 0, .int .i64 0] 47)
  rw [hW]; simpa [hS] using this
 clear hW
 refine (callT (oright_any R Q a b c d W) HOK.out).mono ?_
 rintro e w1 ⟨rfl, hB1⟩
 have h1s := hB1.size
 have HB1 := hide (hWB.trans (hB1.mono (by omega)))
 have B0 := hide (b0.below hB1 (by omega)); have B1 := hide (b1.below hB1 (by omega)); have B2 := hide (b2.below hB1 (by omega)); have B3 := hide (b3.below hB1 (by omega))
 clear b0 b1 b2 b3 hB1 hWB
 have c20 := (B0.out 0 _ rfl).1
 have c21 := (B0.out 1 _ rfl).1
 have c30 := (B1.out 0 _ rfl).1
 have c31 := (B1.out 1 _ rfl).1
 obtain ⟨T, hT⟩ : ∃ T, w1.heap.size = T := ⟨_, rfl⟩
 rw [hT] at h1s
 obtain ⟨X, hX⟩ : ∃ X, X = (w1.alloc (.cells #[.int .i64 c, .int .i64 d, .int .i64 0, .int .i64 0, .int .i64 0, .int .i64 0] 92)).alloc (.cells #[.int .i64 0, .int .i64 0] 47) := ⟨_, rfl⟩
 have hBX : Below T w1 X := by rw [hX, ← hT]; exact ((Below.refl _ _).alloc (Nat.le_refl _) _).alloc (by simp) _
 have hXs : X.heap.size = T + 1 + 1 := by rw [hX, ← hT]; simp
 have d20 := (hBX.cell (p := ⟨S, 0, none⟩) (by show S < T; omega)).trans c20
 have d21 := (hBX.cell (p := ⟨S, 1, none⟩) (by show S < T; omega)).trans c21
 have d30 := (hBX.cell (p := ⟨S + 1, 0, none⟩) (by show S + 1 < T; omega)).trans c30
 have d31 := (hBX.cell (p := ⟨S + 1, 1, none⟩) (by show S + 1 < T; omega)).trans c31
 have HX := hide hX
 go_upto_region 5 with fail
 rw [← HX.out]
 have HC := hide (show ∀ w', Below (T + 1 + 1) X w' → (w'.cell? ⟨S, 0, none⟩ = some (.int .i64 a) ∧ w'.cell? ⟨S, 1, none⟩ = some (.int .i64 b) ∧ w'.cell? ⟨S + 1, 0, none⟩ = some (.int .i64 c) ∧ w'.cell? ⟨S + 1, 1, none⟩ = some (.int .i64 d)) from fun w' hb =>
  ⟨(hb.cell (by show S < T + 1 + 1; omega)).trans d20, (hb.cell (by show S < T + 1 + 1; omega)).trans d21, (hb.cell (by show S + 1 < T + 1 + 1; omega)).trans d30, (hb.cell (by show S + 1 < T + 1 + 1; omega)).trans d31⟩)
 clear hX c20 c21 c30 c31
 obtain ⟨RQ, hRQ, HRQ⟩ : ∃ RQ : Nat, (R : Int) + (Q : Int) = (RQ : Int) ∧ Hid (RQ = R + Q) := ⟨R + Q, by omega, rfl⟩
 have hRQ1 : RQ ≤ 28 := by omega
 have hRQ2 : IntKind.i64.wrap (RQ : Int) = (RQ : Int) := by rw [IntKind.wrap_i64]; omega
 go_cut [13, 14] (fun p q wx => Counted R Q a b c d (T + 1 + 1) X p q wx)
 case first =>
  go_region_held3 (fun w' => w'.cell? ⟨S, 0, none⟩ = some (.int .i64 a) ∧ w'.cell? ⟨S, 1, none⟩ = some (.int .i64 b) ∧ w'.cell? ⟨S + 1, 0, none⟩ = some (.int .i64 c) ∧ w'.cell? ⟨S + 1, 1, none⟩ = some (.int .i64 d)) (((try dsimp only); exact HC.out _ (by (repeat' (first | (with_reducible assumption) | (with_reducible exact Below.refl _ _) | (with_reducible refine Below.alloc ?_ ?_ _) | (with_reducible refine Below.drew ?_) | (with_reducible refine Below.setCell ?_ ?_ _) | (with_reducible refine Below.trans ?_ (B3'.mono ?_)) | (with_reducible refine Below.trans ?_ (B4'.mono ?_)) | omega | (simp; done) | (simp; omega))))))
   ((go_at_call 142; first | (with_reducible refine (upto_any R a b c d _ (by omega) (by omega) (by omega) (by omega) (by omega)).mono ?_; rintro e w3 ⟨⟨f0, t0, rfl, hu⟩, B3'⟩; have s3 := B3'.size; (try simp [hXs] at s3); (try have z0 : T + 1 + 1 < w3.heap.size := (by omega)); (try have z1 : T + 1 + 1 + 1 < w3.heap.size := (by omega)); (try have qa0 : w3.cell? ⟨T + 1 + 1, 0, none⟩ = some (.int .i64 0) := (by rw [B3'.cell (by first | (simp [hXs]; done) | (simp [hXs]; omega))]; simp [go_sem, hXs, *]; done)); (try have qaf0 : w3.frozen? ⟨T + 1 + 1, 0, none⟩ = false := (by rw [B3'.frozen (by first | (simp [hXs]; done) | (simp [hXs]; omega))]; simp [go_sem, hXs, *]; done)); (try have qa1 : w3.cell? ⟨T + 1 + 1, 1, none⟩ = some (.int .i64 0) := (by rw [B3'.cell (by first | (simp [hXs]; done) | (simp [hXs]; omega))]; simp [go_sem, hXs, *]; done)); (try have qaf1 : w3.frozen? ⟨T + 1 + 1, 1, none⟩ = false := (by rw [B3'.frozen (by first | (simp [hXs]; done) | (simp [hXs]; omega))]; simp [go_sem, hXs, *]; done)); (try have qb0 : w3.cell? ⟨T + 1 + 1 + 1, 0, none⟩ = some (.int .i64 0) := (by rw [B3'.cell (by first | (simp [hXs]; done) | (simp [hXs]; omega))]; simp [go_sem, hXs, *]; done)); (try have qbf0 : w3.frozen? ⟨T + 1 + 1 + 1, 0, none⟩ = false := (by rw [B3'.frozen (by first | (simp [hXs]; done) | (simp [hXs]; omega))]; simp [go_sem, hXs, *]; done)); (try have qb1 : w3.cell? ⟨T + 1 + 1 + 1, 1, none⟩ = some (.int .i64 0) := (by rw [B3'.cell (by first | (simp [hXs]; done) | (simp [hXs]; omega))]; simp [go_sem, hXs, *]; done)); (try have qbf1 : w3.frozen? ⟨T + 1 + 1 + 1, 1, none⟩ = false := (by rw [B3'.frozen (by first | (simp [hXs]; done) | (simp [hXs]; omega))]; simp [go_sem, hXs, *]; done))) | (with_reducible refine (upto_any RQ a b c d _ (by omega) (by omega) (by omega) (by omega) (by omega)).mono ?_; rintro e w4 ⟨⟨f1, t1, rfl, hu'⟩, B4'⟩; have s4 := B4'.size; (try simp [hXs] at s4); (try have z2 : T + 1 + 1 < w4.heap.size := (by omega)); (try have z3 : T + 1 + 1 + 1 < w4.heap.size := (by omega)); (try have z4 : w3.heap.size < w4.heap.size := (by omega)); (try have z5 : w3.heap.size + 1 < w4.heap.size := (by omega)); (try have ra0 : w4.cell? ⟨T + 1 + 1, 0, none⟩ = some (.int .i64 0) := (by rw [B4'.cell (by first | (simp [hXs]; done) | (simp [hXs]; omega))]; simp [go_sem, hXs, *]; done)); (try have raf0 : w4.frozen? ⟨T + 1 + 1, 0, none⟩ = false := (by rw [B4'.frozen (by first | (simp [hXs]; done) | (simp [hXs]; omega))]; simp [go_sem, hXs, *]; done)); (try have ra1 : w4.cell? ⟨T + 1 + 1, 1, none⟩ = some (.int .i64 0) := (by rw [B4'.cell (by first | (simp [hXs]; done) | (simp [hXs]; omega))]; simp [go_sem, hXs, *]; done)); (try have raf1 : w4.frozen? ⟨T + 1 + 1, 1, none⟩ = false := (by rw [B4'.frozen (by first | (simp [hXs]; done) | (simp [hXs]; omega))]; simp [go_sem, hXs, *]; done)); (try have rb0 : w4.cell? ⟨T + 1 + 1 + 1, 0, none⟩ = some (.int .i64 0) := (by rw [B4'.cell (by first | (simp [hXs]; done) | (simp [hXs]; omega))]; simp [go_sem, hXs, *]; done)); (try have rbf0 : w4.frozen? ⟨T + 1 + 1 + 1, 0, none⟩ = false := (by rw [B4'.frozen (by first | (simp [hXs]; done) | (simp [hXs]; omega))]; simp [go_sem, hXs, *]; done)); (try have rb1 : w4.cell? ⟨T + 1 + 1 + 1, 1, none⟩ = some (.int .i64 0) := (by rw [B4'.cell (by first | (simp [hXs]; done) | (simp [hXs]; omega))]; simp [go_sem, hXs, *]; done)); (try have rbf1 : w4.frozen? ⟨T + 1 + 1 + 1, 1, none⟩ = false := (by rw [B4'.frozen (by first | (simp [hXs]; done) | (simp [hXs]; omega))]; simp [go_sem, hXs, *]; done)); (try have rc0 : w4.cell? ⟨w3.heap.size, 0, none⟩ = some (.int .i64 0) := (by rw [B4'.cell (by first | (simp [hXs]; done) | (simp [hXs]; omega))]; simp [go_sem, hXs, *]; done)); (try have rcf0 : w4.frozen? ⟨w3.heap.size, 0, none⟩ = false := (by rw [B4'.frozen (by first | (simp [hXs]; done) | (simp [hXs]; omega))]; simp [go_sem, hXs, *]; done)); (try have rc1 : w4.cell? ⟨w3.heap.size, 1, none⟩ = some (.int .i64 0) := (by rw [B4'.cell (by first | (simp [hXs]; done) | (simp [hXs]; omega))]; simp [go_sem, hXs, *]; done)); (try have rcf1 : w4.frozen? ⟨w3.heap.size, 1, none⟩ = false := (by rw [B4'.frozen (by first | (simp [hXs]; done) | (simp [hXs]; omega))]; simp [go_sem, hXs, *]; done)); (try have rd0 : w4.cell? ⟨w3.heap.size + 1, 0, none⟩ = some (.int .i64 0) := (by rw [B4'.cell (by first | (simp [hXs]; done) | (simp [hXs]; omega))]; simp [go_sem, hXs, *]; done)); (try have rdf0 : w4.frozen? ⟨w3.heap.size + 1, 0, none⟩ = false := (by rw [B4'.frozen (by first | (simp [hXs]; done) | (simp [hXs]; omega))]; simp [go_sem, hXs, *]; done)); (try have rd1 : w4.cell? ⟨w3.heap.size + 1, 1, none⟩ = some (.int .i64 0) := (by rw [B4'.cell (by first | (simp [hXs]; done) | (simp [hXs]; omega))]; simp [go_sem, hXs, *]; done)); (try have rdf1 : w4.frozen? ⟨w3.heap.size + 1, 1, none⟩ = false := (by rw [B4'.frozen (by first | (simp [hXs]; done) | (simp [hXs]; omega))]; simp [go_sem, hXs, *]; done)))))
  all_goals go_wp2_with fail
  all_goals go_meet
  all_goals refine ⟨_, _, f0, t0, f1, t1, rfl, rfl, ?_, ?_, blk2 ?_ ?_ ?_ ?_, blk2 ?_ ?_ ?_ ?_, hide ⟨hu, HRQ.out ▸ hu'⟩, ?_⟩
  all_goals first
   | (simp [go_sem, hXs, *]; done)
   | omega
   | (simp [hXs]; omega)
   | (repeat' (first | (with_reducible assumption) | (with_reducible exact Below.refl _ _) | (with_reducible refine Below.alloc ?_ ?_ _) | (with_reducible refine Below.drew ?_) | (with_reducible refine Below.setCell ?_ ?_ _) | (with_reducible refine Below.trans ?_ (B3'.mono ?_)) | (with_reducible refine Below.trans ?_ (B4'.mono ?_)) | omega | (simp; done) | (simp [hXs]; done) | (simp; omega)))
 case rest =>
  obtain ⟨g, h, f0, t0, f1, t1, rfl, rfl, hg, hh, bg, bh, HU, hBw⟩ := hcut
  have hT6 : S + 4 ≤ T := by omega
  have hB2 : Below T w1 wc := hBX.trans (hBw.mono (by omega))
  have x0 := B0.out.below hB2 (show S < T by omega)
  have x1 := B1.out.below hB2 (show S + 1 < T by omega)
  have x2 := B2.out.below hB2 (show S + 1 + 1 < T by omega)
  have x3 := B3.out.below hB2 (show S + 1 + 1 + 1 < T by omega)
  have x4 : Blk wc T [.int .i64 c, .int .i64 d, .int .i64 0, .int .i64 0, .int .i64 0, .int .i64 0] := by
   have := (Blk.new w1 [.int .i64 c, .int .i64 d, .int .i64 0, .int .i64 0, .int .i64 0, .int .i64 0] 92).alloc (.cells #[.int .i64 0, .int .i64 0] 47)
   have e : Blk X T [.int .i64 c, .int .i64 d, .int .i64 0, .int .i64 0, .int .i64 0, .int .i64 0] := by rw [HX.out]; simpa [hT] using this
   exact e.below hBw (by omega)
  have x5 : Blk wc (T + 1) [.int .i64 0, .int .i64 0] := by
   have := Blk.new (w1.alloc (.cells #[.int .i64 c, .int .i64 d, .int .i64 0, .int .i64 0, .int .i64 0, .int .i64 0] 92)) [.int .i64 0, .int .i64 0] 47
   have e : Blk X (T + 1) [.int .i64 0, .int .i64 0] := by rw [HX.out]; simpa [hT] using this
   exact e.below hBw (by omega)
  have hBS : Below S w wc := HB1.out.trans (hB2.mono (by omega))
  obtain ⟨m1, m2, m3, m4, m5, m6⟩ := tally_of HU.out.1 HU.out.2
  obtain ⟨q0, hq0, HQ0⟩ : ∃ q0 : Nat, (f1 : Int) - (f0 : Int) = (q0 : Int) ∧ Hid (f1 - f0 = q0) := ⟨f1 - f0, by omega, rfl⟩
  obtain ⟨q1, hq1, HQ1⟩ : ∃ q1 : Nat, (t1 : Int) - (t0 : Int) = (q1 : Int) ∧ Hid (t1 - t0 = q1) := ⟨t1 - t0, by omega, rfl⟩
  obtain ⟨r0, hr0, HR0⟩ : ∃ r0 : Nat, (a : Int) + (c : Int) - (f1 : Int) = (r0 : Int) ∧ Hid (a + c - f1 = r0) := ⟨a + c - f1, by omega, rfl⟩
  obtain ⟨r1, hr1, HR1⟩ : ∃ r1 : Nat, (b : Int) + (d : Int) - (t1 : Int) = (r1 : Int) ∧ Hid (b + d - t1 = r1) := ⟨b + d - t1, by omega, rfl⟩
  have k0 : IntKind.i64.wrap (q0 : Int) = (q0 : Int) := by rw [IntKind.wrap_i64]; omega
  have k1 : IntKind.i64.wrap (q1 : Int) = (q1 : Int) := by rw [IntKind.wrap_i64]; omega
  have k2 : IntKind.i64.wrap (r0 : Int) = (r0 : Int) := by rw [IntKind.wrap_i64]; omega
  have k3 : IntKind.i64.wrap (r1 : Int) = (r1 : Int) := by rw [IntKind.wrap_i64]; omega
  obtain ⟨bd1, bd2, bd3, bd4⟩ : (f1 : Int) ≤ 1000 ∧ (t1 : Int) ≤ 1000 ∧ (f0 : Int) ≤ 1000 ∧ (t0 : Int) ≤ 1000 := by omega
  obtain ⟨n1, n2, n3, n4⟩ : (0 : Int) ≤ (f1 : Int) ∧ (0 : Int) ≤ (t1 : Int) ∧ (0 : Int) ≤ (f0 : Int) ∧ (0 : Int) ≤ (t0 : Int) := by omega
  rw [HQ0.out, HR0.out] at m5
  rw [HQ1.out, HR1.out] at m6
  have HM := hide (And.intro m5 m6)
  have HBS := hide hBS
  have Y2 := hide x2; have Y3 := hide x3; have Y4 := hide x4; have Y5 := hide x5
  have a0 := (x0 0 _ rfl).1; have a1 := (x0 1 _ rfl).1; have a2 := (x1 0 _ rfl).1; have a3 := (x1 1 _ rfl).1
  have a4 := (bg 0 _ rfl).1; have a5 := (bg 1 _ rfl).1; have a6 := (bh 0 _ rfl).1; have a7 := (bh 1 _ rfl).1
  have e0 := (x4 0 _ rfl).1; have e1 := (x4 1 _ rfl).1; have e2 := (x4 2 _ rfl).1; have e3 := (x4 3 _ rfl).1; have e4 := (x4 4 _ rfl).1; have e5 := (x4 5 _ rfl).1
  have o0 := (x4 0 _ rfl).2; have o1 := (x4 1 _ rfl).2; have o2 := (x4 2 _ rfl).2; have o3 := (x4 3 _ rfl).2; have o4 := (x4 4 _ rfl).2; have o5 := (x4 5 _ rfl).2
  have e6 := (x5 0 _ rfl).1; have e7 := (x5 1 _ rfl).1; have o6 := (x5 0 _ rfl).2; have o7 := (x5 1 _ rfl).2
  have i0 := (x2 0 _ rfl).1; have i1 := (x2 1 _ rfl).1; have i2 := (x2 2 _ rfl).1; have i3 := (x2 3 _ rfl).1; have i4 := (x2 4 _ rfl).1; have i5 := (x2 5 _ rfl).1
  have j0 := (x2 0 _ rfl).2; have j1 := (x2 1 _ rfl).2; have j2 := (x2 2 _ rfl).2; have j3 := (x2 3 _ rfl).2; have j4 := (x2 4 _ rfl).2; have j5 := (x2 5 _ rfl).2
  have i6 := (x3 0 _ rfl).1; have i7 := (x3 1 _ rfl).1; have j6 := (x3 0 _ rfl).2; have j7 := (x3 1 _ rfl).2
  have dg1 : ¬ g = T := by omega
  have dg2 : ¬ g = T + 1 := by omega
  have dh1 : ¬ h = T := by omega
  have dh2 : ¬ h = T + 1 := by omega
  have ds1 : ¬ S = T := by omega
  have ds2 : ¬ S + 1 = T := by omega
  have ds3 : ¬ S = T + 1 := by omega
  have ds4 : ¬ S = T := by omega
  clear x0 x1 x2 x3 x4 x5 bg bh hBS hB2 hBw hBX d20 d21 d30 d31 m1 m2 m3 m4 m5 m6 hRQ hRQ1 hRQ2
  go_wp2
  refine wp_loop_rounds 3 ?_
  rw [rounds_succ]
  go_wp2
  go_region
  go_wp2
  go_region
  go_wp2
  rw [rounds_succ]
  go_wp2
  go_region
  go_wp2
  go_region
  go_wp2
  rw [rounds_succ]
  go_wp2
  go_region
  go_wp2
  obtain ⟨Z, hZ⟩ : ∃ Z, Z = ((((((((((((((wc.setCell ⟨T, 2, none⟩ (.int .i64 f0)).setCell ⟨T + 1, 0, none⟩ (.int .i64 q0)).setCell ⟨T, 4, none⟩ (.int .i64 r0)).setCell ⟨T, 3, none⟩ (.int .i64 t0)).setCell ⟨T + 1, 1, none⟩ (.int .i64 q1)).setCell ⟨T, 5, none⟩ (.int .i64 r1)).setCell ⟨S + 1 + 1, 0, none⟩ (.int .i64 c)).setCell ⟨S + 1 + 1, 1, none⟩ (.int .i64 d)).setCell ⟨S + 1 + 1, 2, none⟩ (.int .i64 f0)).setCell ⟨S + 1 + 1, 3, none⟩ (.int .i64 t0)).setCell ⟨S + 1 + 1, 4, none⟩ (.int .i64 r0)).setCell ⟨S + 1 + 1, 5, none⟩ (.int .i64 r1)).setCell ⟨S + 1 + 1 + 1, 0, none⟩ (.int .i64 q0)).setCell ⟨S + 1 + 1 + 1, 1, none⟩ (.int .i64 q1)).drew.drew.drew.drew.drew := ⟨_, rfl⟩
  have z4 : Blk Z (S + 1 + 1) [.int .i64 c, .int .i64 d, .int .i64 f0, .int .i64 t0, .int .i64 r0, .int .i64 r1] := by rw [hZ]; exact ((((((((((((((Y2.out.other ⟨T, 2, none⟩ (.int .i64 f0) (by simp only; omega)).other ⟨T + 1, 0, none⟩ (.int .i64 q0) (by simp only; omega)).other ⟨T, 4, none⟩ (.int .i64 r0) (by simp only; omega)).other ⟨T, 3, none⟩ (.int .i64 t0) (by simp only; omega)).other ⟨T + 1, 1, none⟩ (.int .i64 q1) (by simp only; omega)).other ⟨T, 5, none⟩ (.int .i64 r1) (by simp only; omega)).set (j := 0) (by simp) (.int .i64 c)).set (j := 1) (by simp) (.int .i64 d)).set (j := 2) (by simp) (.int .i64 f0)).set (j := 3) (by simp) (.int .i64 t0)).set (j := 4) (by simp) (.int .i64 r0)).set (j := 5) (by simp) (.int .i64 r1)).other ⟨S + 1 + 1 + 1, 0, none⟩ (.int .i64 q0) (by simp only; omega)).other ⟨S + 1 + 1 + 1, 1, none⟩ (.int .i64 q1) (by simp only; omega)).drew.drew.drew.drew.drew
  have z5 : Blk Z (S + 1 + 1 + 1) [.int .i64 q0, .int .i64 q1] := by rw [hZ]; exact ((((((((((((((Y3.out.other ⟨T, 2, none⟩ (.int .i64 f0) (by simp only; omega)).other ⟨T + 1, 0, none⟩ (.int .i64 q0) (by simp only; omega)).other ⟨T, 4, none⟩ (.int .i64 r0) (by simp only; omega)).other ⟨T, 3, none⟩ (.int .i64 t0) (by simp only; omega)).other ⟨T + 1, 1, none⟩ (.int .i64 q1) (by simp only; omega)).other ⟨T, 5, none⟩ (.int .i64 r1) (by simp only; omega)).other ⟨S + 1 + 1, 0, none⟩ (.int .i64 c) (by simp only; omega)).other ⟨S + 1 + 1, 1, none⟩ (.int .i64 d) (by simp only; omega)).other ⟨S + 1 + 1, 2, none⟩ (.int .i64 f0) (by simp only; omega)).other ⟨S + 1 + 1, 3, none⟩ (.int .i64 t0) (by simp only; omega)).other ⟨S + 1 + 1, 4, none⟩ (.int .i64 r0) (by simp only; omega)).other ⟨S + 1 + 1, 5, none⟩ (.int .i64 r1) (by simp only; omega)).set (j := 0) (by simp) (.int .i64 q0)).set (j := 1) (by simp) (.int .i64 q1)).drew.drew.drew.drew.drew
  have zB : Below S w Z := by rw [hZ]; exact ((((((((((((((HBS.out.setCell (p := ⟨T, 2, none⟩) (by simp only; omega) _).setCell (p := ⟨T + 1, 0, none⟩) (by simp only; omega) _).setCell (p := ⟨T, 4, none⟩) (by simp only; omega) _).setCell (p := ⟨T, 3, none⟩) (by simp only; omega) _).setCell (p := ⟨T + 1, 1, none⟩) (by simp only; omega) _).setCell (p := ⟨T, 5, none⟩) (by simp only; omega) _).setCell (p := ⟨S + 1 + 1, 0, none⟩) (by simp only; omega) _).setCell (p := ⟨S + 1 + 1, 1, none⟩) (by simp only; omega) _).setCell (p := ⟨S + 1 + 1, 2, none⟩) (by simp only; omega) _).setCell (p := ⟨S + 1 + 1, 3, none⟩) (by simp only; omega) _).setCell (p := ⟨S + 1 + 1, 4, none⟩) (by simp only; omega) _).setCell (p := ⟨S + 1 + 1, 5, none⟩) (by simp only; omega) _).setCell (p := ⟨S + 1 + 1 + 1, 0, none⟩) (by simp only; omega) _).setCell (p := ⟨S + 1 + 1 + 1, 1, none⟩) (by simp only; omega) _).drew.drew.drew.drew.drew
  rw [← hZ]
  clear hZ
  have w0 := (z4 0 _ rfl).1; have w1' := (z4 1 _ rfl).1; have w2 := (z4 2 _ rfl).1; have w3 := (z4 3 _ rfl).1; have w4 := (z4 4 _ rfl).1; have w5 := (z4 5 _ rfl).1
  have w6 := (z5 0 _ rfl).1; have w7 := (z5 1 _ rfl).1
  refine bodyPost_ret (v := .tuple #[.agg #[.int .i64 c, .int .i64 d, .int .i64 f0, .int .i64 t0, .int .i64 r0, .int .i64 r1], .agg #[.int .i64 q0, .int .i64 q1], .int .i64 0]) ?_ rfl ⟨⟨f0, t0, q0, q1, r0, r1, rfl, HM.out.1, HM.out.2⟩, ?_⟩
  · simp [results, Tryz.f111, go_sem, w0, w1', w2, w3, w4, w5, w6, w7]
  · rw [hS]; exact zB
end Go.Proofs.YtjjikhaaimfneaaGreatDoor
namespace Go.Proofs.YtjjikhaaimfneaaGreatDoor
open Go.RowKit
set_option linter.unusedSimpArgs false
set_option linter.unusedVariables false
theorem tally_one {R Q : Nat} {pre : List Bool} {x : Bool} {p q r p' q' r' : Nat} (h : Tally R Q pre x p q r) (h' : Tally R Q pre x p' q' r') : p = p' ∧ q = q' ∧ r = r' := by
 unfold Tally at *; omega
theorem pass_detF {R Q a b c d : Nat} {e : Ending} {p0 p1 q0 q1 r0 r1 : Nat} (h0 : Tally R Q (rowB a b c d) false p0 q0 r0) (h1 : Tally R Q (rowB a b c d) true p1 q1 r1) (h : PassEnds R Q a b c d e) :
 e = .returned (.tuple #[.agg #[.int .i64 c, .int .i64 d, .int .i64 p0, .int .i64 p1, .int .i64 r0, .int .i64 r1], .agg #[.int .i64 q0, .int .i64 q1], .int .i64 0]) := by
 obtain ⟨p0', p1', q0', q1', r0', r1', he, k0, k1⟩ := h
 obtain ⟨rfl, rfl, rfl⟩ := tally_one h0 k0
 obtain ⟨rfl, rfl, rfl⟩ := tally_one h1 k1
 exact he
theorem tally_ex (R Q : Nat) (pre : List Bool) (x : Bool) : ∃ p q r, Tally R Q pre x p q r := by
 have l1 : List.count x (List.take R pre) ≤ List.count x (List.take (R + Q) pre) := by
  have e : List.take R pre = List.take R (List.take (R + Q) pre) := by rw [List.take_take, Nat.min_eq_left (by omega)]
  rw [e]; exact (List.take_sublist _ _).count_le x
 have l2 : List.count x (List.take (R + Q) pre) ≤ List.count x pre := (List.take_sublist _ _).count_le x
 exact ⟨List.count x (List.take R pre), List.count x (List.take (R + Q) pre) - List.count x (List.take R pre), List.count x pre - List.count x (List.take (R + Q) pre), rfl, by omega, by omega⟩
end Go.Proofs.YtjjikhaaimfneaaGreatDoor
