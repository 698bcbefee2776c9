/-
  Lemmas and walks for the statement: Alive.
-/
import Derived.Test.YtjjikhaaimfneaaGreatDoorU48
import Derived.Test.YtjjikhaaimfneaaGreatDoorU37
import Derived.Test.YtjjikhaaimfneaaGreatDoorU38
namespace Go.Proofs.YtjjikhaaimfneaaGreatDoor
open Go.RowKit
set_option linter.unusedSimpArgs false
set_option linter.unusedVariables false
def txB : ByteArray := ⟨#[118, 101, 103, 97, 115, 32, 118, 101, 103, 97, 115, 32, 50, 32, 50, 32, 48]⟩
theorem tx_is : txB.data.toList = textL 1 1 2 2 0 := by
 unfold textL
 rw [show Lib.itoa 2 = digL 2 from itoa_dig (n := 2) (by omega), show Lib.itoa 0 = digL 0 from itoa_dig (n := 0) (by omega)]
 decide
theorem vv_says (w : World) {who kind most err : Int} (hw : who = 0 ∨ who = 1) (h : VSays 1 1 2 2 0 who 3 kind most err) : err = 0 := by
 rcases h with ⟨hg, _⟩ | ⟨_, r, X, hs, ⟨h0, _, _, _⟩ | ⟨_, rfl, _⟩⟩
 · exact absurd (by unfold goodArgs; omega) hg
 · exact absurd (vv_srch w hs) h0
 · rfl
theorem tx_tells (w : World) {ls : List (List UInt8)} {r : Int} (h : TSay txB.data.toList 3 ls r) : ls.length = 2 ∧ r = 0 := by
 obtain ⟨k0, k1, R, Q, J, e, hp, ho⟩ := h
 obtain ⟨rfl, rfl, rfl, rfl, rfl, rfl⟩ := psays_one (psays_yes (by unfold ROk; omega) tx_is) hp
 rcases ho with ⟨h0, _⟩ | ⟨_, a0, m0, e0, a1, m1, e1, v0, v1, ho⟩
 · exact absurd rfl h0
 · obtain rfl := vv_says w (.inl rfl) v0
   obtain rfl := vv_says w (.inr rfl) v1
   rcases ho with ⟨h0, _⟩ | ⟨_, h0, _⟩ | ⟨_, _, rfl, rfl⟩
   · exact absurd rfl h0
   · exact absurd rfl h0
   · exact ⟨rfl, rfl⟩
theorem pb_21 : passB 1 2 [5, 0] = [2, 1] := by decide
theorem qg_21 : goL 2 3 [2, 1] = [2, 1] := by decide
theorem ints_new (w : World) (x y : Int) (t : TypeId) : IntsAt (w.alloc (.cells #[.int .i64 x, .int .i64 y] t)) (some ⟨w.heap.size, 0, none⟩) 2 2 [x, y] := by
 obtain ⟨a, c, hv, hi⟩ := IntsAt.of_own (xs := [x, y]) (own_pair (w := w) (x := .int .i64 x) (y := .int .i64 y) (t := t) (B := 0) (Nat.zero_le _)) (by simp)
 simp only [List.length_cons, List.length_nil, Value.slice.injEq] at hv
 obtain ⟨rfl, _, rfl⟩ := hv
 exact hi
set_option maxRecDepth 100000 in
set_option maxHeartbeats 8000000 in
theorem alive_any (w : World) (hG : GL w) : Calls Tryz.prog 7 #[] w fun e w' => e = .returned (.bool true) ∧ Below w.heap.size w w' := by
 have HT := hide (tell_any txB (by decide) 3 w hG)
 clear hG
 obtain ⟨S, hS⟩ : ∃ S, w.heap.size = S := ⟨_, rfl⟩
 go_enter Tryz.func7, Tryz.ntmps7
 go_wp2_with fail
 refine HT.out.mono ?_
 rintro e w1 ⟨⟨ls, r, v, B, rfl, hts, hrow⟩, hA⟩
 obtain ⟨hl2, rfl⟩ := tx_tells w hts
 rw [hl2] at hrow
 obtain ⟨a, c, rfl⟩ := sliceShape hrow
 clear hrow hts HT
 have HB := hide hA
 clear hA
 go_wp2_with (first
  | (go_at_call 8; refine (bPass_ok 1 2 _ 2 2 [5, 0] _ (ints_new w1 5 0 _) (by unfold RightB; refine ⟨by omega, by omega, by simp, fun z hz => ?_⟩; simp at hz; omega)).mono ?_; rintro e w2 ⟨b, m, d, rfl, hi, hb⟩; rw [pb_21] at hi; have HI := hide hi; have HB2 := hide (HB.out.trans ((((Below.refl w1.heap.size w1).alloc (Nat.le_refl _) _).trans (hb.mono (by simp))).mono (by have := HB.out.size; omega))); clear hi hb)
  | (go_at_call 11; refine (play_ok 2 3 _ _ _ [2, 1] _ HI.out (by unfold RightB; refine ⟨by omega, by omega, by simp, fun z hz => ?_⟩; simp at hz; omega)).mono ?_; rintro e w3 ⟨⟨b1, n1, d1, b2, n2, d2, b3, n3, d3, rfl, i1, i2, i3⟩, hb⟩; rw [qg_21] at i1; have HI1 := hide i1; have HB3 := hide (HB2.out.trans (hb.mono (by have := HB2.out.size; omega))); clear i1 i2 i3 hb)
  | (go_at_call 24; refine (equal_any b1 _ n1 2 d1 2 [2, 1] [2, 1] _ (HI1.out.below ((Below.refl w3.heap.size w3).alloc (Nat.le_refl _) _)) (ints_new w3 2 1 _)).mono ?_; rintro e w4 ⟨rfl, hb⟩; have HB4 := hide (HB3.out.trans ((((Below.refl w3.heap.size w3).alloc (Nat.le_refl _) _).trans (hb.mono (by simp))).mono (by have := HB3.out.size; omega))); clear hb))
 go_ret
 exact ⟨by simp, HB4.out⟩
end Go.Proofs.YtjjikhaaimfneaaGreatDoor
