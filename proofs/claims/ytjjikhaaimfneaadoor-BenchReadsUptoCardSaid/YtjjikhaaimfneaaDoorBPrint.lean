/-
  WALK: bench.Print.
-/
import Derived.Test.YtjjikhaaimfneaaDoorBName
import Derived.Test.YtjjikhaaimfneaaDoorDuel2
import Derived.Test.YtjjikhaaimfneaaDoorRegG2
import Derived.Test.YtjjikhaaimfneaaDoorBlkC
import Derived.Test.YtjjikhaaimfneaaDoorSl
import Derived.Deep.DeepCutAuto
namespace Go.Proofs.YtjjikhaaimfneaaDoor
open Go.RowKit
set_option linter.unusedSimpArgs false
set_option linter.unusedVariables false

theorem strInfoB : (Tryd.prog.info? 9).map (fun i => (i.zero, i.size, i.bytes)) = some (some (.string ByteArray.empty), 1, 16) := by kernel_rfl
theorem rok_of {k0 k1 R Q J : Int} (h1 : kindsOk k0 k1) (h2 : rangeOk R Q J) : ROk k0 k1 R Q J := by unfold kindsOk at h1; unfold rangeOk at h2; unfold ROk; omega
theorem rok_k {k0 k1 R Q J : Int} (h : ROk k0 k1 R Q J) : kindsOk k0 k1 ∧ rangeOk R Q J := by unfold ROk at h; unfold kindsOk rangeOk; omega
/-- five words -/
def W5 (k0 k1 R Q J : Int) : List (List UInt8) := [nameL k0, nameL k1, Lib.itoa R, Lib.itoa Q, Lib.itoa J]
def strV (l : List UInt8) : Value := .string ⟨l.toArray⟩
theorem w5_len (k0 k1 R Q J : Int) : (W5 k0 k1 R Q J).length = 5 := rfl
def num3 (R Q J : Int) (k : Nat) : Int := if k = 0 then R else if k = 1 then Q else J
theorem num3_at (k0 k1 R Q J : Int) {k : Nat} (h : k < 3) : Lib.itoa (num3 R Q J k) = (W5 k0 k1 R Q J).getD (2 + k) [] := by
  rcases (show k = 0 ∨ k = 1 ∨ k = 2 by omega) with rfl | rfl | rfl <;> rfl
theorem num3_b {k0 k1 R Q J : Int} (h : ROk k0 k1 R Q J) (k : Nat) : 0 ≤ num3 R Q J k ∧ num3 R Q J k < 100 := by
  unfold ROk at h; unfold num3; split
  · omega
  · split <;> omega
theorem take_next {α : Type} {l : List α} {k : Nat} {d : α} (h : k < l.length) : l.take (k + 1) = l.take k ++ [l.getD k d] := by
  rw [List.take_succ_eq_append_getElem h, List.getD_eq_getElem?_getD, List.getElem?_eq_getElem h]; rfl
theorem own_pair {w : World} {x y : Value} {t : TypeId} {B : Nat} (hB : B ≤ w.heap.size) : (w.alloc (.cells #[x, y] t)).ownsRow B t 1 (.slice (some ⟨w.heap.size, 0, none⟩) 2 2) 2 [x, y] :=
  ⟨rfl, .inr ⟨w.heap.size, 2, #[x, y], rfl, hB, World.alloc_heap_new w _, Nat.le_refl _, by unfold maxLen; omega, rfl, rfl⟩⟩
theorem ints_of {w : World} {H : Nat} {t : TypeId} {a b c : Int} (h : w.heap[H]? = some (.cells #[.int .i64 a, .int .i64 b, .int .i64 c] t (0, 0))) : w.cell? ⟨H, 0, none⟩ = some (.int .i64 a) ∧ w.cell? ⟨H, 1, none⟩ = some (.int .i64 b) ∧ w.cell? ⟨H, 2, none⟩ = some (.int .i64 c) := by
  refine ⟨?_, ?_, ?_⟩ <;> simp [World.cell?, h]
theorem row_cells {w : World} {B : Nat} {e : TypeId} {v : Value} {n : Nat} {xs : List Value} (h : w.ownsRow B e 1 v n xs) (hn : 0 < n) : ∃ g c, v = .slice (some ⟨g, 0, none⟩) n c ∧ g < w.heap.size ∧ n ≤ c ∧ ∀ (j : Nat) x, xs[j]? = some x → w.cell? ⟨g, 0 + j, none⟩ = some x := by
  rcases h.2 with ⟨_, h0⟩ | ⟨g, cap, cur, rfl, _, hg, hc, _, hs, hx⟩
  · omega
  · refine ⟨g, cap, rfl, (Array.getElem?_eq_some_iff.1 hg).1, hc, fun j x hj => ?_⟩
    have hlt : j < n := by
      have := (List.getElem?_eq_some_iff.1 hj).1
      rw [h.1] at this; omega
    rw [Nat.zero_add]
    have e2 : w.cell? ⟨g, j, none⟩ = cur[j]? := by simp [World.cell?, hg]
    rw [e2]
    rw [← hx, List.getElem?_take, if_pos (by omega)] at hj
    simpa using hj
theorem row_typeB {w : World} {B n size g : Nat} {e t : TypeId} {v : Value} {xs : List Value} {arr : Array Value} (h : w.ownsRow B e size v n xs) (hT : w.heap[g]? = some (.cells arr t (0, 0))) (hne : e ≠ t) : v.ownBlock ≠ some g := by
  intro hg
  rcases h.2 with ⟨rfl, _⟩ | ⟨g2, cap, cur, rfl, _, hh, _⟩
  · simp [Value.ownBlock] at hg
  · simp only [Value.ownBlock, Option.some.injEq] at hg
    subst hg
    rw [hT] at hh
    injection hh with hh
    injection hh with _ h2
    exact hne h2.symm
theorem name_len (k : Int) : (nameL k).length ≤ 6 := by
  unfold nameL; split
  · decide
  · split <;> decide
theorem itoa_len {n : Int} (h0 : 0 ≤ n) (h1 : n < 100) : (Lib.itoa n).length ≤ 2 := by
  obtain ⟨m, rfl⟩ : ∃ m : Nat, n = (m : Int) := ⟨n.toNat, by omega⟩
  rw [itoa_dig (by omega)]; unfold digL; split <;> simp
theorem text_len {k0 k1 R Q J : Int} (h : ROk k0 k1 R Q J) : (textL k0 k1 R Q J).length ≤ 100 := by
  unfold ROk at h
  have a := name_len k0; have b := name_len k1
  have c := itoa_len (n := R) (by omega) (by omega)
  have d := itoa_len (n := Q) (by omega) (by omega)
  have e := itoa_len (n := J) (by omega) (by omega)
  unfold textL join5
  simp only [List.length_append, List.length_cons]
  omega
set_option maxRecDepth 100000 in
set_option maxHeartbeats 8000000 in
theorem print_ok (k0 k1 R Q J : Int) (h : ROk k0 k1 R Q J) (w : World) (hG : GL w) : Calls Tryd.prog 4 #[.agg #[.int .i64 k0, .int .i64 k1, .int .i64 R, .int .i64 Q, .int .i64 J]] w fun e w' => e = .returned (.tuple #[.string ⟨(textL k0 k1 R Q J).toArray⟩, .int .i64 0]) ∧ Below w.heap.size w w' := by
  obtain ⟨i0, hi0, hz0, hz1, hz2⟩ := info_parts strInfoB
  have HR := hide h
  have HG0 := hide hG
  have hkr := rok_k h
  have hk0 : 1 ≤ k0 ∧ k0 ≤ 3 := by unfold ROk at h; omega
  have hk1 : 1 ≤ k1 ∧ k1 ≤ 3 := by unfold ROk at h; omega
  have HK0 := hide hk0; have HK1 := hide hk1; have HKR := hide hkr
  clear h hG hk0 hk1 hkr
  obtain ⟨S, hS⟩ : ∃ S, w.heap.size = S := ⟨_, rfl⟩
  go_enter Tryd.func4, Tryd.ntmps4
  go_upto_region 1 with fail
  obtain ⟨W, hW⟩ : ∃ W, W = w.alloc (.cells #[.int .i64 k0, .int .i64 k1, .int .i64 R, .int .i64 Q, .int .i64 J] 24) := ⟨_, rfl⟩
  rw [← hW]
  have R0 : Blk W S [.int .i64 k0, .int .i64 k1, .int .i64 R, .int .i64 Q, .int .i64 J] := by
    have := Blk.new w [.int .i64 k0, .int .i64 k1, .int .i64 R, .int .i64 Q, .int .i64 J] 24
    rw [hW]; simpa [hS] using this
  have BS : Below S w W := by rw [hW, ← hS]; exact (Below.refl _ _).alloc (Nat.le_refl _) _
  clear hW
  obtain ⟨r_0, r_1, r_2, r_3, r_4⟩ := R0.c5
  have H0 := hide R0; have HB := hide BS
  clear R0 BS
  go_wp2_with fail
  refine (dwrong_any k0 k1 R Q J W).mono ?_
  rintro e w1 ⟨he, hA⟩
  obtain rfl := he.ok HKR.out.1 HKR.out.2
  clear r_0 r_1 r_2 r_3 r_4 he
  have R0 := H0.out.below hA H0.out.lt
  have BS := HB.out.trans (hA.mono (Nat.le_of_lt H0.out.lt))
  clear hA H0 HB
  have H0 := hide R0; have HB := hide BS
  clear R0 BS
  go_upto_region 4 with fail
  obtain ⟨Z, hZ⟩ : ∃ Z, Z = w1 := ⟨_, rfl⟩
  rw [← hZ] at H0 HB ⊢
  clear hZ
  have HC : Hid (∀ w', Below Z.heap.size Z w' → w'.cell? ⟨S, 0, none⟩ = some (.int .i64 k0) ∧ w'.cell? ⟨S, 1, none⟩ = some (.int .i64 k1)) := hide (fun w' hb => by
    have q0 := H0.out.below hb H0.out.lt
    exact ⟨(q0 0 _ rfl).1, (q0 1 _ rfl).1⟩)
  have hSZ : S < Z.heap.size := H0.out.lt
  refine wp_region_G 7 (fun w' => w'.cell? ⟨S, 0, none⟩ = some (.int .i64 k0) ∧ w'.cell? ⟨S, 1, none⟩ = some (.int .i64 k1)) (by kernel_rfl) ?_
  obtain ⟨Y, hY⟩ : ∃ Y, Y = Z.drew := ⟨_, rfl⟩
  rw [← hY]
  have HBY : Hid (Below Z.heap.size Z Y) := hide (by rw [hY]; exact (Below.refl _ _).drew)
  clear hY
  have hF := hide (HC.out Y HBY.out)
  refine kB 0 hF.out ?_
  refine kB 1 hF.out ?_
  refine kB 2 hF.out ?_
  refine kB 4 hF.out ?_
  refine kB 5 hF.out ?_
  refine kB 6 hF.out ?_
  clear hF
  have HGY : Hid (GL Y) := hide (HG0.out.below (by rw [hS]; exact HB.out.trans (HBY.out.mono (by omega))))
  refine wpAnyG_oneF (i := 3) rfl (by kernel_rfl) (fun K hK => ?_)
  go_simp
  refine (name_any k0 HK0.out _ HGY.out).mono ?_
  rintro e w2 ⟨rfl, hb⟩
  have HB2 := hide (HBY.out.trans (hb.mono HBY.out.size))
  have HG2 := hide (HGY.out.below hb)
  refine hK.out _ _ (HC.out _ HB2.out) ?_
  clear hK K hb HGY
  refine kL ?_
  refine wpAnyG_one (i := 7) rfl (by kernel_rfl) (by kernel_rfl) (fun K hK => ?_)
  go_simp
  refine (name_any k1 HK1.out _ HG2.out).mono ?_
  rintro e w3 ⟨rfl, hb⟩
  have HB3 := hide (HB2.out.trans (hb.mono HB2.out.size))
  have HG3 := hide (HG2.out.below hb)
  refine hK.out _ _ ?_
  clear hK K hb HG2 HB2
  refine kL ?_
  refine wpAnyG_one (i := 8) rfl (by kernel_rfl) (by kernel_rfl) (fun K hK => ?_)
  go_simp
  obtain ⟨X, hX⟩ : ∃ X, X = w3.alloc (.cells #[.string ⟨(nameL k0).toArray⟩, .string ⟨(nameL k1).toArray⟩] 9) := ⟨_, rfl⟩
  obtain ⟨G, hGs⟩ : ∃ G, w3.heap.size = G := ⟨_, rfl⟩
  rw [← hX, hGs]
  refine hK.out _ _ ?_
  clear hK K
  refine kL ?_
  refine kC 9 ?_
  refine kL ?_
  refine wpAnyG_done (by kernel_rfl) ?_ _
  have HOX := hide (show X.ownsRow w.heap.size 9 1 (.slice (some ⟨G, 0, none⟩) 2 2) (2 + 0) (((W5 k0 k1 R Q J).take (2 + 0)).map strV) from by
    have := own_pair (w := w3) (x := .string ⟨(nameL k0).toArray⟩) (y := .string ⟨(nameL k1).toArray⟩) (t := 9) (B := w.heap.size) (by have := HB3.out.size; omega)
    rw [← hX, hGs] at this; exact this)
  have HBX := hide (show Below w.heap.size w X from by
    rw [hX]
    have h1 := HB.out.trans (HB3.out.mono (by omega))
    rw [← hS] at h1
    exact h1.alloc h1.size _)
  have R0 : Blk X S [.int .i64 k0, .int .i64 k1, .int .i64 R, .int .i64 Q, .int .i64 J] := by
    rw [hX]; exact (H0.out.below HB3.out H0.out.lt).alloc _
  obtain ⟨r_0, r_1, r_2, r_3, r_4⟩ := R0.c5
  clear hX hGs HB3 HG3 HC H0 HB HG0 R0
  go_upto_region 6 with fail
  obtain ⟨V, hV⟩ : ∃ V, V = X.alloc (.cells #[.int .i64 R, .int .i64 Q, .int .i64 J] 3) := ⟨_, rfl⟩
  obtain ⟨H, hH⟩ : ∃ H, X.heap.size = H := ⟨_, rfl⟩
  rw [← hV, hH]
  have HOV := hide (show V.ownsRow w.heap.size 9 1 (.slice (some ⟨G, 0, none⟩) 2 2) (2 + 0) (((W5 k0 k1 R Q J).take (2 + 0)).map strV) from by rw [hV]; exact HOX.out.alloc _)
  have HHV := hide (show V.heap[H]? = some (.cells #[.int .i64 R, .int .i64 Q, .int .i64 J] 3 (0, 0)) from by rw [hV, ← hH]; exact World.alloc_heap_new X _)
  have HBV := hide (show Below w.heap.size w V from by rw [hV]; exact HBX.out.alloc HBX.out.size _)
  clear hV hH HOX HBX r_0 r_1 r_2 r_3 r_4
  go_loopw [5, 30] (fun v i wr => ∃ k : Nat, k ≤ 3 ∧ i = .int .i64 k ∧ Hid (wr.ownsRow w.heap.size 9 1 v (2 + k) (((W5 k0 k1 R Q J).take (2 + k)).map strV)) ∧ Hid (wr.heap[H]? = some (.cells #[.int .i64 R, .int .i64 Q, .int .i64 J] 3 (0, 0))) ∧ Hid (Below w.heap.size w wr)) (fun _ i _ => 3 - (intOf i).toNat)
  case atStart => exact ⟨0, by omega, rfl, HOV, HHV, HBV⟩
  case round =>
    obtain ⟨k, hk, rfl, HO, HH, HB⟩ := hrel
    have k0' : (0 : Int) ≤ (k : Int) := Int.natCast_nonneg _
    by_cases hlt : k < 3
    · have k1' : (k : Int) < 3 := by omega
      have hown := HO.out
      have hnb := row_typeB hown HH.out (by decide)
      have hi := num3_b HR.out k
      have hv := num3_at k0 k1 R Q J hlt
      obtain ⟨x, hx⟩ : ∃ x, num3 R Q J k = x := ⟨_, rfl⟩
      have hc : wr.cell? ⟨H, k, none⟩ = some (.int .i64 x) := by
        obtain ⟨c0, c1, c2⟩ := ints_of HH.out
        rw [← hx]
        rcases (show k = 0 ∨ k = 1 ∨ k = 2 by omega) with rfl | rfl | rfl
        · exact c0
        · exact c1
        · exact c2
      rw [hx] at hi hv
      have HI := hide (fun w => itoa_any x hi.1 hi.2 w)
      have HV := hide hv
      have hBs := HB.out.size
      have hlH : H < wr.heap.size := (Array.getElem?_eq_some_iff.1 HH.out).1
      clear hx hi hv HO
      go_wp2_with (first | (go_at_call 10; refine (HI.out _).mono ?_; rintro e w1 ⟨rfl, hw1⟩; have hw2 := hw1.symm; clear hw1; subst hw2) | (at_builtin; refine wpList_append_own _ rfl _ _ 33 rfl w.heap.size 9 i0 (.string ByteArray.empty) 1 16 Tryd.underlying33 hi0 hz0 hz1 hz2 rfl (by decide) _ _ _ rfl (hown.alloc _) ⟨wr.heap.size, 0, none⟩ 1 1 [.string ⟨(Lib.itoa x).toArray⟩] rfl rfl (cell_one_new _ _ _) (by simp [Value.oneCell']) (by unfold maxLen; omega) (by omega) (by simp; omega) ?_; intro v' w1 hown1 hgrow _))
      refine ⟨⟨k + 1, by omega, by go_num, hide ?_, hide ?_, hide ((HB.out.alloc hBs _).grown hgrow (by simp; omega) (own_row hown))⟩, by simp [intOf]; omega⟩
      · have e1 : (W5 k0 k1 R Q J).take (2 + (k + 1)) = (W5 k0 k1 R Q J).take (2 + k) ++ [Lib.itoa x] := by
          rw [show 2 + (k + 1) = 2 + k + 1 by omega, take_next (d := []) (by rw [w5_len]; omega), ← HV.out]
        rw [e1, List.map_append]
        exact hown1
      · have := hgrow.block H (by simp; omega) (fun e => hnb e.symm)
        rw [this]
        exact (((Below.refl wr.heap.size wr).alloc (Nat.le_refl _) _).block H hlH).trans HH.out
    · obtain rfl : k = 3 := by omega
      obtain ⟨g, c, rfl, hg, hc, hcells⟩ := row_cells (n := 5) (xs := (W5 k0 k1 R Q J).map strV) HO.out (by omega)
      have hlen := text_len HR.out
      have e5 : (((W5 k0 k1 R Q J).map fun l => (⟨l.toArray⟩ : ByteArray)).map (·.data.toList)) = W5 k0 k1 R Q J := by simp [W5]
      have ej : Lib.join (W5 k0 k1 R Q J) [32] = textL k0 k1 R Q J := join5_is _ _ _ _ _
      have HJ : Hid (Calls Tryd.prog 11 #[.slice (some ⟨g, 0, none⟩) 5 c, .string ⟨#[32]⟩] wr fun e w' => e = .returned (.string ⟨(textL k0 k1 R Q J).toArray⟩) ∧ Below wr.heap.size wr w') := hide (by
        have h1 := Tryd.strings_Join g 0 c ((W5 k0 k1 R Q J).map fun l => ⟨l.toArray⟩) ⟨#[32]⟩ wr (fun j x hx => by
          refine hcells j _ ?_
          rw [List.getElem?_map] at hx ⊢
          obtain ⟨l, hl, rfl⟩ := Option.map_eq_some_iff.1 hx
          rw [hl]; rfl) hg (by simp [w5_len]) (by simpa [w5_len] using hc) (by
          rw [e5]; show (Lib.join (W5 k0 k1 R Q J) [32]).length ≤ _
          rw [ej]; exact Nat.le_trans hlen (by omega))
        refine h1.mono ?_
        rintro e w' ⟨rfl, hb⟩
        refine ⟨?_, hb⟩
        rw [e5]
        show Ending.returned (.string ⟨(Lib.join (W5 k0 k1 R Q J) [32]).toArray⟩) = _
        rw [ej])
      have hBs := HB.out.size
      clear hcells hlen hc HO e5 ej
      go_wp2_with (go_at_call 11; refine HJ.out.mono ?_; rintro e w1 ⟨rfl, hb⟩)
      go_ret2
      exact ⟨rfl, HB.out.trans (hb.mono hBs)⟩
end Go.Proofs.YtjjikhaaimfneaaDoor
