/-
  WALKS: the reference's FRight.
-/
import Derived.Test.YtdlljemabbccjaaBRight
import Derived.Test.YtdlljemabbccjaaNum
import Derived.Laws.AppendOwnNone
namespace Go.Proofs.Ytdlljemabbccjaa
open Go.RowKit
set_option linter.unusedSimpArgs false
set_option linter.unusedVariables false

theorem intInfoF : (Try.prog.info? 3).map (fun i => (i.zero, i.size, i.bytes)) = some (some (.int .i64 0), 1, 8) := by kernel_rfl

/-- the reference gathers both numbers and the steps in one row -/
theorem small_cons {R B : Int} {xs : List Int} : Small ([R, B] ++ xs) ↔ (0 ≤ R ∧ R ≤ 1099511627776) ∧ (0 ≤ B ∧ B ≤ 1099511627776) ∧ Small xs := by
  constructor
  · intro h
    exact ⟨h R (by simp), h B (by simp), fun x hx => h x (by simp [hx])⟩
  · intro h x hx
    simp at hx
    rcases hx with rfl | rfl | hx
    · exact h.1
    · exact h.2.1
    · exact h.2.2 x hx
def RQ (R B : Int) (xs : List Int) (k : Nat) : Prop := xs.length < 300 ∧ ∀ (j : Nat) (x : Int), j < k → (R :: B :: xs)[j]? = some x → 0 ≤ x ∧ x ≤ 1099511627776
theorem rq_all {R B : Int} {xs : List Int} {k : Nat} (hk : k = xs.length + 2) : RQ R B xs k ↔ RightB R B xs := by
  subst hk
  unfold RQ RightB
  constructor
  · rintro ⟨h1, h2⟩
    exact ⟨h2 0 R (by omega) rfl, h2 1 B (by omega) rfl, h1, fun x hx => by
      obtain ⟨j, hj⟩ := List.mem_iff_getElem?.1 hx
      have := (List.getElem?_eq_some_iff.1 hj).1
      exact h2 (j + 2) x (by omega) (by simpa using hj)⟩
  · rintro ⟨h1, h2, h3, h4⟩
    refine ⟨h3, fun j x _ hx => ?_⟩
    have := List.mem_of_getElem? hx
    simp at this
    rcases this with rfl | rfl | h
    · exact h1
    · exact h2
    · exact h4 x h
theorem rq_zero {R B : Int} {xs : List Int} {n : Nat} (hn : xs.length = n) : decide ((n : Int) ≤ 299) = true ↔ RQ R B xs 0 := by
  unfold RQ
  constructor
  · intro h; simp at h; exact ⟨by omega, fun j _ hj => absurd hj (by omega)⟩
  · rintro ⟨h, _⟩; simp; omega
theorem rq_succ {R B : Int} {xs : List Int} {k : Nat} {x : Int} (hx : (R :: B :: xs)[k]? = some x) (h : RQ R B xs k) (h1 : 0 ≤ x) (h2 : x ≤ 1099511627776) : RQ R B xs (k + 1) :=
  ⟨h.1, fun j y hj hy => by
    rcases Nat.lt_or_eq_of_le (Nat.lt_succ_iff.1 hj) with h3 | rfl
    · exact h.2 j y h3 hy
    · rw [hx] at hy; injection hy with hy; subst hy; exact ⟨h1, h2⟩⟩
theorem rq_not {R B : Int} {xs : List Int} {k : Nat} (h : ¬ RQ R B xs k) : ¬ RQ R B xs (k + 1) := fun h' => h ⟨h'.1, fun j x hj => h'.2 j x (by omega)⟩
theorem rq_not' {R B : Int} {xs : List Int} {k : Nat} {x : Int} (hx : (R :: B :: xs)[k]? = some x) (h : ¬ (0 ≤ x ∧ x ≤ 1099511627776)) : ¬ RQ R B xs (k + 1) := fun h' => h (h'.2 k x (by omega) hx)
set_option maxRecDepth 100000 in
set_option maxHeartbeats 4000000 in
theorem fRight_any (R B : Int) (a : Option Addr) (n c : Nat) (xs : List Int) (w : World) (h : IntsAt w a n c xs) (hno : a = none → n = 0 ∧ c = 0) (hlim : n + 2 ≤ 17592186044416) :
    Calls Try.prog 31 #[.agg #[.int .i64 R, .int .i64 B], .slice a n c] w fun e w' => IsB (RightB R B xs) e ∧ Below w.heap.size w w' := by
  obtain ⟨i0, hi0, hz0, hz1, hz2⟩ := info_parts intInfoF
  have HL := hide h.len
  have hown0 : ((w.alloc (.cells #[.int .i64 R, .int .i64 B] 43)).alloc (.cells #[.int .i64 R, .int .i64 B] 3)).ownsRow w.heap.size 3 1 (.slice (some ⟨w.heap.size + 1, 0, none⟩) 2 2) 2 [.int .i64 R, .int .i64 B] :=
    ⟨rfl, .inr ⟨w.heap.size + 1, 2, #[.int .i64 R, .int .i64 B], rfl, by omega, by simpa using heap_alloc_new (w.alloc (.cells #[.int .i64 R, .int .i64 B] 43)) (.cells #[.int .i64 R, .int .i64 B] 3), Nat.le_refl _, by unfold maxLen; omega, rfl, rfl⟩⟩
  have hWB : Below w.heap.size w ((w.alloc (.cells #[.int .i64 R, .int .i64 B] 43)).alloc (.cells #[.int .i64 R, .int .i64 B] 3)) := ((Below.refl _ _).alloc (Nat.le_refl _) _).alloc (by simp) _
  cases a with
  | none =>
    obtain ⟨rfl, rfl⟩ := hno rfl
    obtain rfl : xs = [] := List.eq_nil_of_length_eq_zero HL.out
    clear h hno
    have hI : IntsAt ((w.alloc (.cells #[.int .i64 R, .int .i64 B] 43)).alloc (.cells #[.int .i64 R, .int .i64 B] 3)) (some ⟨w.heap.size + 1, 0, none⟩) (0 + 2) 2 [R, B] := by
      obtain ⟨b, d, hv, hI⟩ := IntsAt.of_own (xs := [R, B]) hown0 (by simp)
      injection hv with h1 h2 h3
      subst h1; subst h3
      exact hI
    have hB1 := hWB
    go_enter Try.func31, Try.ntmps31
    go_wp2_with (go_loud (at_builtin; refine wpList_append_own_none rfl (.tmp 15) (.tmp 16) 24 rfl w.heap.size 3 i0 1 Try.underlying24 hi0 _ _ _ rfl hown0 rfl ?_))
    clear hown0 hWB
    generalize (⟨w.heap.size + 1, 0, none⟩ : Addr) = b0 at hI ⊢
    generalize ((w.alloc (.cells #[.int .i64 R, .int .i64 B] 43)).alloc (.cells #[.int .i64 R, .int .i64 B] 3)) = W1 at hI hB1 ⊢
    go_loop [5, 19] (fun o i => ∃ k : Nat, k ≤ 0 + 2 ∧ i = .int .i64 k ∧ ∃ r : Bool, (r = true ↔ RQ R B ([] : List Int) k) ∧ o = .bool r) (fun _ i => 0 + 2 - (intOf i).toNat)
    case atStart => exact ⟨0, Nat.zero_le _, rfl, _, rq_zero HL.out, rfl⟩
    case round =>
      obtain ⟨k, hk, rfl, r, hr, rfl⟩ := hrel
      have HR := hide hr
      clear hr
      by_cases hlt : k < 0 + 2
      · obtain ⟨ad2, x, he2, hbd, hc, HX⟩ := hI.getB (Below.refl _ _) hlt
        first | subst he2 | (injection he2 with he2; subst he2)
        have k0 : (0 : Int) ≤ (k : Int) := Int.natCast_nonneg _
        have k1 : (k : Int) < (0 : Int) + 2 := by omega
        clear hI
        cases r with
        | false =>
          have HS := hide (rq_not (fun h => Bool.noConfusion (HR.out.2 h)) : ¬ RQ R B ([] : List Int) (k + 1))
          go_wp2
          go_round
          case rel => exact ⟨k + 1, by omega, by go_num, false, by simp [HS.out], rfl⟩
          case measure => simp [intOf]; omega
        | true =>
          have HT := hide (HR.out.1 rfl)
          rcases (show x < 0 ∨ (0 ≤ x ∧ x ≤ 1099511627776) ∨ (0 ≤ x ∧ 1099511627776 < x) by omega) with hx | ⟨hx, hx'⟩ | ⟨hx, hx'⟩
          · have HS := hide (rq_not' HX.out (by omega) : ¬ RQ R B ([] : List Int) (k + 1))
            have hd : decide (0 ≤ x) = false := by simp; omega
            go_wp2
            go_round
            case rel => exact ⟨k + 1, by omega, by go_num, false, by simp [HS.out], rfl⟩
            case measure => simp [intOf]; omega
          · have HS := hide (rq_succ HX.out HT.out hx hx' : RQ R B ([] : List Int) (k + 1))
            go_wp2
            go_round
            case rel => exact ⟨k + 1, by omega, by go_num, true, by simp [HS.out], by first | rfl | simp [hx, hx']⟩
            case measure => simp [intOf]; omega
          · have HS := hide (rq_not' HX.out (by omega) : ¬ RQ R B ([] : List Int) (k + 1))
            have hd : decide (x ≤ 1099511627776) = false := by simp; omega
            go_wp2
            go_round
            case rel => exact ⟨k + 1, by omega, by go_num, false, by simp [HS.out], by first | rfl | simp [hd]⟩
            case measure => simp [intOf]; omega
      · obtain rfl : k = 0 + 2 := by omega
        have HF := hide (by rw [← rq_all (show 0 + 2 = ([] : List Int).length + 2 by rw [HL.out])]; exact HR.out : r = true ↔ RightB R B ([] : List Int))
        clear hI
        go_wp2
        go_ret
        exact ⟨IsB.d HF.out, hB1⟩
  | some ad =>
    have hcl : ∀ j u, (xs.map (Value.int .i64))[j]? = some u → ((w.alloc (.cells #[.int .i64 R, .int .i64 B] 43)).alloc (.cells #[.int .i64 R, .int .i64 B] 3)).cell? (ad.add j) = some u := by
      intro j u hj
      rw [List.getElem?_map] at hj
      obtain ⟨x, hx, rfl⟩ := Option.map_eq_some_iff.1 hj
      have hjl := (List.getElem?_eq_some_iff.1 hx).1
      obtain ⟨ad', he, hlt, hc⟩ := h.2.2.2 (by rw [HL.out] at hjl; omega)
      injection he with he
      subst he
      exact (hWB.cell (by rw [block_add]; exact hlt)).trans (hc j x hx)
    clear h hno
    go_enter Try.func31, Try.ntmps31
    go_wp2_with (go_loud (at_builtin; refine wpList_append_own _ rfl (.tmp 15) (.tmp 16) 24 rfl w.heap.size 3 i0 (.int .i64 0) 1 8 Try.underlying24 hi0 hz0 hz1 hz2 rfl (by decide) _ _ _ rfl hown0 ad n c (xs.map (Value.int .i64)) rfl (by simp [HL.out]) hcl (by simp [Value.oneCell']) (by unfold maxLen; omega) (by omega) (by simp; omega) ?_; intro v' w1 hown1 hgrow _; have hown2 : w1.ownsRow w.heap.size 3 1 v' (R :: B :: xs).length ((R :: B :: xs).map (Value.int .i64)) := (by rw [show (R :: B :: xs).length = 2 + n by simp [HL.out]; omega]; exact hown1); have hB1 : Below w.heap.size w w1 := (hWB.grown hgrow (by simp; omega) (own_row hown0)); obtain ⟨b, d, hv, hI⟩ := IntsAt.of_own hown2 (by simp [HL.out]; omega); have hlen : (R :: B :: xs).length = n + 2 := (by simp [HL.out]); rw [hlen] at hv hI; subst hv; clear hown1 hgrow hown2 hown0))
    clear hcl
    go_loop [5, 19] (fun o i => ∃ k : Nat, k ≤ n + 2 ∧ i = .int .i64 k ∧ ∃ r : Bool, (r = true ↔ RQ R B xs k) ∧ o = .bool r) (fun _ i => n + 2 - (intOf i).toNat)
    case atStart => exact ⟨0, Nat.zero_le _, rfl, _, rq_zero HL.out, rfl⟩
    case round =>
      obtain ⟨k, hk, rfl, r, hr, rfl⟩ := hrel
      have HR := hide hr
      clear hr
      by_cases hlt : k < n + 2
      · obtain ⟨ad2, x, he2, hbd, hc, HX⟩ := hI.getB (Below.refl _ _) hlt
        first | subst he2 | (injection he2 with he2; subst he2)
        have k0 : (0 : Int) ≤ (k : Int) := Int.natCast_nonneg _
        have k1 : (k : Int) < (n : Int) + 2 := by omega
        clear hI
        cases r with
        | false =>
          have HS := hide (rq_not (fun h => Bool.noConfusion (HR.out.2 h)) : ¬ RQ R B xs (k + 1))
          go_wp2
          go_round
          case rel => exact ⟨k + 1, by omega, by go_num, false, by simp [HS.out], rfl⟩
          case measure => simp [intOf]; omega
        | true =>
          have HT := hide (HR.out.1 rfl)
          rcases (show x < 0 ∨ (0 ≤ x ∧ x ≤ 1099511627776) ∨ (0 ≤ x ∧ 1099511627776 < x) by omega) with hx | ⟨hx, hx'⟩ | ⟨hx, hx'⟩
          · have HS := hide (rq_not' HX.out (by omega) : ¬ RQ R B xs (k + 1))
            have hd : decide (0 ≤ x) = false := by simp; omega
            go_wp2
            go_round
            case rel => exact ⟨k + 1, by omega, by go_num, false, by simp [HS.out], rfl⟩
            case measure => simp [intOf]; omega
          · have HS := hide (rq_succ HX.out HT.out hx hx' : RQ R B xs (k + 1))
            go_wp2
            go_round
            case rel => exact ⟨k + 1, by omega, by go_num, true, by simp [HS.out], by first | rfl | simp [hx, hx']⟩
            case measure => simp [intOf]; omega
          · have HS := hide (rq_not' HX.out (by omega) : ¬ RQ R B xs (k + 1))
            have hd : decide (x ≤ 1099511627776) = false := by simp; omega
            go_wp2
            go_round
            case rel => exact ⟨k + 1, by omega, by go_num, false, by simp [HS.out], by first | rfl | simp [hd]⟩
            case measure => simp [intOf]; omega
      · obtain rfl : k = n + 2 := by omega
        have HF := hide (by rw [← rq_all (show n + 2 = xs.length + 2 by rw [HL.out])]; exact HR.out : r = true ↔ RightB R B xs)
        clear hI
        go_wp2
        go_ret
        exact ⟨IsB.d HF.out, hB1⟩

end Go.Proofs.Ytdlljemabbccjaa
