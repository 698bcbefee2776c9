/-
  WALK: the reference's UParse.
-/
import Derived.Test.YtjjikhaaimfneaaDoorBParse
namespace Go.Proofs.YtjjikhaaimfneaaDoor
open Go.RowKit
set_option linter.unusedSimpArgs false
set_option linter.unusedVariables false

/-- no rules ahead of these have the text -/
def NoA (s : List UInt8) (n : Nat) : Prop := ∀ k0 k1 R Q J, ROk k0 k1 R Q J → (k0 - 1) * 3 + (k1 - 1) < (n : Int) → s ≠ textL k0 k1 R Q J
def NoB (s : List UInt8) (n : Nat) (r : Int) : Prop := NoA s n ∧ ∀ k0 k1 R Q J, ROk k0 k1 R Q J → (k0 - 1) * 3 + (k1 - 1) = (n : Int) → R < r → s ≠ textL k0 k1 R Q J
def NoC (s : List UInt8) (n : Nat) (r : Int) (q : Nat) : Prop := NoB s n r ∧ ∀ k0 k1 R Q J, ROk k0 k1 R Q J → (k0 - 1) * 3 + (k1 - 1) = (n : Int) → R = r → Q < (q : Int) → s ≠ textL k0 k1 R Q J
def NoD (s : List UInt8) (n : Nat) (r : Int) (q j : Nat) : Prop := NoC s n r q ∧ ∀ k0 k1 R Q J, ROk k0 k1 R Q J → (k0 - 1) * 3 + (k1 - 1) = (n : Int) → R = r → Q = (q : Int) → J < (j : Int) → s ≠ textL k0 k1 R Q J
theorem noA_0 (s : List UInt8) : NoA s 0 := fun k0 k1 R Q J h hc => by unfold ROk at h; omega
theorem noB_1 {s : List UInt8} {n : Nat} (h : NoA s n) : NoB s n 1 := ⟨h, fun k0 k1 R Q J h hc hr => by unfold ROk at h; omega⟩
theorem noC_0 {s : List UInt8} {n : Nat} {r : Int} (h : NoB s n r) : NoC s n r 0 := ⟨h, fun k0 k1 R Q J h hc _ hr => by unfold ROk at h; omega⟩
theorem noD_0 {s : List UInt8} {n q : Nat} {r : Int} (h : NoC s n r q) : NoD s n r q 0 := ⟨h, fun k0 k1 R Q J h hc _ _ hr => by unfold ROk at h; omega⟩
theorem noD_next {s : List UInt8} {n q j : Nat} {r : Int} (h : NoD s n r q j) (hs : s ≠ textL ((n : Int) / 3 + 1) ((n : Int) % 3 + 1) r q j) : NoD s n r q (j + 1) := ⟨h.1, fun k0 k1 R Q J ho hc h1 h2 h3 => by
  rcases (show J < (j : Int) ∨ J = (j : Int) by omega) with h4 | rfl
  · exact h.2 k0 k1 R Q J ho hc h1 h2 h4
  · subst h1; subst h2
    have e0 : k0 = (n : Int) / 3 + 1 := by unfold ROk at ho; omega
    have e1 : k1 = (n : Int) % 3 + 1 := by unfold ROk at ho; omega
    rw [e0, e1]; exact hs⟩
theorem noC_next {s : List UInt8} {n q : Nat} {r : Int} (h : NoD s n r q 4) : NoC s n r (q + 1) := ⟨h.1.1, fun k0 k1 R Q J ho hc h1 h2 => by
  rcases (show Q < (q : Int) ∨ Q = (q : Int) by omega) with h4 | h4
  · exact h.1.2 k0 k1 R Q J ho hc h1 h4
  · exact h.2 k0 k1 R Q J ho hc h1 h4 (by unfold ROk at ho; omega)⟩
theorem noB_next {s : List UInt8} {n : Nat} {r : Int} (h : NoC s n r 17) : NoB s n (r + 1) := ⟨h.1.1, fun k0 k1 R Q J ho hc h1 => by
  rcases (show R < r ∨ R = r by omega) with h4 | h4
  · exact h.1.2 k0 k1 R Q J ho hc h4
  · exact h.2 k0 k1 R Q J ho hc h4 (by unfold ROk at ho; omega)⟩
theorem noA_next {s : List UInt8} {n : Nat} (h : NoB s n 13) : NoA s (n + 1) := fun k0 k1 R Q J ho hc => by
  rcases (show (k0 - 1) * 3 + (k1 - 1) < (n : Int) ∨ (k0 - 1) * 3 + (k1 - 1) = (n : Int) by omega) with h4 | h4
  · exact h.1 k0 k1 R Q J ho h4
  · exact h.2 k0 k1 R Q J ho h4 (by unfold ROk at ho; omega)
theorem noA_9 {s : List UInt8} (h : NoA s 9) : PSays s 0 0 0 0 0 1 := .inr ⟨fun k0 k1 R Q J ho => h k0 k1 R Q J ho (by unfold ROk at ho; omega), rfl, rfl, rfl, rfl, rfl, rfl⟩
set_option maxRecDepth 100000 in
set_option maxHeartbeats 16000000 in
theorem uparse_any (s : ByteArray) (w : World) : Calls Tryd.prog 7 #[.string s] w fun e w' => PEnds s.data.toList e ∧ Below w.heap.size w w' := by
  obtain ⟨S, hS⟩ : ∃ S, w.heap.size = S := ⟨_, rfl⟩
  go_enter Tryd.func7, Tryd.ntmps7
  go_upto_region 2 with fail
  obtain ⟨W, hW⟩ : ∃ W, W = w.alloc (.cells #[.int .i64 0, .int .i64 0, .int .i64 0, .int .i64 0, .int .i64 0] 24) := ⟨_, rfl⟩
  have A0 : Blk W S [.int .i64 0, .int .i64 0, .int .i64 0, .int .i64 0, .int .i64 0] := by
    have := Blk.new w [.int .i64 0, .int .i64 0, .int .i64 0, .int .i64 0, .int .i64 0] 24
    rw [hW]; simpa [hS] using this
  have BS : Below S w W := by rw [hW, ← hS]; exact (Below.refl _ _).alloc (Nat.le_refl _) _
  rw [← hW]
  clear hW
  have HAW := hide A0; have HBW := hide BS
  clear A0 BS
  go_loopw [11] (fun i wr => ∃ n : Nat, n ≤ 9 ∧ i = .int .i64 n ∧ Hid (NoA s.data.toList n) ∧ Hid (Blk wr S [.int .i64 0, .int .i64 0, .int .i64 0, .int .i64 0, .int .i64 0]) ∧ Hid (Below S w wr)) (fun i _ => 9 - (intOf i).toNat)
  case atStart => exact ⟨0, by omega, rfl, hide (noA_0 _), HAW, HBW⟩
  case round =>
    obtain ⟨n, hn, rfl, HN, HA, HB⟩ := hrel
    clear HAW HBW
    have n0' : (0 : Int) ≤ (n : Int) := Int.natCast_nonneg _
    by_cases hln : n < 9
    · have n1' : (n : Int) < 9 := by omega
      go_wp2
      go_loopw [5] (fun v wr => ∃ r : Nat, 1 ≤ r ∧ r ≤ 13 ∧ v = .int .i64 r ∧ Hid (NoB s.data.toList n r) ∧ Hid (Blk wr S [.int .i64 0, .int .i64 0, .int .i64 0, .int .i64 0, .int .i64 0]) ∧ Hid (Below S w wr)) (fun v _ => 13 - (intOf v).toNat)
      case atStart => exact ⟨1, by omega, by omega, rfl, hide (noB_1 HN.out), HA, HB⟩
      case round =>
        clear HN HA HB
        obtain ⟨r, hr, hr', rfl, HN, HA, HB⟩ := hrel
        have r0' : (1 : Int) ≤ (r : Int) := by omega
        by_cases hlr : r < 13
        · have r1' : (r : Int) ≤ 12 := by omega
          go_wp2
          go_loopw [18] (fun i wr => ∃ q : Nat, q ≤ 17 ∧ i = .int .i64 q ∧ Hid (NoC s.data.toList n r q) ∧ Hid (Blk wr S [.int .i64 0, .int .i64 0, .int .i64 0, .int .i64 0, .int .i64 0]) ∧ Hid (Below S w wr)) (fun i _ => 17 - (intOf i).toNat)
          case atStart => exact ⟨0, by omega, rfl, hide (noC_0 HN.out), HA, HB⟩
          case round =>
            clear HN HA HB
            obtain ⟨q, hq, rfl, HN, HA, HB⟩ := hrel
            have q0' : (0 : Int) ≤ (q : Int) := Int.natCast_nonneg _
            by_cases hlq : q < 17
            · have q1' : (q : Int) < 17 := by omega
              go_wp2
              go_loopw [21] (fun i wr => ∃ j : Nat, j ≤ 4 ∧ i = .int .i64 j ∧ Hid (NoD s.data.toList n r q j) ∧ Hid (Blk wr S [.int .i64 0, .int .i64 0, .int .i64 0, .int .i64 0, .int .i64 0]) ∧ Hid (Below S w wr)) (fun i _ => 4 - (intOf i).toNat)
              case atStart => exact ⟨0, by omega, rfl, hide (noD_0 HN.out), HA, HB⟩
              case round =>
                clear HN HA HB
                obtain ⟨j, hj, rfl, HN, HA, HB⟩ := hrel
                have j0' : (0 : Int) ≤ (j : Int) := Int.natCast_nonneg _
                by_cases hlj : j < 4
                · have j1' : (j : Int) < 4 := by omega
                  go_upto_region 14 with fail
                  obtain ⟨V, hV⟩ : ∃ V, V = wr.alloc (.cells #[.int .i64 ((n : Int) / 3 + 1), .int .i64 ((n : Int) % 3 + 1), .int .i64 r, .int .i64 q, .int .i64 j] 24) := ⟨_, rfl⟩
                  obtain ⟨G, hG⟩ : ∃ G, wr.heap.size = G := ⟨_, rfl⟩
                  rw [← hV, hG]
                  have hSG : S < G := by rw [← hG]; exact HA.out.lt
                  have HAV := hide (show Blk V S [.int .i64 0, .int .i64 0, .int .i64 0, .int .i64 0, .int .i64 0] from by rw [hV]; exact HA.out.alloc _)
                  have HGV : Hid (Blk V G [.int .i64 ((n : Int) / 3 + 1), .int .i64 ((n : Int) % 3 + 1), .int .i64 r, .int .i64 q, .int .i64 j]) := hide (by rw [hV, ← hG]; exact Blk.new wr _ _)
                  have HBV := hide (show Below S w V from by rw [hV]; exact HB.out.alloc (by omega) _)
                  have hVs : G < V.heap.size := HGV.out.lt
                  have HOK : Hid (ROk ((n : Int) / 3 + 1) ((n : Int) % 3 + 1) r q j) := hide (by unfold ROk; omega)
                  obtain ⟨g_0, g_1, g_2, g_3, g_4⟩ := HGV.out.c5
                  clear hV HA HB
                  by_cases ht : s.data.toList = textL ((n : Int) / 3 + 1) ((n : Int) % 3 + 1) r q j
                  · have HPS := hide (psays_yes HOK.out ht)
                    have h1 : (textL ((n : Int) / 3 + 1) ((n : Int) % 3 + 1) r q j == s.toList) = true := by rw [ByteArray.toList_eq, ht]; exact beq_self_eq_true _
                    clear ht
                    go_wp2_with (go_at_call 5; refine (uprint_ok ((n : Int) / 3 + 1) ((n : Int) % 3 + 1) r q j HOK.out V).mono ?_; rintro e w2 ⟨rfl, hb⟩; have ha := HAV.out.below hb (by omega); have hg := HGV.out.below hb (by omega); obtain ⟨a_0, f_0, a_1, f_1, a_2, f_2, a_3, f_3, a_4, f_4⟩ := ha.cf5; obtain ⟨s_0, s_1, s_2, s_3, s_4⟩ := hg.c5; have HA2 := hide ha; have HB2 := hide (HBV.out.trans (hb.mono (by omega))); clear ha hg hb)
                    obtain ⟨Z, hZ, z, zB⟩ := rul_fin (y0 := .int .i64 ((n : Int) / 3 + 1)) (y1 := .int .i64 ((n : Int) % 3 + 1)) (y2 := .int .i64 r) (y3 := .int .i64 q) (y4 := .int .i64 j) HA2.out HB2.out (Nat.le_refl _)
                    rw [← hZ]
                    obtain ⟨c0, c1, c2, c3, c4⟩ := z.c5
                    refine bodyPost_ret (v := .tuple #[.agg #[.int .i64 ((n : Int) / 3 + 1), .int .i64 ((n : Int) % 3 + 1), .int .i64 r, .int .i64 q, .int .i64 j], .int .i64 0]) ?_ rfl ⟨⟨_, _, _, _, _, 0, rfl, HPS.out⟩, by rw [hS]; exact zB⟩
                    simp [results, Tryd.f7, go_sem, c0, c1, c2, c3, c4]
                  · have HN2 := hide (noD_next HN.out ht)
                    have h1 : (textL ((n : Int) / 3 + 1) ((n : Int) % 3 + 1) r q j == s.toList) = false := by rw [ByteArray.toList_eq]; exact beq_eq_false_iff_ne.2 (fun e => ht e.symm)
                    clear ht HN
                    go_wp2_with (go_at_call 5; refine (uprint_ok ((n : Int) / 3 + 1) ((n : Int) % 3 + 1) r q j HOK.out V).mono ?_; rintro e w2 ⟨rfl, hb⟩; have ha := HAV.out.below hb (by omega); have hg := HGV.out.below hb (by omega); obtain ⟨a_0, f_0, a_1, f_1, a_2, f_2, a_3, f_3, a_4, f_4⟩ := ha.cf5; obtain ⟨s_0, s_1, s_2, s_3, s_4⟩ := hg.c5; have HA2 := hide ha; have HB2 := hide (HBV.out.trans (hb.mono (by omega))); clear ha hg hb)
                    exact ⟨⟨j + 1, by omega, by go_num, HN2, HA2, HB2⟩, by simp [intOf]; omega⟩
                · obtain rfl : j = 4 := by omega
                  go_wp2
                  exact ⟨⟨q + 1, by omega, by go_num, hide (noC_next HN.out), HA, HB⟩, by simp [intOf]; omega⟩
            · obtain rfl : q = 17 := by omega
              go_wp2
              exact ⟨⟨r + 1, by omega, by omega, by go_num, hide (noB_next HN.out), HA, HB⟩, by simp [intOf]; omega⟩
        · obtain rfl : r = 13 := by omega
          go_wp2
          exact ⟨⟨n + 1, by omega, by go_num, hide (noA_next HN.out), HA, HB⟩, by simp [intOf]; omega⟩
    · obtain rfl : n = 9 := by omega
      obtain ⟨a_0, f_0, a_1, f_1, a_2, f_2, a_3, f_3, a_4, f_4⟩ := HA.out.cf5
      go_wp2
      obtain ⟨Z, hZ, z, zB⟩ := rul_fin (y0 := .int .i64 0) (y1 := .int .i64 0) (y2 := .int .i64 0) (y3 := .int .i64 0) (y4 := .int .i64 0) HA.out HB.out (Nat.le_refl _)
      rw [← hZ]
      obtain ⟨c0, c1, c2, c3, c4⟩ := z.c5
      refine bodyPost_ret (v := .tuple #[.agg #[.int .i64 0, .int .i64 0, .int .i64 0, .int .i64 0, .int .i64 0], .int .i64 1]) ?_ rfl ⟨⟨0, 0, 0, 0, 0, 1, rfl, noA_9 HN.out⟩, by rw [hS]; exact zB⟩
      simp [results, Tryd.f7, go_sem, c0, c1, c2, c3, c4]
end Go.Proofs.YtjjikhaaimfneaaDoor
