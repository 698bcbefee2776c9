/-
  Lemmas and walks for the statement: BAt, BParse.
-/
import Derived.Test.YtjjikhaaimfneaaGreatDoorU43
namespace Go.Proofs.YtjjikhaaimfneaaGreatDoor
open Go.RowKit
set_option linter.unusedSimpArgs false
set_option linter.unusedVariables false
theorem eqS (x y : List UInt8) : ((⟨x.toArray⟩ : ByteArray).toList == (⟨y.toArray⟩ : ByteArray).toList) = decide (x = y) := by
 by_cases h : x = y
 · subst h; simp
 · rw [decide_eq_false h]
   have : ¬ (⟨x.toArray⟩ : ByteArray).toList = (⟨y.toArray⟩ : ByteArray).toList := fun e => h (by
    simpa [ByteArray.toList_eq] using e)
   simpa using this
theorem bytes_eta (p : ByteArray) : p = ⟨p.data.toList.toArray⟩ := by cases p; rfl
theorem atoi_every (l : List UInt8) (hl : l.length ≤ 2000000) (w : World) (h : GL w) : Calls Tryz.prog 54 #[.string ⟨l.toArray⟩] w fun e w' => (∃ ev, e = .returned (.tuple #[.int .i64 (numL l), ev])) ∧ Below w.heap.size w w' := by
 have hs : (⟨l.toArray⟩ : ByteArray).size = l.length := rfl
 have hd : (⟨l.toArray⟩ : ByteArray).data.toList = l := rfl
 unfold numL
 cases hc : Lib.atoiAll l
 · rename_i v
   refine (Tryz.strconv_Atoi_ok ⟨l.toArray⟩ (by omega) v (by rw [hd]; exact hc) w).mono ?_
   rintro e w' ⟨rfl, hw⟩
   refine ⟨⟨_, rfl⟩, ?_⟩
   rcases hw with rfl | ⟨t, rfl⟩
   · exact Below.refl _ _
   · exact Lib.bytesWorld_below _ _ _
 · obtain ⟨ev, h1, h2⟩ := h.es
   refine (Any.strconv_Atoi_syntax Tryz.laysC172 ⟨l.toArray⟩ (by omega) (by rw [hd]; exact hc) ev w h1 h2).mono ?_
   rintro e w' ⟨N, rfl, _, _, hb⟩
   exact ⟨⟨_, rfl⟩, hb⟩
 · obtain ⟨ev, h1, h2⟩ := h.er
   refine (Tryz.strconv_Atoi_range ⟨l.toArray⟩ (by omega) (by rw [hd]; exact hc) ev w h1 h2).mono ?_
   rintro e w' ⟨N, rfl, _, _, hb⟩
   exact ⟨⟨_, rfl⟩, hb⟩
theorem split_any (s : ByteArray) (hs : s.size ≤ 2000000) (w : World) (h : GL w) : Calls Tryz.prog 52 #[.string s, .string ⟨#[32]⟩] w fun e w' => e = .returned (.slice (some ⟨w.heap.size, 0, none⟩) (s.data.toList.count 32 + 1) (s.data.toList.count 32 + 1)) ∧ w' = w.alloc (.cells ((piecesL s.data.toList).map strV).toArray 9) := by
 obtain ⟨m, hm⟩ := h.ml
 refine (Tryz.strings_Split s ⟨#[32]⟩ m w (by omega) hm (by decide)).mono ?_
 rintro e w' ⟨rfl, rfl⟩
 have e1 : Lib.countB s ⟨#[32]⟩ = s.data.toList.count 32 := Lib.count_one 32 s.data.toList
 rw [e1]
 refine ⟨rfl, ?_⟩
 congr 3
 have e2 := split_is s
 rw [e1] at e2
 rw [← e2, List.map_map]
 apply List.map_congr_left
 intro p _
 show Value.string p = Value.string ⟨p.data.toList.toArray⟩
 rw [← bytes_eta p]
theorem pieces_len (s : ByteArray) : (piecesL s.data.toList).length = s.data.toList.count 32 + 1 := by
 rw [← split_is s, List.length_map]
 have e1 : Lib.countB s ⟨#[32]⟩ = s.data.toList.count 32 := Lib.count_one 32 s.data.toList
 rw [Lib.splitB_all ⟨#[32]⟩ (by decide) 0 _ s rfl, e1]
theorem pieces_5 (s : ByteArray) (h : s.data.toList.count 32 = 4) : ∃ p0 p1 p2 p3 p4, piecesL s.data.toList = [p0, p1, p2, p3, p4] := by
 have hl := pieces_len s
 rw [h] at hl
 match hp : piecesL s.data.toList, hl with
 | [p0, p1, p2, p3, p4], _ => exact ⟨p0, p1, p2, p3, p4, rfl⟩
theorem splitK_le (sep : List UInt8) : ∀ (k : Nat) (s : List UInt8), ∀ p ∈ Lib.splitK sep 0 k s, p.length ≤ s.length
 | 0, s, p, h => by simp only [Lib.splitK, List.mem_singleton] at h; rw [h]; exact Nat.le_refl _
 | k + 1, s, p, h => by
   rw [Lib.splitK] at h
   split at h
   · simp only [List.mem_singleton] at h; rw [h]; exact Nat.le_refl _
   · rcases List.mem_cons.1 h with rfl | h
     · rw [List.length_take]; exact Nat.min_le_right _ _
     · have := splitK_le sep k _ p h
       rw [List.length_drop] at this; omega
def kp (p : List UInt8) : Nat → Int
 | 0 => 0
 | 1 => if veL = p then 1 else 0
 | 2 => if coL = p then 2 else if veL = p then 1 else 0
 | _ => if leL = p then 3 else if coL = p then 2 else if veL = p then 1 else 0
theorem kp_3 (p : List UInt8) : kp p 3 = kindL p := by
 unfold kp kindL
 simp only [eq_comm]
end Go.Proofs.YtjjikhaaimfneaaGreatDoor
namespace Go.Proofs.YtjjikhaaimfneaaGreatDoor
open Go.RowKit
set_option linter.unusedSimpArgs false
set_option linter.unusedVariables false
attribute [local go_sem] eqS
def PEnds (s : List UInt8) (e : Ending) : Prop := ∃ k0 k1 R Q J r, e = .returned (.tuple #[.agg #[.int .i64 k0, .int .i64 k1, .int .i64 R, .int .i64 Q, .int .i64 J], .int .i64 r]) ∧ PSays s k0 k1 R Q J r
theorem rul_fin {w wr : World} {S B : Nat} {x0 x1 x2 x3 x4 y0 y1 y2 y3 y4 : Value} (b : Blk wr B [x0, x1, x2, x3, x4]) (hB : Below S w wr) (hS : S ≤ B) : ∃ Z, Z = (((((wr.setCell ⟨B, 0, none⟩ y0).setCell ⟨B, 1, none⟩ y1).setCell ⟨B, 2, none⟩ y2).setCell ⟨B, 3, none⟩ y3).setCell ⟨B, 4, none⟩ y4) ∧ Blk Z B [y0, y1, y2, y3, y4] ∧ Below S w Z :=
 ⟨_, rfl, ((((b.set (j := 0) (by simp) y0).set (j := 1) (by simp) y1).set (j := 2) (by simp) y2).set (j := 3) (by simp) y3).set (j := 4) (by simp) y4,
  ((((hB.setCell (p := ⟨B, 0, none⟩) hS _).setCell (p := ⟨B, 1, none⟩) hS _).setCell (p := ⟨B, 2, none⟩) hS _).setCell (p := ⟨B, 3, none⟩) hS _).setCell (p := ⟨B, 4, none⟩) hS _⟩
theorem fields_blk (w : World) (h : GL w) : Calls Tryz.prog 53 #[.string ⟨#[118, 101, 103, 97, 115, 32, 99, 111, 112, 97, 32, 108, 101, 100, 98, 97, 116]⟩] w fun e w' => e = .returned (.slice (some ⟨w.heap.size, 0, none⟩) 3 3) ∧ Blk w' w.heap.size [.string ⟨veL.toArray⟩, .string ⟨coL.toArray⟩, .string ⟨leL.toArray⟩] ∧ Below w.heap.size w w' :=
 (fields_any w h).mono fun e w' ⟨he, hw⟩ => ⟨he, by rw [hw]; exact Blk.new w _ _, by rw [hw]; exact (Below.refl _ _).alloc (Nat.le_refl _) _⟩
theorem wrong_ex {k0 k1 R Q J : Int} (h : ¬ ROk k0 k1 R Q J) : ∃ r, WrongSays k0 k1 R Q J r ∧ r ≠ 0 := by
 by_cases hk : kindsOk k0 k1
 · exact ⟨2, .inr (.inl ⟨hk, fun h' => h (rok_of hk h'), rfl⟩), by omega⟩
 · exact ⟨5, .inl ⟨hk, rfl⟩, by omega⟩
def nk (p : List UInt8) (i k : Nat) : Int := if i < k then numL p else 0
def kA (p : List UInt8) (k : Nat) : Int := if k = 0 then 0 else kindL p
def kB2 (p : List UInt8) (k : Nat) : Int := if k ≤ 1 then 0 else kindL p
set_option maxRecDepth 100000 in
set_option maxHeartbeats 16000000 in
theorem parse_any (s : ByteArray) (hs : s.size ≤ 2000000) (w : World) (hG : GL w) : Calls Tryz.prog 34 #[.string s] w fun e w' => PEnds s.data.toList e ∧ Below w.heap.size w w' := by
 have HG := hide hG
 clear hG
 obtain ⟨S, hS⟩ : ∃ S, w.heap.size = S := ⟨_, rfl⟩
 go_enter Tryz.func34, Tryz.ntmps34
 go_upto_region 2 with fail
 obtain ⟨W, hW⟩ : ∃ W, W = (w.alloc (.cells #[.int .i64 0, .int .i64 0, .int .i64 0, .int .i64 0, .int .i64 0] 49)).alloc (.cells #[.int .i64 0, .int .i64 0, .int .i64 0, .int .i64 0, .int .i64 0] 49) := ⟨_, rfl⟩
 have hWs : W.heap.size = S + 1 + 1 := by rw [hW]; simp [hS]
 have A0 : Blk W S [.int .i64 0, .int .i64 0, .int .i64 0, .int .i64 0, .int .i64 0] := by
  have := (Blk.new w [.int .i64 0, .int .i64 0, .int .i64 0, .int .i64 0, .int .i64 0] 49).alloc (.cells #[.int .i64 0, .int .i64 0, .int .i64 0, .int .i64 0, .int .i64 0] 49)
  rw [hW]; simpa [hS] using this
 have B0 : Blk W (S + 1) [.int .i64 0, .int .i64 0, .int .i64 0, .int .i64 0, .int .i64 0] := by
  have := Blk.new (w.alloc (.cells #[.int .i64 0, .int .i64 0, .int .i64 0, .int .i64 0, .int .i64 0] 49)) [.int .i64 0, .int .i64 0, .int .i64 0, .int .i64 0, .int .i64 0] 49
  rw [hW]; simpa [hS] using this
 have BS : Below S w W := by rw [hW, ← hS]; exact ((Below.refl _ _).alloc (Nat.le_refl _) _).alloc (by simp) _
 rw [← hW]
 clear hW
 have HA := hide A0; have HBl := hide B0; have HB := hide BS
 have HGW := hide (HG.out.below (by rw [hS]; exact BS))
 clear A0 B0 BS
 go_wp2_with fail
 refine (split_any s hs W HGW.out).mono ?_
 rintro e w1 ⟨rfl, hw1⟩
 have HP1 : Hid (Blk w1 (S + 1 + 1) ((piecesL s.data.toList).map strV)) := hide (by rw [hw1, ← hWs]; exact Blk.new W _ _)
 have hA1 : Below W.heap.size W w1 := by rw [hw1]; exact (Below.refl _ _).alloc (Nat.le_refl _) _
 rw [hWs]
 clear hw1
 have HA1 := hide (HA.out.below hA1 (by omega))
 have HR1 := hide (HBl.out.below hA1 (by omega))
 have HB1 := hide (HB.out.trans (hA1.mono (by omega)))
 have HG1 := hide (HGW.out.below hA1)
 have hs1 : S + 1 + 1 < w1.heap.size ∨ True := .inr trivial
 clear HA HBl HB HGW hA1 hs1
 obtain ⟨nn, hnn⟩ : ∃ nn, s.data.toList.count 32 = nn := ⟨_, rfl⟩
 rw [hnn]
 by_cases h4 : nn = 4
 case neg =>
  have hps := psays_len (by rw [hnn]; exact h4)
  have hb1 : (((nn + 1 : Nat) : Int) != 5) = true := by simp; omega
  have hb2 : (((nn : Int) + 1) != 5) = true := by simp; omega
  obtain ⟨a_0, f_0, a_1, f_1, a_2, f_2, a_3, f_3, a_4, f_4⟩ := HA1.out.cf5
  clear HR1 HP1
  go_wp2
  obtain ⟨Z, hZ, z, zB⟩ := rul_fin (y0 := .int .i64 0) (y1 := .int .i64 0) (y2 := .int .i64 0) (y3 := .int .i64 0) (y4 := .int .i64 0) HA1.out HB1.out (Nat.le_refl _)
  rw [← hZ]
  obtain ⟨c0, c1, c2, c3, c4⟩ := z.c5
  refine bodyPost_ret (v := .tuple #[.agg #[.int .i64 0, .int .i64 0, .int .i64 0, .int .i64 0, .int .i64 0], .int .i64 1]) ?_ rfl ⟨⟨0, 0, 0, 0, 0, 1, rfl, hps⟩, by rw [hS]; exact zB⟩
  simp [results, Tryz.f34, go_sem, c0, c1, c2, c3, c4]
 subst h4
 obtain ⟨p0, p1, p2, p3, p4, hp⟩ := pieces_5 s hnn
 rw [hp] at HP1
 have hHP := hide hp
 have hple : ∀ p ∈ [p0, p1, p2, p3, p4], p.length ≤ 2000000 := fun p hm => by
  rw [← hp] at hm
  exact Nat.le_trans (splitK_le _ _ _ p hm) hs
 have HL0 := hide (hple p2 (by simp)); have HL1 := hide (hple p3 (by simp)); have HL2 := hide (hple p4 (by simp))
 clear hp hple
 have HP1 : Hid (Blk w1 (S + 1 + 1) [strV p0, strV p1, strV p2, strV p3, strV p4]) := HP1
 go_upto_region 6 with fail
 have HI : Hid ((kA p0 0 = 0) ∧ kB2 p1 0 = 0) := hide ⟨rfl, rfl⟩
 go_loopw [19] (fun i wr => ∃ k : Nat, k ≤ 2 ∧ i = .int .i64 k ∧ Hid (Blk wr S [.int .i64 0, .int .i64 0, .int .i64 0, .int .i64 0, .int .i64 0]) ∧ Hid (Blk wr (S + 1) [.int .i64 (kA p0 k), .int .i64 (kB2 p1 k), .int .i64 (0), .int .i64 (0), .int .i64 (0)]) ∧ Hid (Blk wr (S + 1 + 1) [strV p0, strV p1, strV p2, strV p3, strV p4]) ∧ Hid (Below S w wr)) (fun i _ => 2 - (intOf i).toNat)
 case atStart => exact ⟨0, by omega, rfl, HA1, HR1, HP1, HB1⟩
 case round =>
  obtain ⟨k, hk, rfl, HA, HR, HP, HB⟩ := hrel
  have k0' : (0 : Int) ≤ (k : Int) := Int.natCast_nonneg _
  by_cases hlt : k < 2
  · have HGr := hide (HG.out.below (by rw [hS]; exact HB.out))
    rcases (show k = 0 ∨ k = 1 by omega) with rfl | rfl
    · clear HA1 HR1 HP1 HB1 HG1 HI
      go_wp2_with (go_at_call 53; refine (fields_blk wr HGr.out).mono ?_; rintro e w2 ⟨rfl, hn2, hb2⟩; have HN2 := hide hn2; clear hn2)
      obtain ⟨N, hN⟩ : ∃ N, wr.heap.size = N := ⟨_, rfl⟩
      rw [hN]
      rw [hN] at HN2
      have hN3 : S + 1 + 1 < N := by rw [← hN]; exact HP.out.lt
      have HA2 := hide (HA.out.below hb2 (by omega))
      have HR2 : Hid (Blk w2 (S + 1) [.int .i64 (kp p0 0), .int .i64 (0), .int .i64 (0), .int .i64 (0), .int .i64 (0)]) := hide (HR.out.below hb2 (by omega))
      have HP2 := hide (HP.out.below hb2 (by omega))
      have HB2 := hide (HB.out.trans (hb2.mono (by omega)))
      clear hb2 HA HR HP HB HGr
      go_loopw [24] (fun i wr => ∃ j : Nat, j ≤ 3 ∧ i = .int .i64 j ∧ Hid (Blk wr S [.int .i64 0, .int .i64 0, .int .i64 0, .int .i64 0, .int .i64 0]) ∧ Hid (Blk wr (S + 1) [.int .i64 (kp p0 j), .int .i64 (0), .int .i64 (0), .int .i64 (0), .int .i64 (0)]) ∧ Hid (Blk wr (S + 1 + 1) [strV p0, strV p1, strV p2, strV p3, strV p4]) ∧ Hid (Blk wr N [.string ⟨veL.toArray⟩, .string ⟨coL.toArray⟩, .string ⟨leL.toArray⟩]) ∧ Hid (Below S w wr)) (fun i _ => 3 - (intOf i).toNat)
      case atStart => exact ⟨0, by omega, rfl, HA2, HR2, HP2, HN2, HB2⟩
      case round =>
       obtain ⟨j, hj, rfl, HA, HR, HP, HN, HB⟩ := hrel
       clear HA2 HR2 HP2 HN2 HB2
       have j0' : (0 : Int) ≤ (j : Int) := Int.natCast_nonneg _
       by_cases hlj : j < 3
       · have q0 : wr.cell? ⟨S + 1 + 1, 0, none⟩ = some (.string ⟨p0.toArray⟩) := (HP.out 0 _ rfl).1
         have r0 := (HR.out 0 _ rfl).1; have rf := (HR.out 0 _ rfl).2
         rcases (show j = 0 ∨ j = 1 ∨ j = 2 by omega) with rfl | rfl | rfl
         · have n0 := (HN.out 0 _ rfl).1
           by_cases he : veL = p0
           · have hd : decide (veL = p0) = true := decide_eq_true he; have hd2 : (veL == p0) = true := beq_iff_eq.2 he
             have ek : kp p0 1 = 1 := if_pos he
             clear he
             go_wp2
             have hn2 := HR.out.set (j := 0) (by simp) (.int .i64 1)
             refine ⟨⟨1, by omega, by go_num, hide (HA.out.other ⟨S + 1, 0, none⟩ _ (by simp)), hide (by rw [ek]; exact hn2), hide (HP.out.other ⟨S + 1, 0, none⟩ _ (by simp)), hide (HN.out.other ⟨S + 1, 0, none⟩ _ (by simp; omega)), hide (HB.out.setCell (p := ⟨S + 1, 0, none⟩) (by simp) _)⟩, by simp [intOf]⟩
           · have hd : decide (veL = p0) = false := decide_eq_false he; have hd2 : (veL == p0) = false := beq_eq_false_iff_ne.2 he
             have ek : kp p0 1 = kp p0 0 := if_neg he
             clear he
             go_wp2
             exact ⟨⟨1, by omega, by go_num, HA, hide (by rw [ek]; exact HR.out), HP, HN, HB⟩, by simp [intOf]⟩
         · have n0 := (HN.out 1 _ rfl).1
           by_cases he : coL = p0
           · have hd : decide (coL = p0) = true := decide_eq_true he; have hd2 : (coL == p0) = true := beq_iff_eq.2 he
             have ek : kp p0 2 = 2 := if_pos he
             clear he
             go_wp2
             have hn2 := HR.out.set (j := 0) (by simp) (.int .i64 2)
             refine ⟨⟨2, by omega, by go_num, hide (HA.out.other ⟨S + 1, 0, none⟩ _ (by simp)), hide (by rw [ek]; exact hn2), hide (HP.out.other ⟨S + 1, 0, none⟩ _ (by simp)), hide (HN.out.other ⟨S + 1, 0, none⟩ _ (by simp; omega)), hide (HB.out.setCell (p := ⟨S + 1, 0, none⟩) (by simp) _)⟩, by simp [intOf]⟩
           · have hd : decide (coL = p0) = false := decide_eq_false he; have hd2 : (coL == p0) = false := beq_eq_false_iff_ne.2 he
             have ek : kp p0 2 = kp p0 1 := if_neg he
             clear he
             go_wp2
             exact ⟨⟨2, by omega, by go_num, HA, hide (by rw [ek]; exact HR.out), HP, HN, HB⟩, by simp [intOf]⟩
         · have n0 := (HN.out 2 _ rfl).1
           by_cases he : leL = p0
           · have hd : decide (leL = p0) = true := decide_eq_true he; have hd2 : (leL == p0) = true := beq_iff_eq.2 he
             have ek : kp p0 3 = 3 := if_pos he
             clear he
             go_wp2
             have hn2 := HR.out.set (j := 0) (by simp) (.int .i64 3)
             refine ⟨⟨3, by omega, by go_num, hide (HA.out.other ⟨S + 1, 0, none⟩ _ (by simp)), hide (by rw [ek]; exact hn2), hide (HP.out.other ⟨S + 1, 0, none⟩ _ (by simp)), hide (HN.out.other ⟨S + 1, 0, none⟩ _ (by simp; omega)), hide (HB.out.setCell (p := ⟨S + 1, 0, none⟩) (by simp) _)⟩, by simp [intOf]⟩
           · have hd : decide (leL = p0) = false := decide_eq_false he; have hd2 : (leL == p0) = false := beq_eq_false_iff_ne.2 he
             have ek : kp p0 3 = kp p0 2 := if_neg he
             clear he
             go_wp2
             exact ⟨⟨3, by omega, by go_num, HA, hide (by rw [ek]; exact HR.out), HP, HN, HB⟩, by simp [intOf]⟩
       · obtain rfl : j = 3 := by omega
         go_wp2
         exact ⟨⟨1, by omega, by go_num, HA, hide (by have := HR.out; rw [kp_3] at this; exact this), HP, HB⟩, by simp [intOf]⟩
    · clear HA1 HR1 HP1 HB1 HG1 HI
      go_wp2_with (go_at_call 53; refine (fields_blk wr HGr.out).mono ?_; rintro e w2 ⟨rfl, hn2, hb2⟩; have HN2 := hide hn2; clear hn2)
      obtain ⟨N, hN⟩ : ∃ N, wr.heap.size = N := ⟨_, rfl⟩
      rw [hN]
      rw [hN] at HN2
      have hN3 : S + 1 + 1 < N := by rw [← hN]; exact HP.out.lt
      have HA2 := hide (HA.out.below hb2 (by omega))
      have HR2 : Hid (Blk w2 (S + 1) [.int .i64 (kindL p0), .int .i64 (kp p1 0), .int .i64 (0), .int .i64 (0), .int .i64 (0)]) := hide (HR.out.below hb2 (by omega))
      have HP2 := hide (HP.out.below hb2 (by omega))
      have HB2 := hide (HB.out.trans (hb2.mono (by omega)))
      clear hb2 HA HR HP HB HGr
      go_loopw [24] (fun i wr => ∃ j : Nat, j ≤ 3 ∧ i = .int .i64 j ∧ Hid (Blk wr S [.int .i64 0, .int .i64 0, .int .i64 0, .int .i64 0, .int .i64 0]) ∧ Hid (Blk wr (S + 1) [.int .i64 (kindL p0), .int .i64 (kp p1 j), .int .i64 (0), .int .i64 (0), .int .i64 (0)]) ∧ Hid (Blk wr (S + 1 + 1) [strV p0, strV p1, strV p2, strV p3, strV p4]) ∧ Hid (Blk wr N [.string ⟨veL.toArray⟩, .string ⟨coL.toArray⟩, .string ⟨leL.toArray⟩]) ∧ Hid (Below S w wr)) (fun i _ => 3 - (intOf i).toNat)
      case atStart => exact ⟨0, by omega, rfl, HA2, HR2, HP2, HN2, HB2⟩
      case round =>
       obtain ⟨j, hj, rfl, HA, HR, HP, HN, HB⟩ := hrel
       clear HA2 HR2 HP2 HN2 HB2
       have j0' : (0 : Int) ≤ (j : Int) := Int.natCast_nonneg _
       by_cases hlj : j < 3
       · have q0 : wr.cell? ⟨S + 1 + 1, 1, none⟩ = some (.string ⟨p1.toArray⟩) := (HP.out 1 _ rfl).1
         have r0 := (HR.out 1 _ rfl).1; have rf := (HR.out 1 _ rfl).2
         rcases (show j = 0 ∨ j = 1 ∨ j = 2 by omega) with rfl | rfl | rfl
         · have n0 := (HN.out 0 _ rfl).1
           by_cases he : veL = p1
           · have hd : decide (veL = p1) = true := decide_eq_true he; have hd2 : (veL == p1) = true := beq_iff_eq.2 he
             have ek : kp p1 1 = 1 := if_pos he
             clear he
             go_wp2
             have hn2 := HR.out.set (j := 1) (by simp) (.int .i64 1)
             refine ⟨⟨1, by omega, by go_num, hide (HA.out.other ⟨S + 1, 1, none⟩ _ (by simp)), hide (by rw [ek]; exact hn2), hide (HP.out.other ⟨S + 1, 1, none⟩ _ (by simp)), hide (HN.out.other ⟨S + 1, 1, none⟩ _ (by simp; omega)), hide (HB.out.setCell (p := ⟨S + 1, 1, none⟩) (by simp) _)⟩, by simp [intOf]⟩
           · have hd : decide (veL = p1) = false := decide_eq_false he; have hd2 : (veL == p1) = false := beq_eq_false_iff_ne.2 he
             have ek : kp p1 1 = kp p1 0 := if_neg he
             clear he
             go_wp2
             exact ⟨⟨1, by omega, by go_num, HA, hide (by rw [ek]; exact HR.out), HP, HN, HB⟩, by simp [intOf]⟩
         · have n0 := (HN.out 1 _ rfl).1
           by_cases he : coL = p1
           · have hd : decide (coL = p1) = true := decide_eq_true he; have hd2 : (coL == p1) = true := beq_iff_eq.2 he
             have ek : kp p1 2 = 2 := if_pos he
             clear he
             go_wp2
             have hn2 := HR.out.set (j := 1) (by simp) (.int .i64 2)
             refine ⟨⟨2, by omega, by go_num, hide (HA.out.other ⟨S + 1, 1, none⟩ _ (by simp)), hide (by rw [ek]; exact hn2), hide (HP.out.other ⟨S + 1, 1, none⟩ _ (by simp)), hide (HN.out.other ⟨S + 1, 1, none⟩ _ (by simp; omega)), hide (HB.out.setCell (p := ⟨S + 1, 1, none⟩) (by simp) _)⟩, by simp [intOf]⟩
           · have hd : decide (coL = p1) = false := decide_eq_false he; have hd2 : (coL == p1) = false := beq_eq_false_iff_ne.2 he
             have ek : kp p1 2 = kp p1 1 := if_neg he
             clear he
             go_wp2
             exact ⟨⟨2, by omega, by go_num, HA, hide (by rw [ek]; exact HR.out), HP, HN, HB⟩, by simp [intOf]⟩
         · have n0 := (HN.out 2 _ rfl).1
           by_cases he : leL = p1
           · have hd : decide (leL = p1) = true := decide_eq_true he; have hd2 : (leL == p1) = true := beq_iff_eq.2 he
             have ek : kp p1 3 = 3 := if_pos he
             clear he
             go_wp2
             have hn2 := HR.out.set (j := 1) (by simp) (.int .i64 3)
             refine ⟨⟨3, by omega, by go_num, hide (HA.out.other ⟨S + 1, 1, none⟩ _ (by simp)), hide (by rw [ek]; exact hn2), hide (HP.out.other ⟨S + 1, 1, none⟩ _ (by simp)), hide (HN.out.other ⟨S + 1, 1, none⟩ _ (by simp; omega)), hide (HB.out.setCell (p := ⟨S + 1, 1, none⟩) (by simp) _)⟩, by simp [intOf]⟩
           · have hd : decide (leL = p1) = false := decide_eq_false he; have hd2 : (leL == p1) = false := beq_eq_false_iff_ne.2 he
             have ek : kp p1 3 = kp p1 2 := if_neg he
             clear he
             go_wp2
             exact ⟨⟨3, by omega, by go_num, HA, hide (by rw [ek]; exact HR.out), HP, HN, HB⟩, by simp [intOf]⟩
       · obtain rfl : j = 3 := by omega
         go_wp2
         exact ⟨⟨2, by omega, by go_num, HA, hide (by have := HR.out; rw [kp_3] at this; exact this), HP, HB⟩, by simp [intOf]⟩
  · obtain rfl : k = 2 := by omega
    clear HA1 HR1 HP1 HB1 HG1 HI
    go_upto_region 16 with fail
    obtain ⟨V, hV⟩ : ∃ V, V = wr.alloc (.cells #[.pointer (some ⟨S + 1, 2, none⟩), .pointer (some ⟨S + 1, 3, none⟩), .pointer (some ⟨S + 1, 4, none⟩)] 108) := ⟨_, rfl⟩
    obtain ⟨N, hN⟩ : ∃ N, wr.heap.size = N := ⟨_, rfl⟩
    rw [← hV, hN]
    have hN3 : S + 1 + 1 < N := by rw [← hN]; exact HP.out.lt
    have HNV : Hid (Blk V N [.pointer (some ⟨S + 1, 2, none⟩), .pointer (some ⟨S + 1, 3, none⟩), .pointer (some ⟨S + 1, 4, none⟩)]) := hide (by rw [hV, ← hN]; exact Blk.new wr _ _)
    have HAV := hide (show Blk V S [.int .i64 0, .int .i64 0, .int .i64 0, .int .i64 0, .int .i64 0] from by rw [hV]; exact HA.out.alloc _)
    have HRV := hide (show Blk V (S + 1) [.int .i64 (kindL p0), .int .i64 (kindL p1), .int .i64 (nk p2 0 0), .int .i64 (nk p3 1 0), .int .i64 (nk p4 2 0)] from by rw [hV]; exact HR.out.alloc _)
    have HPV := hide (show Blk V (S + 1 + 1) [strV p0, strV p1, strV p2, strV p3, strV p4] from by rw [hV]; exact HP.out.alloc _)
    have HBV := hide (show Below S w V from by rw [hV]; exact HB.out.alloc (by omega) _)
    clear hV HA HR HP HB
    go_loopw [47] (fun i wr => ∃ k : Nat, k ≤ 3 ∧ i = .int .i64 k ∧ Hid (Blk wr S [.int .i64 0, .int .i64 0, .int .i64 0, .int .i64 0, .int .i64 0]) ∧ Hid (Blk wr (S + 1) [.int .i64 (kindL p0), .int .i64 (kindL p1), .int .i64 (nk p2 0 k), .int .i64 (nk p3 1 k), .int .i64 (nk p4 2 k)]) ∧ Hid (Blk wr (S + 1 + 1) [strV p0, strV p1, strV p2, strV p3, strV p4]) ∧ Hid (Blk wr N [.pointer (some ⟨S + 1, 2, none⟩), .pointer (some ⟨S + 1, 3, none⟩), .pointer (some ⟨S + 1, 4, none⟩)]) ∧ Hid (Below S w wr)) (fun i _ => 3 - (intOf i).toNat)
    case atStart => exact ⟨0, by omega, rfl, HAV, HRV, HPV, HNV, HBV⟩
    case round =>
     obtain ⟨k, hk, rfl, HA, HR, HP, HN, HB⟩ := hrel
     clear HAV HRV HPV HNV HBV
     have k0' : (0 : Int) ≤ (k : Int) := Int.natCast_nonneg _
     have HGr := hide (HG.out.below (by rw [hS]; exact HB.out))
     have hsz : S + 1 + 1 < wr.heap.size := HP.out.lt
     have hNz : N < wr.heap.size := HN.out.lt
     by_cases hlt : k < 3
     · rcases (show k = 0 ∨ k = 1 ∨ k = 2 by omega) with rfl | rfl | rfl
       · have q0 : wr.cell? ⟨S + 1 + 1, 2, none⟩ = some (.string ⟨p2.toArray⟩) := (HP.out 2 _ rfl).1
         have n0 := (HN.out 0 _ rfl).1
         go_wp2_with (go_at_call 54; refine (atoi_every p2 HL0.out wr HGr.out).mono ?_; rintro e w2 ⟨⟨ev, rfl⟩, hb⟩; have hx := HR.out.below hb (by omega); have r0 := (hx 2 _ rfl).1; have rf := (hx 2 _ rfl).2; have HR2 := hide hx; clear hx)
         have hn2 := HR2.out.set (j := 2) (by simp) (.int .i64 (numL p2))
         go_roundw
         case measure => simp [intOf]
         case rel => refine ⟨_, _, _, _, _, _, _, _, _, _, _, _, _, _, _, _, _, _, _, ?rl0, rfl⟩
                     exact ⟨1, by omega, by go_num, hide ((HA.out.below hb (by omega)).other ⟨S + 1, 2, none⟩ _ (by simp)), hide (by simpa [nk] using hn2), hide ((HP.out.below hb (by omega)).other ⟨S + 1, 2, none⟩ _ (by simp)), hide ((HN.out.below hb (by omega)).other ⟨S + 1, 2, none⟩ _ (by simp; omega)), hide ((HB.out.trans (hb.mono (by omega))).setCell (p := ⟨S + 1, 2, none⟩) (by simp) _)⟩
       · have q0 : wr.cell? ⟨S + 1 + 1, 3, none⟩ = some (.string ⟨p3.toArray⟩) := (HP.out 3 _ rfl).1
         have n0 := (HN.out 1 _ rfl).1
         go_wp2_with (go_at_call 54; refine (atoi_every p3 HL1.out wr HGr.out).mono ?_; rintro e w2 ⟨⟨ev, rfl⟩, hb⟩; have hx := HR.out.below hb (by omega); have r0 := (hx 3 _ rfl).1; have rf := (hx 3 _ rfl).2; have HR2 := hide hx; clear hx)
         have hn2 := HR2.out.set (j := 3) (by simp) (.int .i64 (numL p3))
         go_roundw
         case measure => simp [intOf]
         case rel => refine ⟨_, _, _, _, _, _, _, _, _, _, _, _, _, _, _, _, _, _, _, ?rl1, rfl⟩
                     exact ⟨2, by omega, by go_num, hide ((HA.out.below hb (by omega)).other ⟨S + 1, 3, none⟩ _ (by simp)), hide (by simpa [nk] using hn2), hide ((HP.out.below hb (by omega)).other ⟨S + 1, 3, none⟩ _ (by simp)), hide ((HN.out.below hb (by omega)).other ⟨S + 1, 3, none⟩ _ (by simp; omega)), hide ((HB.out.trans (hb.mono (by omega))).setCell (p := ⟨S + 1, 3, none⟩) (by simp) _)⟩
       · have q0 : wr.cell? ⟨S + 1 + 1, 4, none⟩ = some (.string ⟨p4.toArray⟩) := (HP.out 4 _ rfl).1
         have n0 := (HN.out 2 _ rfl).1
         go_wp2_with (go_at_call 54; refine (atoi_every p4 HL2.out wr HGr.out).mono ?_; rintro e w2 ⟨⟨ev, rfl⟩, hb⟩; have hx := HR.out.below hb (by omega); have r0 := (hx 4 _ rfl).1; have rf := (hx 4 _ rfl).2; have HR2 := hide hx; clear hx)
         have hn2 := HR2.out.set (j := 4) (by simp) (.int .i64 (numL p4))
         go_roundw
         case measure => simp [intOf]
         case rel => refine ⟨_, _, _, _, _, _, _, _, _, _, _, _, _, _, _, _, _, _, _, ?rl2, rfl⟩
                     exact ⟨3, by omega, by go_num, hide ((HA.out.below hb (by omega)).other ⟨S + 1, 4, none⟩ _ (by simp)), hide (by simpa [nk] using hn2), hide ((HP.out.below hb (by omega)).other ⟨S + 1, 4, none⟩ _ (by simp)), hide ((HN.out.below hb (by omega)).other ⟨S + 1, 4, none⟩ _ (by simp; omega)), hide ((HB.out.trans (hb.mono (by omega))).setCell (p := ⟨S + 1, 4, none⟩) (by simp) _)⟩
     · obtain rfl : k = 3 := by omega
       have HR3 : Hid (Blk wr (S + 1) [.int .i64 (kindL p0), .int .i64 (kindL p1), .int .i64 (numL p2), .int .i64 (numL p3), .int .i64 (numL p4)]) := hide HR.out
       clear HR HN
       obtain ⟨x0, hx0⟩ : ∃ x, kindL p0 = x := ⟨_, rfl⟩
       obtain ⟨x1, hx1⟩ : ∃ x, kindL p1 = x := ⟨_, rfl⟩
       obtain ⟨x2, hx2⟩ : ∃ x, numL p2 = x := ⟨_, rfl⟩
       obtain ⟨x3, hx3⟩ : ∃ x, numL p3 = x := ⟨_, rfl⟩
       obtain ⟨x4, hx4⟩ : ∃ x, numL p4 = x := ⟨_, rfl⟩
       have HNO := hide (psays_no hHP.out)
       rw [hx0, hx1, hx2, hx3, hx4] at HR3 HNO
       have HX := hide (And.intro hx0 (And.intro hx1 (And.intro hx2 (And.intro hx3 hx4))))
       clear hx0 hx1 hx2 hx3 hx4
       obtain ⟨r_0, r_1, r_2, r_3, r_4⟩ := HR3.out.c5
       by_cases hok : ROk x0 x1 x2 x3 x4
       · have HOK := hide hok
         by_cases ht : s.data.toList = textL x0 x1 x2 x3 x4
         · have hps := psays_yes hok ht
           have h1 : (textL x0 x1 x2 x3 x4 == s.toList) = true := by rw [ByteArray.toList_eq, ht]; exact beq_self_eq_true _
           have h2 : (textL x0 x1 x2 x3 x4 != s.toList) = false := by rw [bne, h1]; rfl
           have HPS := hide hps
           clear hok ht hps HNO
           go_wp2_with (go_at_call 55; refine (print_ok x0 x1 x2 x3 x4 HOK.out wr HGr.out).mono ?_; rintro e w2 ⟨rfl, hb⟩; have ha := HA.out.below hb (by omega); have hr := HR3.out.below hb (by omega); obtain ⟨a_0, f_0, a_1, f_1, a_2, f_2, a_3, f_3, a_4, f_4⟩ := ha.cf5; obtain ⟨s_0, s_1, s_2, s_3, s_4⟩ := hr.c5; have HA2 := hide ha; have HB2 := hide (HB.out.trans (hb.mono (by omega))); clear ha hr hb)
           obtain ⟨Z, hZ, z, zB⟩ := rul_fin (y0 := .int .i64 x0) (y1 := .int .i64 x1) (y2 := .int .i64 x2) (y3 := .int .i64 x3) (y4 := .int .i64 x4) HA2.out HB2.out (Nat.le_refl _)
           rw [← hZ]
           obtain ⟨c0, c1, c2, c3, c4⟩ := z.c5
           refine bodyPost_ret (v := .tuple #[.agg #[.int .i64 x0, .int .i64 x1, .int .i64 x2, .int .i64 x3, .int .i64 x4], .int .i64 0]) ?_ rfl ⟨⟨x0, x1, x2, x3, x4, 0, rfl, HPS.out⟩, by rw [hS]; exact zB⟩
           simp [results, Tryz.f34, go_sem, c0, c1, c2, c3, c4]
         · have hps := HNO.out (fun h => ht h.2)
           have h1 : (textL x0 x1 x2 x3 x4 == s.toList) = false := by rw [ByteArray.toList_eq]; exact beq_eq_false_iff_ne.2 (fun e => ht e.symm)
           have h2 : (textL x0 x1 x2 x3 x4 != s.toList) = true := by rw [bne, h1]; rfl
           have HPS := hide hps
           clear hok ht hps HNO
           go_wp2_with (go_at_call 55; refine (print_ok x0 x1 x2 x3 x4 HOK.out wr HGr.out).mono ?_; rintro e w2 ⟨rfl, hb⟩; have ha := HA.out.below hb (by omega); obtain ⟨a_0, f_0, a_1, f_1, a_2, f_2, a_3, f_3, a_4, f_4⟩ := ha.cf5; have HA2 := hide ha; have HB2 := hide (HB.out.trans (hb.mono (by omega))); clear ha hb)
           obtain ⟨Z, hZ, z, zB⟩ := rul_fin (y0 := .int .i64 0) (y1 := .int .i64 0) (y2 := .int .i64 0) (y3 := .int .i64 0) (y4 := .int .i64 0) HA2.out HB2.out (Nat.le_refl _)
           rw [← hZ]
           obtain ⟨c0, c1, c2, c3, c4⟩ := z.c5
           refine bodyPost_ret (v := .tuple #[.agg #[.int .i64 0, .int .i64 0, .int .i64 0, .int .i64 0, .int .i64 0], .int .i64 1]) ?_ rfl ⟨⟨0, 0, 0, 0, 0, 1, rfl, HPS.out⟩, by rw [hS]; exact zB⟩
           simp [results, Tryz.f34, go_sem, c0, c1, c2, c3, c4]
       · have hps := HNO.out (fun h => hok h.1)
         obtain ⟨r, hw, h0⟩ : ∃ r, WrongSays x0 x1 x2 x3 x4 r ∧ r ≠ 0 := wrong_ex hok
         have h1 : ((r : Int) != 0) = true := by simp; exact h0
         have h2 : ((r : Int) == 0) = false := by simp; exact h0
         have HPS := hide hps
         clear hok hps HNO
         go_wp2_with (go_at_call 55; refine (print_bad x0 x1 x2 x3 x4 r hw h0 wr).mono ?_; rintro e w2 ⟨rfl, hb⟩; have ha := HA.out.below hb (by omega); obtain ⟨a_0, f_0, a_1, f_1, a_2, f_2, a_3, f_3, a_4, f_4⟩ := ha.cf5; have HA2 := hide ha; have HB2 := hide (HB.out.trans (hb.mono (by omega))); clear ha hb)
         obtain ⟨Z, hZ, z, zB⟩ := rul_fin (y0 := .int .i64 0) (y1 := .int .i64 0) (y2 := .int .i64 0) (y3 := .int .i64 0) (y4 := .int .i64 0) HA2.out HB2.out (Nat.le_refl _)
         rw [← hZ]
         obtain ⟨c0, c1, c2, c3, c4⟩ := z.c5
         refine bodyPost_ret (v := .tuple #[.agg #[.int .i64 0, .int .i64 0, .int .i64 0, .int .i64 0, .int .i64 0], .int .i64 1]) ?_ rfl ⟨⟨0, 0, 0, 0, 0, 1, rfl, HPS.out⟩, by rw [hS]; exact zB⟩
         simp [results, Tryz.f34, go_sem, c0, c1, c2, c3, c4]
end Go.Proofs.YtjjikhaaimfneaaGreatDoor
