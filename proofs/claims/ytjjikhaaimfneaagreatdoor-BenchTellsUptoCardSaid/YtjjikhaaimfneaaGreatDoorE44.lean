/-
  Lemmas and walks for the statement: BUPrint, BAt.
-/
import Derived.Test.YtjjikhaaimfneaaGreatDoorE43
import Derived.Laws.Concat
namespace Go.Proofs.YtjjikhaaimfneaaGreatDoor
open Go.RowKit
set_option linter.unusedSimpArgs false
set_option linter.unusedVariables false
set_option maxRecDepth 100000 in
set_option maxHeartbeats 4000000 in
theorem print_bad (k0 k1 R Q J r : Int) (hw : WrongSays k0 k1 R Q J r) (h0 : r ≠ 0) (w : World) : Calls Tryz.prog 55 #[.agg #[.int .i64 k0, .int .i64 k1, .int .i64 R, .int .i64 Q, .int .i64 J]] w fun e w' => e = .returned (.tuple #[.string ⟨#[]⟩, .int .i64 r]) ∧ Below w.heap.size w w' := by
 have hb1 : ((r : Int) != 0) = true := by simp; exact h0
 have hb2 : ((r : Int) == 0) = false := by simp; exact h0
 clear h0
 obtain ⟨S, hS⟩ : ∃ S, w.heap.size = S := ⟨_, rfl⟩
 go_enter Tryz.func55, Tryz.ntmps55
 go_upto_region 1 with fail
 obtain ⟨W, hW⟩ : ∃ W, W = w.alloc (.cells #[.int .i64 k0, .int .i64 k1, .int .i64 R, .int .i64 Q, .int .i64 J] 49) := ⟨_, rfl⟩
 rw [← hW]
 have R0 : Blk W S [.int .i64 k0, .int .i64 k1, .int .i64 R, .int .i64 Q, .int .i64 J] := by
  have := Blk.new w [.int .i64 k0, .int .i64 k1, .int .i64 R, .int .i64 Q, .int .i64 J] 49
  rw [hW]; simpa [hS] using this
 have BS : Below S w W := by rw [hW, ← hS]; exact (Below.refl _ _).alloc (Nat.le_refl _) _
 clear hW
 obtain ⟨r_0, r_1, r_2, r_3, r_4⟩ := R0.c5
 have H0 := hide R0; have HB := hide BS
 clear R0 BS
 go_wp2_with fail
 refine (dwrong_any k0 k1 R Q J W).mono ?_
 rintro e w1 ⟨he, hA⟩
 obtain ⟨r', rfl, hw'⟩ := he
 obtain rfl := wrongSays_one hw hw'
 clear r_0 r_1 r_2 r_3 r_4 hw hw'
 have BS := HB.out.trans (hA.mono (Nat.le_of_lt H0.out.lt))
 clear hA H0 HB
 go_wp2
 go_ret2
 exact ⟨rfl, by rw [hS]; exact BS⟩
theorem itoaB (n : Int) (h : 0 ≤ n ∧ n < 100) (w : World) : Calls Tryz.prog 35 #[.int .i64 n] w fun e w' => e = .returned (.string ⟨(Lib.itoa n).toArray⟩) ∧ Below w.heap.size w w' :=
 (itoa_any n h.1 h.2 w).mono fun e w' ⟨he, hw⟩ => ⟨he, by rw [hw]; exact Below.refl _ _⟩
theorem add_lists (x y : List UInt8) (hx : x.length ≤ 1000) (hy : y.length ≤ 1000) (w : World) : (Op.stringOp .add ⟨x.toArray⟩ ⟨y.toArray⟩).run Tryz.prog w = .ok (.string ⟨(x ++ y).toArray⟩) w := run_string_add_lists w x y (by omega) (by omega)
theorem text_app (k0 k1 R Q J : Int) : ((((((((nameL k0 ++ [32]) ++ nameL k1) ++ [32]) ++ Lib.itoa R) ++ [32]) ++ Lib.itoa Q) ++ [32]) ++ Lib.itoa J) = textL k0 k1 R Q J := by simp [textL, join5]
set_option maxRecDepth 100000 in
set_option maxHeartbeats 8000000 in
theorem uprint_ok (k0 k1 R Q J : Int) (h : ROk k0 k1 R Q J) (w : World) : Calls Tryz.prog 57 #[.agg #[.int .i64 k0, .int .i64 k1, .int .i64 R, .int .i64 Q, .int .i64 J]] w fun e w' => e = .returned (.tuple #[.string ⟨(textL k0 k1 R Q J).toArray⟩, .int .i64 0]) ∧ Below w.heap.size w w' := by
 have hkr := rok_k h
 have HU0 := hide (uname_any k0 (by unfold ROk at h; omega))
 have HU1 := hide (uname_any k1 (by unfold ROk at h; omega))
 have HI0 := hide (itoaB R (by unfold ROk at h; omega))
 have HI1 := hide (itoaB Q (by unfold ROk at h; omega))
 have HI2 := hide (itoaB J (by unfold ROk at h; omega))
 have l0 := name_len k0; have l1 := name_len k1
 have l2 := itoa_len (n := R) (by unfold ROk at h; omega) (by unfold ROk at h; omega)
 have l3 := itoa_len (n := Q) (by unfold ROk at h; omega) (by unfold ROk at h; omega)
 have l4 := itoa_len (n := J) (by unfold ROk at h; omega) (by unfold ROk at h; omega)
 have HT := hide (text_app k0 k1 R Q J)
 obtain ⟨a, ha⟩ : ∃ a, nameL k0 = a := ⟨_, rfl⟩
 obtain ⟨b, hb⟩ : ∃ a, nameL k1 = a := ⟨_, rfl⟩
 obtain ⟨c, hc⟩ : ∃ a, Lib.itoa R = a := ⟨_, rfl⟩
 obtain ⟨d, hd⟩ : ∃ a, Lib.itoa Q = a := ⟨_, rfl⟩
 obtain ⟨f, hf⟩ : ∃ a, Lib.itoa J = a := ⟨_, rfl⟩
 rw [ha] at HT HU0 l0; rw [hb] at HT HU1 l1; rw [hc] at HT HI0 l2; rw [hd] at HT HI1 l3; rw [hf] at HT HI2 l4
 have A1 := add_lists a [32] (by omega) (by simp)
 have A2 := add_lists (a ++ [32]) b (by simp; omega) (by omega)
 have A3 := add_lists (a ++ [32] ++ b) [32] (by simp; omega) (by simp)
 have A4 := add_lists (a ++ [32] ++ b ++ [32]) c (by simp; omega) (by omega)
 have A5 := add_lists (a ++ [32] ++ b ++ [32] ++ c) [32] (by simp; omega) (by simp)
 have A6 := add_lists (a ++ [32] ++ b ++ [32] ++ c ++ [32]) d (by simp; omega) (by omega)
 have A7 := add_lists (a ++ [32] ++ b ++ [32] ++ c ++ [32] ++ d) [32] (by simp; omega) (by simp)
 have A8 := add_lists (a ++ [32] ++ b ++ [32] ++ c ++ [32] ++ d ++ [32]) f (by simp; omega) (by omega)
 obtain ⟨s1, hs1⟩ : ∃ s, a ++ [32] = s := ⟨_, rfl⟩
 rw [hs1] at A1 A2 A3 A4 A5 A6 A7 A8 HT
 obtain ⟨s2, hs2⟩ : ∃ s, s1 ++ b = s := ⟨_, rfl⟩
 rw [hs2] at A2 A3 A4 A5 A6 A7 A8 HT
 obtain ⟨s3, hs3⟩ : ∃ s, s2 ++ [32] = s := ⟨_, rfl⟩
 rw [hs3] at A3 A4 A5 A6 A7 A8 HT
 obtain ⟨s4, hs4⟩ : ∃ s, s3 ++ c = s := ⟨_, rfl⟩
 rw [hs4] at A4 A5 A6 A7 A8 HT
 obtain ⟨s5, hs5⟩ : ∃ s, s4 ++ [32] = s := ⟨_, rfl⟩
 rw [hs5] at A5 A6 A7 A8 HT
 obtain ⟨s6, hs6⟩ : ∃ s, s5 ++ d = s := ⟨_, rfl⟩
 rw [hs6] at A6 A7 A8 HT
 obtain ⟨s7, hs7⟩ : ∃ s, s6 ++ [32] = s := ⟨_, rfl⟩
 rw [hs7] at A7 A8 HT
 obtain ⟨s8, hs8⟩ : ∃ s, s7 ++ f = s := ⟨_, rfl⟩
 rw [hs8] at A8 HT
 clear h ha hb hc hd hf hs1 hs2 hs3 hs4 hs5 hs6 hs7 hs8 l0 l1 l2 l3 l4
 obtain ⟨S, hS⟩ : ∃ S, w.heap.size = S := ⟨_, rfl⟩
 go_enter Tryz.func57, Tryz.ntmps57
 go_upto_region 1 with fail
 obtain ⟨W, hW⟩ : ∃ W, W = w.alloc (.cells #[.int .i64 k0, .int .i64 k1, .int .i64 R, .int .i64 Q, .int .i64 J] 49) := ⟨_, rfl⟩
 rw [← hW]
 have R0 : Blk W S [.int .i64 k0, .int .i64 k1, .int .i64 R, .int .i64 Q, .int .i64 J] := by
  have := Blk.new w [.int .i64 k0, .int .i64 k1, .int .i64 R, .int .i64 Q, .int .i64 J] 49
  rw [hW]; simpa [hS] using this
 have BS : Below S w W := by rw [hW, ← hS]; exact (Below.refl _ _).alloc (Nat.le_refl _) _
 clear hW
 obtain ⟨r_0, r_1, r_2, r_3, r_4⟩ := R0.c5
 have H0 := hide R0; have HB := hide BS
 clear R0 BS
 go_wp2_with fail
 refine (pwrong_any k0 k1 R Q J W).mono ?_
 rintro e w1 ⟨he, hA⟩
 obtain rfl := he.ok hkr.1 hkr.2
 clear r_0 r_1 r_2 r_3 r_4 he
 have R0 := H0.out.below hA H0.out.lt
 have BS := HB.out.trans (hA.mono (Nat.le_of_lt H0.out.lt))
 have hSw : S < w1.heap.size := R0.lt
 clear hA H0 HB
 go_upto_region 4 with fail
 have F : ∀ q : Beyond w1, q.w.cell? ⟨S, 0, none⟩ = some (.int .i64 k0) ∧ q.w.cell? ⟨S, 1, none⟩ = some (.int .i64 k1) ∧ q.w.cell? ⟨S, 2, none⟩ = some (.int .i64 R) ∧ q.w.cell? ⟨S, 3, none⟩ = some (.int .i64 Q) ∧ q.w.cell? ⟨S, 4, none⟩ = some (.int .i64 J) := fun q => by
  have R1 := R0.below q.h hSw
  exact ⟨(R1 0 _ rfl).1, (R1 1 _ rfl).1, (R1 2 _ rfl).1, (R1 3 _ rfl).1, (R1 4 _ rfl).1⟩
 have HB := hide BS
 clear R0 BS
 simp only [forall_and] at F
 obtain ⟨F0, F1, F2, F3, F4⟩ := F
 refine wp_region_beyond (by kernel_rfl) (by kernel_rfl) ?_
 repeat (first | go_big_quiet_step (first | (go_at_call 82; first | exact beyondCall (HU0.out _) | exact beyondCall (HU1.out _)) | (go_at_call 35; first | exact beyondCall (HI0.out _) | exact beyondCall (HI1.out _) | exact beyondCall (HI2.out _))) | quiet_step (first | (go_at_call 82; first | exact beyondCall (HU0.out _) | exact beyondCall (HU1.out _)) | (go_at_call 35; first | exact beyondCall (HI0.out _) | exact beyondCall (HI1.out _) | exact beyondCall (HI2.out _))))
 refine wpQuiet_nil ?_
 intro _ hw'
 obtain ⟨pq, hw''⟩ := hw'
 subst hw''
 go_wp2
 go_ret2
 exact ⟨by rw [HT.out]; rfl, by rw [hS]; exact HB.out.trans (pq.h.mono (by have := HB.out.size; omega))⟩
end Go.Proofs.YtjjikhaaimfneaaGreatDoor
namespace Go.Proofs.YtjjikhaaimfneaaGreatDoor
open Go.RowKit
set_option linter.unusedSimpArgs false
set_option linter.unusedVariables false
theorem eqS (x y : List UInt8) : ((⟨x.toArray⟩ : ByteArray).toList == (⟨y.toArray⟩ : ByteArray).toList) = decide (x = y) := by
 by_cases h : x = y
 · subst h; simp
 · rw [decide_eq_false h]
   have : ¬ (⟨x.toArray⟩ : ByteArray).toList = (⟨y.toArray⟩ : ByteArray).toList := fun e => h (by
    simpa [ByteArray.toList_eq] using e)
   simpa using this
theorem bytes_eta (p : ByteArray) : p = ⟨p.data.toList.toArray⟩ := by cases p; rfl
theorem atoi_every (l : List UInt8) (hl : l.length ≤ 2000000) (w : World) (h : GL w) : Calls Tryz.prog 54 #[.string ⟨l.toArray⟩] w fun e w' => (∃ ev, e = .returned (.tuple #[.int .i64 (numL l), ev])) ∧ Below w.heap.size w w' := by
 have hs : (⟨l.toArray⟩ : ByteArray).size = l.length := rfl
 have hd : (⟨l.toArray⟩ : ByteArray).data.toList = l := rfl
 unfold numL
 cases hc : Lib.atoiAll l
 · rename_i v
   refine (Tryz.strconv_Atoi_ok ⟨l.toArray⟩ (by omega) v (by rw [hd]; exact hc) w).mono ?_
   rintro e w' ⟨rfl, hw⟩
   refine ⟨⟨_, rfl⟩, ?_⟩
   rcases hw with rfl | ⟨t, rfl⟩
   · exact Below.refl _ _
   · exact Lib.bytesWorld_below _ _ _
 · obtain ⟨ev, h1, h2⟩ := h.es
   refine (Any.strconv_Atoi_syntax Tryz.laysC172 ⟨l.toArray⟩ (by omega) (by rw [hd]; exact hc) ev w h1 h2).mono ?_
   rintro e w' ⟨N, rfl, _, _, hb⟩
   exact ⟨⟨_, rfl⟩, hb⟩
 · obtain ⟨ev, h1, h2⟩ := h.er
   refine (Tryz.strconv_Atoi_range ⟨l.toArray⟩ (by omega) (by rw [hd]; exact hc) ev w h1 h2).mono ?_
   rintro e w' ⟨N, rfl, _, _, hb⟩
   exact ⟨⟨_, rfl⟩, hb⟩
theorem split_any (s : ByteArray) (hs : s.size ≤ 2000000) (w : World) (h : GL w) : Calls Tryz.prog 52 #[.string s, .string ⟨#[32]⟩] w fun e w' => e = .returned (.slice (some ⟨w.heap.size, 0, none⟩) (s.data.toList.count 32 + 1) (s.data.toList.count 32 + 1)) ∧ w' = w.alloc (.cells ((piecesL s.data.toList).map strV).toArray 9) := by
 obtain ⟨m, hm⟩ := h.ml
 refine (Tryz.strings_Split s ⟨#[32]⟩ m w (by omega) hm (by decide)).mono ?_
 rintro e w' ⟨rfl, rfl⟩
 have e1 : Lib.countB s ⟨#[32]⟩ = s.data.toList.count 32 := Lib.count_one 32 s.data.toList
 rw [e1]
 refine ⟨rfl, ?_⟩
 congr 3
 have e2 := split_is s
 rw [e1] at e2
 rw [← e2, List.map_map]
 apply List.map_congr_left
 intro p _
 show Value.string p = Value.string ⟨p.data.toList.toArray⟩
 rw [← bytes_eta p]
theorem pieces_len (s : ByteArray) : (piecesL s.data.toList).length = s.data.toList.count 32 + 1 := by
 rw [← split_is s, List.length_map]
 have e1 : Lib.countB s ⟨#[32]⟩ = s.data.toList.count 32 := Lib.count_one 32 s.data.toList
 rw [Lib.splitB_all ⟨#[32]⟩ (by decide) 0 _ s rfl, e1]
theorem pieces_5 (s : ByteArray) (h : s.data.toList.count 32 = 4) : ∃ p0 p1 p2 p3 p4, piecesL s.data.toList = [p0, p1, p2, p3, p4] := by
 have hl := pieces_len s
 rw [h] at hl
 match hp : piecesL s.data.toList, hl with
 | [p0, p1, p2, p3, p4], _ => exact ⟨p0, p1, p2, p3, p4, rfl⟩
theorem splitK_le (sep : List UInt8) : ∀ (k : Nat) (s : List UInt8), ∀ p ∈ Lib.splitK sep 0 k s, p.length ≤ s.length
 | 0, s, p, h => by simp only [Lib.splitK, List.mem_singleton] at h; rw [h]; exact Nat.le_refl _
 | k + 1, s, p, h => by
   rw [Lib.splitK] at h
   split at h
   · simp only [List.mem_singleton] at h; rw [h]; exact Nat.le_refl _
   · rcases List.mem_cons.1 h with rfl | h
     · rw [List.length_take]; exact Nat.min_le_right _ _
     · have := splitK_le sep k _ p h
       rw [List.length_drop] at this; omega
def kp (p : List UInt8) : Nat → Int
 | 0 => 0
 | 1 => if veL = p then 1 else 0
 | 2 => if coL = p then 2 else if veL = p then 1 else 0
 | _ => if leL = p then 3 else if coL = p then 2 else if veL = p then 1 else 0
theorem kp_3 (p : List UInt8) : kp p 3 = kindL p := by
 unfold kp kindL
 simp only [eq_comm]
end Go.Proofs.YtjjikhaaimfneaaGreatDoor
