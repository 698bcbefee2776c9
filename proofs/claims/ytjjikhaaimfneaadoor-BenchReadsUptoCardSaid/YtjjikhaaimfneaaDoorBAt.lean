/-
  Atoi at every text, Split, equality of texts: as bench.Parse asks them.
-/
import Derived.Test.YtjjikhaaimfneaaDoorBUPrint
namespace Go.Proofs.YtjjikhaaimfneaaDoor
open Go.RowKit
set_option linter.unusedSimpArgs false
set_option linter.unusedVariables false

theorem eqS (x y : List UInt8) : ((⟨x.toArray⟩ : ByteArray).toList == (⟨y.toArray⟩ : ByteArray).toList) = decide (x = y) := by
  by_cases h : x = y
  · subst h; simp
  · rw [decide_eq_false h]
    have : ¬ (⟨x.toArray⟩ : ByteArray).toList = (⟨y.toArray⟩ : ByteArray).toList := fun e => h (by
      simpa [ByteArray.toList_eq] using e)
    simpa using this
theorem bytes_eta (p : ByteArray) : p = ⟨p.data.toList.toArray⟩ := by cases p; rfl
theorem atoi_every (l : List UInt8) (hl : l.length ≤ 2000000) (w : World) (h : GL w) : Calls Tryd.prog 16 #[.string ⟨l.toArray⟩] w fun e w' => (∃ ev, e = .returned (.tuple #[.int .i64 (numL l), ev])) ∧ Below w.heap.size w w' := by
  have hs : (⟨l.toArray⟩ : ByteArray).size = l.length := rfl
  have hd : (⟨l.toArray⟩ : ByteArray).data.toList = l := rfl
  unfold numL
  cases hc : Lib.atoiAll l
  · rename_i v
    refine (Tryd.strconv_Atoi_ok ⟨l.toArray⟩ (by omega) v (by rw [hd]; exact hc) w).mono ?_
    rintro e w' ⟨rfl, hw⟩
    refine ⟨⟨_, rfl⟩, ?_⟩
    rcases hw with rfl | ⟨t, rfl⟩
    · exact Below.refl _ _
    · exact Lib.bytesWorld_below _ _ _
  · obtain ⟨ev, h1, h2⟩ := h.es
    refine (Any.strconv_Atoi_syntax Tryd.laysC172 ⟨l.toArray⟩ (by omega) (by rw [hd]; exact hc) ev w h1 h2).mono ?_
    rintro e w' ⟨N, rfl, _, _, hb⟩
    exact ⟨⟨_, rfl⟩, hb⟩
  · obtain ⟨ev, h1, h2⟩ := h.er
    refine (Tryd.strconv_Atoi_range ⟨l.toArray⟩ (by omega) (by rw [hd]; exact hc) ev w h1 h2).mono ?_
    rintro e w' ⟨N, rfl, _, _, hb⟩
    exact ⟨⟨_, rfl⟩, hb⟩
/-- the pieces of a text, as Split hands them back -/
theorem split_any (s : ByteArray) (hs : s.size ≤ 2000000) (w : World) (h : GL w) : Calls Tryd.prog 14 #[.string s, .string ⟨#[32]⟩] w fun e w' => e = .returned (.slice (some ⟨w.heap.size, 0, none⟩) (s.data.toList.count 32 + 1) (s.data.toList.count 32 + 1)) ∧ w' = w.alloc (.cells ((piecesL s.data.toList).map strV).toArray 9) := by
  obtain ⟨m, hm⟩ := h.ml
  refine (Tryd.strings_Split s ⟨#[32]⟩ m w (by omega) hm (by decide)).mono ?_
  rintro e w' ⟨rfl, rfl⟩
  have e1 : Lib.countB s ⟨#[32]⟩ = s.data.toList.count 32 := Lib.count_one 32 s.data.toList
  rw [e1]
  refine ⟨rfl, ?_⟩
  congr 3
  have e2 := split_is s
  rw [e1] at e2
  rw [← e2, List.map_map]
  apply List.map_congr_left
  intro p _
  show Value.string p = Value.string ⟨p.data.toList.toArray⟩
  rw [← bytes_eta p]
theorem pieces_len (s : ByteArray) : (piecesL s.data.toList).length = s.data.toList.count 32 + 1 := by
  rw [← split_is s, List.length_map]
  have e1 : Lib.countB s ⟨#[32]⟩ = s.data.toList.count 32 := Lib.count_one 32 s.data.toList
  rw [Lib.splitB_all ⟨#[32]⟩ (by decide) 0 _ s rfl, e1]
theorem pieces_5 (s : ByteArray) (h : s.data.toList.count 32 = 4) : ∃ p0 p1 p2 p3 p4, piecesL s.data.toList = [p0, p1, p2, p3, p4] := by
  have hl := pieces_len s
  rw [h] at hl
  match hp : piecesL s.data.toList, hl with
  | [p0, p1, p2, p3, p4], _ => exact ⟨p0, p1, p2, p3, p4, rfl⟩
theorem splitK_le (sep : List UInt8) : ∀ (k : Nat) (s : List UInt8), ∀ p ∈ Lib.splitK sep 0 k s, p.length ≤ s.length
  | 0, s, p, h => by simp only [Lib.splitK, List.mem_singleton] at h; rw [h]; exact Nat.le_refl _
  | k + 1, s, p, h => by
    rw [Lib.splitK] at h
    split at h
    · simp only [List.mem_singleton] at h; rw [h]; exact Nat.le_refl _
    · rcases List.mem_cons.1 h with rfl | h
      · rw [List.length_take]; exact Nat.min_le_right _ _
      · have := splitK_le sep k _ p h
        rw [List.length_drop] at this; omega
/-- the kind that the first j names give -/
def kp (p : List UInt8) : Nat → Int
  | 0 => 0
  | 1 => if veL = p then 1 else 0
  | 2 => if coL = p then 2 else if veL = p then 1 else 0
  | _ => if leL = p then 3 else if coL = p then 2 else if veL = p then 1 else 0
theorem kp_3 (p : List UInt8) : kp p 3 = kindL p := by
  unfold kp kindL
  simp only [eq_comm]
end Go.Proofs.YtjjikhaaimfneaaDoor
