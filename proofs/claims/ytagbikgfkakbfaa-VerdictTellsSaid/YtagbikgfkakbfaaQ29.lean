/-
  Lemmas and walks for the statement: StIter, StX, StInv, RegG3, StStart, StRound, StEnd, StMore.
-/
import Derived.RangeFuncNested
import Derived.RangeFuncBound
import Derived.RangeFuncCalls
import Derived.RangeFuncLeaves
import Derived.Shelf.Abstract
import Derived.Shelf.RegionOpen
import Derived.WalkKit
import Derived.OwnWalkIn
import Derived.TacticsInMore
import Derived.LoopNIn
import Derived.LoopIn
import Derived.Test.YtagbikgfkakbfaaQ24
import Derived.Test.YtagbikgfkakbfaaQ11
import Derived.Test.YtagbikgfkakbfaaChecked
import Derived.Test.YtagbikgfkakbfaaQ28
import Derived.RangeFuncWrites
import Derived.Test.YtagbikgfkakbfaaQ01
import Derived.RangeFuncFrom
import Derived.RangeFuncBox
namespace Go.Proofs.Ytagbikgfkakbfaa
open Go.RowKit Go.Shelf
set_option linter.unusedSimpArgs false
set_option linter.unusedVariables false
attribute [local go_sem] Oper.semAt_some
def Late (q : Nat) : Type := { p : P2 // 0 ≤ p.x ∧ p.x ≤ (q : Int) ∧ 0 ≤ p.y ∧ p.y ≤ (q : Int) }
def latesP (N m : Nat) : List P2 := (List.range m).map fun e => ⟨((e / N : Nat) : Int), ((e % N : Nat) : Int)⟩
theorem latesP_succ (N m : Nat) : latesP N (m + 1) = latesP N m ++ [⟨((m / N : Nat) : Int), ((m % N : Nat) : Int)⟩] := by simp [latesP, List.range_succ]
theorem latesP_pre {N m M : Nat} (h : m ≤ M) : ∃ r, latesP N M = latesP N m ++ r := by
 obtain ⟨d, rfl⟩ := Nat.exists_eq_add_of_le h
 clear h
 induction d with
 | zero => exact ⟨[], by simp⟩
 | succ d ih =>
   obtain ⟨r, hr⟩ := ih
   exact ⟨r ++ [_], by rw [← Nat.add_assoc, latesP_succ, hr, List.append_assoc]⟩
theorem latesP_len (N m : Nat) : (latesP N m).length = m := by simp [latesP]
theorem latesP_at {N a b : Nat} (h : b < N) : latesP N (a * N + b + 1) = latesP N (a * N + b) ++ [⟨(a : Int), (b : Int)⟩] := by
 have hN : 0 < N := by omega
 rw [latesP_succ]
 have e1 : (a * N + b) / N = a := by rw [Nat.mul_comm, Nat.mul_add_div hN, Nat.div_eq_of_lt h]; omega
 have e2 : (a * N + b) % N = b := by rw [Nat.mul_comm, Nat.mul_add_mod, Nat.mod_eq_of_lt h]
 rw [e1, e2]
def mkLate (q a b : Nat) (ha : a ≤ q) (hb : b ≤ q) : Late q := ⟨⟨(a : Int), (b : Int)⟩, by dsimp only; omega⟩
def encL (q : Nat) (x : Late q) : Array Value := #[.agg #[.int .i64 x.1.x, .int .i64 x.1.y]]
theorem encMk (q a b : Nat) (ha : a ≤ q) (hb : b ≤ q) : encL q (mkLate q a b ha hb) = #[.agg #[.int .i64 (a : Int), .int .i64 (b : Int)]] := rfl
def KpD (B2 : Nat) (W W' : World) : Prop := ∀ a v, a.block = B2 → W.cell? a = some v → W'.cell? a = some v
theorem KpD.refl (B2 : Nat) (W : World) : KpD B2 W W := fun _ _ _ h => h
theorem KpD.trans {B2 : Nat} {A B C : World} (h : KpD B2 A B) (k : KpD B2 B C) : KpD B2 A C := fun a v hb hc => k a v hb (h a v hb hc)
theorem KpD.at {B2 : Nat} {A B : World} (h : KpD B2 A B) (a : Addr) (v : Value) (hb : a.block = B2) (hc : A.cell? a = some v) : B.cell? a = some v := h a v hb hc
theorem kpD_b {B2 : Nat} {w : World} (W : World) (l : Nat) (o o' : Obj) (_ : w.heap.size ≤ l) (h : W.heap[l]? = some o) (ho : o.isCells = false) (_ : o.isWalk = false) : KpD B2 W (W.putObj l o') :=
 fun a v _ hc => cell_kept hc (grownBy_putObj' W l o') (fun r e => by cases e; exact ⟨o, h, ho⟩)
theorem le_mul_self' (m N : Nat) (h : m < N) (b : Nat) (hb : b < N) : m * N + b < N * N := by
 have : (m + 1) * N ≤ N * N := Nat.mul_le_mul_right N h
 rw [Nat.add_mul] at this; omega
set_option maxRecDepth 100000 in
set_option maxHeartbeats 4000000 in
theorem draws1_in (F : Fence) (n : Nat) (h7 : F.fn 49) (hro : F.round = none) (hn : 1 ≤ n) (l B2 q : Nat) (hq : q ≤ 100) (I Ix : List (Late q) → World → Prop)
 (hY : ∀ pre x W, I pre W → pre.length < (q + 1) * (q + 1) → YieldAt F (n - 1) Try.prog l (encL q x) W fun e W' =>
  (e = .returned (.bool true) ∧ I (pre ++ [x]) W' ∧ KpD B2 W W') ∨ (e = .returned (.bool false) ∧ Ix (pre ++ [x]) W'))
 (W : World) (hA : W.cell? ⟨B2, 4, none⟩ = some (.int .i64 q)) (h0 : I [] W) :
 CallsIn F n Try.prog 49 #[.func (.yield l) #[] #[], .pointer (some ⟨B2, 0, none⟩)] W fun e W' => (∃ v, e = .returned v) ∧
  ((∃ ys, ys.map (fun x => x.1) = latesP (q + 1) ((q + 1) * (q + 1)) ∧ I ys W') ∨ (∃ pre, (∃ m, m ≤ (q + 1) * (q + 1) ∧ pre.map (fun x => x.1) = latesP (q + 1) m) ∧ Ix pre W')) := by
 have hq0 : (0 : Int) ≤ (q : Int) ∧ (q : Int) ≤ 100 := by omega
 have ewr : IntKind.i64.wrap ((q : Int) + 1) = (q : Int) + 1 := IntWalk.i64_in _ (by omega)
 refine callsIn_of_wp Try.func49 rfl h7 ?_ hro
 simp only [Try.ntmps49, List.size_toArray, List.length_cons, List.length_nil, Nat.reduceAdd, Nat.reduceSub, Array.replicate_succ, Array.replicate_zero, List.push_toArray, List.append_toArray, List.nil_append, List.cons_append]
 gi_wp2
 gi_loopw [8] (fun i wr => ∃ a : Nat, a ≤ q + 1 ∧ i = .int .i64 a ∧ (∃ ys : List (Late q), Hid (ys.map (fun x => x.1) = latesP (q + 1) (a * (q + 1) + 0)) ∧ I ys wr) ∧ KpD B2 W wr)
  (fun i _ => q + 1 - (intOf i).toNat)
 case atStart => exact ⟨0, Nat.zero_le _, rfl, ⟨[], hide (by simp [latesP]), h0⟩, KpD.refl _ _⟩
 case round =>
  obtain ⟨a, ha, rfl, ⟨ys, hys, hI⟩, hkp⟩ := hrel
  have a0 : (0 : Int) ≤ (a : Int) := Int.natCast_nonneg _
  have hc := hkp.at ⟨B2, 4, none⟩ _ rfl hA
  by_cases hlt : a < q + 1
  · have a1 : (a : Int) < (q : Int) + 1 := by omega
    gi_wp2
    gi_loopw [14] (fun i wr => ∃ b : Nat, b ≤ q + 1 ∧ i = .int .i64 b ∧ (∃ ys : List (Late q), Hid (ys.map (fun x => x.1) = latesP (q + 1) (a * (q + 1) + b)) ∧ I ys wr) ∧ KpD B2 W wr)
     (fun i _ => q + 1 - (intOf i).toNat)
    case atStart => exact ⟨0, Nat.zero_le _, rfl, ⟨ys, hys, hI⟩, hkp⟩
    case round =>
     clear hys hI hkp hc ys
     obtain ⟨b, hb, rfl, ⟨ys, hys, hI⟩, hkp⟩ := hrel
     have b0 : (0 : Int) ≤ (b : Int) := Int.natCast_nonneg _
     by_cases hlt2 : b < q + 1
     · have b1 : (b : Int) < (q : Int) + 1 := by omega
       have hlen : Hid (ys.length = a * (q + 1) + b) := hide (by have := congrArg List.length hys.out; simpa [latesP_len] using this)
       obtain ⟨fn, tmps, assign, body, hy, hR⟩ := hY ys (mkLate q a b (by omega) (by omega)) _ hI (by rw [hlen.out]; exact le_mul_self' a (q + 1) hlt b hlt2)
       rw [encMk] at hy
       gi_wp2
       refine hR.mono ?_
       rintro e W3 (⟨rfl, hJ3, hk3⟩ | ⟨rfl, hJx3⟩)
       · clear hR hy
         gi_wp2
         go_roundw
         case rel => exact ⟨b + 1, by omega, by first | go_num | simp, ⟨_, hide (by rw [List.map_append, hys.out, ← Nat.add_assoc, latesP_at hlt2]; rfl), hJ3⟩, hkp.trans hk3⟩
         case measure => (simp [intOf] <;> omega)
       · gi_wp2
         refine bodyPost_ret (results_none rfl _ _ _) rfl ?_
         exact ⟨⟨_, rfl⟩, .inr ⟨_, ⟨_, le_mul_self' a (q + 1) hlt b hlt2, by rw [List.map_append, hys.out, latesP_at hlt2]; rfl⟩, hJx3⟩⟩
     · obtain rfl : b = q + 1 := by omega
       gi_wp2
       go_roundw
       case rel => exact ⟨a + 1, by omega, by first | go_num | simp, ⟨ys, hide (by rw [hys.out, Nat.add_mul, Nat.one_mul]; rfl), hI⟩, hkp⟩
       case measure => (simp [intOf] <;> omega)
  · obtain rfl : a = q + 1 := by omega
    gi_wp2
    go_end0
    exact ⟨⟨_, rfl⟩, .inl ⟨ys, hys.out, hI⟩⟩
theorem draws_stops (F : Fence) (n : Nat) (h7 : F.fn 49) (hro : F.round = none) (hn : 1 ≤ n) (B2 q : Nat) (hq : q ≤ 100) (w : World) (hs2 : B2 < w.heap.size) (hA : w.cell? ⟨B2, 4, none⟩ = some (.int .i64 q)) :
 SeqStopsK F n Try.prog 49 #[.pointer (some ⟨B2, 0, none⟩)] (encL q) (KpD B2) (fun ys => ys.map (fun x => x.1) = latesP (q + 1) ((q + 1) * (q + 1))) (fun pre => ∃ m, m ≤ (q + 1) * (q + 1) ∧ pre.map (fun x => x.1) = latesP (q + 1) m) ((q + 1) * (q + 1)) w := fun l J Jx W hW _ _ hY h0 =>
 draws1_in F n h7 hro hn l B2 q hq J Jx hY W ((hW.cell (p := ⟨B2, 4, none⟩) hs2).trans hA) h0
theorem draws_in (F : Fence) (n : Nat) (h5 : F.fn 38) (hro : F.round = none) (k0 k1 R Q J : Int) (w : World) :
 CallsIn F n Try.prog 38 #[.agg #[.int .i64 k0, .int .i64 k1, .int .i64 R, .int .i64 Q, .int .i64 J]] w fun e w' => e = .returned (.func (.func 49) #[] #[.pointer (some ⟨w.heap.size, 0, none⟩)]) ∧ w' = w.alloc (.cells #[.int .i64 k0, .int .i64 k1, .int .i64 R, .int .i64 Q, .int .i64 J] 24) := by
 refine callsIn_of_wp Try.func38 rfl h5 ?_ hro
 simp only [Try.ntmps38, List.size_toArray, List.length_cons, List.length_nil, Nat.reduceAdd, Nat.reduceSub, Array.replicate_succ, Array.replicate_zero, List.push_toArray, List.append_toArray, List.nil_append, List.cons_append]
 gi_wp2
 go_ret
 exact ⟨rfl, rfl⟩
end Go.Proofs.Ytagbikgfkakbfaa
namespace Go.Proofs.Ytagbikgfkakbfaa
set_option linter.unusedSimpArgs false
set_option linter.unusedVariables false
structure Edg where
 f : Nat
 t : Nat
 l : P2
 us : List Int
structure Sx where
 states : List (List Int)
 fr : List Int
 bys : List P2
 edges : List Edg
 full : Bool
section
variable (step : List Int → P2 → List Int × List Int)
def Sx.nx (B : Sx) (k : Nat) (l : P2) : List Int := (step (B.states.getD k []) l).1
def Sx.go (B : Sx) (k : Nat) (l : P2) : Sx :=
 if B.full = true then B
 else if B.nx step k l ∈ B.states then { B with edges := B.edges ++ [⟨k, B.states.idxOf (B.nx step k l), l, (step (B.states.getD k []) l).2⟩] }
 else if B.states.length = 300 then { B with full := true }
 else ⟨B.states ++ [B.nx step k l], B.fr ++ [(k : Int)], B.bys ++ [l], B.edges ++ [⟨k, B.states.length, l, (step (B.states.getD k []) l).2⟩], false⟩
def Sx.walk (B : Sx) (k : Nat) (ls : List P2) : Sx := ls.foldl (fun B l => B.go step k l) B
def rounds (s0 : List Int) (N : Nat) : Nat → Sx
 | 0 => ⟨[s0], [-1], [⟨0, 0⟩], [], false⟩
 | k + 1 => (rounds s0 N k).walk step k (latesP N (N * N))
variable {step}
theorem Sx.walk_nil (B : Sx) (k : Nat) : B.walk step k [] = B := rfl
theorem Sx.walk_snoc (B : Sx) (k : Nat) (ls : List P2) (l : P2) : B.walk step k (ls ++ [l]) = (B.walk step k ls).go step k l := by simp [Sx.walk]
theorem Sx.go_full {B : Sx} {k : Nat} {l : P2} (h : B.full = true) : B.go step k l = B := by unfold Sx.go; rw [if_pos h]
theorem Sx.walk_full {B : Sx} {k : Nat} {ls : List P2} (h : B.full = true) : B.walk step k ls = B := by
 induction ls with
 | nil => rfl
 | cons l ls ih => show Sx.walk step (B.go step k l) k ls = B; rw [Sx.go_full h]; exact ih
theorem Sx.walk_app (B : Sx) (k : Nat) (a b : List P2) : B.walk step k (a ++ b) = (B.walk step k a).walk step k b := by simp [Sx.walk]
theorem Sx.go_old {B : Sx} {k i : Nat} {l : P2} {s nx us : List Int} (hf : B.full = false) (hs : B.states[k]? = some s) (he : step s l = (nx, us)) (hi : B.states[i]? = some nx) (hd : B.states.Nodup) :
 B.go step k l = { B with edges := B.edges ++ [⟨k, i, l, us⟩] } := by
 have hg : B.states.getD k [] = s := by rw [List.getD_eq_getElem?_getD, hs]; rfl
 have hn : B.nx step k l = nx := by unfold Sx.nx; rw [hg, he]
 have hm : nx ∈ B.states := List.mem_of_getElem? hi
 unfold Sx.go
 rw [if_neg (by rw [hf]; simp), hn, if_pos hm, hg, he]
 have : B.states.idxOf nx = i := by
  obtain ⟨hl, h2⟩ := List.getElem?_eq_some_iff.1 hi
  have := hd.idxOf_getElem i hl
  rw [h2] at this; exact this
 rw [this]
theorem Sx.go_stop {B : Sx} {k : Nat} {l : P2} {s nx us : List Int} (hf : B.full = false) (hs : B.states[k]? = some s) (he : step s l = (nx, us)) (hm : nx ∉ B.states) (hl : B.states.length = 300) :
 B.go step k l = { B with full := true } := by
 have hg : B.states.getD k [] = s := by rw [List.getD_eq_getElem?_getD, hs]; rfl
 have hn : B.nx step k l = nx := by unfold Sx.nx; rw [hg, he]
 unfold Sx.go
 rw [if_neg (by rw [hf]; simp), hn, if_neg hm, if_pos hl]
theorem Sx.go_new {B : Sx} {k : Nat} {l : P2} {s nx us : List Int} (hf : B.full = false) (hs : B.states[k]? = some s) (he : step s l = (nx, us)) (hm : nx ∉ B.states) (hl : B.states.length ≠ 300) :
 B.go step k l = ⟨B.states ++ [nx], B.fr ++ [(k : Int)], B.bys ++ [l], B.edges ++ [⟨k, B.states.length, l, us⟩], false⟩ := by
 have hg : B.states.getD k [] = s := by rw [List.getD_eq_getElem?_getD, hs]; rfl
 have hn : B.nx step k l = nx := by unfold Sx.nx; rw [hg, he]
 unfold Sx.go
 rw [if_neg (by rw [hf]; simp), hn, if_neg hm, if_neg hl, hg, he]
theorem app_getX {α : Type} {l : List α} {x y : α} {i : Nat} (h : (l ++ [x])[i]? = some y) : (i < l.length ∧ l[i]? = some y) ∨ (i = l.length ∧ y = x) := by
 rw [List.getElem?_append] at h
 split at h
 · exact .inl ⟨by assumption, h⟩
 · rename_i hn
   have h1 := (List.getElem?_eq_some_iff.1 h).1
   have : i = l.length := by simp at h1; omega
   subst this
   simp at h
   exact .inr ⟨rfl, h.symm⟩
theorem get_appX {α : Type} {l : List α} {x y : α} {i : Nat} (h : l[i]? = some y) : (l ++ [x])[i]? = some y := by
 have := (List.getElem?_eq_some_iff.1 h).1
 rw [List.getElem?_append_left this]; exact h
structure SxOk (G U : List Int → Prop) (B : Sx) : Prop where
 flen : B.fr.length = B.states.length
 blen : B.bys.length = B.states.length
 one : 1 ≤ B.states.length
 most : B.states.length ≤ 300
 nodup : B.states.Nodup
 good : ∀ s ∈ B.states, G s
 tos : ∀ (e : Nat) (E : Edg), B.edges[e]? = some E → E.t < B.states.length ∧ E.f < B.states.length ∧ U E.us
 born : ∀ i, 1 ≤ i → i < B.states.length → ∃ (e : Nat) (E : Edg), B.edges[e]? = some E ∧ E.t = i ∧ B.fr[i]? = some (E.f : Int) ∧ B.bys[i]? = some E.l ∧ (∀ (e' : Nat) (E' : Edg), e' < e → B.edges[e']? = some E' → E'.t ≠ i) ∧ E.f < i
theorem SxOk.go {G U : List Int → Prop} {B : Sx} {k : Nat} {l : P2} (h : SxOk G U B) (hf : B.full = false) (hk : k < B.states.length) (hG : ∀ s, G s → G (step s l).1 ∧ U (step s l).2) : SxOk G U (B.go step k l) := by
 obtain ⟨s, hs⟩ : ∃ s, B.states[k]? = some s := ⟨_, List.getElem?_eq_getElem hk⟩
 have hsg := hG s (h.good s (List.mem_of_getElem? hs))
 obtain ⟨nx, us, he⟩ : ∃ nx us, step s l = (nx, us) := ⟨_, _, rfl⟩
 rw [he] at hsg
 by_cases hm : nx ∈ B.states
 · obtain ⟨i, hi⟩ := List.mem_iff_getElem?.1 hm
   have hil := (List.getElem?_eq_some_iff.1 hi).1
   rw [Sx.go_old hf hs he hi h.nodup]
   refine ⟨h.flen, h.blen, h.one, h.most, h.nodup, h.good, fun e E hE => ?_, fun j hj hjl => ?_⟩
   · rcases app_getX hE with ⟨_, hE⟩ | ⟨_, rfl⟩
     · exact h.tos e E hE
     · exact ⟨hil, hk, hsg.2⟩
   · obtain ⟨e, E, h1, h2, h3, h4, h5, h6⟩ := h.born j hj hjl
     refine ⟨e, E, get_appX h1, h2, h3, h4, fun e' E' hlt hE' => ?_, h6⟩
     rcases app_getX hE' with ⟨_, hE'⟩ | ⟨h7, _⟩
     · exact h5 e' E' hlt hE'
     · have := (List.getElem?_eq_some_iff.1 h1).1; omega
 · by_cases hl : B.states.length = 300
   · rw [Sx.go_stop hf hs he hm hl]
     exact ⟨h.flen, h.blen, h.one, h.most, h.nodup, h.good, h.tos, h.born⟩
   · rw [Sx.go_new hf hs he hm hl]
     have hfl := h.flen
     have hbl := h.blen
     refine ⟨by simp [hfl], by simp [hbl], by simp, by have := h.most; simp; omega, ?_, fun s' hs' => ?_, fun e E hE => ?_, fun j hj hjl => ?_⟩
     · refine List.nodup_append.2 ⟨h.nodup, by simp, ?_⟩
       intro a ha b hb
       rw [List.mem_singleton] at hb
       subst hb
       exact fun e => hm (e ▸ ha)
     · rcases List.mem_append.1 hs' with h1 | h1
       · exact h.good s' h1
       · rw [List.mem_singleton] at h1; subst h1; exact hsg.1
     · rcases app_getX hE with ⟨_, hE⟩ | ⟨_, rfl⟩
       · have := h.tos e E hE; simp only [List.length_append, List.length_cons, List.length_nil]; exact ⟨by omega, by omega, this.2.2⟩
       · exact ⟨by simp, by simp; omega, hsg.2⟩
     · simp only [List.length_append, List.length_cons, List.length_nil] at hjl
       rcases (show j < B.states.length ∨ j = B.states.length by omega) with hj2 | rfl
       · obtain ⟨e, E, h1, h2, h3, h4, h5, h6⟩ := h.born j hj hj2
         refine ⟨e, E, get_appX h1, h2, get_appX h3, get_appX h4, fun e' E' hlt hE' => ?_, h6⟩
         rcases app_getX hE' with ⟨_, hE'⟩ | ⟨h7, _⟩
         · exact h5 e' E' hlt hE'
         · have := (List.getElem?_eq_some_iff.1 h1).1; omega
       · refine ⟨B.edges.length, _, List.getElem?_concat_length, rfl, ?_, ?_, fun e' E' hlt hE' => ?_, hk⟩
         · rw [← hfl]; exact List.getElem?_concat_length
         · rw [← hbl]; exact List.getElem?_concat_length
         · rcases app_getX hE' with ⟨_, hE'⟩ | ⟨h7, _⟩
           · have := (h.tos e' E' hE').1; omega
           · omega
theorem Sx.go_mono (B : Sx) (k : Nat) (l : P2) : B.states.length ≤ (B.go step k l).states.length := by
 unfold Sx.go; (repeat' split) <;> simp
theorem Sx.go_edges (B : Sx) (k : Nat) (l : P2) (h : (B.go step k l).full = false) : (B.go step k l).edges.length = B.edges.length + 1 := by
 unfold Sx.go at h ⊢
 (repeat' split at h) <;> (repeat' split) <;> simp_all
theorem Sx.go_open {B : Sx} {k : Nat} {l : P2} (h : (B.go step k l).full = false) : B.full = false := by
 cases hf : B.full with
 | false => rfl
 | true => rw [Sx.go_full hf, hf] at h; cases h
theorem Sx.walk_mono (B : Sx) (k : Nat) (ls : List P2) : B.states.length ≤ (B.walk step k ls).states.length := by
 induction ls generalizing B with
 | nil => exact Nat.le_refl _
 | cons l ls ih => exact Nat.le_trans (Sx.go_mono B k l) (ih (B.go step k l))
theorem Sx.walk_open {B : Sx} {k : Nat} {ls : List P2} (h : (B.walk step k ls).full = false) : B.full = false := by
 cases hf : B.full with
 | false => rfl
 | true => rw [Sx.walk_full hf, hf] at h; cases h
theorem Sx.walk_edges {B : Sx} {k : Nat} {ls : List P2} (h : (B.walk step k ls).full = false) : (B.walk step k ls).edges.length = B.edges.length + ls.length := by
 induction ls generalizing B with
 | nil => rfl
 | cons l ls ih =>
   have h1 : ((B.go step k l).walk step k ls).full = false := h
   have h2 := ih h1
   have h3 := Sx.go_edges B k l (Sx.walk_open h1)
   show ((B.go step k l).walk step k ls).edges.length = _
   rw [h2, h3]; simp only [List.length_cons]; omega
theorem SxOk.walk {G U : List Int → Prop} {B : Sx} {k : Nat} {ls : List P2} (h : SxOk G U B) (hk : k < B.states.length) (hG : ∀ l ∈ ls, ∀ s, G s → G (step s l).1 ∧ U (step s l).2) : SxOk G U (B.walk step k ls) := by
 induction ls generalizing B with
 | nil => exact h
 | cons l ls ih =>
   cases hf : B.full with
   | true => rw [Sx.walk_full hf]; exact h
   | false => exact ih (B := B.go step k l) (h.go hf hk (hG l (by simp))) (Nat.lt_of_lt_of_le hk (Sx.go_mono B k l)) (fun l' hl' => hG l' (by simp [hl']))
def SxEnds (s0 : List Int) (N kk : Nat) : Prop := (∀ j, j < kk → (rounds step s0 N j).full = false ∧ j < (rounds step s0 N j).states.length) ∧ ((rounds step s0 N kk).full = true ∨ ¬ kk < (rounds step s0 N kk).states.length)
theorem SxEnds.one {s0 : List Int} {N a b : Nat} (h : SxEnds (step := step) s0 N a) (h' : SxEnds (step := step) s0 N b) : a = b := by
 rcases Nat.lt_trichotomy a b with hab | hab | hab
 · have := h'.1 a hab
   rcases h.2 with h2 | h2
   · rw [this.1] at h2; cases h2
   · exact (h2 this.2).elim
 · exact hab
 · have := h.1 b hab
   rcases h'.2 with h2 | h2
   · rw [this.1] at h2; cases h2
   · exact (h2 this.2).elim
end
end Go.Proofs.Ytagbikgfkakbfaa
namespace Go.Proofs.Ytagbikgfkakbfaa
open Go.RowKit
set_option linter.unusedSimpArgs false
set_option linter.unusedVariables false
structure Chg (w w' : World) (Ft : Nat → Prop) : Prop where
 os : w'.os = w.os
 tape : w'.tape = w.tape
 output : w'.output = w.output
 size : w.heap.size ≤ w'.heap.size
 block : ∀ b, b < w.heap.size → ¬ Ft b → w'.heap[b]? = w.heap[b]?
theorem Chg.refl (w : World) (Ft : Nat → Prop) : Chg w w Ft := ⟨rfl, rfl, rfl, Nat.le_refl _, fun _ _ _ => rfl⟩
theorem Chg.of_below {w w' : World} {Ft : Nat → Prop} (h : Below w.heap.size w w') : Chg w w' Ft := ⟨h.os, h.tape, h.output, h.size, fun b hb _ => h.block b hb⟩
theorem Chg.trans {a b c : World} {F G : Nat → Prop} (h : Chg a b F) (k : Chg b c G) (hG : ∀ x, G x → F x ∨ a.heap.size ≤ x) : Chg a c F :=
 ⟨k.os.trans h.os, k.tape.trans h.tape, k.output.trans h.output, Nat.le_trans h.size k.size, fun x hx hn => (k.block x (Nat.lt_of_lt_of_le hx h.size) (fun hg => by
  rcases hG x hg with h1 | h1
  · exact hn h1
  · omega)).trans (h.block x hx hn)⟩
theorem Chg.mono {a b : World} {F G : Nat → Prop} (h : Chg a b F) (hG : ∀ x, F x → G x) : Chg a b G := ⟨h.os, h.tape, h.output, h.size, fun x hx hn => h.block x hx (fun hf => hn (hG x hf))⟩
theorem Chg.below {w w' : World} (h : Chg w w' (fun _ => False)) : Below w.heap.size w w' := ⟨h.os, h.tape, h.output, h.size, fun b hb => h.block b hb id⟩
theorem Chg.of_sfr {w w' : World} {PB MB : Nat} {v1 v2 v3 u1 u2 u3 : Value} (h : SFr w w' PB MB v1 v2 v3 u1 u2 u3) : Chg w w' (Foot PB MB v1 v2 v3) := ⟨h.os, h.tape, h.output, h.size, h.block⟩
structure TellOk (K : Nat) (caps : Array Value) (T : List Edg → (Nat → Prop) → World → Prop) : Prop where
 enters : EntersF K
 lt : ∀ {es F w}, T es F w → ∀ b, F b → b < w.heap.size ∧ ∀ o, w.heap[b]? = some o → o.isCells = true
 kept : ∀ {es F w w'}, T es F w → (∀ b, F b → w'.heap[b]? = w.heap[b]?) → T es F w'
 det : ∀ {es es' F F' w}, T es F w → T es' F' w → ∀ b, F b ↔ F' b
 run : ∀ {es F w} (k t : Nat) (l : P2) (x0 x1 x2 x3 x4 x5 : Int), T es F w → es.length < 4800 → k ≤ 300 → t ≤ 300 → (∀ z ∈ [x0, x1, x2, x3, x4, x5], 0 ≤ z ∧ z ≤ 100) →
  Calls Try.prog K (#[.int .i64 k, .int .i64 t, .agg #[.int .i64 x0, .int .i64 x1, .int .i64 x2, .int .i64 x3, .int .i64 x4, .int .i64 x5]] ++ caps) w fun e w' => (∃ v, e = .returned v) ∧ ∃ F', T (es ++ [⟨k, t, l, [x0, x1, x2, x3, x4, x5]⟩]) F' w' ∧ Chg w w' F ∧ (∀ b, F' b → F b ∨ w.heap.size ≤ b)
structure EI (w : World) (F0 : Nat → Prop) (T : List Edg → (Nat → Prop) → World → Prop) (TR : List (Nat × Obj)) (PB MB B : Nat) (v1 v2 v3 : Value) (ss : List (List Int)) (fr : List Int) (bys : List P2) (es : List Edg) (F : Nat → Prop) (W : World) : Prop where
 sp : Spc W PB MB B v1 v2 v3 ss fr bys
 tl : T es F W
 dis : ∀ b, F b → ¬ Foot PB MB v1 v2 v3 b
 tr : ∀ p ∈ TR, W.heap[p.1]? = some p.2 ∧ ¬ Foot PB MB v1 v2 v3 p.1 ∧ ¬ F p.1
 chg : Chg w W F0
 fold : ∀ b, b < w.heap.size → Foot PB MB v1 v2 v3 b ∨ F b → F0 b
 mbc : ∀ b, b ≠ MB → Foot PB MB v1 v2 v3 b → ∀ o, W.heap[b]? = some o → o.isCells = true
section
variable {w W W' : World} {F0 : Nat → Prop} {T : List Edg → (Nat → Prop) → World → Prop} {TR : List (Nat × Obj)} {PB MB B : Nat} {v1 v2 v3 : Value} {ss : List (List Int)} {fr : List Int} {bys : List P2} {es : List Edg} {F : Nat → Prop} {K : Nat} {caps : Array Value}
theorem EI.kept (hT : TellOk K caps T) (h : EI w F0 T TR PB MB B v1 v2 v3 ss fr bys es F W) (hc : Chg W W' (fun b => ¬ Foot PB MB v1 v2 v3 b ∧ ¬ F b ∧ (∀ p ∈ TR, p.1 ≠ b) ∧ w.heap.size ≤ b)) : EI w F0 T TR PB MB B v1 v2 v3 ss fr bys es F W' := by
 have kf : ∀ b, Foot PB MB v1 v2 v3 b → W'.heap[b]? = W.heap[b]? := fun b hb => hc.block b (h.sp.foot_lt hb) (fun hn => hn.1 hb)
 have kF : ∀ b, F b → W'.heap[b]? = W.heap[b]? := fun b hb => hc.block b ((hT.lt h.tl b hb).1) (fun hn => hn.2.1 hb)
 refine ⟨h.sp.kept kf, hT.kept h.tl kF, h.dis, fun p hp => ?_, ?_, h.fold, fun b hb hf o ho => h.mbc b hb hf o ((kf b hf).symm.trans ho)⟩
 · obtain ⟨h1, h2⟩ := h.tr p hp
   exact ⟨(hc.block p.1 (Array.getElem?_eq_some_iff.1 h1).1 (fun hn => hn.2.2.1 p hp rfl)).trans h1, h2⟩
 · exact h.chg.trans (hc.mono (G := fun b => w.heap.size ≤ b) (fun x hx => hx.2.2.2)) (fun x hx => .inr hx)
theorem EI.below (hT : TellOk K caps T) (h : EI w F0 T TR PB MB B v1 v2 v3 ss fr bys es F W) (hb : Below W.heap.size W W') : EI w F0 T TR PB MB B v1 v2 v3 ss fr bys es F W' := h.kept hT (Chg.of_below hb)
theorem EI.drop {p : Nat × Obj} (h : EI w F0 T (p :: TR) PB MB B v1 v2 v3 ss fr bys es F W) : EI w F0 T TR PB MB B v1 v2 v3 ss fr bys es F W :=
 ⟨h.sp, h.tl, h.dis, fun p hp => h.tr p (List.mem_cons_of_mem _ hp), h.chg, h.fold, h.mbc⟩
theorem EI.sub {TR' : List (Nat × Obj)} (h : EI w F0 T TR PB MB B v1 v2 v3 ss fr bys es F W) (hs : ∀ p ∈ TR', p ∈ TR) : EI w F0 T TR' PB MB B v1 v2 v3 ss fr bys es F W :=
 ⟨h.sp, h.tl, h.dis, fun p hp => h.tr p (hs p hp), h.chg, h.fold, h.mbc⟩
theorem EI.track {b : Nat} {o : Obj} (h : EI w F0 T TR PB MB B v1 v2 v3 ss fr bys es F W) (hb : W.heap[b]? = some o) (h1 : ¬ Foot PB MB v1 v2 v3 b) (h2 : ¬ F b) : EI w F0 T ((b, o) :: TR) PB MB B v1 v2 v3 ss fr bys es F W :=
 ⟨h.sp, h.tl, h.dis, fun p hp => by
  rcases List.mem_cons.1 hp with rfl | hp
  · exact ⟨hb, h1, h2⟩
  · exact h.tr p hp, h.chg, h.fold, h.mbc⟩
theorem EI.fresh (hT : TellOk K caps T) (h : EI w F0 T TR PB MB B v1 v2 v3 ss fr bys es F W) {b : Nat} (hb : W.heap.size ≤ b) : ¬ Foot PB MB v1 v2 v3 b ∧ ¬ F b :=
 ⟨fun hf => by have := h.sp.foot_lt hf; omega, fun hf => by have := (hT.lt h.tl b hf).1; omega⟩
theorem EI.new (hT : TellOk K caps T) (h : EI w F0 T TR PB MB B v1 v2 v3 ss fr bys es F W) (hb : Below W.heap.size W W') {b : Nat} {o : Obj} (hle : W.heap.size ≤ b) (ho : W'.heap[b]? = some o) : EI w F0 T ((b, o) :: TR) PB MB B v1 v2 v3 ss fr bys es F W' :=
 (h.below hT hb).track ho (h.fresh hT hle).1 (h.fresh hT hle).2
theorem EI.alloc (hT : TellOk K caps T) (h : EI w F0 T TR PB MB B v1 v2 v3 ss fr bys es F W) (o : Obj) : EI w F0 T ((W.heap.size, o) :: TR) PB MB B v1 v2 v3 ss fr bys es F (W.alloc o) :=
 h.new hT ((Below.refl _ _).alloc (Nat.le_refl _) o) (Nat.le_refl _) (World.alloc_heap_new W o)
theorem EI.turn (hT : TellOk K caps T) {b : Nat} {o o' : Obj} (h : EI w F0 T ((b, o) :: TR) PB MB B v1 v2 v3 ss fr bys es F W) (hn : ∀ p ∈ TR, p.1 ≠ b) (hw : w.heap.size ≤ b) (hc : Chg W W' (fun x => x = b)) (ho : W'.heap[b]? = some o') : EI w F0 T ((b, o') :: TR) PB MB B v1 v2 v3 ss fr bys es F W' := by
 obtain ⟨_, h1, h2⟩ := h.tr (b, o) (by simp)
 exact (h.drop.kept hT (hc.mono (fun x hx => by subst hx; exact ⟨h1, h2, hn, hw⟩))).track ho h1 h2
theorem setCell_chg (W : World) (p : Addr) (v : Value) : Chg W (W.setCell p v) (fun x => x = p.block) := by
 have ks : (W.setCell p v).os = W.os ∧ (W.setCell p v).tape = W.tape ∧ (W.setCell p v).output = W.output := by
  refine ⟨?_, ?_, ?_⟩ <;> (unfold World.setCell; split <;> (try split) <;> rfl)
 exact ⟨ks.1, ks.2.1, ks.2.2, by simp, fun b _ hn => Below.heap_setCell _ _ _ _ hn⟩
theorem own_cells {n size : Nat} {e : TypeId} {v : Value} {xs : List Value} (h : W.ownsRow B e size v n xs) {b : Nat} (hb : v.ownBlock = some b) {o : Obj} (ho : W.heap[b]? = some o) : o.isCells = true := by
 rcases h.2 with ⟨rfl, _⟩ | ⟨g', cap, cur, rfl, _, hh, _⟩
 · simp [Value.ownBlock] at hb
 · simp only [Value.ownBlock, Option.some.injEq] at hb; subst hb
   rw [hh] at ho; injection ho with ho; subst ho; rfl
theorem EI.found (hT : TellOk K caps T) {u1 u2 u3 : Value} {ss' : List (List Int)} {fr' : List Int} {bys' : List P2} (h : EI w F0 T TR PB MB B v1 v2 v3 ss fr bys es F W) (hs : SFr W W' PB MB v1 v2 v3 u1 u2 u3) (hp : Spc W' PB MB B u1 u2 u3 ss' fr' bys') :
 EI w F0 T TR PB MB B u1 u2 u3 ss' fr' bys' es F W' := by
 have nf : ∀ b, b < W.heap.size → ¬ Foot PB MB v1 v2 v3 b → ¬ Foot PB MB u1 u2 u3 b := fun b hb hn hf => by
  rcases hs.foot b hf with h1 | h1
  · exact hn h1
  · omega
 have kF : ∀ b, F b → W'.heap[b]? = W.heap[b]? := fun b hb => hs.block b ((hT.lt h.tl b hb).1) (h.dis b hb)
 refine ⟨hp, hT.kept h.tl kF, fun b hb => nf b ((hT.lt h.tl b hb).1) (h.dis b hb), fun p hpp => ?_, ?_, fun b hb hf => ?_, fun b hb hf o ho => ?_⟩
 · obtain ⟨h1, h2, h3⟩ := h.tr p hpp
   have hl := (Array.getElem?_eq_some_iff.1 h1).1
   exact ⟨(hs.block p.1 hl h2).trans h1, nf p.1 hl h2, h3⟩
 · exact ⟨hs.os.trans h.chg.os, hs.tape.trans h.chg.tape, hs.output.trans h.chg.output, Nat.le_trans h.chg.size hs.size, fun b hb hn => (hs.block b (Nat.lt_of_lt_of_le hb h.chg.size) (fun hf => hn (h.fold b hb (.inl hf)))).trans (h.chg.block b hb hn)⟩
 · rcases hf with hf | hf
   · rcases hs.foot b hf with h1 | h1
     · exact h.fold b hb (.inl h1)
     · have := h.chg.size; omega
   · exact h.fold b hb (.inr hf)
 · rcases hf with rfl | rfl | hf | hf | hf
   · have := hp.c0
     unfold World.cell? at this
     rw [ho] at this
     cases o <;> first | rfl | (simp at this)
   · exact absurd rfl hb
   · exact own_cells hp.r1 hf ho
   · exact own_cells hp.r2 hf ho
   · exact own_cells hp.r3 hf ho
theorem EI.told (hT : TellOk K caps T) {es' : List Edg} {F' : Nat → Prop} (h : EI w F0 T TR PB MB B v1 v2 v3 ss fr bys es F W) (ht : T es' F' W') (hc : Chg W W' F) (hF : ∀ b, F' b → F b ∨ W.heap.size ≤ b) : EI w F0 T TR PB MB B v1 v2 v3 ss fr bys es' F' W' := by
 have kf : ∀ b, Foot PB MB v1 v2 v3 b → W'.heap[b]? = W.heap[b]? := fun b hb => hc.block b (h.sp.foot_lt hb) (fun hn => h.dis b hn hb)
 refine ⟨h.sp.kept kf, ht, fun b hb hf => ?_, fun p hp => ?_, ?_, fun b hb hf => ?_, fun b hb hf o ho => h.mbc b hb hf o ((kf b hf).symm.trans ho)⟩
 · rcases hF b hb with h1 | h1
   · exact h.dis b h1 hf
   · have := h.sp.foot_lt hf; omega
 · obtain ⟨h1, h2, h3⟩ := h.tr p hp
   have hl := (Array.getElem?_eq_some_iff.1 h1).1
   refine ⟨(hc.block p.1 hl h3).trans h1, h2, fun hf => ?_⟩
   rcases hF _ hf with h4 | h4
   · exact h3 h4
   · omega
 · exact ⟨hc.os.trans h.chg.os, hc.tape.trans h.chg.tape, hc.output.trans h.chg.output, Nat.le_trans h.chg.size hc.size, fun b hb hn => (hc.block b (Nat.lt_of_lt_of_le hb h.chg.size) (fun hf => hn (h.fold b hb (.inr hf)))).trans (h.chg.block b hb hn)⟩
 · rcases hf with hf | hf
   · exact h.fold b hb (.inl hf)
   · rcases hF b hf with h1 | h1
     · exact h.fold b hb (.inr h1)
     · have := h.chg.size; omega
theorem EI.merge (hT : TellOk K caps T) {u1 u2 u3 : Value} {ss' : List (List Int)} {fr' : List Int} {bys' : List P2} {es' : List Edg} {F' : Nat → Prop} {p : Nat × Obj} (h : EI w F0 T TR PB MB B v1 v2 v3 ss fr bys es F W) (h' : EI w F0 T [p] PB MB B u1 u2 u3 ss' fr' bys' es' F' W) : EI w F0 T (p :: TR) PB MB B v1 v2 v3 ss fr bys es F W := by
 have e1 : v1 = u1 := by have := h.sp.c1; rw [h'.sp.c1] at this; injection this with this; exact this.symm
 have e2 : v2 = u2 := by have := h.sp.c2; rw [h'.sp.c2] at this; injection this with this; exact this.symm
 have e3 : v3 = u3 := by have := h.sp.c3; rw [h'.sp.c3] at this; injection this with this; exact this.symm
 subst e1; subst e2; subst e3
 obtain ⟨h1, h2, h3⟩ := h'.tr p (by simp)
 exact h.track h1 h2 (fun hf => h3 ((hT.det h.tl h'.tl p.1).1 hf))
end
end Go.Proofs.Ytagbikgfkakbfaa
namespace Go.Proofs.Ytagbikgfkakbfaa
open Go Go.RowKit
set_option linter.unusedSimpArgs false
set_option linter.unusedVariables false
section
variable {P : Program} {ops : Array Oper} {Q : Exit → Act → World → Prop} {md : Region.Mode} {c : Nat} {F : World → Prop}
theorem wpAnyG_threeF {i j k : Nat} {oi oj ok : Oper} {fuel : Nat} {listed : Array Bool} {a : Act} {w : World} (hoi : ops[i]? = some oi) (hoj : ops[j]? = some oj) (hok : ops[k]? = some ok) (hr : Region.ready md ops listed = [i, j, k])
 (hi : ∀ K' : Act → World → Prop, Shut (∀ a w, F w → wpAnyG P md ops Q c F fuel (listed.setIfInBounds i true) a w → K' a w) → if Region.wanted oi (yielded ops a.tmps) = true then Oper.wp P oi a w K' Q else K' (a.put oi.dst undef) w)
 (hj : ∀ K' : Act → World → Prop, Shut (∀ a w, F w → wpAnyG P md ops Q c F fuel (listed.setIfInBounds j true) a w → K' a w) → if Region.wanted oj (yielded ops a.tmps) = true then Oper.wp P oj a w K' Q else K' (a.put oj.dst undef) w)
 (hk : ∀ K' : Act → World → Prop, Shut (∀ a w, F w → wpAnyG P md ops Q c F fuel (listed.setIfInBounds k true) a w → K' a w) → if Region.wanted ok (yielded ops a.tmps) = true then Oper.wp P ok a w K' Q else K' (a.put ok.dst undef) w) : wpAnyG P md ops Q c F (fuel + 1) listed a w := by
 refine ⟨fun h0 => (by rw [hr] at h0; cases h0), fun m hm => ?_⟩
 rw [hr] at hm
 rcases (show m = i ∨ m = j ∨ m = k by simpa using hm) with rfl | rfl | rfl
 · exact wpOp_step hoi (fun K' hK => hi K' (fun a w hF hW => hK a w ⟨fun _ => hF, hW⟩))
 · exact wpOp_step hoj (fun K' hK => hj K' (fun a w hF hW => hK a w ⟨fun _ => hF, hW⟩))
 · exact wpOp_step hok (fun K' hK => hk K' (fun a w hF hW => hK a w ⟨fun _ => hF, hW⟩))
theorem wpAnyG_meet2 {fuel : Nat} {L0 : Array Bool} {a0 : Act} {w0 : World} (Lc : Array Bool) (f : Nat) (mk : Act → Nat → Nat → Act) (J : Nat → Nat → World → Prop)
 (hc : ∀ NB OB w, J NB OB w → wpAnyG P md ops Q c F f Lc (mk a0 NB OB) w)
 (hgo : Shut (∀ L a NB OB w, L = Lc → a = mk a0 NB OB → J NB OB w → wpAnyG P md ops Q c F f L a w) → wpAnyG P md ops Q c F fuel L0 a0 w0) : wpAnyG P md ops Q c F fuel L0 a0 w0 :=
 hgo (fun L a NB OB w h1 h2 h3 => by subst h1; subst h2; exact hc NB OB w h3)
end
structure TwoNew (V : World) (o1 o2 : Obj) (NB OB : Nat) (W : World) : Prop where
 below : Below V.heap.size V W
 n1 : V.heap.size ≤ NB
 n2 : V.heap.size ≤ OB
 ne : NB ≠ OB
 h1 : W.heap[NB]? = some o1
 h2 : W.heap[OB]? = some o2
def dfr (D : Nat) : Deferred := { target := .collected D, args := #[] }
theorem putObj_chg (W : World) (D : Nat) (o : Obj) : Chg W (W.putObj D o) (fun b => b = D) := by
 have h := grownBy_putObj' W D o
 exact ⟨h.os, h.tape, h.output, h.size, fun b hb hn => h.block b hb (fun e => by injection e with e; exact hn e)⟩
theorem leaves_all {F : Fence} {n : Nat} {P : Program} {fn : Func} {tmps : Array Value} {R : Ending → World → Prop} : ∀ (ds : List Nat) (W : World), ds.Nodup → (∀ D ∈ ds, W.heap[D]? = some (.deferred (some []))) → (∀ W', Chg W W' (fun b => b ∈ ds) → LeavesIn F n P fn tmps R [] .returning W') → LeavesInM F n P fn tmps R (ds.map dfr) .returning W
 | [], W, _, _, h => h W (Chg.refl _ _)
 | D :: ds, W, hn, hk, h => by
   have hd := hk D (by simp)
   rw [List.nodup_cons] at hn
   have hc := putObj_chg W D (.deferred none)
   have hl : ∀ E ∈ ds, E < W.heap.size := fun E hE => (Array.getElem?_eq_some_iff.1 (hk E (by simp [hE]))).1
   refine ⟨by simp, .inl ⟨D, _, rfl, run_takeDeferred hd, leaves_all ds _ hn.2 (fun E hE => ?_) (fun W' hW' => h W' ?_)⟩⟩
   · have hne : E ≠ D := fun e => hn.1 (e ▸ hE)
     exact (hc.block E (hl E hE) hne).trans (hk E (by simp [hE]))
   · refine (hc.mono (G := fun b => b ∈ D :: ds) (fun x hx => by subst hx; simp)).trans hW' (fun x hx => .inl (by simp [hx]))
end Go.Proofs.Ytagbikgfkakbfaa
namespace Go.Proofs.Ytagbikgfkakbfaa
open Go.RowKit
set_option linter.unusedSimpArgs false
set_option linter.unusedVariables false
theorem heap_new (W : World) (o : Obj) : (W.alloc o).heap[W.heap.size]? = some o := World.alloc_heap_new W o
theorem heap_old (W : World) (o : Obj) {b : Nat} (h : b < W.heap.size) : (W.alloc o).heap[b]? = W.heap[b]? := ((Below.refl W.heap.size W).alloc (Nat.le_refl _) o).block b h
theorem cell_heap {W : World} {b j : Nat} {vs : List Value} {t : TypeId} {v : Value} (h : W.heap[b]? = some (.cells vs.toArray t (0, 0))) (hv : vs[j]? = some v) : W.cell? ⟨b, j, none⟩ = some v := by simp [World.cell?, h, hv]
theorem froz_heap {W : World} {b j : Nat} {vs : Array Value} {t : TypeId} (h : W.heap[b]? = some (.cells vs t (0, 0))) : W.frozen? ⟨b, j, none⟩ = false := by simp [World.frozen?, h]
theorem blk_heap {W : World} {b : Nat} {vs : List Value} {t : TypeId} (h : W.heap[b]? = some (.cells vs.toArray t (0, 0))) : Blk W b vs := fun j v hj => ⟨cell_heap h hj, froz_heap h⟩
def trs (S PX PB : Nat) (RL : List Value) (fv : Value) : List (Nat × Obj) := [(S, (.cells RL.toArray 24 (0, 0))), (S + 1, (.cells #[fv] 80 (0, 0))), (S + 1 + 1, (.cells #[.pointer none] 77 (0, 0))), (S + 1 + 1 + 1, (.cells #[.int .i64 0] 25 (0, 0))), (PX, (.cells #[.pointer (some ⟨PB, 0, none⟩)] 77 (0, 0)))]
theorem ei_start {K : Nat} {caps : Array Value} {T : List Edg → (Nat → Prop) → World → Prop} (hT : TellOk K caps T) {F0 : Nat → Prop} {w W w1 X : World} {S N : Nat} {RL : List Value} {s0 : List Value} {fv : Value} (h0 : T [] F0 w) (hS : w.heap.size = S)
 (hW : W = (((w.alloc (.cells RL.toArray 24 (0, 0))).alloc (.cells #[fv] 80 (0, 0))).alloc (.cells #[.pointer none] 77 (0, 0))).alloc (.cells #[.int .i64 0] 25 (0, 0))) (hA : Below W.heap.size W w1) (hN : w1.heap.size = N)
 (hX : X = (((w1.alloc (.cells s0.toArray 41)).alloc (.map #[] 0)).alloc (.cells #[.map (some (N + 1)), (.slice none 0 0), (.slice none 0 0), (.slice none 0 0)] 83)).alloc (.cells #[.pointer (some ⟨N + 1 + 1, 0, none⟩)] 77)) :
 EI w F0 T (trs S (N + 1 + 1 + 1) (N + 1 + 1) RL fv) (N + 1 + 1) (N + 1) (N + 4) (.slice none 0 0) (.slice none 0 0) (.slice none 0 0) [] [] [] [] F0 X ∧ X.heap.size = N + 4 ∧ S + 4 ≤ N := by
 have sW : W.heap.size = S + 4 := by rw [hW, ← hS]; simp
 have hSN : S + 4 ≤ N := by have := hA.size; omega
 have sX : X.heap.size = N + 4 := by rw [hX]; simp [hN]
 have bX : Below N w1 X := by rw [hX, ← hN]; exact ((((Below.refl _ _).alloc (Nat.le_refl _) _).alloc (by simp) _).alloc (by simp; omega) _).alloc (by simp; omega) _
 have bW : Below S w W := by rw [hW, ← hS]; exact ((((Below.refl _ _).alloc (Nat.le_refl _) _).alloc (by simp) _).alloc (by simp; omega) _).alloc (by simp; omega) _
 have bAll : Below S w X := (bW.trans (hA.mono (by omega))).trans (bX.mono (by omega))
 have old : ∀ b, b < S + 4 → X.heap[b]? = W.heap[b]? := fun b hb => (bX.block b (by omega)).trans (hA.block b (by omega))
 have w0 : W.heap[S]? = some (.cells RL.toArray 24 (0, 0)) := by
  rw [hW, heap_old _ _ (by simp; omega), heap_old _ _ (by simp; omega), heap_old _ _ (by simp; omega), ← hS]; exact heap_new _ _
 have w1' : W.heap[S + 1]? = some (.cells #[fv] 80 (0, 0)) := by
  rw [hW, heap_old _ _ (by simp; omega), heap_old _ _ (by simp; omega)]
  have := heap_new (w.alloc (.cells RL.toArray 24 (0, 0))) (.cells #[fv] 80 (0, 0))
  simpa [hS] using this
 have w2 : W.heap[S + 1 + 1]? = some (.cells #[.pointer none] 77 (0, 0)) := by
  rw [hW, heap_old _ _ (by simp; omega)]
  have := heap_new ((w.alloc (.cells RL.toArray 24 (0, 0))).alloc (.cells #[fv] 80 (0, 0))) (.cells #[.pointer none] 77 (0, 0))
  simpa [hS] using this
 have w3 : W.heap[S + 1 + 1 + 1]? = some (.cells #[.int .i64 0] 25 (0, 0)) := by
  rw [hW]
  have := heap_new (((w.alloc (.cells RL.toArray 24 (0, 0))).alloc (.cells #[fv] 80 (0, 0))).alloc (.cells #[.pointer none] 77 (0, 0))) (.cells #[.int .i64 0] 25 (0, 0))
  simpa [hS] using this
 have x1 : X.heap[N + 1]? = some (.map #[] 0) := by
  rw [hX, heap_old _ _ (by simp; omega), heap_old _ _ (by simp; omega)]
  have := heap_new (w1.alloc (.cells s0.toArray 41)) (.map #[] 0)
  simpa [hN] using this
 have x2 : X.heap[N + 1 + 1]? = some (.cells [.map (some (N + 1)), (.slice none 0 0), (.slice none 0 0), (.slice none 0 0)].toArray 83 (0, 0)) := by
  rw [hX, heap_old _ _ (by simp; omega)]
  have := heap_new ((w1.alloc (.cells s0.toArray 41)).alloc (.map #[] 0)) (.cells [.map (some (N + 1)), (.slice none 0 0), (.slice none 0 0), (.slice none 0 0)].toArray 83 (0, 0))
  simpa [hN] using this
 have x3 : X.heap[N + 1 + 1 + 1]? = some (.cells #[.pointer (some ⟨N + 1 + 1, 0, none⟩)] 77 (0, 0)) := by
  rw [hX]
  have := heap_new (((w1.alloc (.cells s0.toArray 41)).alloc (.map #[] 0)).alloc (.cells #[.map (some (N + 1)), (.slice none 0 0), (.slice none 0 0), (.slice none 0 0)] 83)) (.cells #[.pointer (some ⟨N + 1 + 1, 0, none⟩)] 77 (0, 0))
  simpa [hN] using this
 have mm : MapAt X (N + 1) [] := by
  have h := MapAt.made w1
  have e : X.heap[N + 1]? = (w1.alloc (.map #[] 0)).heap[w1.heap.size]? := by rw [x1, heap_new]
  obtain ⟨D, ⟨es, clock, hb, h1⟩, h2⟩ := h
  exact ⟨D, ⟨es, clock, e.trans hb, h1⟩, h2⟩
 have nil : ∀ (t : TypeId) (sz : Nat), X.ownsRow (N + 4) t sz (.slice none 0 0) 0 [] := fun t sz => ⟨by simp, .inl ⟨rfl, rfl⟩⟩
 have sp : Spc X (N + 1 + 1) (N + 1) (N + 4) (.slice none 0 0) (.slice none 0 0) (.slice none 0 0) [] [] [] :=
  ⟨cell_heap (j := 0) x2 rfl, cell_heap (j := 1) x2 rfl, cell_heap (j := 2) x2 rfl, cell_heap (j := 3) x2 rfl, fun j => froz_heap x2, mm, nil _ _, nil _ _, nil _ _, (fun g hg => by cases hg), (fun g hg => by cases hg), (fun g hg => by cases hg), by omega, by omega, by omega⟩
 have ft : ∀ b, Foot (N + 1 + 1) (N + 1) (.slice none 0 0) (.slice none 0 0) (.slice none 0 0) b → b = N + 1 + 1 ∨ b = N + 1 := fun b hb => by
  rcases hb with h | h | h | h | h
  · exact .inl h
  · exact .inr h
  · cases h
  · cases h
  · cases h
 have f0 : ∀ b, F0 b → b < S := fun b hb => by rw [← hS]; exact (hT.lt h0 b hb).1
 refine ⟨⟨sp, hT.kept h0 (fun b hb => bAll.block b (f0 b hb)), fun b hb hf => ?_, fun p hp => ?_, Chg.of_below (by rw [hS]; exact bAll), fun b hb hf => ?_, fun b hb hf o ho => ?_⟩, sX, hSN⟩
 · have := f0 b hb
   rcases ft b hf with h | h <;> omega
 · have key : ∀ b, (b < S + 4 ∨ b = N + 1 + 1 + 1) → S ≤ b → ¬ Foot (N + 1 + 1) (N + 1) (.slice none 0 0) (.slice none 0 0) (.slice none 0 0) b ∧ ¬ F0 b := fun b hb hs => ⟨fun hf => by rcases ft b hf with h | h <;> omega, fun hf => by have := f0 b hf; omega⟩
   simp only [trs, List.mem_cons, List.not_mem_nil, or_false] at hp
   rcases hp with rfl | rfl | rfl | rfl | rfl
   · exact ⟨(old _ (by omega)).trans w0, key _ (.inl (by omega)) (by omega)⟩
   · exact ⟨(old _ (by omega)).trans w1', key _ (.inl (by omega)) (by omega)⟩
   · exact ⟨(old _ (by omega)).trans w2, key _ (.inl (by omega)) (by omega)⟩
   · exact ⟨(old _ (by omega)).trans w3, key _ (.inl (by omega)) (by omega)⟩
   · exact ⟨x3, key _ (.inr rfl) (by simp only; omega)⟩
 · rcases hf with hf | hf
   · rcases ft b hf with h | h <;> omega
   · exact hf
 · rcases ft b hf with h | h
   · rw [h, x2] at ho; injection ho with ho; subst ho; rfl
   · exact absurd h hb
end Go.Proofs.Ytagbikgfkakbfaa
namespace Go.Proofs.Ytagbikgfkakbfaa
open Go.RowKit
set_option linter.unusedSimpArgs false
set_option linter.unusedVariables false
noncomputable def stp (k0 k1 R Q : Int) (q : Nat) (s : List Int) (l : P2) : List Int × List Int := ((stepR k0 k1 R Q (q : Int) l.x l.y s).1, (stepR k0 k1 R Q (q : Int) l.x l.y s).2.1)
noncomputable def rnds (k0 k1 R Q : Int) (q kk : Nat) : Sx := rounds (stp k0 k1 R Q q) (startI k0 k1) (q + 1) kk
def EachEnds (k0 k1 R Q : Int) (q : Nat) (T : List Edg → (Nat → Prop) → World → Prop) (F0 : Nat → Prop) (w : World) (e : Ending) (w' : World) : Prop :=
 ∃ kk, SxEnds (step := stp k0 k1 R Q q) (startI k0 k1) (q + 1) kk ∧
  ((∃ PB MB B v1 v2 v3 F, (rnds k0 k1 R Q q kk).full = false ∧ e = .returned (.tuple #[.pointer (some ⟨PB, 0, none⟩), .int .i64 0]) ∧ EI w F0 T [] PB MB B v1 v2 v3 (rnds k0 k1 R Q q kk).states (rnds k0 k1 R Q q kk).fr (rnds k0 k1 R Q q kk).bys (rnds k0 k1 R Q q kk).edges F w') ∨
   ((rnds k0 k1 R Q q kk).full = true ∧ e = .returned (.tuple #[.pointer none, .int .i64 4]) ∧ Chg w w' F0))
theorem gd_start {k0 k1 : Int} (h : kindsOk k0 k1) : Gd [k0, 1, -1, 0, 0, 0, k1, 1, -1, 0, 0, 0, 0, 0] := by
 obtain ⟨h1, h2, h3, h4⟩ := h
 refine ⟨rfl, fun z hz => ?_⟩
 simp only [List.mem_cons, List.not_mem_nil, or_false] at hz
 unfold Sml; omega
theorem right_start {kd : Int} (h1 : 1 ≤ kd) (h2 : kd ≤ 3) : rightK kd ⟨kd, 1, -1, 0, 0, 0⟩ = true := by
 rcases (show kd = 1 ∨ kd = 2 ∨ kd = 3 by omega) with rfl | rfl | rfl <;> simp [rightK, vegRight, copRight, ledRight]
theorem flat_get {ss : List (List Int)} (h : ∀ t ∈ ss, t.length = 14) : ∀ {k j : Nat} {s : List Int} {x : Int}, ss[k]? = some s → s[j]? = some x → (flatS ss)[k * 14 + j]? = some (.int .i64 x) := by
 induction ss with
 | nil => intro k j s x hk; simp at hk
 | cons t ss ih =>
   intro k j s x hk hj
   have ht : t.length = 14 := h t (by simp)
   show (t.map (Value.int .i64) ++ flatS ss)[k * 14 + j]? = _
   cases k with
   | zero =>
     obtain rfl : t = s := by simpa using hk
     have hl := (List.getElem?_eq_some_iff.1 hj).1
     rw [List.getElem?_append_left (by simp; omega)]
     simp [hj]
   | succ k =>
     rw [List.getElem?_append_right (by simp; omega)]
     have := ih (fun t ht => h t (by simp [ht])) (k := k) (j := j) (by simpa using hk) hj
     rw [← this]; congr 1; simp only [List.length_map, ht]; omega
theorem Spc.stateAt {W : World} {PB MB B k : Nat} {v1 v2 v3 : Value} {ss : List (List Int)} {fr : List Int} {bys : List P2} {a0 a1 a2 a3 a4 a5 a6 a7 a8 a9 a10 a11 a12 a13 : Int} (h : Spc W PB MB B v1 v2 v3 ss fr bys) (hl : ∀ t ∈ ss, t.length = 14) (hk : ss[k]? = some [a0, a1, a2, a3, a4, a5, a6, a7, a8, a9, a10, a11, a12, a13]) :
 ∃ (ad : Addr) (cap : Nat), v1 = .slice (some ad) ss.length cap ∧ (ad.add (k * 14)).block < W.heap.size ∧ W.cell? (ad.add (k * 14)) = some (.int .i64 a0) ∧ W.cell? (⟨(ad.add (k * 14)).block, (ad.add (k * 14)).off + 1, none⟩) = some (.int .i64 a1) ∧ W.cell? (⟨(ad.add (k * 14)).block, (ad.add (k * 14)).off + 2, none⟩) = some (.int .i64 a2) ∧ W.cell? (⟨(ad.add (k * 14)).block, (ad.add (k * 14)).off + 3, none⟩) = some (.int .i64 a3) ∧ W.cell? (⟨(ad.add (k * 14)).block, (ad.add (k * 14)).off + 4, none⟩) = some (.int .i64 a4) ∧ W.cell? (⟨(ad.add (k * 14)).block, (ad.add (k * 14)).off + 5, none⟩) = some (.int .i64 a5) ∧ W.cell? (⟨(ad.add (k * 14)).block, (ad.add (k * 14)).off + 6, none⟩) = some (.int .i64 a6) ∧ W.cell? (⟨(ad.add (k * 14)).block, (ad.add (k * 14)).off + 7, none⟩) = some (.int .i64 a7) ∧ W.cell? (⟨(ad.add (k * 14)).block, (ad.add (k * 14)).off + 8, none⟩) = some (.int .i64 a8) ∧ W.cell? (⟨(ad.add (k * 14)).block, (ad.add (k * 14)).off + 9, none⟩) = some (.int .i64 a9) ∧ W.cell? (⟨(ad.add (k * 14)).block, (ad.add (k * 14)).off + 10, none⟩) = some (.int .i64 a10) ∧ W.cell? (⟨(ad.add (k * 14)).block, (ad.add (k * 14)).off + 11, none⟩) = some (.int .i64 a11) ∧ W.cell? (⟨(ad.add (k * 14)).block, (ad.add (k * 14)).off + 12, none⟩) = some (.int .i64 a12) ∧ W.cell? (⟨(ad.add (k * 14)).block, (ad.add (k * 14)).off + 13, none⟩) = some (.int .i64 a13) := by
 have hkl := (List.getElem?_eq_some_iff.1 hk).1
 rcases h.r1.2 with ⟨_, h0⟩ | ⟨g, cap, cur, rfl, hg, hh, hn, hm, hs, hx⟩
 · omega
 · have hglt := (Array.getElem?_eq_some_iff.1 hh).1
   have key : ∀ (j : Nat) (x : Int), [a0, a1, a2, a3, a4, a5, a6, a7, a8, a9, a10, a11, a12, a13][j]? = some x → W.cell? ⟨g, k * 14 + j, none⟩ = some (.int .i64 x) := fun j x hj => by
    have h1 := flat_get hl hk hj
    rw [← hx] at h1
    rw [List.getElem?_take] at h1
    split at h1
    · simp [World.cell?, hh]
      simpa using h1
    · cases h1
   have ea : (⟨g, 0, none⟩ : Addr).add (k * 14) = ⟨g, k * 14, none⟩ := by unfold Addr.add; split <;> simp_all
   refine ⟨⟨g, 0, none⟩, cap, rfl, by rw [ea]; exact hglt, by rw [ea]; exact key 0 _ rfl, by rw [ea]; exact key 1 _ rfl, by rw [ea]; exact key 2 _ rfl, by rw [ea]; exact key 3 _ rfl, by rw [ea]; exact key 4 _ rfl, by rw [ea]; exact key 5 _ rfl, by rw [ea]; exact key 6 _ rfl, by rw [ea]; exact key 7 _ rfl, by rw [ea]; exact key 8 _ rfl, by rw [ea]; exact key 9 _ rfl, by rw [ea]; exact key 10 _ rfl, by rw [ea]; exact key 11 _ rfl, by rw [ea]; exact key 12 _ rfl, by rw [ea]; exact key 13 _ rfl⟩
theorem nums6 {us : List Int} (h : us.length = 6) : ∃ x0 x1 x2 x3 x4 x5, us = [x0, x1, x2, x3, x4, x5] := len6 h
def GG (k0 k1 R Q : Int) (q : Nat) (s : List Int) : Prop := StRightL k0 k1 R Q (q : Int) s ∧ Gd s
def UU (us : List Int) : Prop := us.length = 6 ∧ ∀ z ∈ us, 0 ≤ z ∧ z ≤ 100
theorem stp_good {k0 k1 R Q : Int} {q : Nat} {l : P2} (hl : 0 ≤ l.x ∧ l.x ≤ (q : Int) ∧ 0 ≤ l.y ∧ l.y ≤ (q : Int)) {s : List Int} (h : GG k0 k1 R Q q s) : GG k0 k1 R Q q (stp k0 k1 R Q q s l).1 ∧ UU (stp k0 k1 R Q q s l).2 := by
 obtain ⟨h1, h2, h3⟩ := h
 obtain ⟨a0, a1, a2, a3, a4, a5, a6, a7, a8, a9, a10, a11, a12, a13, rfl⟩ := len14 h2
 have g := stepR_good k0 k1 R Q (q : Int) a0 a1 a2 a3 a4 a5 a6 a7 a8 a9 a10 a11 a12 a13 l.x l.y h1 hl
 have e := stepR_len k0 k1 R Q (q : Int) l.x l.y [a0, a1, a2, a3, a4, a5, a6, a7, a8, a9, a10, a11, a12, a13]
 exact ⟨⟨g.2.1, e.1, e.2.2.1⟩, e.2.1, g.2.2⟩
theorem stp_calls {k0 k1 R Q : Int} {q : Nat} {l0 l1 : Int} (hl : 0 ≤ l0 ∧ l0 ≤ (q : Int) ∧ 0 ≤ l1 ∧ l1 ≤ (q : Int)) {a0 a1 a2 a3 a4 a5 a6 a7 a8 a9 a10 a11 a12 a13 : Int} (h : GG k0 k1 R Q q [a0, a1, a2, a3, a4, a5, a6, a7, a8, a9, a10, a11, a12, a13]) : ∃ c0 c1 c2 c3 c4 c5 c6 c7 c8 c9 c10 c11 c12 c13 x0 x1 x2 x3 x4 x5 : Int, stp k0 k1 R Q q [a0, a1, a2, a3, a4, a5, a6, a7, a8, a9, a10, a11, a12, a13] ⟨l0, l1⟩ = ([c0, c1, c2, c3, c4, c5, c6, c7, c8, c9, c10, c11, c12, c13], [x0, x1, x2, x3, x4, x5]) ∧ GG k0 k1 R Q q [c0, c1, c2, c3, c4, c5, c6, c7, c8, c9, c10, c11, c12, c13] ∧ (∀ z ∈ [x0, x1, x2, x3, x4, x5], 0 ≤ z ∧ z ≤ 100) ∧
 (∀ w : World, Calls Try.prog 39 #[.agg #[.int .i64 k0, .int .i64 k1, .int .i64 R, .int .i64 Q, .int .i64 (q : Int)], .agg #[.int .i64 a0, .int .i64 a1, .int .i64 a2, .int .i64 a3, .int .i64 a4, .int .i64 a5, .int .i64 a6, .int .i64 a7, .int .i64 a8, .int .i64 a9, .int .i64 a10, .int .i64 a11, .int .i64 a12, .int .i64 a13], .agg #[.int .i64 l0, .int .i64 l1]] w fun e w' => e = .returned (.tuple #[.agg #[.int .i64 c0, .int .i64 c1, .int .i64 c2, .int .i64 c3, .int .i64 c4, .int .i64 c5, .int .i64 c6, .int .i64 c7, .int .i64 c8, .int .i64 c9, .int .i64 c10, .int .i64 c11, .int .i64 c12, .int .i64 c13], .agg #[.int .i64 x0, .int .i64 x1, .int .i64 x2, .int .i64 x3, .int .i64 x4, .int .i64 x5], .int .i64 0]) ∧ Below w.heap.size w w') ∧
 (∀ w : World, Calls Try.prog 21 #[.agg #[.int .i64 k0, .int .i64 k1, .int .i64 R, .int .i64 Q, .int .i64 (q : Int)], .agg #[.int .i64 a0, .int .i64 a1, .int .i64 a2, .int .i64 a3, .int .i64 a4, .int .i64 a5, .int .i64 a6, .int .i64 a7, .int .i64 a8, .int .i64 a9, .int .i64 a10, .int .i64 a11, .int .i64 a12, .int .i64 a13], .agg #[.int .i64 l0, .int .i64 l1]] w fun e w' => e = .returned (.tuple #[.agg #[.int .i64 c0, .int .i64 c1, .int .i64 c2, .int .i64 c3, .int .i64 c4, .int .i64 c5, .int .i64 c6, .int .i64 c7, .int .i64 c8, .int .i64 c9, .int .i64 c10, .int .i64 c11, .int .i64 c12, .int .i64 c13], .agg #[.int .i64 x0, .int .i64 x1, .int .i64 x2, .int .i64 x3, .int .i64 x4, .int .i64 x5], .int .i64 0]) ∧ Below w.heap.size w w') := by
 have g0 := stp_good (l := ⟨l0, l1⟩) hl h
 obtain ⟨_, _, _, _, r1, r2⟩ := stepR_is k0 k1 R Q (q : Int) a0 a1 a2 a3 a4 a5 a6 a7 a8 a9 a10 a11 a12 a13 l0 l1
 have g := stepR_good k0 k1 R Q (q : Int) a0 a1 a2 a3 a4 a5 a6 a7 a8 a9 a10 a11 a12 a13 l0 l1 h.1 hl
 obtain ⟨c0, c1, c2, c3, c4, c5, c6, c7, c8, c9, c10, c11, c12, c13, hc⟩ := len14 g0.1.2.1
 obtain ⟨x0, x1, x2, x3, x4, x5, hx⟩ := len6 g0.2.1
 have hc' : (stepR k0 k1 R Q (q : Int) l0 l1 [a0, a1, a2, a3, a4, a5, a6, a7, a8, a9, a10, a11, a12, a13]).1 = [c0, c1, c2, c3, c4, c5, c6, c7, c8, c9, c10, c11, c12, c13] := hc
 have hx' : (stepR k0 k1 R Q (q : Int) l0 l1 [a0, a1, a2, a3, a4, a5, a6, a7, a8, a9, a10, a11, a12, a13]).2.1 = [x0, x1, x2, x3, x4, x5] := hx
 rw [hc', hx', g.1] at r1 r2
 refine ⟨c0, c1, c2, c3, c4, c5, c6, c7, c8, c9, c10, c11, c12, c13, x0, x1, x2, x3, x4, x5, ?_, ?_, ?_, r1, r2⟩
 · exact Prod.ext hc hx
 · rw [← hc]; exact g0.1
 · rw [← hx]; exact g0.2.2
theorem start_good {k0 k1 R Q : Int} {q : Nat} (hk : kindsOk k0 k1) (hr : rangeOk R Q (q : Int)) : SxOk (GG k0 k1 R Q q) UU (rnds k0 k1 R Q q 0) := by
 have hg := gd_start hk
 refine ⟨rfl, rfl, Nat.le_refl _, by show 1 ≤ 300; omega, by simp [rnds, rounds], fun s hs => ?_, fun e E hE => by simp [rnds, rounds] at hE, fun i h1 h2 => by simp [rnds, rounds] at h2; omega⟩
 simp only [rnds, rounds, startI, List.mem_cons, List.not_mem_nil, or_false] at hs
 subst hs
 refine ⟨⟨hk, hr, ?_, ?_, by omega, by omega, ?_⟩, hg⟩
 · exact right_start hk.1 hk.2.1
 · exact right_start hk.2.2.1 hk.2.2.2
 · unfold rangeOk at hr; omega
end Go.Proofs.Ytagbikgfkakbfaa
namespace Go.Proofs.Ytagbikgfkakbfaa
open Go.RowKit
set_option linter.unusedSimpArgs false
set_option linter.unusedVariables false
section
variable {w W W' : World} {F0 : Nat → Prop} {T : List Edg → (Nat → Prop) → World → Prop} {TR : List (Nat × Obj)} {PB MB B : Nat} {v1 v2 v3 : Value} {ss : List (List Int)} {fr : List Int} {bys : List P2} {es : List Edg} {F : Nat → Prop} {K : Nat} {caps : Array Value}
def dls (ds : List Nat) : List (Nat × Obj) := ds.map fun D => (D, .deferred (some []))
theorem dls_mem {ds : List Nat} {p : Nat × Obj} (h : p ∈ dls ds) : p.1 ∈ ds ∧ p.2 = .deferred (some []) := by
 simp only [dls, List.mem_map] at h
 obtain ⟨D, hD, rfl⟩ := h
 exact ⟨hD, rfl⟩
theorem mem_dls {ds : List Nat} {D : Nat} (h : D ∈ ds) : (D, .deferred (some [])) ∈ dls ds := List.mem_map.2 ⟨D, h, rfl⟩
theorem EI.ne (h : EI w F0 T TR PB MB B v1 v2 v3 ss fr bys es F W) {p p' : Nat × Obj} (hp : p ∈ TR) (hp' : p' ∈ TR) (hne : p.2 ≠ p'.2) : p.1 ≠ p'.1 := fun e => by
 have h1 := (h.tr p hp).1
 have h2 := (h.tr p' hp').1
 rw [e, h2] at h1
 injection h1 with h1
 exact hne h1.symm
theorem box_set {b : Nat} {t : TypeId} {u : Value} (h : W.heap[b]? = some (.cells #[u] t (0, 0))) (v : Value) : (W.setCell ⟨b, 0, none⟩ v).heap[b]? = some (.cells #[v] t (0, 0)) := Boxed.set (W := W) v h
theorem EI.ret (hT : TellOk K caps T) {S : Nat} {ds : List Nat} (h : EI w F0 T TR PB MB B v1 v2 v3 ss fr bys es F W) (h2 : (S + 1 + 1, .cells #[.pointer none] 77 (0, 0)) ∈ TR) (h3 : (S + 1 + 1 + 1, .cells #[.int .i64 0] 25 (0, 0)) ∈ TR) (hd : ∀ D ∈ ds, (D, .deferred (some [])) ∈ TR) (hS : w.heap.size = S) (va vb : Value) :
 EI w F0 T ((S + 1 + 1 + 1, .cells #[vb] 25 (0, 0)) :: (S + 1 + 1, .cells #[va] 77 (0, 0)) :: dls ds) PB MB B v1 v2 v3 ss fr bys es F ((W.setCell ⟨S + 1 + 1, 0, none⟩ va).setCell ⟨S + 1 + 1 + 1, 0, none⟩ vb) := by
 have hx : ∀ p ∈ dls ds, p.1 ≠ S + 1 + 1 ∧ p.1 ≠ S + 1 + 1 + 1 := fun p hp => by
  obtain ⟨h4, h5⟩ := dls_mem hp
  have h6 := hd _ h4
  exact ⟨h.ne h6 h2 (by simp), h.ne h6 h3 (by simp)⟩
 have g1 : EI w F0 T ((S + 1 + 1, .cells #[.pointer none] 77 (0, 0)) :: (S + 1 + 1 + 1, .cells #[.int .i64 0] 25 (0, 0)) :: dls ds) PB MB B v1 v2 v3 ss fr bys es F W := h.sub fun p hp => by
  rcases List.mem_cons.1 hp with rfl | hp
  · exact h2
  rcases List.mem_cons.1 hp with rfl | hp
  · exact h3
  obtain ⟨h4, h5⟩ := dls_mem hp
  have := hd _ h4
  rw [← h5] at this; exact this
 have g2 := g1.turn hT (W' := W.setCell ⟨S + 1 + 1, 0, none⟩ va) (fun p hp => by
  rcases List.mem_cons.1 hp with rfl | hp
  · simp
  · exact (hx p hp).1) (by omega) (setCell_chg W ⟨S + 1 + 1, 0, none⟩ va) (box_set (g1.tr (S + 1 + 1, .cells #[.pointer none] 77 (0, 0)) List.mem_cons_self).1 va)
 have g3 : EI w F0 T ((S + 1 + 1 + 1, .cells #[.int .i64 0] 25 (0, 0)) :: (S + 1 + 1, .cells #[va] 77 (0, 0)) :: dls ds) PB MB B v1 v2 v3 ss fr bys es F (W.setCell ⟨S + 1 + 1, 0, none⟩ va) := g2.sub fun p hp => by
  simp only [List.mem_cons] at hp ⊢
  rcases hp with h | h | h
  · exact .inr (.inl h)
  · exact .inl h
  · exact .inr (.inr h)
 exact g3.turn hT (fun p hp => by
  rcases List.mem_cons.1 hp with rfl | hp
  · simp
  · exact (hx p hp).2) (by omega) (setCell_chg _ ⟨S + 1 + 1 + 1, 0, none⟩ vb) (box_set (g3.tr (S + 1 + 1 + 1, .cells #[.int .i64 0] 25 (0, 0)) List.mem_cons_self).1 vb)
theorem EI.left (hT : TellOk K caps T) {S : Nat} {ds : List Nat} {va vb : Value} (h : EI w F0 T ((S + 1 + 1 + 1, .cells #[vb] 25 (0, 0)) :: (S + 1 + 1, .cells #[va] 77 (0, 0)) :: dls ds) PB MB B v1 v2 v3 ss fr bys es F W) (hc : Chg W W' (fun b => b ∈ ds)) (hS : w.heap.size = S) (hds : ∀ D ∈ ds, S ≤ D) :
 W'.cell? ⟨S + 1 + 1, 0, none⟩ = some va ∧ W'.cell? ⟨S + 1 + 1 + 1, 0, none⟩ = some vb ∧ EI w F0 T [] PB MB B v1 v2 v3 ss fr bys es F W' := by
 have nd : ∀ (b : Nat) (v : Value) (t : TypeId), (b, .cells #[v] t (0, 0)) ∈ ((S + 1 + 1 + 1, .cells #[vb] 25 (0, 0)) :: (S + 1 + 1, .cells #[va] 77 (0, 0)) :: dls ds : List (Nat × Obj)) → W'.cell? ⟨b, 0, none⟩ = some v := fun b v t hm => by
  have h1 := (h.tr _ hm).1
  have h2 : W'.heap[b]? = W.heap[b]? := hc.block b (Array.getElem?_eq_some_iff.1 h1).1 (fun hd => h.ne (p := (b, .deferred (some []))) (List.mem_cons_of_mem _ (List.mem_cons_of_mem _ (mem_dls hd))) hm (by simp) rfl)
  exact cell_heap (vs := [v]) (h2.trans h1) rfl
 refine ⟨nd (S + 1 + 1) va 77 (by simp), nd (S + 1 + 1 + 1) vb 25 (by simp), (h.sub (TR' := []) (fun p hp => by simp at hp)).kept hT (hc.mono fun b hb => ?_)⟩
 obtain ⟨_, h2, h3⟩ := h.tr (b, .deferred (some [])) (List.mem_cons_of_mem _ (List.mem_cons_of_mem _ (mem_dls hb)))
 exact ⟨h2, h3, (fun p hp => by simp at hp), by have := hds b hb; omega⟩
end
end Go.Proofs.Ytagbikgfkakbfaa
namespace Go.Proofs.Ytagbikgfkakbfaa
open Go.RowKit Go.Shelf
set_option linter.unusedSimpArgs false
set_option linter.unusedVariables false
def trk (KB kk : Nat) (ds : List Nat) : List (Nat × Obj) := (KB, .cells #[.int .i64 kk] 3 (0, 0)) :: dls ds
def LR (k0 k1 R Q : Int) (q : Nat) (T : List Edg → (Nat → Prop) → World → Prop) (F0 : Nat → Prop) (w : World) (S N : Nat) (fv : Value) (kk KB : Nat) (ds : List Nat) (W : World) : Prop :=
 ∃ v1 v2 v3 F, EI w F0 T (trk KB kk ds ++ trs S (N + 1 + 1 + 1) (N + 1 + 1) [.int .i64 k0, .int .i64 k1, .int .i64 R, .int .i64 Q, .int .i64 (q : Int)] fv) (N + 1 + 1) (N + 1) (N + 4) v1 v2 v3 (rnds k0 k1 R Q q kk).states (rnds k0 k1 R Q q kk).fr (rnds k0 k1 R Q q kk).bys (rnds k0 k1 R Q q kk).edges F W ∧
  (rnds k0 k1 R Q q kk).full = false ∧ SxOk (GG k0 k1 R Q q) UU (rnds k0 k1 R Q q kk) ∧ (rnds k0 k1 R Q q kk).edges.length = kk * ((q + 1) * (q + 1)) ∧ kk ≤ (rnds k0 k1 R Q q kk).states.length ∧ ds.Nodup ∧ (∀ D ∈ ds, S ≤ D) ∧
  (∀ j, j < kk → (rnds k0 k1 R Q q j).full = false ∧ j < (rnds k0 k1 R Q q j).states.length) ∧ N + 4 ≤ W.heap.size
def RI (k0 k1 R Q : Int) (q : Nat) (T : List Edg → (Nat → Prop) → World → Prop) (F0 : Nat → Prop) (w : World) (S N : Nat) (fv : Value) (kk KB RB : Nat) (ds : List Nat) (pre : List (Late q)) (W : World) : Prop :=
 ∃ v1 v2 v3 F, EI w F0 T ((RB, .cells #[.int .i64 k0, .int .i64 k1, .int .i64 R, .int .i64 Q, .int .i64 (q : Int)] 24 (0, 0)) :: (trk KB kk ds ++ trs S (N + 1 + 1 + 1) (N + 1 + 1) [.int .i64 k0, .int .i64 k1, .int .i64 R, .int .i64 Q, .int .i64 (q : Int)] fv)) (N + 1 + 1) (N + 1) (N + 4) v1 v2 v3 ((rnds k0 k1 R Q q kk).walk (stp k0 k1 R Q q) kk (pre.map fun x => x.1)).states ((rnds k0 k1 R Q q kk).walk (stp k0 k1 R Q q) kk (pre.map fun x => x.1)).fr ((rnds k0 k1 R Q q kk).walk (stp k0 k1 R Q q) kk (pre.map fun x => x.1)).bys ((rnds k0 k1 R Q q kk).walk (stp k0 k1 R Q q) kk (pre.map fun x => x.1)).edges F W ∧
  ((rnds k0 k1 R Q q kk).walk (stp k0 k1 R Q q) kk (pre.map fun x => x.1)).full = false
def RX (k0 k1 R Q : Int) (q : Nat) (T : List Edg → (Nat → Prop) → World → Prop) (F0 : Nat → Prop) (w : World) (S N : Nat) (kk : Nat) (ds : List Nat) (c : Code) (pre : List (Late q)) (W : World) : Prop :=
 c = .ret ∧ ((rnds k0 k1 R Q q kk).walk (stp k0 k1 R Q q) kk (pre.map fun x => x.1)).full = true ∧ ∃ v1 v2 v3 F ss fr bys es, EI w F0 T ((S + 1 + 1 + 1, .cells #[.int .i64 4] 25 (0, 0)) :: (S + 1 + 1, .cells #[.pointer none] 77 (0, 0)) :: dls ds) (N + 1 + 1) (N + 1) (N + 4) v1 v2 v3 ss fr bys es F W
def AX (q : Nat) (T : List Edg → (Nat → Prop) → World → Prop) (F0 : Nat → Prop) (w : World) (N : Nat) (mk : Nat → Value → Array Value) (x : Late q) (a' : Act) (W : World) : Prop :=
 ∃ LB, a' = { tmps := mk LB (.agg #[.int .i64 x.1.x, .int .i64 x.1.y]), defers := [] } ∧ ∃ v1 v2 v3 ss fr bys es F, EI w F0 T [(LB, .cells #[.int .i64 x.1.x, .int .i64 x.1.y] 22 (0, 0))] (N + 1 + 1) (N + 1) (N + 4) v1 v2 v3 ss fr bys es F W
theorem KeepsFrom.of_below {B : Nat} {W W' : World} (h : Below W.heap.size W W') : KeepsFrom B W W' := ⟨h.size, fun k o _ hk _ => (h.block k (Array.getElem?_eq_some_iff.1 hk).1).trans hk⟩
theorem EI.own {w W W' : World} {F0 : Nat → Prop} {T : List Edg → (Nat → Prop) → World → Prop} {TR : List (Nat × Obj)} {PB MB B : Nat} {v1 v2 v3 : Value} {ss : List (List Int)} {fr : List Int} {bys : List P2} {es : List Edg} {F : Nat → Prop} {K : Nat} {caps : Array Value} (hT : TellOk K caps T) (h : EI w F0 T TR PB MB B v1 v2 v3 ss fr bys es F W) {Bl : Nat} {row : Option Nat} (hg : W.grownBy W' row) (hr : ∀ r, row = some r → Bl ≤ r ∧ ∃ o : Obj, W.heap[r]? = some o ∧ o.isCells = false)
 (hB : B ≤ Bl) (hw : w.heap.size ≤ Bl) (hlt : ∀ p ∈ TR, p.2.isCells = false → p.1 < Bl) : EI w F0 T TR PB MB B v1 v2 v3 ss fr bys es F W' := by
 refine h.kept hT ⟨hg.os, hg.tape, hg.output, hg.size, fun b hb hn => ?_⟩
 refine hg.block b hb (fun e => hn ?_)
 obtain ⟨h1, o, h2, h3⟩ := hr b e.symm
 refine ⟨fun hf => ?_, fun hf => ?_, fun p hp hpe => ?_, by omega⟩
 · by_cases hm : b = MB
   · have := h.sp.mB; omega
   · have := h.mbc b hm hf o h2; rw [h3] at this; cases this
 · have := (hT.lt h.tl b hf).2 o h2; rw [h3] at this; cases this
 · have h4 := (h.tr p hp).1
   rw [hpe, h2] at h4
   injection h4 with h4
   have := hlt p hp (by rw [← h4]; exact h3)
   omega
theorem late_ok {q : Nat} (xs : List (Late q)) : ∀ l ∈ xs.map (fun x => x.1), 0 ≤ l.x ∧ l.x ≤ (q : Int) ∧ 0 ≤ l.y ∧ l.y ≤ (q : Int) := by
 intro l hl
 obtain ⟨x, _, rfl⟩ := List.mem_map.1 hl
 exact x.2
theorem walk_ok {k0 k1 R Q : Int} {q kk : Nat} (h : SxOk (GG k0 k1 R Q q) UU (rnds k0 k1 R Q q kk)) (hk : kk < (rnds k0 k1 R Q q kk).states.length) (xs : List (Late q)) : SxOk (GG k0 k1 R Q q) UU ((rnds k0 k1 R Q q kk).walk (stp k0 k1 R Q q) kk (xs.map fun x => x.1)) :=
 h.walk hk (fun l hl s hs => stp_good (late_ok xs l hl) hs)
theorem rnds_succ (k0 k1 R Q : Int) (q kk : Nat) : rnds k0 k1 R Q q (kk + 1) = (rnds k0 k1 R Q q kk).walk (stp k0 k1 R Q q) kk (latesP (q + 1) ((q + 1) * (q + 1))) := rfl
theorem full_pre {k0 k1 R Q : Int} {q kk m : Nat} {pre : List P2} (hm : m ≤ (q + 1) * (q + 1)) (hp : pre = latesP (q + 1) m) (hf : ((rnds k0 k1 R Q q kk).walk (stp k0 k1 R Q q) kk pre).full = true) : (rnds k0 k1 R Q q (kk + 1)).full = true := by
 obtain ⟨r, hr⟩ := latesP_pre (N := q + 1) hm
 rw [rnds_succ, hr, Sx.walk_app, ← hp, Sx.walk_full hf]; exact hf
section
variable {w W W' : World} {F0 : Nat → Prop} {T : List Edg → (Nat → Prop) → World → Prop} {TR : List (Nat × Obj)} {PB MB B : Nat} {v1 v2 v3 : Value} {ss : List (List Int)} {fr : List Int} {bys : List P2} {es : List Edg} {F : Nat → Prop} {K : Nat} {caps : Array Value}
theorem EI.mark (hT : TellOk K caps T) (h : EI w F0 T TR PB MB B v1 v2 v3 ss fr bys es F W) {D : Nat} {o : Obj} (hD : W.heap[D]? = some o) (ho : o.isCells = false) (hB : B ≤ D) : EI w F0 T ((D, o) :: TR) PB MB B v1 v2 v3 ss fr bys es F W := by
 have hm : D ≠ MB := by have := h.sp.mB; omega
 refine h.track hD (fun hf => ?_) (fun hf => ?_)
 · have := h.mbc D hm hf o hD; rw [ho] at this; cases this
 · have := (hT.lt h.tl D hf).2 o hD; rw [ho] at this; cases this
end
theorem LR.next {k0 k1 R Q : Int} {q : Nat} {T : List Edg → (Nat → Prop) → World → Prop} {F0 : Nat → Prop} {w : World} {S N : Nat} {fv : Value} {kk KB RB D L : Nat} {ds : List Nat} {xs : List (Late q)} {W W' : World} {K : Nat} {caps : Array Value} (hT : TellOk K caps T)
 (hI : RI k0 k1 R Q q T F0 w S N fv kk KB RB ds xs W) (hxs : xs.map (fun x => x.1) = latesP (q + 1) ((q + 1) * (q + 1))) (hok : SxOk (GG k0 k1 R Q q) UU (rnds k0 k1 R Q q kk)) (hel : (rnds k0 k1 R Q q kk).edges.length = kk * ((q + 1) * (q + 1))) (hf : (rnds k0 k1 R Q q kk).full = false) (hk : kk < (rnds k0 k1 R Q q kk).states.length) (hnd : ds.Nodup) (hds : ∀ E ∈ ds, S ≤ E) (hlt : ∀ E ∈ ds, E < L) (hLD : L ≤ D) (hNL : N + 4 ≤ L) (hSN : S + 4 ≤ N)
 (hbef : ∀ j, j < kk → (rnds k0 k1 R Q q j).full = false ∧ j < (rnds k0 k1 R Q q j).states.length) (hD : W.heap[D]? = some (.deferred (some []))) (hW' : W' = W.alloc (.cells #[.int .i64 ((kk : Int) + 1)] 3 (0, 0))) : LR k0 k1 R Q q T F0 w S N fv (kk + 1) W.heap.size (D :: ds) W' := by
 obtain ⟨v1, v2, v3, F, hE, hfull⟩ := hI
 have hwk := walk_ok hok hk xs
 have hmono := Sx.walk_mono (step := stp k0 k1 R Q q) (rnds k0 k1 R Q q kk) kk (xs.map fun x => x.1)
 have hed := Sx.walk_edges hfull
 have hDl := (Array.getElem?_eq_some_iff.1 hD).1
 rw [hxs] at hE hfull hwk hmono hed
 rw [← rnds_succ] at hE hfull hwk hmono hed
 rw [latesP_len] at hed
 have h1 := (hE.mark hT hD rfl (by omega)).alloc hT (.cells #[.int .i64 ((kk : Int) + 1)] 3 (0, 0))
 rw [← hW'] at h1
 refine ⟨v1, v2, v3, F, h1.sub (fun p hp => ?_), hfull, hwk, ?_, by omega, List.nodup_cons.2 ⟨fun h => by have := hlt D h; omega, hnd⟩, fun E hE => ?_, fun j hj => ?_, by rw [hW']; simp; omega⟩
 · simp only [trk, dls, List.map_cons, List.cons_append, List.mem_cons, List.mem_append] at hp ⊢
   rcases hp with rfl | h | h | h
   · exact .inl (by simp)
   · exact .inr (.inl h)
   · exact .inr (.inr (.inr (.inr (.inl h))))
   · exact .inr (.inr (.inr (.inr (.inr h))))
 · rw [hed, hel, Nat.add_mul kk 1, Nat.one_mul]
 · rcases List.mem_cons.1 hE with rfl | hE
   · omega
   · exact hds E hE
 · rcases (show j < kk ∨ j = kk by omega) with h | rfl
   · exact hbef j h
   · exact ⟨hf, hk⟩
end Go.Proofs.Ytagbikgfkakbfaa
