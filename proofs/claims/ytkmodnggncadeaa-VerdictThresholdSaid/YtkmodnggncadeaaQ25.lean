/-
  Lemmas and walks for the statement: StLead, StRow, RegM3.
-/
import Derived.Test.YtkmodnggncadeaaQ24
import Derived.Test.YtkmodnggncadeaaQ09
import Derived.Test.YtkmodnggncadeaaQ19
namespace Go.Proofs.Ytkmodnggncadeaa
open Go.RowKit
set_option linter.unusedSimpArgs false
set_option linter.unusedVariables false
attribute [local go_sem] iteMin iteMax iteMinN iteMaxN
theorem own1_at {w : World} {B n cap g k : Nat} {t : TypeId} {xs : List Int} {x : Int} (h : w.ownsRow B t 1 (.slice (some ⟨g, 0, none⟩) n cap) n (xs.map (Value.int .i64))) (hp : xs[k]? = some x) : w.cell? ⟨g, k, none⟩ = some (.int .i64 x) := by
 have hl := (List.getElem?_eq_some_iff.1 hp).1
 have h1 := h.1
 simp only [List.length_map, Nat.mul_one] at h1
 rw [h.cellAt k (by omega)]
 simp [hp]
theorem slice_some {w : World} {B n size : Nat} {e : TypeId} {v : Value} {xs : List Value} (h : w.ownsRow B e size v n xs) (hn : 0 < n) : ∃ g cap, v = .slice (some ⟨g, 0, none⟩) n cap ∧ n ≤ cap ∧ cap ≤ 9223372036854775807 ∧ B ≤ g ∧ g < w.heap.size := by
 rcases h.2 with ⟨_, h0⟩ | ⟨g', cap', cur, h', hb, hg, hnc, hcm, hcs, htake⟩
 · omega
 · unfold maxLen at hcm
   exact ⟨g', cap', h', hnc, hcm, hb, (Array.getElem?_eq_some_iff.1 hg).1⟩
theorem news2' (w : World) (vs : List Value) (t : TypeId) : ∀ (j : Nat) (u : Value), vs[j]? = some u → (w.alloc (.cells vs.toArray t)).cell? ((⟨w.heap.size, 0, none⟩ : Addr).add j) = some u := fun j u hj => by
 have e1 : (⟨w.heap.size, 0, none⟩ : Addr).add j = ⟨w.heap.size, j, none⟩ := by unfold Addr.add; split <;> simp_all
 rw [e1]; exact (Blk.new w vs t j u hj).1
def LdR (fr : List Int) (bys : List P2) (m BB : Nat) (w1 : World) (nv ov : Value) (wr : World) : Prop :=
 ∃ (k : Nat) (acc : List P2), nv = .int .i64 k ∧ k ≤ m ∧ acc.length + k ≤ m ∧ Hid (acc ++ wayB fr bys k k = wayB fr bys m m) ∧ Hid (wr.ownsRow BB 22 2 ov acc.length (flat2 acc)) ∧ Hid (Below BB w1 wr)
set_option maxRecDepth 100000 in
set_option maxHeartbeats 8000000 in
theorem lead_run (k0 k1 R Q : Int) (q : Nat) (n : Int) (w : World) (hk : kindsOk k0 k1) (hr : rangeOk R Q (q : Int)) :
 Calls Try.prog 18 #[.agg #[.int .i64 k0, .int .i64 k1, .int .i64 R, .int .i64 Q, .int .i64 (q : Int)], .int .i64 n] w fun e w' => LeadEnds k0 k1 R Q q n e w' ∧ Below w.heap.size w w' := by
 have HK := hide hk
 have HR := hide hr
 clear hk hr
 obtain ⟨i3, hi3, hy3, hz3, hu3⟩ := info_parts infoPair
 go_enter Try.func18, Try.ntmps18
 go_wp2_with fail
 refine (each_run 29 #[] TN lead1_tell k0 k1 R Q q _ (fun _ => False) (fun b hb => hb) HK.out HR.out).mono ?_
 rintro e w1 ⟨kk, hends, ⟨PB, MB, B, v1, v2, v3, F, hf, rfl, hE⟩ | ⟨hf, rfl, hc⟩⟩
 · have hok := sx_end HK.out HR.out hends
   have hone := hok.one
   have hmost := hok.most
   have HB1 : Hid (Below w.heap.size w w1) := hide (((Below.refl _ _).alloc (Nat.le_refl _) _).trans ((hE.chg.below).mono (by simp)))
   have hsp := hE.sp
   obtain ⟨ln, hln⟩ : ∃ ln, (rnds k0 k1 R Q q kk).states.length = ln := ⟨_, rfl⟩
   obtain ⟨g1, d1, e1, _, _, _, _⟩ := slice_some hsp.r1 (by omega)
   obtain ⟨g2, d2, e2, b2, b2', _, q2⟩ := slice_some hsp.r2 (by omega)
   obtain ⟨g3, d3, e3, b3, b3', _, q3⟩ := slice_some hsp.r3 (by omega)
   have p1 := hsp.c1
   have p2 := hsp.c2
   have p3 := hsp.c3
   have r2 := hsp.r2
   have r3 := hsp.r3
   rw [e1] at p1
   rw [e2] at p2 r2
   rw [e3] at p3 r3
   rw [hln] at p1 p2 p3 r2 r3 b2 b3 hone hmost
   have HN := hide hends
   have HF := hide hf
   have HOK := hide hok
   have HLN := hide hln
   have HR2 := hide r2
   have HR3 := hide r3
   have hPB : PB < w1.heap.size := hsp.lt
   clear hends hf hok hE hsp e1 e2 e3 hln r2 r3
   rcases (show n < 0 ∨ (0 ≤ n ∧ (ln : Int) ≤ n) ∨ (0 ≤ n ∧ n < (ln : Int)) by omega) with hn | ⟨hn, hn'⟩ | ⟨hn, hn'⟩
   · go_wp2
     go_ret2
     exact ⟨⟨kk, HN.out, .inr (.inl ⟨HF.out, .inl hn, rfl⟩)⟩, HB1.out⟩
   · go_wp2
     go_ret2
     exact ⟨⟨kk, HN.out, .inr (.inl ⟨HF.out, .inr (by rw [HLN.out]; exact hn'), rfl⟩)⟩, HB1.out⟩
   · obtain ⟨m, rfl⟩ : ∃ m : Nat, n = (m : Int) := ⟨n.toNat, by omega⟩
     have hm : m < ln := by omega
     obtain ⟨BB, hBB⟩ : ∃ BB, w1.heap.size = BB := ⟨_, rfl⟩
     go_wp2
     go_loopw [1, 8] (fun nv ov wr => LdR (rnds k0 k1 R Q q kk).fr (rnds k0 k1 R Q q kk).bys m BB w1 nv ov wr) (fun nv _ _ => (intOf nv).toNat)
     case atStart => exact ⟨m, [], rfl, Nat.le_refl _, by simp, hide rfl, hide ⟨by simp [flat2], .inl ⟨rfl, rfl⟩⟩, hide (Below.refl _ _)⟩
     case round =>
      obtain ⟨k, acc, rfl, hk, hak, hw, hrow, hbel⟩ := hrel
      have k0' : (0 : Int) ≤ (k : Int) := Int.natCast_nonneg _
      have kc : ∀ {b j : Nat} {v : Value}, b < BB → w1.cell? ⟨b, j, none⟩ = some v → wr.cell? ⟨b, j, none⟩ = some v := fun {b j v} hb h => (hbel.out.cell (p := ⟨b, j, none⟩) hb).trans h
      by_cases hlt : 0 < k
      · have hlt' : (0 : Int) < (k : Int) := by omega
        have hkl : (k : Int) < (ln : Int) := by omega
        obtain ⟨j, hj, hjk⟩ := HOK.out.back k hlt (by rw [HLN.out]; omega)
        obtain ⟨⟨px, py⟩, hp⟩ : ∃ p, (rnds k0 k1 R Q q kk).bys[k]? = some p := ⟨_, List.getElem?_eq_getElem (by rw [HOK.out.blen, HLN.out]; omega)⟩
        have HST := hide (wayB_step HOK.out.back hlt (by rw [HLN.out]; omega) hj hjk hp)
        have c2 := kc (by omega) (own1_at HR2.out hj)
        obtain ⟨c3, c4⟩ := own2_at HR3.out hp
        have c3 := kc (by omega) c3
        have c4 := kc (by omega) c4
        have p2' := kc (by omega) p2
        have p3' := kc (by omega) p3
        have hbs := hbel.out.size
        have o1 : ∀ b, b < BB → some b ≠ (u8 : Value).ownBlock := fun b hb e => by have := rows_lt hrow.out b e.symm; omega
        go_wp2_with (at_builtin; refine wpList_append_own _ rfl (.tmp 37) (.tmp 45) 31 rfl BB 22 i3 _ 2 16 Try.underlying31 hi3 hy3 hz3 hu3 rfl (by decide) u8 acc.length _ rfl (hrow.out.alloc (.cells #[.int .i64 px, .int .i64 py] 22)) _ 1 1 [.int .i64 px, .int .i64 py] rfl rfl (news2' _ _ _) (by simp [Value.oneCell']) (by unfold maxLen; omega) (by omega) (by first | omega | (simp; omega)) ?_; intro v' w2 hown' hgrow _; have hb2 : Below BB wr w2 := ((Below.refl BB wr).alloc (by omega) (.cells #[.int .i64 px, .int .i64 py] 22)).grown hgrow (by simp; omega) (fun q hq => by have := rows_lt hrow.out q hq; omega); have p2'' := (hb2.cell (p := ⟨PB, 2, none⟩) (by simp only; omega)).trans p2'; have c2'' := (hb2.cell (p := ⟨g2, k, none⟩) (by simp only; omega)).trans c2; have HOWN := hide hown'; have HB2 := hide hb2; clear hown' hb2 hgrow)
        go_roundw
        case rel => exact ⟨j, acc ++ [⟨px, py⟩], rfl, by omega, by simp; omega, hide (by rw [List.append_assoc, ← hw.out, HST.out]; rfl), hide (by rw [flat2_snoc, List.length_append]; exact HOWN.out), hide (hbel.out.trans HB2.out)⟩
        case measure => (simp [intOf] <;> omega)
      · obtain rfl : k = 0 := by omega
        have hw0 : Hid (acc = wayB (rnds k0 k1 R Q q kk).fr (rnds k0 k1 R Q q kk).bys m m) := hide (by have := hw.out; simpa [wayB] using this)
        go_wp2_with fail
        refine (rev2_any u8 acc.length BB acc wr hrow.out rfl (by omega)).mono ?_
        rintro e w2 ⟨⟨x, rfl⟩, hrv, hcv⟩
        have HRV := hide hrv
        have HCV : Hid (Below BB wr w2) := hide ⟨hcv.os, hcv.tape, hcv.output, hcv.size, fun b hb => hcv.block b (by have := hbel.out.size; omega) (fun e => by have := rows_lt hrow.out b e; omega)⟩
        clear hrv hcv
        go_wp2
        go_ret2
        exact ⟨⟨kk, HN.out, .inl ⟨HF.out, m, rfl, by rw [HLN.out]; exact hm, u8, BB, rfl, by rw [← hw0.out, List.length_reverse]; exact HRV.out⟩⟩, HB1.out.trans ((hbel.out.trans HCV.out).mono (by have := HB1.out.size; omega))⟩
 · have HN := hide hends
   have HF := hide hf
   have HC := hide hc
   clear hends hf hc
   go_wp2
   go_ret2
   exact ⟨⟨kk, HN.out, .inr (.inr ⟨HF.out, rfl⟩)⟩, ((Below.refl _ _).alloc (Nat.le_refl _) _).trans ((HC.out.below).mono (by simp))⟩
end Go.Proofs.Ytkmodnggncadeaa
namespace Go.Proofs.Ytkmodnggncadeaa
open Go.RowKit
set_option linter.unusedSimpArgs false
set_option linter.unusedVariables false
theorem flatS_len' {sz : Nat} {L : List (List Int)} (h : ∀ t ∈ L, t.length = sz) : (flatS L).length = L.length * sz := by
 induction L with
 | nil => simp [flatS]
 | cons t L ih =>
   have h1 : t.length = sz := h t (by simp)
   have h2 := ih (fun t ht => h t (by simp [ht]))
   show (t.map (Value.int .i64) ++ flatS L).length = _
   rw [List.length_append, h2, List.length_map, h1, List.length_cons, Nat.succ_mul]; omega
theorem flatS_get {sz : Nat} {L : List (List Int)} (h : ∀ t ∈ L, t.length = sz) : ∀ {k j : Nat} {s : List Int} {x : Int}, L[k]? = some s → s[j]? = some x → (flatS L)[k * sz + j]? = some (.int .i64 x) := by
 induction L with
 | nil => intro k j s x hk; simp at hk
 | cons t ss ih =>
   intro k j s x hk hj
   have ht : t.length = sz := h t (by simp)
   show (t.map (Value.int .i64) ++ flatS ss)[k * sz + j]? = _
   cases k with
   | zero =>
     obtain rfl : t = s := by simpa using hk
     have hl := (List.getElem?_eq_some_iff.1 hj).1
     rw [List.getElem?_append_left (by simp; omega)]
     simp [hj]
   | succ k =>
     have hm : (k + 1) * sz = k * sz + sz := Nat.succ_mul k sz
     rw [List.getElem?_append_right (by simp; omega), List.length_map, ht, show (k + 1) * sz + j - sz = k * sz + j by omega]
     exact ih (fun t ht => h t (by simp [ht])) (by simpa using hk) hj
theorem rowI {W W' : World} {B k sz n : Nat} {T : TypeId} {v : Value} {L : List (List Int)} {r : List Int} (h : W.ownsRow B T sz v n (flatS L)) (hb : Below W.heap.size W W') (hn : L.length = n) (hl : ∀ t ∈ L, t.length = sz) (hk : L[k]? = some r) :
 ∃ (ad : Addr) (cap : Nat), v = .slice (some ad) n cap ∧ (ad.add (k * sz)).block < W.heap.size ∧ (ad.add (k * sz)).spot = none ∧ ∀ j x, r[j]? = some x → W'.cell? ⟨(ad.add (k * sz)).block, (ad.add (k * sz)).off + j, none⟩ = some (.int .i64 x) := by
 have hkl := (List.getElem?_eq_some_iff.1 hk).1
 rcases h.2 with ⟨_, h0⟩ | ⟨g, cap, cur, rfl, hg, hh, hn, hm, hs, hx⟩
 · omega
 · have hglt := (Array.getElem?_eq_some_iff.1 hh).1
   have ea : (⟨g, 0, none⟩ : Addr).add (k * sz) = ⟨g, k * sz, none⟩ := by unfold Addr.add; split <;> simp_all
   refine ⟨⟨g, 0, none⟩, cap, rfl, by rw [ea]; exact hglt, by rw [ea], fun j x hj => ?_⟩
   rw [ea]
   refine (hb.cell (p := ⟨g, k * sz + j, none⟩) hglt).trans ?_
   have h1 := flatS_get hl hk hj
   rw [← hx, List.getElem?_take] at h1
   split at h1
   · simp [World.cell?, hh]
     simpa using h1
   · cases h1
theorem rowI0 {W : World} {a : Addr} {v : Value} (h : W.cell? ⟨a.block, a.off + 0, none⟩ = some v) (hn : a.spot = none) : W.cell? a = some v := by
 rw [← h]; cases a with
 | mk b o e => simp at hn; subst hn; rfl
end Go.Proofs.Ytkmodnggncadeaa
namespace Go.Proofs.Ytkmodnggncadeaa
open Go Go.RowKit
set_option linter.unusedSimpArgs false
set_option linter.unusedVariables false
section
variable {P : Program} {ops : Array Oper} {Q : Exit → Act → World → Prop} {md : Region.Mode} {F : World → Prop} {c : Nat}
theorem wpAnyG_appends1 {c1 : Ch} {w0 : World} {a0 : Act} {B : Nat} {L0 : Array Bool} {f fuel : Nat} (hfu : fuel = f + 2) (hchk : chk md ops (ixs [c1]) L0 = true) (hnd : (slots (ixs [c1])).Nodup) (hsl : ∀ d ∈ slots (ixs [c1]), d < a0.tmps.size)
 (hF : ∀ w, Frm w0 [c1] w → F w) (k1 : ChOk P ops a0 [c1] c1) (hB : B ≤ w0.heap.size) (r1 : w0.ownsRow B c1.e c1.size c1.v c1.n c1.xs)
 (he : ∀ (u1 : Value) (x1 : Option Addr) (m1 : Nat) (W : World), Frm w0 [c1] W → W.ownsRow B c1.e c1.size (.slice x1 (c1.n + 1) m1) (c1.n + 1) (c1.xs ++ c1.x) → ((Value.slice x1 (c1.n + 1) m1).ownBlock = c1.v.ownBlock ∨ ∃ g, (Value.slice x1 (c1.n + 1) m1).ownBlock = some g ∧ w0.heap.size ≤ g) →
  wpAnyG P md ops Q c F f ((L0.setIfInBounds c1.b true).setIfInBounds c1.p true) ((a0.put (some c1.db) u1).put (some c1.dp) (.slice x1 (c1.n + 1) m1)) W) :
 wpAnyG P md ops Q c F fuel L0 a0 w0 := by
 subst hfu
 have all1 : ∀ {C : Ch → Prop}, C c1 → ∀ (i : Nat) (d : Ch), [c1][i]? = some d → C d := fun {C} h0 i d h => by
  match i, h with
  | 0, h => obtain rfl : c1 = d := by simpa using h
            exact h0
  | i + 1, h => simp at h
 refine wpAnyG_appends (cs := [c1]) hchk hnd hsl hF (all1 k1) hB (all1 (C := fun d => w0.ownsRow B d.e d.size d.v d.n d.xs) r1) (fun i j d d' hij hd hd' => ?_) ?_
 · have h1 : i = 0 := by have := (List.getElem?_eq_some_iff.1 hd).1; simp at this; exact this
   have h2 : j = 0 := by have := (List.getElem?_eq_some_iff.1 hd').1; simp at this; exact this
   exact (hij (h1.trans h2.symm)).elim
 · intro vs W hvl hR
   obtain ⟨⟨u1, t1⟩, rfl⟩ : ∃ x, vs = [x] := by
    match vs, hvl with
    | [x], _ => exact ⟨x, rfl⟩
   have q1 := hR.row 0 _ 2 u1 t1 rfl rfl rfl
   simp only [cur, curN, curX, if_true] at q1
   obtain ⟨x1, m1, rfl⟩ := row_shape q1.1
   have h := he u1 x1 m1 W hR.frm q1.1 q1.2
   clear he
   simp [ixs, lst, puts, List.replicate_succ]
   exact h
end
end Go.Proofs.Ytkmodnggncadeaa
