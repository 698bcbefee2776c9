/-
  THE STATEMENT TopShapedCardSaid: for every input the law returns true, and its arguments read as they did.
-/
import Derived.Test.YtjjikhaaimfneaaGreatDoorCards
import Derived.Test.YtjjikhaaimfneaaGreatDoorTie
import Derived.Test.YtjjikhaaimfneaaGreatDoorU01
import Derived.Test.YtjjikhaaimfneaaGreatDoorU56
import Derived.WalkKit
import Derived.ProofKit
import Derived.OpenShut
import Derived.LaidMore
import Derived.Lay
import Derived.SevenTiedAt
import Derived.Stop.Joined
import Derived.Deep.DeepHandedRow
import Derived.Lib.LaidTab
import Derived.Shelf.Vars
import Derived.ChangeMaps5
namespace Go.Proofs.YtjjikhaaimfneaaGreatDoor
namespace topShapedLaw
open Go.ChangeShapes Go.WideShapes Go.ChangeAt Go.RowKit Go.ChangeMaps
set_option linter.unusedSimpArgs false
set_option linter.unusedVariables false
theorem own : ownKnob Tryz.prog.godebug = none := by kernel_rfl
theorem laidOut : laidOutB Tryz.prog = true := by kernel_rfl
theorem tab_strings_asciiSpace {W : World} (hL : laidMetH Tryz.prog Rows.topShapedRow.laid W) : Lib.TabIs Tryz.prog W "strings.asciiSpace" .u8 Lib.asciiSpaceTab := by
 have h_ : laidMetH Tryz.prog [("strings.asciiSpace", Rows.laid_strings_asciiSpace)] W := by
  have := laidMetH.filter (fun y => y.1 == "strings.asciiSpace") hL
  rwa [show (Rows.topShapedRow.laid.filter (fun y => y.1 == "strings.asciiSpace")) = [("strings.asciiSpace", Rows.laid_strings_asciiSpace)] from by kernel_rfl] at this
 rw [MakeChecks.laidMetH_plain _ _ _ (by kernel_rfl)] at h_
 rw [show (Rows.laid_strings_asciiSpace : DataW Unit) = Lib.tabData .u8 Lib.asciiSpaceTab from by kernel_rfl] at h_
 exact Lib.tabIs_of_head (g := 0) (t := 145) (e := 5) (n := 256) (rest := []) (by kernel_rfl) (by kernel_rfl) Tryz.underlying145 Tryz.underlying5 (by kernel_rfl) (by kernel_rfl) h_
theorem tab_internal_strconv_uint64pow10 {W : World} (hL : laidMetH Tryz.prog Rows.topShapedRow.laid W) : Lib.TabIs Tryz.prog W "internal/strconv.uint64pow10" .u64 Lib.pow10Tab := by
 have h_ : laidMetH Tryz.prog [("internal/strconv.uint64pow10", Rows.laid_internal_strconv_uint64pow10)] W := by
  have := laidMetH.filter (fun y => y.1 == "internal/strconv.uint64pow10") hL
  rwa [show (Rows.topShapedRow.laid.filter (fun y => y.1 == "internal/strconv.uint64pow10")) = [("internal/strconv.uint64pow10", Rows.laid_internal_strconv_uint64pow10)] from by kernel_rfl] at this
 rw [MakeChecks.laidMetH_plain _ _ _ (by kernel_rfl)] at h_
 rw [show (Rows.laid_internal_strconv_uint64pow10 : DataW Unit) = Lib.tabData .u64 Lib.pow10Tab from by kernel_rfl] at h_
 exact Lib.tabIs_of_head (g := 4) (t := 222) (e := 185) (n := 20) (rest := []) (by kernel_rfl) (by kernel_rfl) Tryz.underlying222 Tryz.underlying185 (by kernel_rfl) (by kernel_rfl) h_
theorem err_strconv_ErrSyntax {W : World} (hL : laidMetH Tryz.prog Rows.topShapedRow.laid W) : ∃ ev, W.cell? ⟨2, 0, none⟩ = some ev ∧ (ev = .nilIface ∨ ∃ te pe, ev = .iface te pe) := by
 have h_ : laidMetH Tryz.prog [("strconv.ErrSyntax", Rows.laid_strconv_ErrSyntax)] W := by
  have := laidMetH.filter (fun y => y.1 == "strconv.ErrSyntax") hL
  rwa [show (Rows.topShapedRow.laid.filter (fun y => y.1 == "strconv.ErrSyntax")) = [("strconv.ErrSyntax", Rows.laid_strconv_ErrSyntax)] from by kernel_rfl] at this
 rw [MakeChecks.laidMetH_plain _ _ _ (by kernel_rfl)] at h_
 obtain ⟨ps, ⟨g, t, cs, fuel, p, q, hg, ht, hv, hd, _, _⟩, _, _⟩ := h_
 obtain rfl := Option.some.inj ((show Tryz.prog.globalNamed "strconv.ErrSyntax" = some 2 by kernel_rfl).symm.trans hg)
 obtain rfl := Option.some.inj ((show (Tryz.prog.globals[2]?).map (·.type) = some 111 by kernel_rfl).symm.trans ht)
 obtain ⟨f', u, v, hc, _, _⟩ := iface_of_trod Tryz.underlying111 hd
 refine ⟨.iface u v, ?_, .inr ⟨u, v, rfl⟩⟩
 rw [World.var?_cell hg hv 0]
 have e : cs.toList[0]? = some (.iface u v) := by rw [hc]; rfl
 simpa using e
theorem err_strconv_ErrRange {W : World} (hL : laidMetH Tryz.prog Rows.topShapedRow.laid W) : ∃ ev, W.cell? ⟨3, 0, none⟩ = some ev ∧ (ev = .nilIface ∨ ∃ te pe, ev = .iface te pe) := by
 have h_ : laidMetH Tryz.prog [("strconv.ErrRange", Rows.laid_strconv_ErrRange)] W := by
  have := laidMetH.filter (fun y => y.1 == "strconv.ErrRange") hL
  rwa [show (Rows.topShapedRow.laid.filter (fun y => y.1 == "strconv.ErrRange")) = [("strconv.ErrRange", Rows.laid_strconv_ErrRange)] from by kernel_rfl] at this
 rw [MakeChecks.laidMetH_plain _ _ _ (by kernel_rfl)] at h_
 obtain ⟨ps, ⟨g, t, cs, fuel, p, q, hg, ht, hv, hd, _, _⟩, _, _⟩ := h_
 obtain rfl := Option.some.inj ((show Tryz.prog.globalNamed "strconv.ErrRange" = some 3 by kernel_rfl).symm.trans hg)
 obtain rfl := Option.some.inj ((show (Tryz.prog.globals[3]?).map (·.type) = some 111 by kernel_rfl).symm.trans ht)
 obtain ⟨f', u, v, hc, _, _⟩ := iface_of_trod Tryz.underlying111 hd
 refine ⟨.iface u v, ?_, .inr ⟨u, v, rfl⟩⟩
 rw [World.var?_cell hg hv 0]
 have e : cs.toList[0]? = some (.iface u v) := by rw [hc]; rfl
 simpa using e
theorem gl_of {W : World} (hL : laidMetH Tryz.prog Rows.topShapedRow.laid W) (hS : W.ShapedOpen Tryz.prog) : GL W :=
 ⟨tab_strings_asciiSpace hL, tab_internal_strconv_uint64pow10 hL, Go.Proofs.cell_of_shapedOpen_int (g := 5) (zero := #[.int .i64 0]) (t := 3) hS (of_decide_eq_true (by kernel_rfl)) (by kernel_rfl) rfl (by kernel_rfl) (by kernel_rfl) Tryz.underlying3, err_strconv_ErrSyntax hL, err_strconv_ErrRange hL⟩
set_option maxRecDepth 100000 in
theorem contract (H : Type) (enc : TypeId × Value → H) (W : World) (base : Nat) (args : Array Value) (ds gs : List (DataW H)) (before : List MemPlace)
 (hval : ∀ (j : Nat) t v, Tryz.f3.params[j]? = some t → args[j]? = some v → Value.okWide Tryz.prog W .any base t v)
 (hW : DataW.Whole enc Tryz.prog Tryz.f3.params.toList Rows.topShapedSpec.vars false W args.toList ds gs before) (hL : laidMetH Tryz.prog Rows.topShapedRow.laid W) (hS : W.ShapedOpen Tryz.prog) (hsz : (DataW.weightsEach Tryz.prog (Tryz.f3.params.toList ++ Rows.topShapedSpec.plain.varTypes Tryz.prog) (ds ++ gs)).all (· ≤ reachBytes) = true) :
 Calls Tryz.prog 3 args W fun e W' => ∃ v, e = .returned v ∧ Rows.topShapedSpec.post enc Tryz.prog Tryz.f3 false true false false W args v W' := by
 have hW' := hW
 obtain ⟨p, q, hA0, hV, rfl, hfz, hnd⟩ := hW
 have hA : DataW.TrodAll enc Tryz.prog W 0 (fun _ => true) true Tryz.f3.params.toList args.toList ds p := hA0
 rw [Tryz.params3] at hA hval
 obtain ⟨v0, vs0, d0, ds0, p0, q0, hargs, rfl, rfl, h0, r0⟩ := trodAll_cons hA
 obtain ⟨v1, vs1, d1, ds1, p1, q1, rfl, rfl, rfl, h1, r1⟩ := trodAll_cons r0
 obtain ⟨v2, vs2, d2, ds2, p2, q2, rfl, rfl, rfl, h2, r2⟩ := trodAll_cons r1
 obtain ⟨v3, vs3, d3, ds3, p3, q3, rfl, rfl, rfl, h3, r3⟩ := trodAll_cons r2
 obtain ⟨rfl, rfl, rfl⟩ := trodAll_nil r3
 obtain rfl : args = #[v0, v1, v2, v3] := by cases args; simp_all
 obtain ⟨rfl, rfl⟩ := trodVars_none hV
 have k0 := h0
 have lt0 : ∀ x ∈ p0, x.block < W.heap.size := by obtain ⟨m, hm⟩ := k0; exact DataW.trod_lt m _ _ _ hm
 obtain ⟨l0, hl0, rfl, w0⟩ := open_flat (k := 8) (n := 2) (by kernel_rfl) (by kernel_rfl) (by kernel_rfl) (hval 0 23 v0 rfl rfl) h0
 obtain ⟨x0_0, x0_1, rfl⟩ := len2 hl0
 have k1 := h1
 have lt1 : ∀ x ∈ p1, x.block < W.heap.size := by obtain ⟨m, hm⟩ := k1; exact DataW.trod_lt m _ _ _ hm
 obtain ⟨a1, rfl, rfl, rfl, w1⟩ := open_int Tryz.underlying3 (hval 1 3 v1 rfl rfl) h1
 have k2 := h2
 have lt2 : ∀ x ∈ p2, x.block < W.heap.size := by obtain ⟨m, hm⟩ := k2; exact DataW.trod_lt m _ _ _ hm
 obtain ⟨a2, rfl, rfl, rfl, w2⟩ := open_int Tryz.underlying3 (hval 2 3 v2 rfl rfl) h2
 have k3 := h3
 have lt3 : ∀ x ∈ p3, x.block < W.heap.size := by obtain ⟨m, hm⟩ := k3; exact DataW.trod_lt m _ _ _ hm
 obtain ⟨a3, n3, c3, rfl⟩ := okWide_slice Tryz.underlying24 (hval 3 24 v3 rfl rfl)
 obtain ⟨xs3, u3, v3, w3, g3, es3, sp3, hd3⟩ := open_ints_at Tryz.underlying24 Tryz.underlying3 (by kernel_rfl) h3
 have b3 : n3 * 8 ≤ 140737488351232 := by
  rcases hd3 with ⟨_, e0⟩ | ⟨rfl, e1⟩
  · omega
  · have e2 := sized_slice hsz (j := 3) (t := 24) (e := 3) rfl rfl Tryz.underlying24
    rw [show Tryz.prog.bytesOf 3 = 8 from by kernel_rfl] at e2
    simp only [reachBytes] at e2
    have := v3
    omega
 have i3 : IntsAt W a3 n3 c3 xs3 := ⟨u3, v3, by omega, g3⟩
 clear hA0
 refine (topShapedJ W x0_0 x0_1 a1 a2 a3 n3 c3 xs3 i3 (by omega) (gl_of hL hS)).mono fun e W' ⟨he, bel⟩ => ?_
 subst he
 exact ⟨_, rfl, _, _, _, [], _, [], hW', trodAll_mk1 (shut_bool Tryz.underlying4 _), (trodAll_cons_mk (Below.trod laidOut (by kernel_rfl) (of_decide_eq_true (by kernel_rfl)) k0 bel lt0) (trodAll_cons_mk (Below.trod laidOut (by kernel_rfl) (of_decide_eq_true (by kernel_rfl)) k1 bel lt1) (trodAll_cons_mk (Below.trod laidOut (by kernel_rfl) (of_decide_eq_true (by kernel_rfl)) k2 bel lt2) (trodAll_cons_mk (Below.trod laidOut (by kernel_rfl) (of_decide_eq_true (by kernel_rfl)) k3 bel lt3) (trodAll_mk0))))), rfl, bel.frame _, fun h => by cases h⟩
theorem laid_met (os : Os) : laidMetH Tryz.prog Rows.topShapedRow.laid ((World.laidAll Tryz.prog os Rows.topShapedRow.laid).forCall (fun _ _ => 0) ⟨#[], #[.agg #[.int .i64 0, .int .i64 0], .int .i64 0, .int .i64 0, .slice none 0 0], []⟩).memory := by
 rw [MakeChecks.laidMetH_plain _ _ _ (by kernel_rfl)]; exact laidMet_laidAll _ (by kernel_rfl) (by kernel_rfl)
theorem reads (os : Os) {H : Type} (enc : TypeId × Value → H) : ∃ places, DataW.whole enc Tryz.prog ((World.laidAll Tryz.prog os Rows.topShapedRow.laid).forCall (fun _ _ => 0) ⟨#[], #[.agg #[.int .i64 0, .int .i64 0], .int .i64 0, .int .i64 0, .slice none 0 0], []⟩).memory Tryz.f3.params.toList Rows.topShapedSpec.vars false (#[.agg #[.int .i64 0, .int .i64 0], .int .i64 0, .int .i64 0, .slice none 0 0] : Array Value).toList 8 = some ([.agg [.lit (.int .i64 0), .lit (.int .i64 0)], .lit (.int .i64 0), .lit (.int .i64 0), .nil], [], places) :=
 ⟨[], by kernel_rfl⟩
theorem okw (os : Os) : Input.okWideB Tryz.prog ((World.laidAll Tryz.prog os Rows.topShapedRow.laid).forCall (fun _ _ => 0) ⟨#[], #[.agg #[.int .i64 0, .int .i64 0], .int .i64 0, .int .i64 0, .slice none 0 0], []⟩) 3 ⟨#[], #[.agg #[.int .i64 0, .int .i64 0], .int .i64 0, .int .i64 0, .slice none 0 0], []⟩ = true := by kernel_rfl
set_option maxRecDepth 100000 in
theorem lifted (os : Os) (started : os.Started) (H : Type) (enc : TypeId × Value → H) (F : Stop.Interp) :
 ReturnsInHanded {} Tryz.checked os 3 .any ((OpenSpec.ofChange Rows.topShapedSpec).preRow enc Tryz.prog Tryz.f3 Rows.topShapedRow.domain false Rows.topShapedRow.laid) (((OpenSpec.ofChange Rows.topShapedSpec).at F).post enc Tryz.prog Tryz.f3 false true false false) := by
 obtain ⟨places, hx⟩ := reads os enc
 refine returnsInHanded_of_row (C := Tryz.checked) (s := OpenSpec.ofChange Rows.topShapedSpec) own started (by kernel_rfl) Tryz.func3
  ⟨World.laidAll Tryz.prog os Rows.topShapedRow.laid, fun _ _ => 0, ⟨#[], #[.agg #[.int .i64 0, .int .i64 0], .int .i64 0, .int .i64 0, .slice none 0 0], []⟩, World.laidAll_os _ _ _, World.shaped_of_ZipB (by kernel_rfl) (by kernel_rfl), (Input.okWide_of_okWideB (base := 0) (okw os)).1, (Input.okWide_of_okWideB (okw os)).2,
   OpenSpec.preRow_of_cond 8 hx (by kernel_rfl) (fun k hk => by cases hk) (by kernel_rfl) (laid_met os), by
    simp only [Assume.holds]
    exact ⟨by simp, by simp, fun _ => Modest.zero, by simp, by simp⟩⟩ ?_
 intro W base args ds gs before hval hW _ hcond hsz hL hS _
 exact contract H enc W base args ds gs before hval hW hL hS hsz
theorem said : Rows.TopShapedSaid :=
 OpenClaim.holds_of_cond 3 Tryz.f3 rfl rfl rfl rfl rfl rfl rfl ⟨rfl, rfl, rfl, rfl, rfl⟩ rfl rfl rfl rfl rfl (by kernel_rfl) Tryz.func3 (by kernel_rfl)
  (of_decide_eq_true (by kernel_rfl)) (by unfold Func.isWrapper; first | (rw [if_pos (by decide +kernel)]; kernel_rfl) | (rw [if_neg (by decide +kernel)]; exact ⟨rfl, rfl⟩))
  (fun os started H enc _ F => by rw [OpenClaim.pre_eq_preRow]; exact lifted os started H enc F)
theorem plain (f : FuncId) (fn : Func) (hf : Tryz.pinned.checked.prog.funcNamed "tidewait/tidewaittop.TopShaped" = some f) (hfn : Tryz.pinned.checked.prog.funcs[f]? = some fn) :
 true = Tryz.pinned.checked.prog.looks [] ∧ ∀ (j : Nat) t, fn.params[j]? = some t → Tryz.pinned.checked.prog.wantsStandIn t = false := by
 obtain rfl : f = 3 := Option.some.inj ((show Tryz.prog.funcNamed "tidewait/tidewaittop.TopShaped" = some 3 by kernel_rfl).symm.trans hf) |>.symm
 obtain rfl : fn = Tryz.f3 := (Option.some.inj (Tryz.func3.symm.trans hfn)).symm
 refine ⟨by kernel_rfl, fun j t ht => ?_⟩
 rw [Tryz.params3] at ht
 have hm : t ∈ [23, 3, 3, 24] := by simpa using Array.mem_of_getElem? ht
 have hall : ([23, 3, 3, 24].all fun u => !Tryz.prog.wantsStandIn u) = true := by kernel_rfl
 exact (show Tryz.prog.wantsStandIn t = false by simpa using List.all_eq_true.1 hall t hm)
theorem holds : Rows.TopShapedCardSaid :=
 Claim7.holds_tied_plain_at .later [] _ _ _ _ said (fun _ h => by cases h) (by kernel_rfl) (fun _ h => by cases h) topShaped_row_tie rfl ⟨rfl, rfl⟩ (by kernel_rfl) rfl plain (by kernel_rfl)
end topShapedLaw
end Go.Proofs.YtjjikhaaimfneaaGreatDoor
