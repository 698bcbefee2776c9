/-
  THE STATEMENT BenchReadsUptoCardSaid: for every input of bulk at most 1048576 the law returns true, and its arguments read as they did.
-/
import Derived.Test.YtjjikhaaimfneaaDoorCards
import Derived.Test.YtjjikhaaimfneaaDoorTie
import Derived.Test.YtjjikhaaimfneaaDoorFrame
import Derived.Test.YtjjikhaaimfneaaDoorBenchReadsW
import Derived.WalkKit
import Derived.ProofKit
import Derived.OpenShut
import Derived.LaidMore
import Derived.Lay
import Derived.SevenTiedAt
import Derived.Stop.Joined
import Derived.Deep.DeepHandedRow
import Derived.Lib.LaidTab
import Derived.Shelf.Vars
import Derived.ChangeMaps5
namespace Go.Proofs.YtjjikhaaimfneaaDoor
namespace benchReadsLaw
open Go.ChangeShapes Go.WideShapes Go.ChangeAt Go.RowKit Go.ChangeMaps
set_option linter.unusedSimpArgs false
set_option linter.unusedVariables false

theorem own : ownKnob Tryd.prog.godebug = none := by kernel_rfl
theorem laidOut : laidOutB Tryd.prog = true := by kernel_rfl
theorem tab_strings_asciiSpace {W : World} (hL : laidMetH Tryd.prog Rows.benchReadsUptoRow.laid W) : Lib.TabIs Tryd.prog W "strings.asciiSpace" .u8 Lib.asciiSpaceTab := by
  have h_ : laidMetH Tryd.prog [("strings.asciiSpace", Rows.laid_strings_asciiSpace)] W := by
    have := laidMetH.filter (fun y => y.1 == "strings.asciiSpace") hL
    rwa [show (Rows.benchReadsUptoRow.laid.filter (fun y => y.1 == "strings.asciiSpace")) = [("strings.asciiSpace", Rows.laid_strings_asciiSpace)] from by kernel_rfl] at this
  rw [MakeChecks.laidMetH_plain _ _ _ (by kernel_rfl)] at h_
  rw [show (Rows.laid_strings_asciiSpace : DataW Unit) = Lib.tabData .u8 Lib.asciiSpaceTab from by kernel_rfl] at h_
  exact Lib.tabIs_of_head (g := 0) (t := 58) (e := 5) (n := 256) (rest := []) (by kernel_rfl) (by kernel_rfl) Tryd.underlying58 Tryd.underlying5 (by kernel_rfl) (by kernel_rfl) h_
theorem tab_internal_strconv_uint64pow10 {W : World} (hL : laidMetH Tryd.prog Rows.benchReadsUptoRow.laid W) : Lib.TabIs Tryd.prog W "internal/strconv.uint64pow10" .u64 Lib.pow10Tab := by
  have h_ : laidMetH Tryd.prog [("internal/strconv.uint64pow10", Rows.laid_internal_strconv_uint64pow10)] W := by
    have := laidMetH.filter (fun y => y.1 == "internal/strconv.uint64pow10") hL
    rwa [show (Rows.benchReadsUptoRow.laid.filter (fun y => y.1 == "internal/strconv.uint64pow10")) = [("internal/strconv.uint64pow10", Rows.laid_internal_strconv_uint64pow10)] from by kernel_rfl] at this
  rw [MakeChecks.laidMetH_plain _ _ _ (by kernel_rfl)] at h_
  rw [show (Rows.laid_internal_strconv_uint64pow10 : DataW Unit) = Lib.tabData .u64 Lib.pow10Tab from by kernel_rfl] at h_
  exact Lib.tabIs_of_head (g := 4) (t := 113) (e := 81) (n := 20) (rest := []) (by kernel_rfl) (by kernel_rfl) Tryd.underlying113 Tryd.underlying81 (by kernel_rfl) (by kernel_rfl) h_
theorem err_strconv_ErrSyntax {W : World} (hL : laidMetH Tryd.prog Rows.benchReadsUptoRow.laid W) : ∃ ev, W.cell? ⟨2, 0, none⟩ = some ev ∧ (ev = .nilIface ∨ ∃ te pe, ev = .iface te pe) := by
  have h_ : laidMetH Tryd.prog [("strconv.ErrSyntax", Rows.laid_strconv_ErrSyntax)] W := by
    have := laidMetH.filter (fun y => y.1 == "strconv.ErrSyntax") hL
    rwa [show (Rows.benchReadsUptoRow.laid.filter (fun y => y.1 == "strconv.ErrSyntax")) = [("strconv.ErrSyntax", Rows.laid_strconv_ErrSyntax)] from by kernel_rfl] at this
  rw [MakeChecks.laidMetH_plain _ _ _ (by kernel_rfl)] at h_
  obtain ⟨ps, ⟨g, t, cs, fuel, p, q, hg, ht, hv, hd, _, _⟩, _, _⟩ := h_
  obtain rfl := Option.some.inj ((show Tryd.prog.globalNamed "strconv.ErrSyntax" = some 2 by kernel_rfl).symm.trans hg)
  obtain rfl := Option.some.inj ((show (Tryd.prog.globals[2]?).map (·.type) = some 41 by kernel_rfl).symm.trans ht)
  obtain ⟨f', u, v, hc, _, _⟩ := iface_of_trod Tryd.underlying41 hd
  refine ⟨.iface u v, ?_, .inr ⟨u, v, rfl⟩⟩
  rw [World.var?_cell hg hv 0]
  have e : cs.toList[0]? = some (.iface u v) := by rw [hc]; rfl
  simpa using e
theorem err_strconv_ErrRange {W : World} (hL : laidMetH Tryd.prog Rows.benchReadsUptoRow.laid W) : ∃ ev, W.cell? ⟨3, 0, none⟩ = some ev ∧ (ev = .nilIface ∨ ∃ te pe, ev = .iface te pe) := by
  have h_ : laidMetH Tryd.prog [("strconv.ErrRange", Rows.laid_strconv_ErrRange)] W := by
    have := laidMetH.filter (fun y => y.1 == "strconv.ErrRange") hL
    rwa [show (Rows.benchReadsUptoRow.laid.filter (fun y => y.1 == "strconv.ErrRange")) = [("strconv.ErrRange", Rows.laid_strconv_ErrRange)] from by kernel_rfl] at this
  rw [MakeChecks.laidMetH_plain _ _ _ (by kernel_rfl)] at h_
  obtain ⟨ps, ⟨g, t, cs, fuel, p, q, hg, ht, hv, hd, _, _⟩, _, _⟩ := h_
  obtain rfl := Option.some.inj ((show Tryd.prog.globalNamed "strconv.ErrRange" = some 3 by kernel_rfl).symm.trans hg)
  obtain rfl := Option.some.inj ((show (Tryd.prog.globals[3]?).map (·.type) = some 41 by kernel_rfl).symm.trans ht)
  obtain ⟨f', u, v, hc, _, _⟩ := iface_of_trod Tryd.underlying41 hd
  refine ⟨.iface u v, ?_, .inr ⟨u, v, rfl⟩⟩
  rw [World.var?_cell hg hv 0]
  have e : cs.toList[0]? = some (.iface u v) := by rw [hc]; rfl
  simpa using e
theorem gl_of {W : World} (hL : laidMetH Tryd.prog Rows.benchReadsUptoRow.laid W) (hS : W.ShapedOpen Tryd.prog) : GL W :=
  ⟨tab_strings_asciiSpace hL, tab_internal_strconv_uint64pow10 hL, Go.Proofs.cell_of_shapedOpen_int (g := 5) (zero := #[.int .i64 0]) (t := 3) hS (of_decide_eq_true (by kernel_rfl)) (by kernel_rfl) rfl (by kernel_rfl) (by kernel_rfl) Tryd.underlying3, err_strconv_ErrSyntax hL, err_strconv_ErrRange hL⟩
theorem bulk_string {H : Type} {ds gs : List (DataW H)} {l : List UInt8} (hm : DataW.lit (.string l) ∈ ds) (hk : Rows.uptoSmall H (ds ++ gs) = true) : l.length ≤ 1048576 := by
  have h := of_decide_eq_true hk
  have key : ∀ xs : List (DataW H), DataW.lit (.string l) ∈ xs → l.length ≤ Rows.uptoBulkAll xs := by
    intro xs
    induction xs with
    | nil => intro h; cases h
    | cons y ys ih =>
      intro hx
      rcases List.mem_cons.1 hx with rfl | hx
      · simp only [Rows.uptoBulkAll, Rows.uptoBulk]; omega
      · have := ih hx; simp only [Rows.uptoBulkAll]; omega
  exact Nat.le_trans (key _ (List.mem_append_left _ hm)) h
set_option maxRecDepth 100000 in
theorem contract (H : Type) (enc : TypeId × Value → H) (W : World) (base : Nat) (args : Array Value) (ds gs : List (DataW H)) (before : List MemPlace)
    (hval : ∀ (j : Nat) t v, Tryd.f3.params[j]? = some t → args[j]? = some v → Value.okWide Tryd.prog W .any base t v)
    (hW : DataW.Whole enc Tryd.prog Tryd.f3.params.toList Rows.benchReadsSpec.vars false W args.toList ds gs before) (hL : laidMetH Tryd.prog Rows.benchReadsUptoRow.laid W) (hS : W.ShapedOpen Tryd.prog) (hsz : (DataW.weightsEach Tryd.prog (Tryd.f3.params.toList ++ Rows.benchReadsSpec.plain.varTypes Tryd.prog) (ds ++ gs)).all (· ≤ reachBytes) = true) (hk : Rows.uptoSmall H (ds ++ gs) = true) :
    Calls Tryd.prog 3 args W fun e W' => ∃ v, e = .returned v ∧ Rows.benchReadsSpec.post enc Tryd.prog Tryd.f3 false true false false W args v W' := by
  have hW' := hW
  obtain ⟨p, q, hA0, hV, rfl, hfz, hnd⟩ := hW
  have hA : DataW.TrodAll enc Tryd.prog W 0 (fun _ => true) true Tryd.f3.params.toList args.toList ds p := hA0
  rw [Tryd.params3] at hA hval
  obtain ⟨v0, vs0, d0, ds0, p0, q0, hargs, rfl, rfl, h0, r0⟩ := trodAll_cons hA
  obtain ⟨v1, vs1, d1, ds1, p1, q1, rfl, rfl, rfl, h1, r1⟩ := trodAll_cons r0
  obtain ⟨rfl, rfl, rfl⟩ := trodAll_nil r1
  obtain rfl : args = #[v0, v1] := by cases args; simp_all
  obtain ⟨rfl, rfl⟩ := trodVars_none hV
  have k0 := h0
  have lt0 : ∀ x ∈ p0, x.block < W.heap.size := by obtain ⟨m, hm⟩ := k0; exact DataW.trod_lt m _ _ _ hm
  obtain ⟨l0, hl0, rfl, w0⟩ := open_flat (k := 8) (n := 5) (by kernel_rfl) (by kernel_rfl) (by kernel_rfl) (hval 0 24 v0 rfl rfl) h0
  obtain ⟨x0_0, x0_1, x0_2, x0_3, x0_4, rfl⟩ := len5 hl0
  have k1 := h1
  have lt1 : ∀ x ∈ p1, x.block < W.heap.size := by obtain ⟨m, hm⟩ := k1; exact DataW.trod_lt m _ _ _ hm
  obtain ⟨a1, rfl, rfl, rfl, w1⟩ := open_string Tryd.underlying9 (hval 1 9 v1 rfl rfl) h1
  have b1 : a1.size ≤ 2000000 := Nat.le_trans (bulk_string (l := a1.data.toList) (by simp) hk) (by omega)
  clear hA0
  refine (benchReadsW W x0_0 x0_1 x0_2 x0_3 x0_4 a1 b1 (gl_of hL hS)).mono fun e W' ⟨he, bel⟩ => ?_
  subst he
  exact ⟨_, rfl, _, _, _, [], _, [], hW', trodAll_mk1 (shut_bool Tryd.underlying4 _), (trodAll_cons_mk (Below.trod laidOut (by kernel_rfl) (of_decide_eq_true (by kernel_rfl)) k0 bel lt0) (trodAll_cons_mk (Below.trod laidOut (by kernel_rfl) (of_decide_eq_true (by kernel_rfl)) k1 bel lt1) (trodAll_mk0))), rfl, bel.frame _, fun h => by cases h⟩
theorem laid_met (os : Os) : laidMetH Tryd.prog Rows.benchReadsUptoRow.laid ((World.laidAll Tryd.prog os Rows.benchReadsUptoRow.laid).forCall (fun _ _ => 0) ⟨#[], #[.agg #[.int .i64 0, .int .i64 0, .int .i64 0, .int .i64 0, .int .i64 0], .string ⟨#[]⟩], []⟩).memory := by
  rw [MakeChecks.laidMetH_plain _ _ _ (by kernel_rfl)]; exact laidMet_laidAll _ (by kernel_rfl) (by kernel_rfl)
theorem reads (os : Os) {H : Type} (enc : TypeId × Value → H) : ∃ places, DataW.whole enc Tryd.prog ((World.laidAll Tryd.prog os Rows.benchReadsUptoRow.laid).forCall (fun _ _ => 0) ⟨#[], #[.agg #[.int .i64 0, .int .i64 0, .int .i64 0, .int .i64 0, .int .i64 0], .string ⟨#[]⟩], []⟩).memory Tryd.f3.params.toList Rows.benchReadsSpec.vars false (#[.agg #[.int .i64 0, .int .i64 0, .int .i64 0, .int .i64 0, .int .i64 0], .string ⟨#[]⟩] : Array Value).toList 8 = some ([.agg [.agg [.lit (.int .i64 0), .lit (.int .i64 0)], .lit (.int .i64 0), .lit (.int .i64 0), .lit (.int .i64 0)], .lit (.string [])], [], places) :=
  ⟨[], by kernel_rfl⟩
theorem okw (os : Os) : Input.okWideB Tryd.prog ((World.laidAll Tryd.prog os Rows.benchReadsUptoRow.laid).forCall (fun _ _ => 0) ⟨#[], #[.agg #[.int .i64 0, .int .i64 0, .int .i64 0, .int .i64 0, .int .i64 0], .string ⟨#[]⟩], []⟩) 3 ⟨#[], #[.agg #[.int .i64 0, .int .i64 0, .int .i64 0, .int .i64 0, .int .i64 0], .string ⟨#[]⟩], []⟩ = true := by kernel_rfl
set_option maxRecDepth 100000 in
theorem lifted (os : Os) (started : os.Started) (H : Type) (enc : TypeId × Value → H) (F : Stop.Interp) :
    ReturnsInHanded {} Tryd.checked os 3 .any ((Rows.OpenSpec.upto Rows.benchReadsSpec).preRow enc Tryd.prog Tryd.f3 Rows.benchReadsUptoRow.domain false Rows.benchReadsUptoRow.laid) (((Rows.OpenSpec.upto Rows.benchReadsSpec).at F).post enc Tryd.prog Tryd.f3 false true false false) := by
  obtain ⟨places, hx⟩ := reads os enc
  refine returnsInHanded_of_row (C := Tryd.checked) (s := Rows.OpenSpec.upto Rows.benchReadsSpec) own started (by kernel_rfl) Tryd.func3
    ⟨World.laidAll Tryd.prog os Rows.benchReadsUptoRow.laid, fun _ _ => 0, ⟨#[], #[.agg #[.int .i64 0, .int .i64 0, .int .i64 0, .int .i64 0, .int .i64 0], .string ⟨#[]⟩], []⟩, World.laidAll_os _ _ _, World.shaped_of_ZipB (by kernel_rfl) (by kernel_rfl), (Input.okWide_of_okWideB (base := 0) (okw os)).1, (Input.okWide_of_okWideB (okw os)).2,
      OpenSpec.preRow_of_cond 8 hx (by kernel_rfl) (fun k hk => by cases hk; kernel_rfl) (by kernel_rfl) (laid_met os), by
        simp only [Assume.holds]
        exact ⟨by simp, by simp, fun _ => Modest.zero, by simp, by simp⟩⟩ ?_
  intro W base args ds gs before hval hW _ hcond hsz hL hS _
  exact contract H enc W base args ds gs before hval hW hL hS hsz (hcond _ rfl)
theorem said : Rows.BenchReadsUptoSaid :=
  OpenClaim.holds_of_cond 3 Tryd.f3 rfl rfl rfl rfl rfl rfl rfl ⟨rfl, rfl, rfl, rfl, rfl⟩ rfl rfl rfl rfl rfl (by kernel_rfl) Tryd.func3 (by kernel_rfl)
    (of_decide_eq_true (by kernel_rfl)) (by unfold Func.isWrapper; first | (rw [if_pos (by decide +kernel)]; kernel_rfl) | (rw [if_neg (by decide +kernel)]; exact ⟨rfl, rfl⟩))
    (fun os started H enc _ F => by rw [OpenClaim.pre_eq_preRow]; exact lifted os started H enc F)
theorem plain (f : FuncId) (fn : Func) (hf : Tryd.pinned.checked.prog.funcNamed "tidewait/tidewaitlaw.BenchReads" = some f) (hfn : Tryd.pinned.checked.prog.funcs[f]? = some fn) :
    true = Tryd.pinned.checked.prog.looks [] ∧ ∀ (j : Nat) t, fn.params[j]? = some t → Tryd.pinned.checked.prog.wantsStandIn t = false := by
  obtain rfl : f = 3 := Option.some.inj ((show Tryd.prog.funcNamed "tidewait/tidewaitlaw.BenchReads" = some 3 by kernel_rfl).symm.trans hf) |>.symm
  obtain rfl : fn = Tryd.f3 := (Option.some.inj (Tryd.func3.symm.trans hfn)).symm
  refine ⟨by kernel_rfl, fun j t ht => ?_⟩
  rw [Tryd.params3] at ht
  have hm : t ∈ [24, 9] := by simpa using Array.mem_of_getElem? ht
  have hall : ([24, 9].all fun u => !Tryd.prog.wantsStandIn u) = true := by kernel_rfl
  exact (show Tryd.prog.wantsStandIn t = false by simpa using List.all_eq_true.1 hall t hm)
theorem holds : Rows.BenchReadsUptoCardSaid :=
  Claim7.holds_tied_plain_at .later [] _ _ _ _ said (fun _ h => by cases h) (by kernel_rfl) (fun _ h => by cases h) benchReadsUpto_row_tie rfl ⟨rfl, rfl⟩ (by kernel_rfl) rfl plain (by kernel_rfl)
end benchReadsLaw

end Go.Proofs.YtjjikhaaimfneaaDoor
