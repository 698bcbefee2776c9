/-
  No cell of these rows narrows 'for every input' (looked for: loops, veiled, ifaces, maps, wideKeys, modest, calm, conditions, laid).
  DERIVED. THE GIVEN ROWS OF THIS SEAT. 4 by the template 'for every input the law returns true; each argument reads behind the call as it read before'; 0 by the template 'total and deterministic' (their statements: YthjicnddfjpnjaaTotals.lean).
  GIVEN WITH THE SEED: the statements are not yours to turn. If you find one false, say at which input.
  Laid BY PROGRAM, IN A SANDBOX (cutbox-rows.mjs): the forced cells as the released guide's own fill.sh prints them over the translation 6ae2df9256593f20… (all of the seat's roots in one cut). By AI agents, Wed Nov 11 2026. No macro, syntax, notation, axiom, sorry.
-/
import Derived.Test.YthjicnddfjpnjaaChecked
import GoSem.Claim
import GoSem.ClaimJoined
import GoSem.ClaimMapViews
import Derived.JoinedTies
import Derived.KernelRfl
namespace Go.Proofs.Ythjicnddfjpnjaa
/- THE CELL 'sum', in the pinned program and in every row, IS THE sha256 OF THE DUMP (.gsa) THAT YthjicnddfjpnjaaProg.lean LOADS. Nothing in Lean hashes anything: it is a label: what it is worth is what the hold of that sum in a sandbox is worth. -/
noncomputable def Try.pinned : Pinned := { name := "ythjicnddfjpnjaa", sum := "6ae2df9256593f201f4079ae6cb02cb637481e4cb78daaecb6322c8a1b1ed0c9", checked := Try.checked }
namespace Rows
def none {H : Type} : Left H := { results := [], args := [] }

/-- 'tidewaitlaw.ClockTells': WHATEVER THE INPUT: true; the input reads as it did. -/
def clockTellsSpec : ChangeSpec := { name := "clockTells", fn := fun _ => fun
  | [d1, d2, d3] => { results := [.lit (.bool true)], args := [d1, d2, d3] }
  | _ => none }
def clockTellsRow : OpenClaim := { program := "ythjicnddfjpnjaa", sum := "6ae2df9256593f201f4079ae6cb02cb637481e4cb78daaecb6322c8a1b1ed0c9", func := "tidewait/tidewaitlaw.ClockTells", spec := "clockTells", unfollowed := true, recurses := true, apart := false }
def ClockTellsSaid : Prop := clockTellsRow.holds Try.pinned (OpenSpec.ofChange clockTellsSpec)

/-- ITS FALSE NEIGHBOUR: 'it returns false'. Refute it at one input. -/
def clockTellsWrong : ChangeSpec := { name := "clockTells", fn := fun _ => fun
  | [d1, d2, d3] => { results := [.lit (.bool false)], args := [d1, d2, d3] }
  | _ => none }
def ClockTellsWrongFalsely : Prop := clockTellsRow.holds Try.pinned (OpenSpec.ofChange clockTellsWrong)

/-- 'tidewaitlaw.ShareTells': WHATEVER THE INPUT: true; the input reads as it did. -/
def shareTellsSpec : ChangeSpec := { name := "shareTells", fn := fun _ => fun
  | [d1, d2] => { results := [.lit (.bool true)], args := [d1, d2] }
  | _ => none }
def shareTellsRow : OpenClaim := { program := "ythjicnddfjpnjaa", sum := "6ae2df9256593f201f4079ae6cb02cb637481e4cb78daaecb6322c8a1b1ed0c9", func := "tidewait/tidewaitlaw.ShareTells", spec := "shareTells", unfollowed := true, recurses := true, apart := false }
def ShareTellsSaid : Prop := shareTellsRow.holds Try.pinned (OpenSpec.ofChange shareTellsSpec)

/-- ITS FALSE NEIGHBOUR: 'it returns false'. Refute it at one input. -/
def shareTellsWrong : ChangeSpec := { name := "shareTells", fn := fun _ => fun
  | [d1, d2] => { results := [.lit (.bool false)], args := [d1, d2] }
  | _ => none }
def ShareTellsWrongFalsely : Prop := shareTellsRow.holds Try.pinned (OpenSpec.ofChange shareTellsWrong)

/-- 'tidewaitlaw.MeanTells': WHATEVER THE INPUT: true; the input reads as it did. -/
def meanTellsSpec : ChangeSpec := { name := "meanTells", fn := fun _ => fun
  | [d] => { results := [.lit (.bool true)], args := [d] }
  | _ => none }
def meanTellsRow : OpenClaim := { program := "ythjicnddfjpnjaa", sum := "6ae2df9256593f201f4079ae6cb02cb637481e4cb78daaecb6322c8a1b1ed0c9", func := "tidewait/tidewaitlaw.MeanTells", spec := "meanTells", recurses := true, apart := false }
def MeanTellsSaid : Prop := meanTellsRow.holds Try.pinned (OpenSpec.ofChange meanTellsSpec)

/-- ITS FALSE NEIGHBOUR: 'it returns false'. Refute it at one input. -/
def meanTellsWrong : ChangeSpec := { name := "meanTells", fn := fun _ => fun
  | [d] => { results := [.lit (.bool false)], args := [d] }
  | _ => none }
def MeanTellsWrongFalsely : Prop := meanTellsRow.holds Try.pinned (OpenSpec.ofChange meanTellsWrong)

/-- 'tidewaitlaw.WindowTells': WHATEVER THE INPUT: true; the input reads as it did. -/
def windowTellsSpec : ChangeSpec := { name := "windowTells", fn := fun _ => fun
  | [d1, d2, d3, d4] => { results := [.lit (.bool true)], args := [d1, d2, d3, d4] }
  | _ => none }
def windowTellsRow : OpenClaim := { program := "ythjicnddfjpnjaa", sum := "6ae2df9256593f201f4079ae6cb02cb637481e4cb78daaecb6322c8a1b1ed0c9", func := "tidewait/tidewaitlaw.WindowTells", spec := "windowTells", unfollowed := true, recurses := true, apart := false }
def WindowTellsSaid : Prop := windowTellsRow.holds Try.pinned (OpenSpec.ofChange windowTellsSpec)

/-- ITS FALSE NEIGHBOUR: 'it returns false'. Refute it at one input. -/
def windowTellsWrong : ChangeSpec := { name := "windowTells", fn := fun _ => fun
  | [d1, d2, d3, d4] => { results := [.lit (.bool false)], args := [d1, d2, d3, d4] }
  | _ => none }
def WindowTellsWrongFalsely : Prop := windowTellsRow.holds Try.pinned (OpenSpec.ofChange windowTellsWrong)

/- THE SECOND FORM. 'bulk': how many values and letters a reading holds, each counted each time it is reached (what is shared counts as often as it is met; a slice's spare places count too). A statement '..UptoSaid' is the law's where the arguments, and the package variables that the reading takes, are together of bulk at most 1048576: NARROWER than '..Said'. Prove '..Said' where nothing that the law and all that it calls make is longer than what came in: it says more and counts as full. Else prove '..UptoSaid'. A law counts once. -/
mutual
def uptoBulk {H : Type} : DataW H → Nat
  | .lit (.string bytes) => bytes.length + 1
  | .lit _ => 1
  | .nil => 1
  | .ptr d => uptoBulk d + 1
  | .slice elems spare => uptoBulkAll elems + uptoBulkAll spare + 1
  | .agg parts => uptoBulkAll parts + 1
  | .iface _ d => uptoBulk d + 1
  | .map entries => uptoBulkEntries entries + 1
  | .held _ => 1
def uptoBulkAll {H : Type} : List (DataW H) → Nat
  | [] => 0
  | d :: r => uptoBulk d + uptoBulkAll r
def uptoBulkEntries {H : Type} : List (Lit × DataW H) → Nat
  | [] => 0
  | x :: r => uptoBulkEntry x + uptoBulkEntries r
def uptoBulkEntry {H : Type} : Lit × DataW H → Nat
  | (.string bytes, d) => bytes.length + uptoBulk d + 1
  | (_, d) => uptoBulk d + 1
 end
def uptoSmall : (H : Type) → List (DataW H) → Bool := fun _ ds => decide (uptoBulkAll ds ≤ 1048576)
def OpenSpec.upto (s : _root_.Go.ChangeSpec) : _root_.Go.OpenSpec := { _root_.Go.OpenSpec.ofChange s with cond := some uptoSmall }

/-- 'tidewaitlaw.ClockTells', WHERE WHAT IT READS IS OF BULK AT MOST 1048576: true; the input reads as it did. -/
def clockTellsUptoRow : OpenClaim := { program := "ythjicnddfjpnjaa", sum := "6ae2df9256593f201f4079ae6cb02cb637481e4cb78daaecb6322c8a1b1ed0c9", func := "tidewait/tidewaitlaw.ClockTells", spec := "clockTells", unfollowed := true, recurses := true, apart := false, narrowed := true }
def ClockTellsUptoSaid : Prop := clockTellsUptoRow.holds Try.pinned (OpenSpec.upto clockTellsSpec)

/-- 'tidewaitlaw.ShareTells', WHERE WHAT IT READS IS OF BULK AT MOST 1048576: true; the input reads as it did. -/
def shareTellsUptoRow : OpenClaim := { program := "ythjicnddfjpnjaa", sum := "6ae2df9256593f201f4079ae6cb02cb637481e4cb78daaecb6322c8a1b1ed0c9", func := "tidewait/tidewaitlaw.ShareTells", spec := "shareTells", unfollowed := true, recurses := true, apart := false, narrowed := true }
def ShareTellsUptoSaid : Prop := shareTellsUptoRow.holds Try.pinned (OpenSpec.upto shareTellsSpec)

/-- 'tidewaitlaw.MeanTells', WHERE WHAT IT READS IS OF BULK AT MOST 1048576: true; the input reads as it did. -/
def meanTellsUptoRow : OpenClaim := { program := "ythjicnddfjpnjaa", sum := "6ae2df9256593f201f4079ae6cb02cb637481e4cb78daaecb6322c8a1b1ed0c9", func := "tidewait/tidewaitlaw.MeanTells", spec := "meanTells", recurses := true, apart := false, narrowed := true }
def MeanTellsUptoSaid : Prop := meanTellsUptoRow.holds Try.pinned (OpenSpec.upto meanTellsSpec)

/-- 'tidewaitlaw.WindowTells', WHERE WHAT IT READS IS OF BULK AT MOST 1048576: true; the input reads as it did. -/
def windowTellsUptoRow : OpenClaim := { program := "ythjicnddfjpnjaa", sum := "6ae2df9256593f201f4079ae6cb02cb637481e4cb78daaecb6322c8a1b1ed0c9", func := "tidewait/tidewaitlaw.WindowTells", spec := "windowTells", unfollowed := true, recurses := true, apart := false, narrowed := true }
def WindowTellsUptoSaid : Prop := windowTellsUptoRow.holds Try.pinned (OpenSpec.upto windowTellsSpec)

end Rows
end Go.Proofs.Ythjicnddfjpnjaa
