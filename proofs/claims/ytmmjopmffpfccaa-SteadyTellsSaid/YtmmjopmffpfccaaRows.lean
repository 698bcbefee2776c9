/-
  No cell of these rows narrows 'for every input' (looked for: loops, veiled, ifaces, maps, wideKeys, modest, calm, conditions, laid).
  DERIVED. THE GIVEN ROWS OF THIS SEAT. 3 by the template 'for every input the law returns true; each argument reads behind the call as it read before'; 0 by the template 'total and deterministic' (their statements: YtmmjopmffpfccaaTotals.lean).
  GIVEN WITH THE SEED: the statements are not yours to turn. If you find one false, say at which input.
  Laid BY PROGRAM, IN A SANDBOX (cutbox-rows.mjs): the forced cells as the released guide's own fill.sh prints them over the translation a7ce11941e28cb39… (all of the seat's roots in one cut). By AI agents, Wed Nov 11 2026. No macro, syntax, notation, axiom, sorry.
-/
import Derived.Test.YtmmjopmffpfccaaChecked
import GoSem.Claim
import GoSem.ClaimJoined
import GoSem.ClaimMapViews
import Derived.JoinedTies
import Derived.KernelRfl
namespace Go.Proofs.Ytmmjopmffpfccaa
/- THE CELL 'sum', in the pinned program and in every row, IS THE sha256 OF THE DUMP (.gsa) THAT YtmmjopmffpfccaaProg.lean LOADS. Nothing in Lean hashes anything: it is a label: what it is worth is what the hold of that sum in a sandbox is worth. -/
noncomputable def Try.pinned : Pinned := { name := "ytmmjopmffpfccaa", sum := "a7ce11941e28cb3914d9de1aad35bccd9360f1bf99587a8a2a71be2cb5c642a6", checked := Try.checked }
namespace Rows
def none {H : Type} : Left H := { results := [], args := [] }

/-- 'tidewaitlaw.DuelSteps': WHATEVER THE INPUT: true; the input reads as it did. -/
def duelStepsSpec : ChangeSpec := { name := "duelSteps", fn := fun _ => fun
  | [d1, d2, d3] => { results := [.lit (.bool true)], args := [d1, d2, d3] }
  | _ => none }
def duelStepsRow : OpenClaim := { program := "ytmmjopmffpfccaa", sum := "a7ce11941e28cb3914d9de1aad35bccd9360f1bf99587a8a2a71be2cb5c642a6", func := "tidewait/tidewaitlaw.DuelSteps", spec := "duelSteps", unfollowed := true, recurses := true, plainKeys := false, apart := false }
def DuelStepsSaid : Prop := duelStepsRow.holds Try.pinned (OpenSpec.ofChange duelStepsSpec)

/-- ITS FALSE NEIGHBOUR: 'it returns false'. Refute it at one input. -/
def duelStepsWrong : ChangeSpec := { name := "duelSteps", fn := fun _ => fun
  | [d1, d2, d3] => { results := [.lit (.bool false)], args := [d1, d2, d3] }
  | _ => none }
def DuelStepsWrongFalsely : Prop := duelStepsRow.holds Try.pinned (OpenSpec.ofChange duelStepsWrong)

/-- 'tidewaitlaw.DuelPlays': WHATEVER THE INPUT: true; the input reads as it did. -/
def duelPlaysSpec : ChangeSpec := { name := "duelPlays", fn := fun _ => fun
  | [d1, d2] => { results := [.lit (.bool true)], args := [d1, d2] }
  | _ => none }
def duelPlaysRow : OpenClaim := { program := "ytmmjopmffpfccaa", sum := "a7ce11941e28cb3914d9de1aad35bccd9360f1bf99587a8a2a71be2cb5c642a6", func := "tidewait/tidewaitlaw.DuelPlays", spec := "duelPlays", unfollowed := true, recurses := true, plainKeys := false, apart := false }
def DuelPlaysSaid : Prop := duelPlaysRow.holds Try.pinned (OpenSpec.ofChange duelPlaysSpec)

/-- ITS FALSE NEIGHBOUR: 'it returns false'. Refute it at one input. -/
def duelPlaysWrong : ChangeSpec := { name := "duelPlays", fn := fun _ => fun
  | [d1, d2] => { results := [.lit (.bool false)], args := [d1, d2] }
  | _ => none }
def DuelPlaysWrongFalsely : Prop := duelPlaysRow.holds Try.pinned (OpenSpec.ofChange duelPlaysWrong)

/-- 'tidewaitlaw.SteadyTells': WHATEVER THE INPUT: true; the input reads as it did. -/
def steadyTellsSpec : ChangeSpec := { name := "steadyTells", fn := fun _ => fun
  | [d1, d2, d3, d4] => { results := [.lit (.bool true)], args := [d1, d2, d3, d4] }
  | _ => none }
def steadyTellsRow : OpenClaim := { program := "ytmmjopmffpfccaa", sum := "a7ce11941e28cb3914d9de1aad35bccd9360f1bf99587a8a2a71be2cb5c642a6", func := "tidewait/tidewaitlaw.SteadyTells", spec := "steadyTells", unfollowed := true, recurses := true, plainKeys := false, apart := false }
def SteadyTellsSaid : Prop := steadyTellsRow.holds Try.pinned (OpenSpec.ofChange steadyTellsSpec)

/-- ITS FALSE NEIGHBOUR: 'it returns false'. Refute it at one input. -/
def steadyTellsWrong : ChangeSpec := { name := "steadyTells", fn := fun _ => fun
  | [d1, d2, d3, d4] => { results := [.lit (.bool false)], args := [d1, d2, d3, d4] }
  | _ => none }
def SteadyTellsWrongFalsely : Prop := steadyTellsRow.holds Try.pinned (OpenSpec.ofChange steadyTellsWrong)

/- THE SECOND FORM. 'bulk': how many values and letters a reading holds, each counted each time it is reached (what is shared counts as often as it is met; a slice's spare places count too). A statement '..UptoSaid' is the law's where the arguments, and the package variables that the reading takes, are together of bulk at most 1048576: NARROWER than '..Said'. Prove '..Said' where nothing that the law and all that it calls make is longer than what came in: it says more and counts as full. Else prove '..UptoSaid'. A law counts once. -/
mutual
def uptoBulk {H : Type} : DataW H → Nat
  | .lit (.string bytes) => bytes.length + 1
  | .lit _ => 1
  | .nil => 1
  | .ptr d => uptoBulk d + 1
  | .slice elems spare => uptoBulkAll elems + uptoBulkAll spare + 1
  | .agg parts => uptoBulkAll parts + 1
  | .iface _ d => uptoBulk d + 1
  | .map entries => uptoBulkEntries entries + 1
  | .held _ => 1
def uptoBulkAll {H : Type} : List (DataW H) → Nat
  | [] => 0
  | d :: r => uptoBulk d + uptoBulkAll r
def uptoBulkEntries {H : Type} : List (Lit × DataW H) → Nat
  | [] => 0
  | x :: r => uptoBulkEntry x + uptoBulkEntries r
def uptoBulkEntry {H : Type} : Lit × DataW H → Nat
  | (.string bytes, d) => bytes.length + uptoBulk d + 1
  | (_, d) => uptoBulk d + 1
 end
def uptoSmall : (H : Type) → List (DataW H) → Bool := fun _ ds => decide (uptoBulkAll ds ≤ 1048576)
def OpenSpec.upto (s : _root_.Go.ChangeSpec) : _root_.Go.OpenSpec := { _root_.Go.OpenSpec.ofChange s with cond := some uptoSmall }

/-- 'tidewaitlaw.DuelSteps', WHERE WHAT IT READS IS OF BULK AT MOST 1048576: true; the input reads as it did. -/
def duelStepsUptoRow : OpenClaim := { program := "ytmmjopmffpfccaa", sum := "a7ce11941e28cb3914d9de1aad35bccd9360f1bf99587a8a2a71be2cb5c642a6", func := "tidewait/tidewaitlaw.DuelSteps", spec := "duelSteps", unfollowed := true, recurses := true, plainKeys := false, apart := false, narrowed := true }
def DuelStepsUptoSaid : Prop := duelStepsUptoRow.holds Try.pinned (OpenSpec.upto duelStepsSpec)

/-- 'tidewaitlaw.DuelPlays', WHERE WHAT IT READS IS OF BULK AT MOST 1048576: true; the input reads as it did. -/
def duelPlaysUptoRow : OpenClaim := { program := "ytmmjopmffpfccaa", sum := "a7ce11941e28cb3914d9de1aad35bccd9360f1bf99587a8a2a71be2cb5c642a6", func := "tidewait/tidewaitlaw.DuelPlays", spec := "duelPlays", unfollowed := true, recurses := true, plainKeys := false, apart := false, narrowed := true }
def DuelPlaysUptoSaid : Prop := duelPlaysUptoRow.holds Try.pinned (OpenSpec.upto duelPlaysSpec)

/-- 'tidewaitlaw.SteadyTells', WHERE WHAT IT READS IS OF BULK AT MOST 1048576: true; the input reads as it did. -/
def steadyTellsUptoRow : OpenClaim := { program := "ytmmjopmffpfccaa", sum := "a7ce11941e28cb3914d9de1aad35bccd9360f1bf99587a8a2a71be2cb5c642a6", func := "tidewait/tidewaitlaw.SteadyTells", spec := "steadyTells", unfollowed := true, recurses := true, plainKeys := false, apart := false, narrowed := true }
def SteadyTellsUptoSaid : Prop := steadyTellsUptoRow.holds Try.pinned (OpenSpec.upto steadyTellsSpec)

end Rows
end Go.Proofs.Ytmmjopmffpfccaa
