/-
  No cell of these rows narrows 'for every input' (looked for: loops, veiled, ifaces, maps, wideKeys, modest, calm, conditions, laid).
  DERIVED. THE GIVEN ROWS OF THIS SEAT. 10 by the template 'for every input the law returns true; each argument reads behind the call as it read before'; 0 by the template 'total and deterministic' (their statements: YtdlljemabbccjaaTotals.lean).
  GIVEN WITH THE SEED: the statements are not yours to turn. If you find one false, say at which input.
  Laid BY PROGRAM, IN A SANDBOX (cutbox-rows.mjs): the forced cells as the released guide's own fill.sh prints them over the translation 6384ffd37b9e2f1b… (all of the seat's roots in one cut). By AI agents, Wed Nov 11 2026. No macro, syntax, notation, axiom, sorry.
-/
import Derived.Test.YtdlljemabbccjaaChecked
import GoSem.Claim
import GoSem.ClaimJoined
import GoSem.ClaimMapViews
import Derived.JoinedTies
import Derived.KernelRfl
namespace Go.Proofs.Ytdlljemabbccjaa
/- THE CELL 'sum', in the pinned program and in every row, IS THE sha256 OF THE DUMP (.gsa) THAT YtdlljemabbccjaaProg.lean LOADS. Nothing in Lean hashes anything: it is a label: what it is worth is what the hold of that sum in a sandbox is worth. -/
noncomputable def Try.pinned : Pinned := { name := "ytdlljemabbccjaa", sum := "6384ffd37b9e2f1bdfb6bc5db335c0fa5e47b72d83fe8e0bd9b1ca510e5d967f", checked := Try.checked }
namespace Rows
def none {H : Type} : Left H := { results := [], args := [] }

/-- 'tidewaittop.Names': WHATEVER THE INPUT: true; the input reads as it did. -/
def namesSpec : ChangeSpec := { name := "names", fn := fun _ => fun
  | [] => { results := [.lit (.bool true)], args := [] }
  | _ => none }
def namesRow : OpenClaim := { program := "ytdlljemabbccjaa", sum := "6384ffd37b9e2f1bdfb6bc5db335c0fa5e47b72d83fe8e0bd9b1ca510e5d967f", func := "tidewait/tidewaittop.Names", spec := "names", apart := false }
def NamesSaid : Prop := namesRow.holds Try.pinned (OpenSpec.ofChange namesSpec)

/-- ITS FALSE NEIGHBOUR: 'it returns false'. Refute it at one input. -/
def namesWrong : ChangeSpec := { name := "names", fn := fun _ => fun
  | [] => { results := [.lit (.bool false)], args := [] }
  | _ => none }
def NamesWrongFalsely : Prop := namesRow.holds Try.pinned (OpenSpec.ofChange namesWrong)

/-- 'tidewaitlaw.NumTells': WHATEVER THE INPUT: true; the input reads as it did. -/
def numTellsSpec : ChangeSpec := { name := "numTells", fn := fun _ => fun
  | [d1, d2, d3] => { results := [.lit (.bool true)], args := [d1, d2, d3] }
  | _ => none }
def numTellsRow : OpenClaim := { program := "ytdlljemabbccjaa", sum := "6384ffd37b9e2f1bdfb6bc5db335c0fa5e47b72d83fe8e0bd9b1ca510e5d967f", func := "tidewait/tidewaitlaw.NumTells", spec := "numTells", named := ["math/bits.divideError", "math/bits.overflowError"], apart := false }
def NumTellsSaid : Prop := numTellsRow.holds Try.pinned (OpenSpec.ofChange numTellsSpec)

/-- ITS FALSE NEIGHBOUR: 'it returns false'. Refute it at one input. -/
def numTellsWrong : ChangeSpec := { name := "numTells", fn := fun _ => fun
  | [d1, d2, d3] => { results := [.lit (.bool false)], args := [d1, d2, d3] }
  | _ => none }
def NumTellsWrongFalsely : Prop := numTellsRow.holds Try.pinned (OpenSpec.ofChange numTellsWrong)

/-- 'tidewaitlaw.ShareTells': WHATEVER THE INPUT: true; the input reads as it did. -/
def shareTellsSpec : ChangeSpec := { name := "shareTells", fn := fun _ => fun
  | [d1, d2] => { results := [.lit (.bool true)], args := [d1, d2] }
  | _ => none }
def shareTellsRow : OpenClaim := { program := "ytdlljemabbccjaa", sum := "6384ffd37b9e2f1bdfb6bc5db335c0fa5e47b72d83fe8e0bd9b1ca510e5d967f", func := "tidewait/tidewaitlaw.ShareTells", spec := "shareTells", unfollowed := true, recurses := true, apart := false }
def ShareTellsSaid : Prop := shareTellsRow.holds Try.pinned (OpenSpec.ofChange shareTellsSpec)

/-- ITS FALSE NEIGHBOUR: 'it returns false'. Refute it at one input. -/
def shareTellsWrong : ChangeSpec := { name := "shareTells", fn := fun _ => fun
  | [d1, d2] => { results := [.lit (.bool false)], args := [d1, d2] }
  | _ => none }
def ShareTellsWrongFalsely : Prop := shareTellsRow.holds Try.pinned (OpenSpec.ofChange shareTellsWrong)

/-- 'tidewaitlaw.QueuePlays': WHATEVER THE INPUT: true; the input reads as it did. -/
def queuePlaysSpec : ChangeSpec := { name := "queuePlays", fn := fun _ => fun
  | [d1, d2, d3] => { results := [.lit (.bool true)], args := [d1, d2, d3] }
  | _ => none }
def queuePlaysRow : OpenClaim := { program := "ytdlljemabbccjaa", sum := "6384ffd37b9e2f1bdfb6bc5db335c0fa5e47b72d83fe8e0bd9b1ca510e5d967f", func := "tidewait/tidewaitlaw.QueuePlays", spec := "queuePlays", unfollowed := true, recurses := true, apart := false }
def QueuePlaysSaid : Prop := queuePlaysRow.holds Try.pinned (OpenSpec.ofChange queuePlaysSpec)

/-- ITS FALSE NEIGHBOUR: 'it returns false'. Refute it at one input. -/
def queuePlaysWrong : ChangeSpec := { name := "queuePlays", fn := fun _ => fun
  | [d1, d2, d3] => { results := [.lit (.bool false)], args := [d1, d2, d3] }
  | _ => none }
def QueuePlaysWrongFalsely : Prop := queuePlaysRow.holds Try.pinned (OpenSpec.ofChange queuePlaysWrong)

/-- 'tidewaitlaw.LinkPasses': WHATEVER THE INPUT: true; the input reads as it did. -/
def linkPassesSpec : ChangeSpec := { name := "linkPasses", fn := fun _ => fun
  | [d1, d2, d3, d4] => { results := [.lit (.bool true)], args := [d1, d2, d3, d4] }
  | _ => none }
def linkPassesRow : OpenClaim := { program := "ytdlljemabbccjaa", sum := "6384ffd37b9e2f1bdfb6bc5db335c0fa5e47b72d83fe8e0bd9b1ca510e5d967f", func := "tidewait/tidewaitlaw.LinkPasses", spec := "linkPasses", unfollowed := true, recurses := true, apart := false }
def LinkPassesSaid : Prop := linkPassesRow.holds Try.pinned (OpenSpec.ofChange linkPassesSpec)

/-- ITS FALSE NEIGHBOUR: 'it returns false'. Refute it at one input. -/
def linkPassesWrong : ChangeSpec := { name := "linkPasses", fn := fun _ => fun
  | [d1, d2, d3, d4] => { results := [.lit (.bool false)], args := [d1, d2, d3, d4] }
  | _ => none }
def LinkPassesWrongFalsely : Prop := linkPassesRow.holds Try.pinned (OpenSpec.ofChange linkPassesWrong)

/-- 'tidewaitlaw.ClockTells': WHATEVER THE INPUT: true; the input reads as it did. -/
def clockTellsSpec : ChangeSpec := { name := "clockTells", fn := fun _ => fun
  | [d1, d2, d3] => { results := [.lit (.bool true)], args := [d1, d2, d3] }
  | _ => none }
def clockTellsRow : OpenClaim := { program := "ytdlljemabbccjaa", sum := "6384ffd37b9e2f1bdfb6bc5db335c0fa5e47b72d83fe8e0bd9b1ca510e5d967f", func := "tidewait/tidewaitlaw.ClockTells", spec := "clockTells", unfollowed := true, recurses := true, apart := false }
def ClockTellsSaid : Prop := clockTellsRow.holds Try.pinned (OpenSpec.ofChange clockTellsSpec)

/-- ITS FALSE NEIGHBOUR: 'it returns false'. Refute it at one input. -/
def clockTellsWrong : ChangeSpec := { name := "clockTells", fn := fun _ => fun
  | [d1, d2, d3] => { results := [.lit (.bool false)], args := [d1, d2, d3] }
  | _ => none }
def ClockTellsWrongFalsely : Prop := clockTellsRow.holds Try.pinned (OpenSpec.ofChange clockTellsWrong)

/-- 'tidewaitlaw.WindowTells': WHATEVER THE INPUT: true; the input reads as it did. -/
def windowTellsSpec : ChangeSpec := { name := "windowTells", fn := fun _ => fun
  | [d1, d2, d3, d4] => { results := [.lit (.bool true)], args := [d1, d2, d3, d4] }
  | _ => none }
def windowTellsRow : OpenClaim := { program := "ytdlljemabbccjaa", sum := "6384ffd37b9e2f1bdfb6bc5db335c0fa5e47b72d83fe8e0bd9b1ca510e5d967f", func := "tidewait/tidewaitlaw.WindowTells", spec := "windowTells", unfollowed := true, recurses := true, apart := false }
def WindowTellsSaid : Prop := windowTellsRow.holds Try.pinned (OpenSpec.ofChange windowTellsSpec)

/-- ITS FALSE NEIGHBOUR: 'it returns false'. Refute it at one input. -/
def windowTellsWrong : ChangeSpec := { name := "windowTells", fn := fun _ => fun
  | [d1, d2, d3, d4] => { results := [.lit (.bool false)], args := [d1, d2, d3, d4] }
  | _ => none }
def WindowTellsWrongFalsely : Prop := windowTellsRow.holds Try.pinned (OpenSpec.ofChange windowTellsWrong)

/-- 'tidewaitlaw.PotentialTells': WHATEVER THE INPUT: true; the input reads as it did. -/
def potentialTellsSpec : ChangeSpec := { name := "potentialTells", fn := fun _ => fun
  | [d1, d2] => { results := [.lit (.bool true)], args := [d1, d2] }
  | _ => none }
def potentialTellsRow : OpenClaim := { program := "ytdlljemabbccjaa", sum := "6384ffd37b9e2f1bdfb6bc5db335c0fa5e47b72d83fe8e0bd9b1ca510e5d967f", func := "tidewait/tidewaitlaw.PotentialTells", spec := "potentialTells", apart := false }
def PotentialTellsSaid : Prop := potentialTellsRow.holds Try.pinned (OpenSpec.ofChange potentialTellsSpec)

/-- ITS FALSE NEIGHBOUR: 'it returns false'. Refute it at one input. -/
def potentialTellsWrong : ChangeSpec := { name := "potentialTells", fn := fun _ => fun
  | [d1, d2] => { results := [.lit (.bool false)], args := [d1, d2] }
  | _ => none }
def PotentialTellsWrongFalsely : Prop := potentialTellsRow.holds Try.pinned (OpenSpec.ofChange potentialTellsWrong)

/-- 'tidewaitlaw.PotentialCycle': WHATEVER THE INPUT: true; the input reads as it did. -/
def potentialCycleSpec : ChangeSpec := { name := "potentialCycle", fn := fun _ => fun
  | [d] => { results := [.lit (.bool true)], args := [d] }
  | _ => none }
def potentialCycleRow : OpenClaim := { program := "ytdlljemabbccjaa", sum := "6384ffd37b9e2f1bdfb6bc5db335c0fa5e47b72d83fe8e0bd9b1ca510e5d967f", func := "tidewait/tidewaitlaw.PotentialCycle", spec := "potentialCycle", apart := false }
def PotentialCycleSaid : Prop := potentialCycleRow.holds Try.pinned (OpenSpec.ofChange potentialCycleSpec)

/-- ITS FALSE NEIGHBOUR: 'it returns false'. Refute it at one input. -/
def potentialCycleWrong : ChangeSpec := { name := "potentialCycle", fn := fun _ => fun
  | [d] => { results := [.lit (.bool false)], args := [d] }
  | _ => none }
def PotentialCycleWrongFalsely : Prop := potentialCycleRow.holds Try.pinned (OpenSpec.ofChange potentialCycleWrong)

/-- 'tidewaitlaw.MeanTells': WHATEVER THE INPUT: true; the input reads as it did. -/
def meanTellsSpec : ChangeSpec := { name := "meanTells", fn := fun _ => fun
  | [d] => { results := [.lit (.bool true)], args := [d] }
  | _ => none }
def meanTellsRow : OpenClaim := { program := "ytdlljemabbccjaa", sum := "6384ffd37b9e2f1bdfb6bc5db335c0fa5e47b72d83fe8e0bd9b1ca510e5d967f", func := "tidewait/tidewaitlaw.MeanTells", spec := "meanTells", recurses := true, apart := false }
def MeanTellsSaid : Prop := meanTellsRow.holds Try.pinned (OpenSpec.ofChange meanTellsSpec)

/-- ITS FALSE NEIGHBOUR: 'it returns false'. Refute it at one input. -/
def meanTellsWrong : ChangeSpec := { name := "meanTells", fn := fun _ => fun
  | [d] => { results := [.lit (.bool false)], args := [d] }
  | _ => none }
def MeanTellsWrongFalsely : Prop := meanTellsRow.holds Try.pinned (OpenSpec.ofChange meanTellsWrong)

/- THE SECOND FORM. 'bulk': how many values and letters a reading holds, each counted each time it is reached (what is shared counts as often as it is met; a slice's spare places count too). A statement '..UptoSaid' is the law's where the arguments, and the package variables that the reading takes, are together of bulk at most 1048576: NARROWER than '..Said'. Prove '..Said' where nothing that the law and all that it calls make is longer than what came in: it says more and counts as full. Else prove '..UptoSaid'. A law counts once. -/
mutual
def uptoBulk {H : Type} : DataW H → Nat
  | .lit (.string bytes) => bytes.length + 1
  | .lit _ => 1
  | .nil => 1
  | .ptr d => uptoBulk d + 1
  | .slice elems spare => uptoBulkAll elems + uptoBulkAll spare + 1
  | .agg parts => uptoBulkAll parts + 1
  | .iface _ d => uptoBulk d + 1
  | .map entries => uptoBulkEntries entries + 1
  | .held _ => 1
def uptoBulkAll {H : Type} : List (DataW H) → Nat
  | [] => 0
  | d :: r => uptoBulk d + uptoBulkAll r
def uptoBulkEntries {H : Type} : List (Lit × DataW H) → Nat
  | [] => 0
  | x :: r => uptoBulkEntry x + uptoBulkEntries r
def uptoBulkEntry {H : Type} : Lit × DataW H → Nat
  | (.string bytes, d) => bytes.length + uptoBulk d + 1
  | (_, d) => uptoBulk d + 1
 end
def uptoSmall : (H : Type) → List (DataW H) → Bool := fun _ ds => decide (uptoBulkAll ds ≤ 1048576)
def OpenSpec.upto (s : _root_.Go.ChangeSpec) : _root_.Go.OpenSpec := { _root_.Go.OpenSpec.ofChange s with cond := some uptoSmall }

/-- 'tidewaittop.Names', WHERE WHAT IT READS IS OF BULK AT MOST 1048576: true; the input reads as it did. -/
def namesUptoRow : OpenClaim := { program := "ytdlljemabbccjaa", sum := "6384ffd37b9e2f1bdfb6bc5db335c0fa5e47b72d83fe8e0bd9b1ca510e5d967f", func := "tidewait/tidewaittop.Names", spec := "names", apart := false, narrowed := true }
def NamesUptoSaid : Prop := namesUptoRow.holds Try.pinned (OpenSpec.upto namesSpec)

/-- 'tidewaitlaw.NumTells', WHERE WHAT IT READS IS OF BULK AT MOST 1048576: true; the input reads as it did. -/
def numTellsUptoRow : OpenClaim := { program := "ytdlljemabbccjaa", sum := "6384ffd37b9e2f1bdfb6bc5db335c0fa5e47b72d83fe8e0bd9b1ca510e5d967f", func := "tidewait/tidewaitlaw.NumTells", spec := "numTells", named := ["math/bits.divideError", "math/bits.overflowError"], apart := false, narrowed := true }
def NumTellsUptoSaid : Prop := numTellsUptoRow.holds Try.pinned (OpenSpec.upto numTellsSpec)

/-- 'tidewaitlaw.ShareTells', WHERE WHAT IT READS IS OF BULK AT MOST 1048576: true; the input reads as it did. -/
def shareTellsUptoRow : OpenClaim := { program := "ytdlljemabbccjaa", sum := "6384ffd37b9e2f1bdfb6bc5db335c0fa5e47b72d83fe8e0bd9b1ca510e5d967f", func := "tidewait/tidewaitlaw.ShareTells", spec := "shareTells", unfollowed := true, recurses := true, apart := false, narrowed := true }
def ShareTellsUptoSaid : Prop := shareTellsUptoRow.holds Try.pinned (OpenSpec.upto shareTellsSpec)

/-- 'tidewaitlaw.QueuePlays', WHERE WHAT IT READS IS OF BULK AT MOST 1048576: true; the input reads as it did. -/
def queuePlaysUptoRow : OpenClaim := { program := "ytdlljemabbccjaa", sum := "6384ffd37b9e2f1bdfb6bc5db335c0fa5e47b72d83fe8e0bd9b1ca510e5d967f", func := "tidewait/tidewaitlaw.QueuePlays", spec := "queuePlays", unfollowed := true, recurses := true, apart := false, narrowed := true }
def QueuePlaysUptoSaid : Prop := queuePlaysUptoRow.holds Try.pinned (OpenSpec.upto queuePlaysSpec)

/-- 'tidewaitlaw.LinkPasses', WHERE WHAT IT READS IS OF BULK AT MOST 1048576: true; the input reads as it did. -/
def linkPassesUptoRow : OpenClaim := { program := "ytdlljemabbccjaa", sum := "6384ffd37b9e2f1bdfb6bc5db335c0fa5e47b72d83fe8e0bd9b1ca510e5d967f", func := "tidewait/tidewaitlaw.LinkPasses", spec := "linkPasses", unfollowed := true, recurses := true, apart := false, narrowed := true }
def LinkPassesUptoSaid : Prop := linkPassesUptoRow.holds Try.pinned (OpenSpec.upto linkPassesSpec)

/-- 'tidewaitlaw.ClockTells', WHERE WHAT IT READS IS OF BULK AT MOST 1048576: true; the input reads as it did. -/
def clockTellsUptoRow : OpenClaim := { program := "ytdlljemabbccjaa", sum := "6384ffd37b9e2f1bdfb6bc5db335c0fa5e47b72d83fe8e0bd9b1ca510e5d967f", func := "tidewait/tidewaitlaw.ClockTells", spec := "clockTells", unfollowed := true, recurses := true, apart := false, narrowed := true }
def ClockTellsUptoSaid : Prop := clockTellsUptoRow.holds Try.pinned (OpenSpec.upto clockTellsSpec)

/-- 'tidewaitlaw.WindowTells', WHERE WHAT IT READS IS OF BULK AT MOST 1048576: true; the input reads as it did. -/
def windowTellsUptoRow : OpenClaim := { program := "ytdlljemabbccjaa", sum := "6384ffd37b9e2f1bdfb6bc5db335c0fa5e47b72d83fe8e0bd9b1ca510e5d967f", func := "tidewait/tidewaitlaw.WindowTells", spec := "windowTells", unfollowed := true, recurses := true, apart := false, narrowed := true }
def WindowTellsUptoSaid : Prop := windowTellsUptoRow.holds Try.pinned (OpenSpec.upto windowTellsSpec)

/-- 'tidewaitlaw.PotentialTells', WHERE WHAT IT READS IS OF BULK AT MOST 1048576: true; the input reads as it did. -/
def potentialTellsUptoRow : OpenClaim := { program := "ytdlljemabbccjaa", sum := "6384ffd37b9e2f1bdfb6bc5db335c0fa5e47b72d83fe8e0bd9b1ca510e5d967f", func := "tidewait/tidewaitlaw.PotentialTells", spec := "potentialTells", apart := false, narrowed := true }
def PotentialTellsUptoSaid : Prop := potentialTellsUptoRow.holds Try.pinned (OpenSpec.upto potentialTellsSpec)

/-- 'tidewaitlaw.PotentialCycle', WHERE WHAT IT READS IS OF BULK AT MOST 1048576: true; the input reads as it did. -/
def potentialCycleUptoRow : OpenClaim := { program := "ytdlljemabbccjaa", sum := "6384ffd37b9e2f1bdfb6bc5db335c0fa5e47b72d83fe8e0bd9b1ca510e5d967f", func := "tidewait/tidewaitlaw.PotentialCycle", spec := "potentialCycle", apart := false, narrowed := true }
def PotentialCycleUptoSaid : Prop := potentialCycleUptoRow.holds Try.pinned (OpenSpec.upto potentialCycleSpec)

/-- 'tidewaitlaw.MeanTells', WHERE WHAT IT READS IS OF BULK AT MOST 1048576: true; the input reads as it did. -/
def meanTellsUptoRow : OpenClaim := { program := "ytdlljemabbccjaa", sum := "6384ffd37b9e2f1bdfb6bc5db335c0fa5e47b72d83fe8e0bd9b1ca510e5d967f", func := "tidewait/tidewaitlaw.MeanTells", spec := "meanTells", recurses := true, apart := false, narrowed := true }
def MeanTellsUptoSaid : Prop := meanTellsUptoRow.holds Try.pinned (OpenSpec.upto meanTellsSpec)

end Rows
end Go.Proofs.Ytdlljemabbccjaa
