/-
  DERIVED. GIVEN WITH THE SEED: THE CARDS: each row of YtjjikhaaimfneaaGreatDoorRows.lean that lists a variable, with what it lists TIED to the program's text (the seventh form; the later family's looks); each row that meets fmt, with fmt's text TOLD by the authors' own Lean function (tested against real Go, not proved from fmt's source: count such statements apart). THE CARD IS WHAT COUNTS. Prove the row's statement (the work); the ties are given (YtjjikhaaimfneaaGreatDoorTie.lean); close each card by the builder's one call (the guide's Derived/Test/ToyasCard.lean, 'card_holds'). Laid BY PROGRAM, IN A SANDBOX (cutbox-door.mjs). By AI agents, Wed Nov 11 2026. No macro, syntax, notation, axiom, sorry.
-/
import Derived.Test.YtjjikhaaimfneaaGreatDoorRows
import GoSem.ClaimSeven
namespace Go.Proofs.YtjjikhaaimfneaaGreatDoor
namespace Rows

/-- THE TIED CARD OF 'tidewaittop.TopShaped'. -/
def topShapedCard : Claim7 := { stood := { row := topShapedRow, standIns := [], harness := (true, "811c5504f379221fd98890ccc9ea0039c94536caa2c39b2f2709e1270294cfb3"), looks := true }, kinds := [], alts := [], laidByText := true, laidKinds := [.data, .data, .data, .data, .sentinel, .sentinel, .listed, .data, .pinned], laidTests := true, laidLooks := .later }
def TopShapedCardSaid : Prop := Claim7.holds Tryz.pinned (.plain (OpenSpec.ofChange topShapedSpec)) topShapedCard

/-- THE TIED CARD OF 'tidewaittop.TopGives'. -/
def topGivesCard : Claim7 := { stood := { row := topGivesRow, standIns := [], harness := (true, "811c5504f379221fd98890ccc9ea0039c94536caa2c39b2f2709e1270294cfb3"), looks := true }, kinds := [], alts := [], laidByText := true, laidKinds := [.data, .data, .data, .data, .sentinel, .sentinel, .listed, .data, .pinned], laidTests := true, laidLooks := .later }
def TopGivesCardSaid : Prop := Claim7.holds Tryz.pinned (.plain (OpenSpec.ofChange topGivesSpec)) topGivesCard

/-- THE TIED CARD OF 'tidewaitlaw.BenchTells'. -/
def benchTellsCard : Claim7 := { stood := { row := benchTellsRow, standIns := [], harness := (true, "811c5504f379221fd98890ccc9ea0039c94536caa2c39b2f2709e1270294cfb3"), looks := true }, kinds := [], alts := [], laidByText := true, laidKinds := [.data, .data, .data, .data, .sentinel, .sentinel, .listed, .data, .pinned], laidTests := true, laidLooks := .later }
def BenchTellsCardSaid : Prop := Claim7.holds Tryz.pinned (.plain (OpenSpec.ofChange benchTellsSpec)) benchTellsCard

/-- THE TIED CARD OF 'tidewaittop.TopMean'. -/
def topMeanCard : Claim7 := { stood := { row := topMeanRow, standIns := [], harness := (true, "811c5504f379221fd98890ccc9ea0039c94536caa2c39b2f2709e1270294cfb3"), looks := true }, kinds := [], alts := [], laidByText := true, laidKinds := [.data, .data, .data, .data, .sentinel, .sentinel, .listed, .data, .pinned], laidTests := true, laidLooks := .later }
def TopMeanCardSaid : Prop := Claim7.holds Tryz.pinned (.plain (OpenSpec.ofChange topMeanSpec)) topMeanCard

/-- THE SECOND FORM's CARD OF 'tidewaittop.TopShaped'. -/
def topShapedUptoCard : Claim7 := { stood := { row := topShapedUptoRow, standIns := [], harness := (true, "811c5504f379221fd98890ccc9ea0039c94536caa2c39b2f2709e1270294cfb3"), looks := true }, kinds := [], alts := [], laidByText := true, laidKinds := [.data, .data, .data, .data, .sentinel, .sentinel, .listed, .data, .pinned], laidTests := true, laidLooks := .later }
def TopShapedUptoCardSaid : Prop := Claim7.holds Tryz.pinned (.plain (OpenSpec.upto topShapedSpec)) topShapedUptoCard

/-- THE SECOND FORM's CARD OF 'tidewaittop.TopGives'. -/
def topGivesUptoCard : Claim7 := { stood := { row := topGivesUptoRow, standIns := [], harness := (true, "811c5504f379221fd98890ccc9ea0039c94536caa2c39b2f2709e1270294cfb3"), looks := true }, kinds := [], alts := [], laidByText := true, laidKinds := [.data, .data, .data, .data, .sentinel, .sentinel, .listed, .data, .pinned], laidTests := true, laidLooks := .later }
def TopGivesUptoCardSaid : Prop := Claim7.holds Tryz.pinned (.plain (OpenSpec.upto topGivesSpec)) topGivesUptoCard

/-- THE SECOND FORM's CARD OF 'tidewaitlaw.BenchTells'. -/
def benchTellsUptoCard : Claim7 := { stood := { row := benchTellsUptoRow, standIns := [], harness := (true, "811c5504f379221fd98890ccc9ea0039c94536caa2c39b2f2709e1270294cfb3"), looks := true }, kinds := [], alts := [], laidByText := true, laidKinds := [.data, .data, .data, .data, .sentinel, .sentinel, .listed, .data, .pinned], laidTests := true, laidLooks := .later }
def BenchTellsUptoCardSaid : Prop := Claim7.holds Tryz.pinned (.plain (OpenSpec.upto benchTellsSpec)) benchTellsUptoCard

/-- THE SECOND FORM's CARD OF 'tidewaittop.TopMean'. -/
def topMeanUptoCard : Claim7 := { stood := { row := topMeanUptoRow, standIns := [], harness := (true, "811c5504f379221fd98890ccc9ea0039c94536caa2c39b2f2709e1270294cfb3"), looks := true }, kinds := [], alts := [], laidByText := true, laidKinds := [.data, .data, .data, .data, .sentinel, .sentinel, .listed, .data, .pinned], laidTests := true, laidLooks := .later }
def TopMeanUptoCardSaid : Prop := Claim7.holds Tryz.pinned (.plain (OpenSpec.upto topMeanSpec)) topMeanUptoCard
end Rows
end Go.Proofs.YtjjikhaaimfneaaGreatDoor
