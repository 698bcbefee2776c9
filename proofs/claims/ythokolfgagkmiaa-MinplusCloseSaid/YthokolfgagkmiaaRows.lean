/-
  No cell of these rows narrows 'for every input' (looked for: loops, veiled, ifaces, maps, wideKeys, modest, calm, conditions, laid).
  DERIVED. THE GIVEN ROWS OF THIS SEAT. 12 by the template 'for every input the law returns true; each argument reads behind the call as it read before'; 0 by the template 'total and deterministic' (their statements: YthokolfgagkmiaaTotals.lean).
  GIVEN WITH THE SEED: the statements are not yours to turn. If you find one false, say at which input.
  Laid BY PROGRAM, IN A SANDBOX (cutbox-rows.mjs): the forced cells as the released guide's own fill.sh prints them over the translation f36eed46f40d7551… (all of the seat's roots in one cut). By AI agents, Wed Nov 11 2026. No macro, syntax, notation, axiom, sorry.
-/
import Derived.Test.YthokolfgagkmiaaChecked
import GoSem.Claim
import GoSem.ClaimJoined
import GoSem.ClaimMapViews
import Derived.JoinedTies
import Derived.KernelRfl
namespace Go.Proofs.Ythokolfgagkmiaa
/- THE CELL 'sum', in the pinned program and in every row, IS THE sha256 OF THE DUMP (.gsa) THAT YthokolfgagkmiaaProg.lean LOADS. Nothing in Lean hashes anything: it is a label: what it is worth is what the hold of that sum in a sandbox is worth. -/
noncomputable def Try.pinned : Pinned := { name := "ythokolfgagkmiaa", sum := "f36eed46f40d7551b6bea53c781f99585bfb2f0d128bb269944f7068fe625d7e", checked := Try.checked }
namespace Rows
def none {H : Type} : Left H := { results := [], args := [] }

/-- 'tidewaitlaw.LedbatTells': WHATEVER THE INPUT: true; the input reads as it did. -/
def ledbatTellsSpec : ChangeSpec := { name := "ledbatTells", fn := fun _ => fun
  | [d1, d2, d3] => { results := [.lit (.bool true)], args := [d1, d2, d3] }
  | _ => none }
def ledbatTellsRow : OpenClaim := { program := "ythokolfgagkmiaa", sum := "f36eed46f40d7551b6bea53c781f99585bfb2f0d128bb269944f7068fe625d7e", func := "tidewait/tidewaitlaw.LedbatTells", spec := "ledbatTells", apart := false }
def LedbatTellsSaid : Prop := ledbatTellsRow.holds Try.pinned (OpenSpec.ofChange ledbatTellsSpec)

/-- ITS FALSE NEIGHBOUR: 'it returns false'. Refute it at one input. -/
def ledbatTellsWrong : ChangeSpec := { name := "ledbatTells", fn := fun _ => fun
  | [d1, d2, d3] => { results := [.lit (.bool false)], args := [d1, d2, d3] }
  | _ => none }
def LedbatTellsWrongFalsely : Prop := ledbatTellsRow.holds Try.pinned (OpenSpec.ofChange ledbatTellsWrong)

/-- 'tidewaitlaw.VegasTells': WHATEVER THE INPUT: true; the input reads as it did. -/
def vegasTellsSpec : ChangeSpec := { name := "vegasTells", fn := fun _ => fun
  | [d1, d2, d3] => { results := [.lit (.bool true)], args := [d1, d2, d3] }
  | _ => none }
def vegasTellsRow : OpenClaim := { program := "ythokolfgagkmiaa", sum := "f36eed46f40d7551b6bea53c781f99585bfb2f0d128bb269944f7068fe625d7e", func := "tidewait/tidewaitlaw.VegasTells", spec := "vegasTells", apart := false }
def VegasTellsSaid : Prop := vegasTellsRow.holds Try.pinned (OpenSpec.ofChange vegasTellsSpec)

/-- ITS FALSE NEIGHBOUR: 'it returns false'. Refute it at one input. -/
def vegasTellsWrong : ChangeSpec := { name := "vegasTells", fn := fun _ => fun
  | [d1, d2, d3] => { results := [.lit (.bool false)], args := [d1, d2, d3] }
  | _ => none }
def VegasTellsWrongFalsely : Prop := vegasTellsRow.holds Try.pinned (OpenSpec.ofChange vegasTellsWrong)

/-- 'tidewaitlaw.CopaTells': WHATEVER THE INPUT: true; the input reads as it did. -/
def copaTellsSpec : ChangeSpec := { name := "copaTells", fn := fun _ => fun
  | [d1, d2, d3] => { results := [.lit (.bool true)], args := [d1, d2, d3] }
  | _ => none }
def copaTellsRow : OpenClaim := { program := "ythokolfgagkmiaa", sum := "f36eed46f40d7551b6bea53c781f99585bfb2f0d128bb269944f7068fe625d7e", func := "tidewait/tidewaitlaw.CopaTells", spec := "copaTells", apart := false }
def CopaTellsSaid : Prop := copaTellsRow.holds Try.pinned (OpenSpec.ofChange copaTellsSpec)

/-- ITS FALSE NEIGHBOUR: 'it returns false'. Refute it at one input. -/
def copaTellsWrong : ChangeSpec := { name := "copaTells", fn := fun _ => fun
  | [d1, d2, d3] => { results := [.lit (.bool false)], args := [d1, d2, d3] }
  | _ => none }
def CopaTellsWrongFalsely : Prop := copaTellsRow.holds Try.pinned (OpenSpec.ofChange copaTellsWrong)

/-- 'tidewaitlaw.CurveBoth': WHATEVER THE INPUT: true; the input reads as it did. -/
def curveBothSpec : ChangeSpec := { name := "curveBoth", fn := fun _ => fun
  | [d1, d2] => { results := [.lit (.bool true)], args := [d1, d2] }
  | _ => none }
def curveBothRow : OpenClaim := { program := "ythokolfgagkmiaa", sum := "f36eed46f40d7551b6bea53c781f99585bfb2f0d128bb269944f7068fe625d7e", func := "tidewait/tidewaitlaw.CurveBoth", spec := "curveBoth", unfollowed := true, recurses := true, apart := false }
def CurveBothSaid : Prop := curveBothRow.holds Try.pinned (OpenSpec.ofChange curveBothSpec)

/-- ITS FALSE NEIGHBOUR: 'it returns false'. Refute it at one input. -/
def curveBothWrong : ChangeSpec := { name := "curveBoth", fn := fun _ => fun
  | [d1, d2] => { results := [.lit (.bool false)], args := [d1, d2] }
  | _ => none }
def CurveBothWrongFalsely : Prop := curveBothRow.holds Try.pinned (OpenSpec.ofChange curveBothWrong)

/-- 'tidewaitlaw.FilterTells': WHATEVER THE INPUT: true; the input reads as it did. -/
def filterTellsSpec : ChangeSpec := { name := "filterTells", fn := fun _ => fun
  | [d1, d2] => { results := [.lit (.bool true)], args := [d1, d2] }
  | _ => none }
def filterTellsRow : OpenClaim := { program := "ythokolfgagkmiaa", sum := "f36eed46f40d7551b6bea53c781f99585bfb2f0d128bb269944f7068fe625d7e", func := "tidewait/tidewaitlaw.FilterTells", spec := "filterTells", apart := false }
def FilterTellsSaid : Prop := filterTellsRow.holds Try.pinned (OpenSpec.ofChange filterTellsSpec)

/-- ITS FALSE NEIGHBOUR: 'it returns false'. Refute it at one input. -/
def filterTellsWrong : ChangeSpec := { name := "filterTells", fn := fun _ => fun
  | [d1, d2] => { results := [.lit (.bool false)], args := [d1, d2] }
  | _ => none }
def FilterTellsWrongFalsely : Prop := filterTellsRow.holds Try.pinned (OpenSpec.ofChange filterTellsWrong)

/-- 'tidewaitlaw.BucketPasses': WHATEVER THE INPUT: true; the input reads as it did. -/
def bucketPassesSpec : ChangeSpec := { name := "bucketPasses", fn := fun _ => fun
  | [d1, d2] => { results := [.lit (.bool true)], args := [d1, d2] }
  | _ => none }
def bucketPassesRow : OpenClaim := { program := "ythokolfgagkmiaa", sum := "f36eed46f40d7551b6bea53c781f99585bfb2f0d128bb269944f7068fe625d7e", func := "tidewait/tidewaitlaw.BucketPasses", spec := "bucketPasses", unfollowed := true, recurses := true, apart := false }
def BucketPassesSaid : Prop := bucketPassesRow.holds Try.pinned (OpenSpec.ofChange bucketPassesSpec)

/-- ITS FALSE NEIGHBOUR: 'it returns false'. Refute it at one input. -/
def bucketPassesWrong : ChangeSpec := { name := "bucketPasses", fn := fun _ => fun
  | [d1, d2] => { results := [.lit (.bool false)], args := [d1, d2] }
  | _ => none }
def BucketPassesWrongFalsely : Prop := bucketPassesRow.holds Try.pinned (OpenSpec.ofChange bucketPassesWrong)

/-- 'tidewaitlaw.MinplusClose': WHATEVER THE INPUT: true; the input reads as it did. -/
def minplusCloseSpec : ChangeSpec := { name := "minplusClose", fn := fun _ => fun
  | [d] => { results := [.lit (.bool true)], args := [d] }
  | _ => none }
def minplusCloseRow : OpenClaim := { program := "ythokolfgagkmiaa", sum := "f36eed46f40d7551b6bea53c781f99585bfb2f0d128bb269944f7068fe625d7e", func := "tidewait/tidewaitlaw.MinplusClose", spec := "minplusClose", apart := false }
def MinplusCloseSaid : Prop := minplusCloseRow.holds Try.pinned (OpenSpec.ofChange minplusCloseSpec)

/-- ITS FALSE NEIGHBOUR: 'it returns false'. Refute it at one input. -/
def minplusCloseWrong : ChangeSpec := { name := "minplusClose", fn := fun _ => fun
  | [d] => { results := [.lit (.bool false)], args := [d] }
  | _ => none }
def MinplusCloseWrongFalsely : Prop := minplusCloseRow.holds Try.pinned (OpenSpec.ofChange minplusCloseWrong)

/-- 'tidewaitlaw.MinplusTells': WHATEVER THE INPUT: true; the input reads as it did. -/
def minplusTellsSpec : ChangeSpec := { name := "minplusTells", fn := fun _ => fun
  | [d1, d2, d3] => { results := [.lit (.bool true)], args := [d1, d2, d3] }
  | _ => none }
def minplusTellsRow : OpenClaim := { program := "ythokolfgagkmiaa", sum := "f36eed46f40d7551b6bea53c781f99585bfb2f0d128bb269944f7068fe625d7e", func := "tidewait/tidewaitlaw.MinplusTells", spec := "minplusTells", apart := false }
def MinplusTellsSaid : Prop := minplusTellsRow.holds Try.pinned (OpenSpec.ofChange minplusTellsSpec)

/-- ITS FALSE NEIGHBOUR: 'it returns false'. Refute it at one input. -/
def minplusTellsWrong : ChangeSpec := { name := "minplusTells", fn := fun _ => fun
  | [d1, d2, d3] => { results := [.lit (.bool false)], args := [d1, d2, d3] }
  | _ => none }
def MinplusTellsWrongFalsely : Prop := minplusTellsRow.holds Try.pinned (OpenSpec.ofChange minplusTellsWrong)

/-- 'tidewaitlaw.CurveTells': WHATEVER THE INPUT: true; the input reads as it did. -/
def curveTellsSpec : ChangeSpec := { name := "curveTells", fn := fun _ => fun
  | [d1, d2] => { results := [.lit (.bool true)], args := [d1, d2] }
  | _ => none }
def curveTellsRow : OpenClaim := { program := "ythokolfgagkmiaa", sum := "f36eed46f40d7551b6bea53c781f99585bfb2f0d128bb269944f7068fe625d7e", func := "tidewait/tidewaitlaw.CurveTells", spec := "curveTells", apart := false }
def CurveTellsSaid : Prop := curveTellsRow.holds Try.pinned (OpenSpec.ofChange curveTellsSpec)

/-- ITS FALSE NEIGHBOUR: 'it returns false'. Refute it at one input. -/
def curveTellsWrong : ChangeSpec := { name := "curveTells", fn := fun _ => fun
  | [d1, d2] => { results := [.lit (.bool false)], args := [d1, d2] }
  | _ => none }
def CurveTellsWrongFalsely : Prop := curveTellsRow.holds Try.pinned (OpenSpec.ofChange curveTellsWrong)

/-- 'tidewaitlaw.JitterTells': WHATEVER THE INPUT: true; the input reads as it did. -/
def jitterTellsSpec : ChangeSpec := { name := "jitterTells", fn := fun _ => fun
  | [d1, d2] => { results := [.lit (.bool true)], args := [d1, d2] }
  | _ => none }
def jitterTellsRow : OpenClaim := { program := "ythokolfgagkmiaa", sum := "f36eed46f40d7551b6bea53c781f99585bfb2f0d128bb269944f7068fe625d7e", func := "tidewait/tidewaitlaw.JitterTells", spec := "jitterTells", unfollowed := true, recurses := true, apart := false }
def JitterTellsSaid : Prop := jitterTellsRow.holds Try.pinned (OpenSpec.ofChange jitterTellsSpec)

/-- ITS FALSE NEIGHBOUR: 'it returns false'. Refute it at one input. -/
def jitterTellsWrong : ChangeSpec := { name := "jitterTells", fn := fun _ => fun
  | [d1, d2] => { results := [.lit (.bool false)], args := [d1, d2] }
  | _ => none }
def JitterTellsWrongFalsely : Prop := jitterTellsRow.holds Try.pinned (OpenSpec.ofChange jitterTellsWrong)

/-- 'tidewaitlaw.BucketTells': WHATEVER THE INPUT: true; the input reads as it did. -/
def bucketTellsSpec : ChangeSpec := { name := "bucketTells", fn := fun _ => fun
  | [d1, d2, d3] => { results := [.lit (.bool true)], args := [d1, d2, d3] }
  | _ => none }
def bucketTellsRow : OpenClaim := { program := "ythokolfgagkmiaa", sum := "f36eed46f40d7551b6bea53c781f99585bfb2f0d128bb269944f7068fe625d7e", func := "tidewait/tidewaitlaw.BucketTells", spec := "bucketTells", unfollowed := true, recurses := true, apart := false }
def BucketTellsSaid : Prop := bucketTellsRow.holds Try.pinned (OpenSpec.ofChange bucketTellsSpec)

/-- ITS FALSE NEIGHBOUR: 'it returns false'. Refute it at one input. -/
def bucketTellsWrong : ChangeSpec := { name := "bucketTells", fn := fun _ => fun
  | [d1, d2, d3] => { results := [.lit (.bool false)], args := [d1, d2, d3] }
  | _ => none }
def BucketTellsWrongFalsely : Prop := bucketTellsRow.holds Try.pinned (OpenSpec.ofChange bucketTellsWrong)

/-- 'tidewaitlaw.BoundTells': WHATEVER THE INPUT: true; the input reads as it did. -/
def boundTellsSpec : ChangeSpec := { name := "boundTells", fn := fun _ => fun
  | [d1, d2, d3, d4, d5] => { results := [.lit (.bool true)], args := [d1, d2, d3, d4, d5] }
  | _ => none }
def boundTellsRow : OpenClaim := { program := "ythokolfgagkmiaa", sum := "f36eed46f40d7551b6bea53c781f99585bfb2f0d128bb269944f7068fe625d7e", func := "tidewait/tidewaitlaw.BoundTells", spec := "boundTells", unfollowed := true, recurses := true, apart := false }
def BoundTellsSaid : Prop := boundTellsRow.holds Try.pinned (OpenSpec.ofChange boundTellsSpec)

/-- ITS FALSE NEIGHBOUR: 'it returns false'. Refute it at one input. -/
def boundTellsWrong : ChangeSpec := { name := "boundTells", fn := fun _ => fun
  | [d1, d2, d3, d4, d5] => { results := [.lit (.bool false)], args := [d1, d2, d3, d4, d5] }
  | _ => none }
def BoundTellsWrongFalsely : Prop := boundTellsRow.holds Try.pinned (OpenSpec.ofChange boundTellsWrong)

/- THE SECOND FORM. 'bulk': how many values and letters a reading holds, each counted each time it is reached (what is shared counts as often as it is met; a slice's spare places count too). A statement '..UptoSaid' is the law's where the arguments, and the package variables that the reading takes, are together of bulk at most 1048576: NARROWER than '..Said'. Prove '..Said' where nothing that the law and all that it calls make is longer than what came in: it says more and counts as full. Else prove '..UptoSaid'. A law counts once. -/
mutual
def uptoBulk {H : Type} : DataW H → Nat
  | .lit (.string bytes) => bytes.length + 1
  | .lit _ => 1
  | .nil => 1
  | .ptr d => uptoBulk d + 1
  | .slice elems spare => uptoBulkAll elems + uptoBulkAll spare + 1
  | .agg parts => uptoBulkAll parts + 1
  | .iface _ d => uptoBulk d + 1
  | .map entries => uptoBulkEntries entries + 1
  | .held _ => 1
def uptoBulkAll {H : Type} : List (DataW H) → Nat
  | [] => 0
  | d :: r => uptoBulk d + uptoBulkAll r
def uptoBulkEntries {H : Type} : List (Lit × DataW H) → Nat
  | [] => 0
  | x :: r => uptoBulkEntry x + uptoBulkEntries r
def uptoBulkEntry {H : Type} : Lit × DataW H → Nat
  | (.string bytes, d) => bytes.length + uptoBulk d + 1
  | (_, d) => uptoBulk d + 1
 end
def uptoSmall : (H : Type) → List (DataW H) → Bool := fun _ ds => decide (uptoBulkAll ds ≤ 1048576)
def OpenSpec.upto (s : _root_.Go.ChangeSpec) : _root_.Go.OpenSpec := { _root_.Go.OpenSpec.ofChange s with cond := some uptoSmall }

/-- 'tidewaitlaw.LedbatTells', WHERE WHAT IT READS IS OF BULK AT MOST 1048576: true; the input reads as it did. -/
def ledbatTellsUptoRow : OpenClaim := { program := "ythokolfgagkmiaa", sum := "f36eed46f40d7551b6bea53c781f99585bfb2f0d128bb269944f7068fe625d7e", func := "tidewait/tidewaitlaw.LedbatTells", spec := "ledbatTells", apart := false, narrowed := true }
def LedbatTellsUptoSaid : Prop := ledbatTellsUptoRow.holds Try.pinned (OpenSpec.upto ledbatTellsSpec)

/-- 'tidewaitlaw.VegasTells', WHERE WHAT IT READS IS OF BULK AT MOST 1048576: true; the input reads as it did. -/
def vegasTellsUptoRow : OpenClaim := { program := "ythokolfgagkmiaa", sum := "f36eed46f40d7551b6bea53c781f99585bfb2f0d128bb269944f7068fe625d7e", func := "tidewait/tidewaitlaw.VegasTells", spec := "vegasTells", apart := false, narrowed := true }
def VegasTellsUptoSaid : Prop := vegasTellsUptoRow.holds Try.pinned (OpenSpec.upto vegasTellsSpec)

/-- 'tidewaitlaw.CopaTells', WHERE WHAT IT READS IS OF BULK AT MOST 1048576: true; the input reads as it did. -/
def copaTellsUptoRow : OpenClaim := { program := "ythokolfgagkmiaa", sum := "f36eed46f40d7551b6bea53c781f99585bfb2f0d128bb269944f7068fe625d7e", func := "tidewait/tidewaitlaw.CopaTells", spec := "copaTells", apart := false, narrowed := true }
def CopaTellsUptoSaid : Prop := copaTellsUptoRow.holds Try.pinned (OpenSpec.upto copaTellsSpec)

/-- 'tidewaitlaw.CurveBoth', WHERE WHAT IT READS IS OF BULK AT MOST 1048576: true; the input reads as it did. -/
def curveBothUptoRow : OpenClaim := { program := "ythokolfgagkmiaa", sum := "f36eed46f40d7551b6bea53c781f99585bfb2f0d128bb269944f7068fe625d7e", func := "tidewait/tidewaitlaw.CurveBoth", spec := "curveBoth", unfollowed := true, recurses := true, apart := false, narrowed := true }
def CurveBothUptoSaid : Prop := curveBothUptoRow.holds Try.pinned (OpenSpec.upto curveBothSpec)

/-- 'tidewaitlaw.FilterTells', WHERE WHAT IT READS IS OF BULK AT MOST 1048576: true; the input reads as it did. -/
def filterTellsUptoRow : OpenClaim := { program := "ythokolfgagkmiaa", sum := "f36eed46f40d7551b6bea53c781f99585bfb2f0d128bb269944f7068fe625d7e", func := "tidewait/tidewaitlaw.FilterTells", spec := "filterTells", apart := false, narrowed := true }
def FilterTellsUptoSaid : Prop := filterTellsUptoRow.holds Try.pinned (OpenSpec.upto filterTellsSpec)

/-- 'tidewaitlaw.BucketPasses', WHERE WHAT IT READS IS OF BULK AT MOST 1048576: true; the input reads as it did. -/
def bucketPassesUptoRow : OpenClaim := { program := "ythokolfgagkmiaa", sum := "f36eed46f40d7551b6bea53c781f99585bfb2f0d128bb269944f7068fe625d7e", func := "tidewait/tidewaitlaw.BucketPasses", spec := "bucketPasses", unfollowed := true, recurses := true, apart := false, narrowed := true }
def BucketPassesUptoSaid : Prop := bucketPassesUptoRow.holds Try.pinned (OpenSpec.upto bucketPassesSpec)

/-- 'tidewaitlaw.MinplusClose', WHERE WHAT IT READS IS OF BULK AT MOST 1048576: true; the input reads as it did. -/
def minplusCloseUptoRow : OpenClaim := { program := "ythokolfgagkmiaa", sum := "f36eed46f40d7551b6bea53c781f99585bfb2f0d128bb269944f7068fe625d7e", func := "tidewait/tidewaitlaw.MinplusClose", spec := "minplusClose", apart := false, narrowed := true }
def MinplusCloseUptoSaid : Prop := minplusCloseUptoRow.holds Try.pinned (OpenSpec.upto minplusCloseSpec)

/-- 'tidewaitlaw.MinplusTells', WHERE WHAT IT READS IS OF BULK AT MOST 1048576: true; the input reads as it did. -/
def minplusTellsUptoRow : OpenClaim := { program := "ythokolfgagkmiaa", sum := "f36eed46f40d7551b6bea53c781f99585bfb2f0d128bb269944f7068fe625d7e", func := "tidewait/tidewaitlaw.MinplusTells", spec := "minplusTells", apart := false, narrowed := true }
def MinplusTellsUptoSaid : Prop := minplusTellsUptoRow.holds Try.pinned (OpenSpec.upto minplusTellsSpec)

/-- 'tidewaitlaw.CurveTells', WHERE WHAT IT READS IS OF BULK AT MOST 1048576: true; the input reads as it did. -/
def curveTellsUptoRow : OpenClaim := { program := "ythokolfgagkmiaa", sum := "f36eed46f40d7551b6bea53c781f99585bfb2f0d128bb269944f7068fe625d7e", func := "tidewait/tidewaitlaw.CurveTells", spec := "curveTells", apart := false, narrowed := true }
def CurveTellsUptoSaid : Prop := curveTellsUptoRow.holds Try.pinned (OpenSpec.upto curveTellsSpec)

/-- 'tidewaitlaw.JitterTells', WHERE WHAT IT READS IS OF BULK AT MOST 1048576: true; the input reads as it did. -/
def jitterTellsUptoRow : OpenClaim := { program := "ythokolfgagkmiaa", sum := "f36eed46f40d7551b6bea53c781f99585bfb2f0d128bb269944f7068fe625d7e", func := "tidewait/tidewaitlaw.JitterTells", spec := "jitterTells", unfollowed := true, recurses := true, apart := false, narrowed := true }
def JitterTellsUptoSaid : Prop := jitterTellsUptoRow.holds Try.pinned (OpenSpec.upto jitterTellsSpec)

/-- 'tidewaitlaw.BucketTells', WHERE WHAT IT READS IS OF BULK AT MOST 1048576: true; the input reads as it did. -/
def bucketTellsUptoRow : OpenClaim := { program := "ythokolfgagkmiaa", sum := "f36eed46f40d7551b6bea53c781f99585bfb2f0d128bb269944f7068fe625d7e", func := "tidewait/tidewaitlaw.BucketTells", spec := "bucketTells", unfollowed := true, recurses := true, apart := false, narrowed := true }
def BucketTellsUptoSaid : Prop := bucketTellsUptoRow.holds Try.pinned (OpenSpec.upto bucketTellsSpec)

/-- 'tidewaitlaw.BoundTells', WHERE WHAT IT READS IS OF BULK AT MOST 1048576: true; the input reads as it did. -/
def boundTellsUptoRow : OpenClaim := { program := "ythokolfgagkmiaa", sum := "f36eed46f40d7551b6bea53c781f99585bfb2f0d128bb269944f7068fe625d7e", func := "tidewait/tidewaitlaw.BoundTells", spec := "boundTells", unfollowed := true, recurses := true, apart := false, narrowed := true }
def BoundTellsUptoSaid : Prop := boundTellsUptoRow.holds Try.pinned (OpenSpec.upto boundTellsSpec)

end Rows
end Go.Proofs.Ythokolfgagkmiaa
