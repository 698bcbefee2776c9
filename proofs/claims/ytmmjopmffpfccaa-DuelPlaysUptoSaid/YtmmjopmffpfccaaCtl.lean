/-
  PLAIN: what a control is, and what the three kinds of senders answer (chapters 11 to 13). No program in sight.
-/
import Derived.WalkKit
import Derived.WalkSpells
import Derived.WalkLawsBesides
namespace Go.Proofs.Ytmmjopmffpfccaa
set_option linter.unusedSimpArgs false
set_option linter.unusedVariables false

structure Ctl where
  kind : Int
  win : Int
  base : Int
  way : Int
  spd : Int
  part : Int

def Ctl.v (c : Ctl) : Value := .agg #[.int .i64 c.kind, .int .i64 c.win, .int .i64 c.base, .int .i64 c.way, .int .i64 c.spd, .int .i64 c.part]
def Ctl.zero : Ctl := ⟨0, 0, 0, 0, 0, 0⟩

def clipW (n : Int) : Int := if n < 1 then 1 else if 12 < n then 12 else n
def ctlNew (kind n : Int) : Ctl := ⟨kind, clipW n, -1, 0, 0, 0⟩

def knownB (c : Ctl) : Bool := decide (1 ≤ c.win ∧ c.win ≤ 12 ∧ -1 ≤ c.base ∧ c.base ≤ 1099511627776)
def lowBase (b d : Int) : Int := if b < 0 then d else if d < b then d else b

def ledRight (c : Ctl) : Bool := decide (c.kind = 3 ∧ 1 ≤ c.win ∧ c.win ≤ 12 ∧ -1 ≤ c.base ∧ c.base ≤ 1099511627776 ∧ c.way = 0 ∧ c.spd = 0 ∧ 0 ≤ c.part ∧ c.part < 4 ∧ (c.part = 0 ∨ c.win < 12))
def ledAll (c : Ctl) (wait : Int) : Int :=
  let a := 4 * c.win + c.part + (if 2 - wait < -2 then -2 else 2 - wait)
  let b := if a < 4 then 4 else a
  if 48 < b then 48 else b
def ledNext (c : Ctl) (d : Int) : Ctl × Int :=
  if ledRight c = false then (Ctl.zero, 1)
  else if d < 0 ∨ 1099511627776 < d then (Ctl.zero, 2)
  else
    let b := lowBase c.base d
    (⟨c.kind, ledAll c (d - b) / 4, b, c.way, c.spd, ledAll c (d - b) % 4⟩, 0)

end Go.Proofs.Ytmmjopmffpfccaa
