/-
The least and the greatest of a domain: what 'made' finds.
Conditions: none.
What is left of a domain when only some words' bits are left.
Conditions: none.
Two rows in order: what the functions answer, as plain data.
Conditions: none.
-/
import Derived.Test.YtnojoaghcbljfaaGreatDoorAp
set_option linter.unusedVariables false
set_option linter.unusedSimpArgs false
set_option maxRecDepth 100000
namespace Go.Proofs.YtnojoaghcbljfaaGreatDoor.Ev
open Go

/-- A domain that was made of words. -/
structure Made (d : Dom) : Prop where
  wf : Wf d
  len : d.2.1.length ≤ 20000
  eq : d = madeD d.1 d.2.1
end Go.Proofs.YtnojoaghcbljfaaGreatDoor.Ev

set_option linter.unusedVariables false
set_option linter.unusedSimpArgs false
set_option maxRecDepth 100000
namespace Go.Proofs.YtnojoaghcbljfaaGreatDoor.Ev
open Go

def cloneB {α : Type} (l : List α) : Bool := !(decide (l.length = 0)) && Nat.ble l.length 1000000
/-- Which numbers a mask keeps. -/
def Keeps (k : Int → Int → Int) (p : Int → Bool) : Prop := ∀ a w : Int, a % 64 = 0 → -1000064 ≤ a → a ≤ 2300000 → U (k a w) ∧ ∀ j : Nat, j < 64 → tb (k a w) j = p (a + j)
section
variable {d : Dom} {k : Int → Int → Int} {p : Int → Bool}
end
end Go.Proofs.YtnojoaghcbljfaaGreatDoor.Ev

set_option linter.unusedVariables false
set_option linter.unusedSimpArgs false
set_option maxRecDepth 10000
namespace Go.Proofs.YtnojoaghcbljfaaGreatDoor.Ev
open Go
abbrev RowsD := List Dom × List Dom × List Bool × List Bool × List Bool
abbrev RowsT : Ty := .pair (.sl DomT) (.pair (.sl DomT) (.pair (.sl .bool) (.pair (.sl .bool) (.sl .bool))))
/-! ### the document's answer -/
/-! ### two rows of values -/
end Go.Proofs.YtnojoaghcbljfaaGreatDoor.Ev
