/-
Seat 'a': elem.Filter's answer is the document's: the plain laws.
Conditions: what is made of plain data.
-/
import Derived.Test.YthdpbmcidebagaaGreatDoorBa
import Derived.Test.YthdpbmcidebagaaGreatDoorBo
set_option linter.unusedVariables false
set_option linter.unusedSimpArgs false
set_option maxRecDepth 100000
namespace Go.Proofs.YthdpbmcidebagaaGreatDoor.Ev
open Go

def near3 (l : List Int) : Prop := ∀ x ∈ l, -1000 ≤ x ∧ x ≤ 1000
/-! ### the document's answer -/
def rowsE (c : Con) (a b : List Int) : List (List Int) := (prodL [a, b]).filter (holdsC (localC c))
structure Filt (c : Con) (a b : List Int) : Prop where
  ok : (elemF c [(ofD a).1, (ofD b).1]).2 = (exactL c [a, b] 4000).2
  same : listsL (elemF c [(ofD a).1, (ofD b).1]).1 = (exactL c [a, b] 4000).1
  lb : (elemF c [(ofD a).1, (ofD b).1]).1.all listB = true
  ln : (elemF c [(ofD a).1, (ofD b).1]).1.length ≤ 1000
end Go.Proofs.YthdpbmcidebagaaGreatDoor.Ev
