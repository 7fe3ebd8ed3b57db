/-
A constraint of any kind, made of plain data, and the domains that are made with it.
Conditions: none.
-/
import Derived.Test.YtnojoaghcbljfaaGreatDoorBh
import Derived.Test.YtnojoaghcbljfaaGreatDoorCf
set_option linter.unusedVariables false
set_option linter.unusedSimpArgs false
set_option maxRecDepth 100000
namespace Go.Proofs.YtnojoaghcbljfaaGreatDoor.Ev
open Go Go.RowKit
end Go.Proofs.YtnojoaghcbljfaaGreatDoor.Ev
