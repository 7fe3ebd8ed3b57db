/-
Constraints made of plain data, of all kinds: there is one, of its kind, with one to eight variables.
Conditions: none.
-/
import Derived.Test.YtnojoaghcbljfaaGreatDoorBh
import Derived.Test.YtnojoaghcbljfaaGreatDoorAm
import Derived.Test.YtnojoaghcbljfaaGreatDoorAm3
set_option linter.unusedVariables false
set_option linter.unusedSimpArgs false
set_option maxRecDepth 100000
namespace Go.Proofs.YtnojoaghcbljfaaGreatDoor.Ev
open Go
end Go.Proofs.YtnojoaghcbljfaaGreatDoor.Ev
