/-
Does a constraint hold, the document's answer: sums, rows, tasks, circuits, numbers of values.
Conditions: as the handlers ask.
Does a constraint hold, the document's answer: numbers of values, pairs, linear ones.
Conditions: as the handlers ask.
-/
import Derived.Test.YtlfdikofmfhefaaGreatDoorGo
import Derived.Test.YtlfdikofmfhefaaGreatDoorGe
set_option linter.unusedVariables false
set_option linter.unusedSimpArgs false
set_option maxRecDepth 100000
namespace Go.Proofs.YtlfdikofmfhefaaGreatDoor.Ev
open Go
end Go.Proofs.YtlfdikofmfhefaaGreatDoor.Ev
set_option linter.unusedVariables false
set_option linter.unusedSimpArgs false
set_option maxRecDepth 100000
namespace Go.Proofs.YtlfdikofmfhefaaGreatDoor.Ev
open Go
end Go.Proofs.YtlfdikofmfhefaaGreatDoor.Ev
