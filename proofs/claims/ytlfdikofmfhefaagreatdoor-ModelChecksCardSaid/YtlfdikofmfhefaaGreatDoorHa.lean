/-
Does a constraint hold, the document's answer as a whole.
Conditions: lists of at most 1000 elements.
Contracts of the document's functions; small values.
Conditions: as the handlers ask.
-/
import Derived.Test.YtlfdikofmfhefaaGreatDoorGy
set_option linter.unusedVariables false
set_option linter.unusedSimpArgs false
set_option maxRecDepth 100000
namespace Go.Proofs.YtlfdikofmfhefaaGreatDoor.Ev
open Go
end Go.Proofs.YtlfdikofmfhefaaGreatDoor.Ev
set_option linter.unusedVariables false
set_option linter.unusedSimpArgs false
set_option maxRecDepth 100000
namespace Go.Proofs.YtlfdikofmfhefaaGreatDoor.Ev
open Go Go.RowKit
end Go.Proofs.YtlfdikofmfhefaaGreatDoor.Ev
