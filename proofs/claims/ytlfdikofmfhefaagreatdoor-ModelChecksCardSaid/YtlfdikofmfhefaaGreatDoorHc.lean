/-
Does a constraint hold: the program's answer is the document's. Plain lists (rows in order, inverses, unlike ones).
Conditions: none.
Circuits: the program's answer is the document's. Plain lists.
Conditions: none.
Whether a constraint holds: the program's answer is the document's.
Conditions: lists of at most 1000 elements.
-/
import Derived.Test.YtlfdikofmfhefaaGreatDoorHa
set_option linter.unusedVariables false
set_option linter.unusedSimpArgs false
set_option maxRecDepth 100000
namespace Go.Proofs.YtlfdikofmfhefaaGreatDoor.Ev
open Go
end Go.Proofs.YtlfdikofmfhefaaGreatDoor.Ev
set_option linter.unusedVariables false
set_option linter.unusedSimpArgs false
set_option maxRecDepth 100000
namespace Go.Proofs.YtlfdikofmfhefaaGreatDoor.Ev
open Go
end Go.Proofs.YtlfdikofmfhefaaGreatDoor.Ev
set_option linter.unusedVariables false
set_option linter.unusedSimpArgs false
set_option maxRecDepth 100000
namespace Go.Proofs.YtlfdikofmfhefaaGreatDoor.Ev
open Go
end Go.Proofs.YtlfdikofmfhefaaGreatDoor.Ev
