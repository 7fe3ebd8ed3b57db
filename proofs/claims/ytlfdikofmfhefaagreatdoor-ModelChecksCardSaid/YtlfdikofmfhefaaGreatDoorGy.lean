/-
Does a constraint hold, the document's answer: quotients, three values, truths.
Conditions: as the handlers ask.
Does a constraint hold, the document's answer: three values.
Conditions: as the handler asks.
-/
import Derived.Test.YtlfdikofmfhefaaGreatDoorGq
set_option linter.unusedVariables false
set_option linter.unusedSimpArgs false
set_option maxRecDepth 100000
namespace Go.Proofs.YtlfdikofmfhefaaGreatDoor.Ev
open Go
end Go.Proofs.YtlfdikofmfhefaaGreatDoor.Ev
set_option linter.unusedVariables false
set_option linter.unusedSimpArgs false
set_option maxRecDepth 100000
namespace Go.Proofs.YtlfdikofmfhefaaGreatDoor.Ev
open Go
end Go.Proofs.YtlfdikofmfhefaaGreatDoor.Ev
