/-
Seat 'a': a constraint of two variables and its filter: the plain laws, once for Element and for what is reified.
Conditions: what is made of plain data.
-/
import Derived.Test.YtnojoaghcbljfaaGreatDoorBa
set_option linter.unusedVariables false
set_option linter.unusedSimpArgs false
set_option maxRecDepth 100000
namespace Go.Proofs.YtnojoaghcbljfaaGreatDoor.Ev
open Go

/-! ### what is reified -/
/-! ### what the filter leaves -/
section
variable {c : Con} {lo hi : Int} {F : Con → List Dom → List Dom × Bool} {R : Int → Int → Prop}
end
end Go.Proofs.YtnojoaghcbljfaaGreatDoor.Ev
