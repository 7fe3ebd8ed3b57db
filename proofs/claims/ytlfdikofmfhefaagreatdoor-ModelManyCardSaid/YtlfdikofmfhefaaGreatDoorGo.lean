/-
Does a constraint hold, the program's answer: sums, tasks, the whole.
Conditions: as the handlers ask.
Does a constraint hold, the program's answer as a whole; its contracts.
Conditions: lists of at most 1000 elements.
-/
import Derived.Test.YtlfdikofmfhefaaGreatDoorGl
import Derived.Test.YtlfdikofmfhefaaGreatDoorGf
import Derived.Lib.RowBridge
set_option linter.unusedVariables false
set_option linter.unusedSimpArgs false
set_option maxRecDepth 100000
namespace Go.Proofs.YtlfdikofmfhefaaGreatDoor.Ev
open Go
end Go.Proofs.YtlfdikofmfhefaaGreatDoor.Ev
set_option linter.unusedVariables false
set_option linter.unusedSimpArgs false
set_option maxRecDepth 100000
namespace Go.Proofs.YtlfdikofmfhefaaGreatDoor.Ev
open Go Go.RowKit Go.Sort
structure Val (kk : Int) (c : RestG) (n : Nat) : Prop where
  kd : inS kk = true
  cn : countedG (kk, c) (shapeS kk) = true
  al : alikeG (kk, c) = true
  pl : ∀ v ∈ c.1 ++ c.2.1, 0 ≤ v ∧ v < (n : Int)
  nu : numbersG (kk, c) = true
section
variable {kk : Int} {c : RestG} {a : List Int}
end
end Go.Proofs.YtlfdikofmfhefaaGreatDoor.Ev
