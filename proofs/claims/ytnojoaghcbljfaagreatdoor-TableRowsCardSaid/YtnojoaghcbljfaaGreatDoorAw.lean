/-
Seat 'a': rows of values, solutions among domains: what the functions answer.
Conditions: lists are short.
-/
import Derived.Test.YtnojoaghcbljfaaGreatDoorAv
import Derived.Test.YtnojoaghcbljfaaGreatDoorAh
import Derived.Test.YtnojoaghcbljfaaGreatDoorAt
set_option linter.unusedVariables false
set_option linter.unusedSimpArgs false
set_option maxRecDepth 100000
namespace Go.Proofs.YtnojoaghcbljfaaGreatDoor.Ev
open Go

structure PB (d : List (List Int)) (most : Int) : Prop where
  lo : 0 ≤ most
  hi : most ≤ 100000
  len : d.length ≤ 1000
  each : ∀ x ∈ d, x.length ≤ 1000 ∧ 1 ≤ x.length
/-! ### does a constraint hold? -/
end Go.Proofs.YtnojoaghcbljfaaGreatDoor.Ev
