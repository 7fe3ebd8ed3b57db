/-
Linear constraints: what the document's functions answer: unlike, reified, the filter.
Conditions: as the handlers ask.
-/
import Derived.Test.YtnojoaghcbljfaaGreatDoorNg
set_option linter.unusedVariables false
set_option linter.unusedSimpArgs false
set_option maxRecDepth 100000
set_option maxHeartbeats 4000000
namespace Go.Proofs.YtnojoaghcbljfaaGreatDoor.Ev
open Go
structure UnP (C : List Int) (K : Int) (d : List (List Int)) : Prop where
  len : C.length = d.length
  le : d.length ≤ 1000
  cm : ∀ x ∈ C, -1000000 ≤ x ∧ x ≤ 1000000
  mo : -1099511627776000 ≤ K ∧ K ≤ 1099511627776000
  dl : ∀ x ∈ d, 0 < x.length ∧ x.length ≤ 100000 ∧ ∀ y ∈ x, -1000000 ≤ y ∧ y ≤ 1000000
end Go.Proofs.YtnojoaghcbljfaaGreatDoor.Ev
