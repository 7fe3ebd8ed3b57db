/-
Two rows in order: constraints made of plain data; the filter is exact; the document's answer is the same.
Conditions: none.
-/
import Derived.Test.YtnojoaghcbljfaaGreatDoorLe
import Derived.Test.YtnojoaghcbljfaaGreatDoorLf
import Derived.Test.YtnojoaghcbljfaaGreatDoorCr
set_option linter.unusedVariables false
set_option linter.unusedSimpArgs false
set_option maxRecDepth 100000
namespace Go.Proofs.YtnojoaghcbljfaaGreatDoor.Ev
open Go
structure LexC (c : Con) : Prop where
  kind : c.1 = 22
  a1 : 1 ≤ c.2.1.length
  a4 : c.2.1.length ≤ 4
  ab : c.2.2.1.length = c.2.1.length
  ar : ∀ x ∈ c.2.1, 0 ≤ x ∧ x < 256
  br : ∀ x ∈ c.2.2.1, 0 ≤ x ∧ x < 256
  c0 : c.2.2.2.1 = []
  d0 : c.2.2.2.2.1 = []
  e0 : c.2.2.2.2.2.1 = []
  k0 : c.2.2.2.2.2.2.1 = 0
  r0 : c.2.2.2.2.2.2.2 = []
end Go.Proofs.YtnojoaghcbljfaaGreatDoor.Ev
