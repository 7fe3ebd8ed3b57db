/-
Seat 'a': ElemFilters is true: what the law's function answers.
Conditions: the numbers of the constraint's first list are of 8 bits.
-/
import Derived.Test.YthdpbmcidebagaaGreatDoorBb
set_option linter.unusedVariables false
set_option linter.unusedSimpArgs false
set_option maxRecDepth 100000
namespace Go.Proofs.YthdpbmcidebagaaGreatDoor.Ev
open Go

theorem two_of {α : Type} {l : List α} (h : l.length = 2) : ∃ a b, l = [a, b] := by
  match l, h with
  | [a, b], _ => exact ⟨a, b, rfl⟩
end Go.Proofs.YthdpbmcidebagaaGreatDoor.Ev
