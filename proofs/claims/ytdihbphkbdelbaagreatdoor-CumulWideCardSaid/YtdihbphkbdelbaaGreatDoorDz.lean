/-
The functions as the evaluator runs them: printed by a program of mine, each equation by kernel_rfl.
Conditions: none.
Does a constraint hold: what the functions answer.
The constraint's places are among the values.
Conditions: none.
-/
import Derived.Test.YtdihbphkbdelbaaGreatDoorAa
import Derived.Test.YtdihbphkbdelbaaGreatDoorAt
set_option linter.unusedVariables false
set_option linter.unusedSimpArgs false
set_option maxRecDepth 100000
namespace Go.Proofs.YtdihbphkbdelbaaGreatDoor.Ev
open Go
end Go.Proofs.YtdihbphkbdelbaaGreatDoor.Ev
set_option linter.unusedVariables false
set_option linter.unusedSimpArgs false
set_option maxRecDepth 100000
namespace Go.Proofs.YtdihbphkbdelbaaGreatDoor.Ev
open Go
theorem bT' {α : Type} {b : Bool} {x y : α} (h : b = true) : (bif b then x else y) = x := by rw [h]; rfl
theorem bF' {α : Type} {b : Bool} {x y : α} (h : b = false) : (bif b then x else y) = y := by rw [h]; rfl
theorem self_lt' {α : Type} {a : Int} {x y : α} : (bif decide (a < a) then x else y) = y := bF' (decide_eq_false (by omega))
abbrev Rest18 := List Int × List Int × List Int × List Int × List Int × Int × List (List Int)
structure HoldC (c : Con) (a : List Int) : Prop where
  le : c.2.1.length ≤ 1000
  cl : c.2.2.2.1.length = c.2.1.length
  dl : c.2.2.2.2.1.length = c.2.1.length
  inn : ∀ x ∈ c.2.1, 0 ≤ x ∧ x < a.length
  cp : ∀ k ∈ c.2.2.2.1, 0 ≤ k ∧ k ≤ 1000000
  dp : ∀ k ∈ c.2.2.2.2.1, 0 ≤ k ∧ k ≤ 1000000
  am : ∀ v ∈ a, -1000000 ≤ v ∧ v ≤ 1000000
end Go.Proofs.YtdihbphkbdelbaaGreatDoor.Ev
