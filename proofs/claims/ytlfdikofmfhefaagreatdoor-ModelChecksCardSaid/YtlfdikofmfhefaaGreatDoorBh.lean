/-
Seat 'a': a constraint of two variables and its filter: the plain laws, once for Element and for what is reified.
Conditions: what is made of plain data.
Seat 'a': the laws Keeps and Fixed of Element and of what is reified: what their functions answer.
Conditions: numbers are of 8 bits.
Seat 'a': the contracts of the laws Keeps, Fixed of Element; of Filters, Keeps, Fixed of what is reified.
Conditions: the table of math/bits is laid.
-/
import Derived.Test.YtlfdikofmfhefaaGreatDoorAz
import Derived.Test.YtlfdikofmfhefaaGreatDoorBd
set_option linter.unusedVariables false
set_option linter.unusedSimpArgs false
set_option maxRecDepth 100000
namespace Go.Proofs.YtlfdikofmfhefaaGreatDoor.Ev
open Go
section
variable {c : Con} {lo hi : Int} {F : Con → List Dom → List Dom × Bool} {R : Int → Int → Prop}
end
end Go.Proofs.YtlfdikofmfhefaaGreatDoor.Ev
set_option linter.unusedVariables false
set_option linter.unusedSimpArgs false
set_option maxRecDepth 100000
namespace Go.Proofs.YtlfdikofmfhefaaGreatDoor.Ev
open Go
theorem self_lt {α : Type} {a : Int} {x y : α} : (bif decide (a < a) then x else y) = y := by
 have : decide (a < a) = false := decide_eq_false (by omega)
 rw [this]
 rfl
theorem lt_nat {i n : Nat} (h : i < n) : decide ((i : Int) < (n : Int)) = true := decide_eq_true (by omega)
theorem in_nat {i n : Nat} (h : i < n) : (decide (0 ≤ (i : Int)) && decide ((i : Int) < (n : Int))) = true := by
 rw [decide_eq_true (show (0 : Int) ≤ (i : Int) by omega), decide_eq_true (show (i : Int) < (n : Int) by omega)]
 rfl
def I8s (l : List Int) : Prop := ∀ x ∈ l, -128 ≤ x ∧ x ≤ 127
end Go.Proofs.YtlfdikofmfhefaaGreatDoor.Ev
set_option linter.unusedVariables false
set_option linter.unusedSimpArgs false
set_option maxRecDepth 100000
namespace Go.Proofs.YtlfdikofmfhefaaGreatDoor.Ev
open Go Go.RowKit
end Go.Proofs.YtlfdikofmfhefaaGreatDoor.Ev
