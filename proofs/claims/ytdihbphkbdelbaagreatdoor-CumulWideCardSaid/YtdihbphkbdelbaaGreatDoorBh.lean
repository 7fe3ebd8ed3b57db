/-
Seat 'a': a constraint of two variables and its filter: the plain laws, once for Element and for what is reified.
Conditions: what is made of plain data.
Seat 'a': the laws Keeps and Fixed of Element and of what is reified: what their functions answer.
Conditions: numbers are of 8 bits.
Seat 'a': the contracts of the laws Keeps, Fixed of Element; of Filters, Keeps, Fixed of what is reified.
Conditions: the table of math/bits is laid.
-/
import Derived.Test.YtdihbphkbdelbaaGreatDoorAz
import Derived.Test.YtdihbphkbdelbaaGreatDoorBd
set_option linter.unusedVariables false
set_option linter.unusedSimpArgs false
set_option maxRecDepth 100000
namespace Go.Proofs.YtdihbphkbdelbaaGreatDoor.Ev
open Go
section
variable {c : Con} {lo hi : Int} {F : Con → List Dom → List Dom × Bool} {R : Int → Int → Prop}
end
end Go.Proofs.YtdihbphkbdelbaaGreatDoor.Ev
set_option linter.unusedVariables false
set_option linter.unusedSimpArgs false
set_option maxRecDepth 100000
namespace Go.Proofs.YtdihbphkbdelbaaGreatDoor.Ev
open Go
theorem lt_nat {i n : Nat} (h : i < n) : decide ((i : Int) < (n : Int)) = true := decide_eq_true (by omega)
theorem in_nat {i n : Nat} (h : i < n) : (decide (0 ≤ (i : Int)) && decide ((i : Int) < (n : Int))) = true := by
 rw [decide_eq_true (show (0 : Int) ≤ (i : Int) by omega), decide_eq_true (show (i : Int) < (n : Int) by omega)]
 rfl
theorem rising_len : ∀ (l : List Int) (m M : Int), m ≤ M + 1 → Rising l → (∀ x ∈ l, m ≤ x ∧ x ≤ M) → (l.length : Int) ≤ M - m + 1
 | [], m, M, h, _, _ => by simp only [List.length_nil]; omega
 | x :: xs, m, M, h, hr, hx => by
  have h0 := hx x (by simp)
  obtain ⟨h1, h2⟩ := List.pairwise_cons.mp hr
  have := rising_len xs (x + 1) M (by omega) h2 fun y hy => by
   have g1 := h1 y hy
   have g2 := hx y (List.mem_cons_of_mem _ hy)
   omega
  simp only [List.length_cons]
  omega
end Go.Proofs.YtdihbphkbdelbaaGreatDoor.Ev
set_option linter.unusedVariables false
set_option linter.unusedSimpArgs false
set_option maxRecDepth 100000
namespace Go.Proofs.YtdihbphkbdelbaaGreatDoor.Ev
open Go Go.RowKit
end Go.Proofs.YtdihbphkbdelbaaGreatDoor.Ev
