/-
Seat 'a': the laws Keeps and Fixed of Element and of what is reified: what their functions answer.
Conditions: numbers are of 8 bits.
-/
import Derived.Test.YthdpbmcidebagaaGreatDoorBh
set_option linter.unusedVariables false
set_option linter.unusedSimpArgs false
set_option maxRecDepth 100000
namespace Go.Proofs.YthdpbmcidebagaaGreatDoor.Ev
open Go

theorem self_lt {α : Type} {a : Int} {x y : α} : (bif decide (a < a) then x else y) = y := by
  have : decide (a < a) = false := decide_eq_false (by omega)
  rw [this]
  rfl
theorem lt_nat {i n : Nat} (h : i < n) : decide ((i : Int) < (n : Int)) = true := decide_eq_true (by omega)
theorem in_nat {i n : Nat} (h : i < n) : (decide (0 ≤ (i : Int)) && decide ((i : Int) < (n : Int))) = true := by
  rw [decide_eq_true (show (0 : Int) ≤ (i : Int) by omega), decide_eq_true (show (i : Int) < (n : Int) by omega)]
  rfl
/-- What is left, filtered again: all is left. -/
structure KeptG (F : Con → List Dom → List Dom × Bool) (c : Con) (a b : List Int) (p q : List Int) : Prop where
  op : okL p = true
  oq : okL q = true
  np : near3 p
  nq : near3 q
  f : F c [(ofD a).1, (ofD b).1] = ([(ofD p).1, (ofD q).1], true)
  sp : ∀ x, x ∈ p → x ∈ a
  sq : ∀ x, x ∈ q → x ∈ b
  rows : ∀ r ∈ rowsE c a b, ∃ x y, r = [x, y] ∧ x ∈ p ∧ y ∈ q
  again : ∃ p2 q2, okL p2 = true ∧ okL q2 = true ∧ F c [(ofD p).1, (ofD q).1] = ([(ofD p2).1, (ofD q2).1], true) ∧ listD (ofD p2).1 = listD (ofD p).1 ∧ listD (ofD q2).1 = listD (ofD q).1
/-! ### F6 -/
/-! ### F14 -/
/-! ### values that are fixed -/
def I8s (l : List Int) : Prop := ∀ x ∈ l, -128 ≤ x ∧ x ≤ 127
structure FixG (F : Con → List Dom → List Dom × Bool) (c : Con) (x y : Int) : Prop where
  hb : holdsB (localC c) [x, y] = true
  ok : (F c [(ofD [x]).1, (ofD [y]).1]).2 = holdsC (localC c) [x, y]
  yes : (F c [(ofD [x]).1, (ofD [y]).1]).2 = true → (Nat.ble (F c [(ofD [x]).1, (ofD [y]).1]).1.length 1000 && (F c [(ofD [x]).1, (ofD [y]).1]).1.all listB) = true ∧
    (Nat.ble (listsL (F c [(ofD [x]).1, (ofD [y]).1]).1).length 1000 && lensB (listsL (F c [(ofD [x]).1, (ofD [y]).1]).1)) = true ∧ sameL (listsL (F c [(ofD [x]).1, (ofD [y]).1]).1) [[x], [y]] = true
/-! ### F5 -/
/-! ### F9 -/
end Go.Proofs.YthdpbmcidebagaaGreatDoor.Ev
