/-
Seat 'a': a constraint of two variables and its filter: the plain laws, once for Element and for what is reified.
Conditions: what is made of plain data.
-/
import Derived.Test.YthdpbmcidebagaaGreatDoorBa
set_option linter.unusedVariables false
set_option linter.unusedSimpArgs false
set_option maxRecDepth 100000
namespace Go.Proofs.YthdpbmcidebagaaGreatDoor.Ev
open Go

/-- 'c' is of two variables, holds of x and y just if R x y; its filter leaves the values that are in a pair. -/
structure TwoC (c : Con) (lo hi : Int) (F : Con → List Dom → List Dom × Bool) (R : Int → Int → Prop) : Prop where
  loc : localB c = true
  two : c.2.1.length + c.2.2.1.length = 2
  holds : ∀ x y, holdsB (localC c) [x, y] = true ∧ (holdsC (localC c) [x, y] = true ↔ R x y)
  fits : ∀ a b, okL a = true → okL b = true → filtB lo hi c [(ofD a).1, (ofD b).1] = true
  filt : ∀ a b, okL a = true → okL b = true → ∃ p q, F c [(ofD a).1, (ofD b).1] = madeAll [p, q] ∧ (∀ x, x ∈ p ↔ x ∈ a ∧ ∃ y, y ∈ b ∧ R x y) ∧ (∀ y, y ∈ q ↔ y ∈ b ∧ ∃ x, x ∈ a ∧ R x y)
/-! ### what is reified -/
structure ReifC (c : Con) : Prop where
  kind : c.1 = 13 ∨ c.1 = 14 ∨ c.1 = 15 ∨ c.1 = 16
  a : c.2.1.length = 1
  ar : ∀ x ∈ c.2.1, 0 ≤ x ∧ x < 256
  b : c.2.2.1.length = 1
  br : ∀ x ∈ c.2.2.1, 0 ≤ x ∧ x < 256
  k : -12 < c.2.2.2.2.2.2.1 ∧ c.2.2.2.2.2.2.1 < 12
  c0 : c.2.2.2.1 = []
  d0 : c.2.2.2.2.1 = []
  e0 : c.2.2.2.2.2.1 = []
  r0 : c.2.2.2.2.2.2.2 = []
/-! ### what the filter leaves -/
section
variable {c : Con} {lo hi : Int} {F : Con → List Dom → List Dom × Bool} {R : Int → Int → Prop}
structure FiltG (F : Con → List Dom → List Dom × Bool) (c : Con) (a b : List Int) : Prop where
  ok : (F c [(ofD a).1, (ofD b).1]).2 = (exactL c [a, b] 4000).2
  same : listsL (F c [(ofD a).1, (ofD b).1]).1 = (exactL c [a, b] 4000).1
  lb : (F c [(ofD a).1, (ofD b).1]).1.all listB = true
  ln : (F c [(ofD a).1, (ofD b).1]).1.length ≤ 1000
end
end Go.Proofs.YthdpbmcidebagaaGreatDoor.Ev
