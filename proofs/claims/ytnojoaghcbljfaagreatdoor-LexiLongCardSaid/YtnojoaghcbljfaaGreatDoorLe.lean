/-
What is left of each list is what is in a solution: the laws Filters, Keeps, Fixed of such a filter.
Conditions: none.
-/
import Derived.Test.YtnojoaghcbljfaaGreatDoorDb
set_option linter.unusedVariables false
set_option linter.unusedSimpArgs false
set_option maxRecDepth 100000
namespace Go.Proofs.YtnojoaghcbljfaaGreatDoor.Ev
open Go
structure ExF (F : Con → List Dom → List Dom × Bool) (lo hi : Int) (c : Con) (n : Nat) (P : List (List Int) → List (List Int)) (S : List Int → Prop) : Prop where
  n1 : 1 ≤ n
  n8 : n ≤ 8
  fits : ∀ l, l.length = n → (∀ x ∈ l, okL x = true) → filtB lo hi c (domsL l) = true
  out : ∀ l, l.length = n → (∀ x ∈ l, okL x = true) → (∀ x ∈ l, near3 x) → F c (domsL l) = madeAll (P l)
  len : ∀ l, l.length = n → (P l).length = n
  mem : ∀ l, l.length = n → (∀ x ∈ l, okL x = true) → (∀ x ∈ l, near3 x) → ∀ i x, i < n → (x ∈ (P l).getD i [] ↔ ∃ r, S r ∧ InP r l ∧ r.getD i 0 = x)
  loc : localB c = true
  hb : ∀ r, r.length = n → near3 r → holdsB (localC c) r = true
  hc : ∀ r, r.length = n → near3 r → (holdsC (localC c) r = true ↔ S r)
section
variable {F : Con → List Dom → List Dom × Bool} {lo hi : Int} {c : Con} {n : Nat} {P : List (List Int) → List (List Int)} {S : List Int → Prop}
end
end Go.Proofs.YtnojoaghcbljfaaGreatDoor.Ev
