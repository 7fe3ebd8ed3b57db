/-
Seat 'a': constraints that may not be are filtered to nothing: ElemRefuses, ReifRefuses: what the laws' functions answer.
Conditions: none.
-/
import Derived.Test.YtnojoaghcbljfaaGreatDoorCq
set_option linter.unusedVariables false
set_option linter.unusedSimpArgs false
set_option maxRecDepth 100000
namespace Go.Proofs.YtnojoaghcbljfaaGreatDoor.Ev
open Go Go.RowKit
structure Refuser (lo hi : Int) (F : Con → List Dom → List Dom × Bool) : Prop where
  kind : ∀ c, fitsB c lo hi = true
  no : ∀ c d, fitsD c d lo hi = false → F c d = ([], false)
  len : ∀ c d, fitsD c d lo hi = true → (F c d).2 = true → (F c d).1.length = d.length
theorem bT {α : Type} {b : Bool} {x y : α} (h : b = true) : (bif b then x else y) = x := by rw [h]; rfl
theorem bF {α : Type} {b : Bool} {x y : α} (h : b = false) : (bif b then x else y) = y := by rw [h]; rfl
end Go.Proofs.YtnojoaghcbljfaaGreatDoor.Ev
