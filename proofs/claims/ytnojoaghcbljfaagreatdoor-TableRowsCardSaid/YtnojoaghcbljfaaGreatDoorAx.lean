/-
Seat 'a': solutions among domains; the values that are in one: what the functions answer.
Conditions: lists are short; each row is as long as it must be.
-/
import Derived.Test.YtnojoaghcbljfaaGreatDoorAw
set_option linter.unusedVariables false
set_option linter.unusedSimpArgs false
set_option maxRecDepth 100000
namespace Go.Proofs.YtnojoaghcbljfaaGreatDoor.Ev
open Go

structure SB (c : Con) (d : List (List Int)) (most : Int) : Prop where
  loc : localB c = true
  pb : productB d most = true
  all : manyL d most = false → ∀ r ∈ prodL d, holdsB (localC c) r = true
end Go.Proofs.YtnojoaghcbljfaaGreatDoor.Ev
