/-
Seat 'a': what every row of it shares: the table, a world for the witness.
Conditions: none.
-/
import Derived.Test.YtnojoaghcbljfaaGreatDoorCards
import Derived.Test.YtnojoaghcbljfaaGreatDoorTie
import Derived.Test.YtnojoaghcbljfaaGreatDoorBe
import Derived.ProofKit
import Derived.OpenShut
import Derived.Carry
import Derived.Deep.DeepHandedRow
import Derived.Lib.LaidTab
set_option linter.unusedVariables false
namespace Go.Proofs.YtnojoaghcbljfaaGreatDoor
open Go.ChangeShapes Go.WideShapes Go.ChangeAt Go.RowKit

theorem Tryz.own : ownKnob Tryz.prog.godebug = none := by kernel_rfl
theorem Tryz.laidOut : laidOutB Tryz.prog = true := by kernel_rfl
theorem Tryz.gTab : Tryz.prog.globalNamed "math/bits.deBruijn64tab" = some 0 := by kernel_rfl
theorem Tryz.gTabType : (Tryz.prog.globals[0]?).map (·.type) = some 115 := by kernel_rfl
theorem Tryz.cells115 : Tryz.prog.cellsOf 115 = 64 := by kernel_rfl
theorem Tryz.cells5' : Tryz.prog.cellsOf 5 = 1 := by kernel_rfl
def tabI : List Int := Lib.deBruijn64tab.map fun (n : Nat) => (n : Int)
def laidL {H : Type} : List (String × DataW H) := [("math/bits.deBruijn64tab", Rows.laid_math_bits_deBruijn64tab)]
theorem laid_tab {W : World} (h : laidMetH Tryz.prog laidL W) : Lib.TabIs Tryz.prog W "math/bits.deBruijn64tab" .u8 tabI :=
  Lib.tabIs_of_head (rest := []) Tryz.gTab Tryz.gTabType Tryz.underlying115 Tryz.underlying5 Tryz.cells5' Tryz.cells115 h
theorem inv_laid {W : World} (h : laidMetH Tryz.prog laidL W) : YtnojoaghcbljfaaGreatDoor.Ev.inv W := by
  intro j hj
  have h1 := (laid_tab h).cell Tryz.gTab j (by simpa [tabI] using hj)
  rw [h1]
  simp [tabI, List.getD, hj]
/-- A world for the witness: the settled one, with the table laid. -/
noncomputable def laidWorld (os : Os) : World :=
  { World.holding Tryz.prog os ⟨#[], #[], []⟩ with heap := (World.holding Tryz.prog os ⟨#[], #[], []⟩).heap.modify 0 fun
      | .cells _ t frozen => .cells (tabI.map fun n => Value.int .u8 n).toArray t frozen
      | o => o }
def nilS : Value := .slice none 0 0
def smallA : List Value := [.int .u8 0, nilS, nilS, nilS, .int .i16 0, .int .u8 0]
def caseA : Value := .agg (smallA ++ [nilS]).toArray
def smallD {H : Type} : DataW H := .agg [.lit (.int .u8 0), .nil, .nil, .nil, .lit (.int .i16 0), .lit (.int .u8 0)]
def caseD {H : Type} : DataW H := .agg [smallD, .nil]
end Go.Proofs.YtnojoaghcbljfaaGreatDoor
