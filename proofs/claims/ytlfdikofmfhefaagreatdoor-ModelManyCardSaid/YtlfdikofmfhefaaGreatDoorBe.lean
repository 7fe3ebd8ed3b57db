/-
Seat 'a': what the arguments read as; a law's call by its contract.
Conditions: none.
Seat 'a': what every row of it shares: the table, a world for the witness.
Conditions: none.
-/
import Derived.Test.YtlfdikofmfhefaaGreatDoorBh
import Derived.Test.YtlfdikofmfhefaaGreatDoorEvR
import Derived.Test.YtlfdikofmfhefaaGreatDoorCards
import Derived.Test.YtlfdikofmfhefaaGreatDoorTie
import Derived.ProofKit
import Derived.OpenShut
import Derived.Carry
import Derived.Deep.DeepHandedRow
import Derived.Lib.LaidTab
set_option linter.unusedVariables false
set_option maxRecDepth 100000
namespace Go.Proofs.YtlfdikofmfhefaaGreatDoor.Ev
open Go Go.RowKit
def T : {t : Ty} → t.D → Prop := fun _ => True
theorem law_calls {I : World → Prop} {f : Nat} {fn : Func} {args : List AV} (hf : Go.Proofs.Tryz.prog.funcs[f]? = some fn) (h1 : (fn.name == "runtime.NumGoroutine") = false) (h2 : fn.body.isNone = false) (h : CallSpec Go.Proofs.Tryz.prog I f args (.v .bool true)) {us : List Value} {W : World} (hI : I W) (hr : F2 (rel W (oldB W) [] mz) args us) :
  Calls Go.Proofs.Tryz.prog f us.toArray W fun e w' => e = .returned (.bool true) ∧ Below W.heap.size W w' := by
 have hent := callFunc_enter hf h1 h2 us.toArray W
 rcases h W (oldB W) us hI (fun _ h => h) hr with ⟨_, h⟩ | ⟨u, h, _⟩
 ·refine h.mono fun e w' he => ?_
  obtain ⟨u, rfl, hB, okR, mR, _, hr, _⟩ := he
  have hr : rel w' okR [] mz (.v .bool true) u := hr
  rw [rd_bool hr]
  exact ⟨rfl, hB⟩
 ·rw [hent] at h
  simp at h
end Go.Proofs.YtlfdikofmfhefaaGreatDoor.Ev
set_option linter.unusedVariables false
namespace Go.Proofs.YtlfdikofmfhefaaGreatDoor
open Go.ChangeShapes Go.WideShapes Go.ChangeAt Go.RowKit
theorem Tryz.own : ownKnob Tryz.prog.godebug = none := by kernel_rfl
theorem Tryz.gTab : Tryz.prog.globalNamed "math/bits.deBruijn64tab" = some 0 := by kernel_rfl
theorem Tryz.gTabType : (Tryz.prog.globals[0]?).map (·.type) = some 162 := by kernel_rfl
theorem Tryz.cells162 : Tryz.prog.cellsOf 162 = 64 := by kernel_rfl
theorem Tryz.cells5' : Tryz.prog.cellsOf 5 = 1 := by kernel_rfl
def tabI : List Int := Lib.deBruijn64tab.map fun (n : Nat) => (n : Int)
def laidL {H : Type} : List (String × DataW H) := [("math/bits.deBruijn64tab", Rows.laid_math_bits_deBruijn64tab)]
theorem laid_tab {W : World} (h : laidMetH Tryz.prog laidL W) : Lib.TabIs Tryz.prog W "math/bits.deBruijn64tab" .u8 tabI :=
 Lib.tabIs_of_head (rest := []) Tryz.gTab Tryz.gTabType Tryz.underlying162 Tryz.underlying5 Tryz.cells5' Tryz.cells162 h
theorem inv_laid {W : World} (h : laidMetH Tryz.prog laidL W) : YtlfdikofmfhefaaGreatDoor.Ev.inv W := by
 intro j hj
 have h1 := (laid_tab h).cell Tryz.gTab j (by simpa [tabI] using hj)
 rw [h1]
 simp [tabI, List.getD, hj]
noncomputable def laidWorld (os : Os) : World :=
 {World.holding Tryz.prog os ⟨#[], #[], []⟩ with heap := (World.holding Tryz.prog os ⟨#[], #[], []⟩).heap.modify 0 fun
   | .cells _ t frozen => .cells (tabI.map fun n => Value.int .u8 n).toArray t frozen
   | o => o }
end Go.Proofs.YtlfdikofmfhefaaGreatDoor
