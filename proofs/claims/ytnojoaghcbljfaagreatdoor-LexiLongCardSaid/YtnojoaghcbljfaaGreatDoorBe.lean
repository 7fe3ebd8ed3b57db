/-
Seat 'a': what the arguments read as; a law's call by its contract.
Conditions: none.
Seat 'a': what every row of it shares: the table, a world for the witness.
Conditions: none.
-/
import Derived.Test.YtnojoaghcbljfaaGreatDoorBh
import Derived.Test.YtnojoaghcbljfaaGreatDoorEvR
import Derived.Test.YtnojoaghcbljfaaGreatDoorCards
import Derived.Test.YtnojoaghcbljfaaGreatDoorTie
import Derived.ProofKit
import Derived.OpenShut
import Derived.Carry
import Derived.Deep.DeepHandedRow
import Derived.Lib.LaidTab
set_option linter.unusedVariables false
set_option maxRecDepth 100000
namespace Go.Proofs.YtnojoaghcbljfaaGreatDoor.Ev
open Go Go.RowKit
def T : {t : Ty} → t.D → Prop := fun _ => True
theorem rds_u8 : Rds Go.Proofs.Tryz.prog 5 (.int .u8) (fun (n : Int) => 0 ≤ n ∧ n < 256) := rds_weak (rds_int Go.Proofs.Tryz.underlying5) fun (z : Int) (h : IntKind.u8.min ≤ z ∧ z ≤ IntKind.u8.max) => (by
 have h1 : (0 : Int) ≤ z := h.1
 have h2 : z ≤ 255 := h.2
 exact ⟨h1, by omega⟩)
theorem rds_i8 : Rds Go.Proofs.Tryz.prog 35 (.int .i8) (fun (n : Int) => -128 ≤ n ∧ n ≤ 127) := rds_weak (rds_int Go.Proofs.Tryz.underlying35) fun (z : Int) (h : IntKind.i8.min ≤ z ∧ z ≤ IntKind.i8.max) => h
theorem rds_i8s : Rds Go.Proofs.Tryz.prog 23 (.sl (.int .i8)) I8s := rds_slice Go.Proofs.Tryz.underlying23 (of_decide_eq_true (by kernel_rfl)) rds_i8
theorem law_calls {I : World → Prop} {f : Nat} {fn : Func} {args : List AV} (hf : Go.Proofs.Tryz.prog.funcs[f]? = some fn) (h1 : (fn.name == "runtime.NumGoroutine") = false) (h2 : fn.body.isNone = false) (h : CallSpec Go.Proofs.Tryz.prog I f args (.v .bool true)) {us : List Value} {W : World} (hI : I W) (hr : F2 (rel W (oldB W) [] mz) args us) :
  Calls Go.Proofs.Tryz.prog f us.toArray W fun e w' => e = .returned (.bool true) ∧ Below W.heap.size W w' := by
 have hent := callFunc_enter hf h1 h2 us.toArray W
 rcases h W (oldB W) us hI (fun _ h => h) hr with ⟨_, h⟩ | ⟨u, h, _⟩
 ·refine h.mono fun e w' he => ?_
  obtain ⟨u, rfl, hB, okR, mR, _, hr, _⟩ := he
  have hr : rel w' okR [] mz (.v .bool true) u := hr
  rw [rd_bool hr]
  exact ⟨rfl, hB⟩
 ·rw [hent] at h
  simp at h
end Go.Proofs.YtnojoaghcbljfaaGreatDoor.Ev
set_option linter.unusedVariables false
namespace Go.Proofs.YtnojoaghcbljfaaGreatDoor
open Go.ChangeShapes Go.WideShapes Go.ChangeAt Go.RowKit
theorem Tryz.own : ownKnob Tryz.prog.godebug = none := by kernel_rfl
theorem Tryz.laidOut : laidOutB Tryz.prog = true := by kernel_rfl
theorem Tryz.gTab : Tryz.prog.globalNamed "math/bits.deBruijn64tab" = some 0 := by kernel_rfl
theorem Tryz.gTabType : (Tryz.prog.globals[0]?).map (·.type) = some 115 := by kernel_rfl
theorem Tryz.cells115 : Tryz.prog.cellsOf 115 = 64 := by kernel_rfl
theorem Tryz.cells5' : Tryz.prog.cellsOf 5 = 1 := by kernel_rfl
def tabI : List Int := Lib.deBruijn64tab.map fun (n : Nat) => (n : Int)
def laidL {H : Type} : List (String × DataW H) := [("math/bits.deBruijn64tab", Rows.laid_math_bits_deBruijn64tab)]
theorem laid_tab {W : World} (h : laidMetH Tryz.prog laidL W) : Lib.TabIs Tryz.prog W "math/bits.deBruijn64tab" .u8 tabI :=
 Lib.tabIs_of_head (rest := []) Tryz.gTab Tryz.gTabType Tryz.underlying115 Tryz.underlying5 Tryz.cells5' Tryz.cells115 h
theorem inv_laid {W : World} (h : laidMetH Tryz.prog laidL W) : YtnojoaghcbljfaaGreatDoor.Ev.inv W := by
 intro j hj
 have h1 := (laid_tab h).cell Tryz.gTab j (by simpa [tabI] using hj)
 rw [h1]
 simp [tabI, List.getD, hj]
noncomputable def laidWorld (os : Os) : World :=
 {World.holding Tryz.prog os ⟨#[], #[], []⟩ with heap := (World.holding Tryz.prog os ⟨#[], #[], []⟩).heap.modify 0 fun
   | .cells _ t frozen => .cells (tabI.map fun n => Value.int .u8 n).toArray t frozen
   | o => o }
def nilS : Value := .slice none 0 0
end Go.Proofs.YtnojoaghcbljfaaGreatDoor
