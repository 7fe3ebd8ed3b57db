/-
Two pieces of code, one behind the other: each by itself.
Conditions: none.
The functions as the evaluator runs them: printed by a program of mine, each equation by kernel_rfl.
Conditions: none.
-/
import Derived.Test.YtnojoaghcbljfaaGreatDoorEvR
import Derived.Test.YtnojoaghcbljfaaGreatDoorCg
set_option linter.unusedVariables false
namespace Go.Proofs.YtnojoaghcbljfaaGreatDoor.Ev
open Go
theorem nrm_cut {E : Env} {lp : Code → Conts → St → Option AV} {b : Code} {Kb : Conts} {g : St → Option AV} {σ1 σ2 : St} (h1 : ∀ σ, g σ = (match tidyAt E b σ with
  | some σ'' => runC E lp b Kb σ''
  | none => none)) (h2 : tidyAt E b σ1 = some σ2) : g σ1 = runC E lp b Kb σ2 := by
 rw [h1, h2]
theorem seq_cut {E : Env} {n : Nat} {c a b : Code} {K : Conts} {σ : St} (hc : c = .seq a b) : runC E (loopF E n) c K σ = runC E (loopF E n) a (contAt E n c K [0]) σ := by
 subst hc
 have h : contAt E n (.seq a b) K [0] = { K with nrm := fun σ' => match tidyAt E b σ' with
  | some σ'' => runC E (loopF E n) b K σ''
  | none => none } := by
  cases a <;> rfl
 rw [h]
 rfl
end Go.Proofs.YtnojoaghcbljfaaGreatDoor.Ev
set_option linter.unusedVariables false
set_option linter.unusedSimpArgs false
set_option maxRecDepth 100000
namespace Go.Proofs.YtnojoaghcbljfaaGreatDoor.Ev
open Go
end Go.Proofs.YtnojoaghcbljfaaGreatDoor.Ev
