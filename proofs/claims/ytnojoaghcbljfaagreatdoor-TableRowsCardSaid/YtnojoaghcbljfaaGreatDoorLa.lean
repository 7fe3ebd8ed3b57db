/-
The functions as the evaluator runs them: printed by a program of mine, each equation by kernel_rfl.
Conditions: none.
-/
import Derived.Test.YtnojoaghcbljfaaGreatDoorAa
set_option linter.unusedVariables false
set_option linter.unusedSimpArgs false
set_option maxRecDepth 100000
namespace Go.Proofs.YtnojoaghcbljfaaGreatDoor.Ev
open Go
/-! ### 469: slices.Clone[[]uint64,uint64] -/
/-! ### 318: slices.Clone[[][]int,[]int] -/
noncomputable def F318.fn : Func := Go.Proofs.Tryz.f18
noncomputable def F318.E : Env := ⟨tt, [], [(1, [0]), (2, [0, 4]), (3, [0])], [], some [2], inv⟩
theorem F318.start_eq (k : Nat) (a0 : (List (List Int))) : callW F318.E true F318.fn k [.v (.sl (.sl (.int .i64))) a0] =
    bif !(decide (a0.length = 0)) then
      bif decide ((([] : (List (List Int))).length + a0.length) * 24 ≤ LIM) then some (.nw 30 (.sl (.int .i64)) ([] ++ a0)) else none
    else
      none := by kernel_rfl

/-! ### 445g447: (jigsaw/dom.Dom).less -/
/-! ### 447: (jigsaw/dom.Dom).And$1 -/
/-! ### 412: (jigsaw/dom.Dom).And -/
/-! ### 400: jigsaw/lexi.meet -/
/-! ### 356: jigsaw/lexi.known -/
/-! ### 358: (jigsaw/lexi.rows).left -/
/-! ### 359: (jigsaw/lexi.rows).right -/
/-! ### 357g358: jigsaw/lexi.kept -/
/-! ### 357g359: jigsaw/lexi.kept -/
/-! ### 325: jigsaw/lexi.Filter -/
/-! ### 361: jigsaw/jigsawref21.Can -/
/-! ### 360: jigsaw/jigsawref21.fixed -/
/-! ### 327: jigsaw/jigsawref21.Filter -/
/-! ### 362: (jigsaw/dom.Dom).Min -/
/-! ### 386: (jigsaw/dom.Dom).Max -/
/-! ### 324: jigsaw/jigsawlaw21.kind -/
/-! ### 326: jigsaw/jigsawlaw21.doms -/
/-! ### 329: jigsaw/jigsawlaw21.lists -/
/-! ### 332: jigsaw/jigsawlaw21.LexiRefuses$1 -/
end Go.Proofs.YtnojoaghcbljfaaGreatDoor.Ev
