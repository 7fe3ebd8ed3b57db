/-
Seat 'a': the functions as the evaluator runs them: printed by a program of mine, each equation by kernel_rfl.
Conditions: none.
-/
import Derived.Test.YthdpbmcidebagaaGreatDoorAa
set_option linter.unusedVariables false
set_option maxRecDepth 100000
namespace Go.Proofs.YthdpbmcidebagaaGreatDoor.Ev
open Go
/-! ### 15: jigsaw/jigsawref10.Make -/
/-! ### 3: jigsaw/jigsawlaw13.ElemFilters -/
/-! ### 5: jigsaw/jigsawlaw13.ElemFixed -/
/-! ### 6: jigsaw/jigsawlaw13.ElemKeeps -/
/-! ### 7: jigsaw/jigsawlaw15.ReifFilters -/
/-! ### 9: jigsaw/jigsawlaw15.ReifFixed -/
/-! ### 14: jigsaw/jigsawlaw15.ReifKeeps -/
end Go.Proofs.YthdpbmcidebagaaGreatDoor.Ev
