/-
The functions as the evaluator runs them: printed by a program of mine, each equation by kernel_rfl.
Conditions: none.
-/
import Derived.Test.YtnojoaghcbljfaaGreatDoorCg
set_option linter.unusedVariables false
set_option linter.unusedSimpArgs false
set_option maxRecDepth 100000
namespace Go.Proofs.YtnojoaghcbljfaaGreatDoor.Ev
open Go
noncomputable def F309.fn : Func := Go.Proofs.Tryz.f9
noncomputable def F309.E : Env := ⟨tt, [(14, h_makeA), (20, h_sameL), (39, h_linF), (40, h_doms340), (41, h_linR), (42, h_wakes342), (43, h_lists343)], [(1, [1, 2]), (2, [5, 6]), (3, [5, 6, 7, 8]), (4, [7, 8, 9, 10])], [], some [4], inv⟩
theorem F309.start_eq (k : Nat) (a0 : (Int × ((List Int) × ((List Int) × ((List Int) × (Int × Int))))) × (List (List Int))) (a1 : Int) : callW F309.E false F309.fn k [.agg [.v (.int .u8) a0.1.1, .v (.sl (.int .u8)) a0.1.2.1, .v (.sl (.int .u8)) a0.1.2.2.1, .v (.sl (.int .i8)) a0.1.2.2.2.1, .v (.int .i16) a0.1.2.2.2.2.1, .v (.int .u8) a0.1.2.2.2.2.2, .v (.sl (.sl (.int .i64))) a0.2], .v (.int .u8) a1] =
 bif makeAB a0 (IntKind.i64.wrap (1 + (IntKind.i64.wrap (a1.tmod 4)))) 12 then
 bif Nat.ble (makeAL a0 (IntKind.i64.wrap (1 + (IntKind.i64.wrap (a1.tmod 4)))) 12).length 1000 then
 bif linFB (makeAC a0 (IntKind.i64.wrap (1 + (IntKind.i64.wrap (a1.tmod 4))))) (domsL (makeAL a0 (IntKind.i64.wrap (1 + (IntKind.i64.wrap (a1.tmod 4)))) 12)) then
 bif linRB (makeAC a0 (IntKind.i64.wrap (1 + (IntKind.i64.wrap (a1.tmod 4))))) (makeAL a0 (IntKind.i64.wrap (1 + (IntKind.i64.wrap (a1.tmod 4)))) 12) then
 bif ((linF (makeAC a0 (IntKind.i64.wrap (1 + (IntKind.i64.wrap (a1.tmod 4))))) (domsL (makeAL a0 (IntKind.i64.wrap (1 + (IntKind.i64.wrap (a1.tmod 4)))) 12))).2) == ((linR (makeAC a0 (IntKind.i64.wrap (1 + (IntKind.i64.wrap (a1.tmod 4))))) (makeAL a0 (IntKind.i64.wrap (1 + (IntKind.i64.wrap (a1.tmod 4)))) 12)).2) then
 bif Nat.ble ((linF (makeAC a0 (IntKind.i64.wrap (1 + (IntKind.i64.wrap (a1.tmod 4))))) (domsL (makeAL a0 (IntKind.i64.wrap (1 + (IntKind.i64.wrap (a1.tmod 4)))) 12))).1).length 1000 && ((linF (makeAC a0 (IntKind.i64.wrap (1 + (IntKind.i64.wrap (a1.tmod 4))))) (domsL (makeAL a0 (IntKind.i64.wrap (1 + (IntKind.i64.wrap (a1.tmod 4)))) 12))).1).all listB then
 bif Nat.ble (listsL ((linF (makeAC a0 (IntKind.i64.wrap (1 + (IntKind.i64.wrap (a1.tmod 4))))) (domsL (makeAL a0 (IntKind.i64.wrap (1 + (IntKind.i64.wrap (a1.tmod 4)))) 12))).1)).length 1000 && lensB (listsL ((linF (makeAC a0 (IntKind.i64.wrap (1 + (IntKind.i64.wrap (a1.tmod 4))))) (domsL (makeAL a0 (IntKind.i64.wrap (1 + (IntKind.i64.wrap (a1.tmod 4)))) 12))).1)) then
 some (.v .bool (sameL (listsL ((linF (makeAC a0 (IntKind.i64.wrap (1 + (IntKind.i64.wrap (a1.tmod 4))))) (domsL (makeAL a0 (IntKind.i64.wrap (1 + (IntKind.i64.wrap (a1.tmod 4)))) 12))).1)) ((linR (makeAC a0 (IntKind.i64.wrap (1 + (IntKind.i64.wrap (a1.tmod 4))))) (makeAL a0 (IntKind.i64.wrap (1 + (IntKind.i64.wrap (a1.tmod 4)))) 12)).1)))
 else
 none
 else
 none
 else
 some (.v .bool false)
 else
 none
 else
 none
 else
 none
 else
 none := by kernel_rfl
end Go.Proofs.YtnojoaghcbljfaaGreatDoor.Ev
