/-
The functions as the evaluator runs them: printed by a program of mine, each equation by kernel_rfl.
Conditions: none.
-/
import Derived.Test.YtohdaehblenokaaGh
import Derived.Test.YtohdaehblenokaaCf
import Derived.Test.YtohdaehblenokaaYd
set_option linter.unusedVariables false
set_option linter.unusedSimpArgs false
set_option maxRecDepth 100000
namespace Go.Proofs.Ytohdaehblenokaa.Ev
open Go
noncomputable def F526.fn : Func := Go.Proofs.Try.f12
noncomputable def F526.E : Env := ⟨tt, [(8, h_holdsX)], [(1, []), (2, [1]), (3, [1, 2])], [], some [0], inv, []⟩
theorem F526.start_eq (k : Nat)  : callW F526.E false F526.fn k [] =
 bif holdsXB (17, ([0,1,2], ([], ([], ([], ([], ((0 : Int), []))))))) [3,1,2] then
 bif holdsX (17, ([0,1,2], ([], ([], ([], ([], ((0 : Int), []))))))) [3,1,2] then
 bif holdsXB (17, ([0,1,2], ([], ([], ([], ([], ((0 : Int), []))))))) [3,1,3] then
 bif !(holdsX (17, ([0,1,2], ([], ([], ([], ([], ((0 : Int), []))))))) [3,1,3]) then
 bif holdsXB (20, ([0,1,2], ([], ([], ([], ([], ((0 : Int), []))))))) [2,3,1] then
 bif holdsX (20, ([0,1,2], ([], ([], ([], ([], ((0 : Int), []))))))) [2,3,1] then
 bif holdsXB (20, ([0,1,2], ([], ([], ([], ([], ((0 : Int), []))))))) [1,3,2] then
 some (.v .bool (!(holdsX (20, ([0,1,2], ([], ([], ([], ([], ((0 : Int), []))))))) [1,3,2])))
 else
 none
 else
 some (.v .bool false)
 else
 none
 else
 some (.v .bool false)
 else
 none
 else
 some (.v .bool false)
 else
 none := by kernel_rfl
noncomputable def F726.fn : Func := Go.Proofs.Try.f7
noncomputable def F726.E : Env := ⟨tt, [], [(1, [0, 1, 3]), (2, [0, 3, 4]), (3, [3, 4])], [], some [3], inv, []⟩
theorem F726.start_eq (k : Nat) (a0 kk : Int) (c : (List Int) × ((List Int) × ((List Int) × ((List Int) × ((List Int) × (Int × (List (List Int)))))))) : callW F726.E false F726.fn k [.v (.int .i64) a0, .rp (bC kk c.1 c.2.1 c.2.2.1 c.2.2.2.1 c.2.2.2.2.1 c.2.2.2.2.2.1 c.2.2.2.2.2.2)] =
 some (.agg (bC a0 c.1 c.2.1 c.2.2.1 c.2.2.2.1 c.2.2.2.2.1 c.2.2.2.2.2.1 c.2.2.2.2.2.2)) := by kernel_rfl
noncomputable def F727.fn : Func := Go.Proofs.Try.f13
noncomputable def F727.E : Env := ⟨tt, [(14, h_cloneI)], [(1, [0]), (2, [3]), (3, [3])], [], some [2], inv, [(15, h_revI)]⟩
theorem F727.start_eq (k : Nat) (a0 : List Int) : callW F727.E false F727.fn k [.v (.sl (.int .i64)) a0] =
 bif Nat.ble a0.length 1000 then
 bif Nat.ble (List.length a0) 2000 then some (.v (.sl (.int .i64)) (List.reverse a0)) else none
 else
 none := by kernel_rfl
noncomputable def F517.fn : Func := Go.Proofs.Try.f14
noncomputable def F517.E : Env := ⟨tt, [], [(1, [0]), (2, [0, 4]), (3, [0])], [], some [2], inv, []⟩
theorem F517.start_eq (k : Nat) (a0 : List Int) : callW F517.E true F517.fn k [.v (.sl (.int .i64)) a0] =
 bif !(decide (a0.length = 0)) then
 bif decide ((([] : (List Int)).length + a0.length) * 8 ≤ LIM) then some (.nw 3 (.int .i64) ([] ++ a0)) else none
 else
 none := by kernel_rfl
noncomputable def F318.fn : Func := Go.Proofs.Try.f16
noncomputable def F318.E : Env := ⟨tt, [], [(1, [0]), (2, [0, 4]), (3, [0])], [], some [2], inv, []⟩
theorem F318.start_eq (k : Nat) (a0 : List (List Int)) : callW F318.E true F318.fn k [.v (.sl (.sl (.int .i64))) a0] =
 bif !(decide (a0.length = 0)) then
 bif decide ((([] : (List (List Int))).length + a0.length) * 24 ≤ LIM) then some (.nw 27 (.sl (.int .i64)) ([] ++ a0)) else none
 else
 none := by kernel_rfl
noncomputable def F724.fn : Func := Go.Proofs.Try.f3
noncomputable def F724.E : Env := ⟨tt, [(5, h_nearL), (6, h_conA), (7, h_withK), (8, h_holdsX), (10, h_sorted), (11, h_values), (12, h_wakes526)], [(1, [1, 2]), (2, [2, 5]), (3, [5, 6]), (4, [5, 6, 7]), (5, [5, 6, 7, 16]), (6, [5, 6, 7, 16, 17]), (7, [5, 6, 7, 16, 17]), (8, [41]), (10, [5, 6, 7, 16, 42]), (11, [5, 6, 7, 16, 42]), (12, [5, 6, 7, 8]), (13, [5, 6, 7, 8, 47]), (14, [5, 6, 7, 8]), (15, [5, 6, 58]), (16, [5, 6]), (17, [81]), (19, [5, 6, 16, 82]), (20, [97]), (22, [5, 6, 98]), (23, [5, 6, 9]), (24, [5, 6, 9]), (25, [113]), (26, [])], [(0, [])], some [4], inv, [(9, h_comp)]⟩
theorem F724.start_eq (k : Nat) (a0 : Int × ((List Int) × ((List Int) × ((List Int) × (Int × Int))))) (a1 : List Int) : callW F724.E false F724.fn k [.agg [.v (.int .u8) a0.1, .v (.sl (.int .u8)) a0.2.1, .v (.sl (.int .u8)) a0.2.2.1, .v (.sl (.int .i8)) a0.2.2.2.1, .v (.int .i16) a0.2.2.2.2.1, .v (.int .u8) a0.2.2.2.2.2], .v (.sl (.int .i64)) a1] =
 bif nearLB a1 5 then
 bif conAB a0 5 then
 bif decide (((conA a0 5).1) = 1) then
 bif holdsXB (1, (conA a0 5).2) (nearL a1 5) then
 bif holdsXB (3, (conA a0 5).2) (nearL a1 5) then
 bif (holdsX (1, (conA a0 5).2) (nearL a1 5)) == (holdsX (3, (conA a0 5).2) (nearL a1 5)) then
 some (.v .bool false)
 else
 bif holdsXB (1, (conA a0 5).2) (nearL a1 5) then
 bif holdsX (1, (conA a0 5).2) (nearL a1 5) then
 bif holdsXB (2, (conA a0 5).2) (nearL a1 5) then
 bif !(holdsX (2, (conA a0 5).2) (nearL a1 5)) then some (.v .bool false) else some (.v .bool true)
 else
 none
 else
 some (.v .bool true)
 else
 none
 else
 none
 else
 none
 else
 bif decide (((conA a0 5).1) = 3) then
 bif holdsXB (1, (conA a0 5).2) (nearL a1 5) then
 bif holdsXB (3, (conA a0 5).2) (nearL a1 5) then
 bif (holdsX (1, (conA a0 5).2) (nearL a1 5)) == (holdsX (3, (conA a0 5).2) (nearL a1 5)) then
 some (.v .bool false)
 else
 bif holdsXB (1, (conA a0 5).2) (nearL a1 5) then
 bif holdsX (1, (conA a0 5).2) (nearL a1 5) then
 bif holdsXB (2, (conA a0 5).2) (nearL a1 5) then
 bif !(holdsX (2, (conA a0 5).2) (nearL a1 5)) then some (.v .bool false) else some (.v .bool true)
 else
 none
 else
 some (.v .bool true)
 else
 none
 else
 none
 else
 none
 else
 bif decide (((conA a0 5).1) = 13) then
 bif decide (((conA a0 5).1) = 14) then
 bif holdsXB (conA a0 5) (nearL a1 5) then
 bif holdsX (conA a0 5) (nearL a1 5) then
 bif holdsXB (16, (conA a0 5).2) (nearL a1 5) then
 bif !(holdsX (16, (conA a0 5).2) (nearL a1 5)) then
 some (.v .bool false)
 else
 bif holdsXB (conA a0 5) (nearL a1 5) then
 bif holdsX (conA a0 5) (nearL a1 5) then
 bif decide ((0 : Int) < ((((conA a0 5).2).2).1).length) then
 bif decide (0 ≤ (((((conA a0 5).2).2).1).getD 0 (0 : Int))) && decide ((((((conA a0 5).2).2).1).getD 0 (0 : Int)) < (nearL a1 5).length) then
 bif !(decide (((nearL a1 5).getD ((((((conA a0 5).2).2).1).getD 0 (0 : Int)).toNat) (0 : Int)) = 0)) then
 bif decide ((0 : Int) < ((((conA a0 5).2).2).1).length) then
 bif decide (0 ≤ (((((conA a0 5).2).2).1).getD 0 (0 : Int))) && decide ((((((conA a0 5).2).2).1).getD 0 (0 : Int)) < (nearL a1 5).length) then
 bif !(decide (((nearL a1 5).getD ((((((conA a0 5).2).2).1).getD 0 (0 : Int)).toNat) (0 : Int)) = 1)) then some (.v .bool false) else some (.v .bool true)
 else
 none
 else
 none
 else
 some (.v .bool true)
 else
 none
 else
 none
 else
 some (.v .bool true)
 else
 none
 else
 none
 else
 bif holdsXB (conA a0 5) (nearL a1 5) then
 bif holdsX (conA a0 5) (nearL a1 5) then
 bif decide ((0 : Int) < ((((conA a0 5).2).2).1).length) then
 bif decide (0 ≤ (((((conA a0 5).2).2).1).getD 0 (0 : Int))) && decide ((((((conA a0 5).2).2).1).getD 0 (0 : Int)) < (nearL a1 5).length) then
 bif !(decide (((nearL a1 5).getD ((((((conA a0 5).2).2).1).getD 0 (0 : Int)).toNat) (0 : Int)) = 0)) then
 bif decide ((0 : Int) < ((((conA a0 5).2).2).1).length) then
 bif decide (0 ≤ (((((conA a0 5).2).2).1).getD 0 (0 : Int))) && decide ((((((conA a0 5).2).2).1).getD 0 (0 : Int)) < (nearL a1 5).length) then
 bif !(decide (((nearL a1 5).getD ((((((conA a0 5).2).2).1).getD 0 (0 : Int)).toNat) (0 : Int)) = 1)) then some (.v .bool false) else some (.v .bool true)
 else
 none
 else
 none
 else
 some (.v .bool true)
 else
 none
 else
 none
 else
 some (.v .bool true)
 else
 none
 else
 none
 else
 bif holdsXB (conA a0 5) (nearL a1 5) then
 bif holdsX (conA a0 5) (nearL a1 5) then
 bif holdsXB (15, (conA a0 5).2) (nearL a1 5) then
 bif !(holdsX (15, (conA a0 5).2) (nearL a1 5)) then
 some (.v .bool false)
 else
 bif holdsXB (conA a0 5) (nearL a1 5) then
 bif holdsX (conA a0 5) (nearL a1 5) then
 bif decide ((0 : Int) < ((((conA a0 5).2).2).1).length) then
 bif decide (0 ≤ (((((conA a0 5).2).2).1).getD 0 (0 : Int))) && decide ((((((conA a0 5).2).2).1).getD 0 (0 : Int)) < (nearL a1 5).length) then
 bif !(decide (((nearL a1 5).getD ((((((conA a0 5).2).2).1).getD 0 (0 : Int)).toNat) (0 : Int)) = 0)) then
 bif decide ((0 : Int) < ((((conA a0 5).2).2).1).length) then
 bif decide (0 ≤ (((((conA a0 5).2).2).1).getD 0 (0 : Int))) && decide ((((((conA a0 5).2).2).1).getD 0 (0 : Int)) < (nearL a1 5).length) then
 bif !(decide (((nearL a1 5).getD ((((((conA a0 5).2).2).1).getD 0 (0 : Int)).toNat) (0 : Int)) = 1)) then some (.v .bool false) else some (.v .bool true)
 else
 none
 else
 none
 else
 some (.v .bool true)
 else
 none
 else
 none
 else
 some (.v .bool true)
 else
 none
 else
 none
 else
 bif holdsXB (conA a0 5) (nearL a1 5) then
 bif holdsX (conA a0 5) (nearL a1 5) then
 bif decide ((0 : Int) < ((((conA a0 5).2).2).1).length) then
 bif decide (0 ≤ (((((conA a0 5).2).2).1).getD 0 (0 : Int))) && decide ((((((conA a0 5).2).2).1).getD 0 (0 : Int)) < (nearL a1 5).length) then
 bif !(decide (((nearL a1 5).getD ((((((conA a0 5).2).2).1).getD 0 (0 : Int)).toNat) (0 : Int)) = 0)) then
 bif decide ((0 : Int) < ((((conA a0 5).2).2).1).length) then
 bif decide (0 ≤ (((((conA a0 5).2).2).1).getD 0 (0 : Int))) && decide ((((((conA a0 5).2).2).1).getD 0 (0 : Int)) < (nearL a1 5).length) then
 bif !(decide (((nearL a1 5).getD ((((((conA a0 5).2).2).1).getD 0 (0 : Int)).toNat) (0 : Int)) = 1)) then some (.v .bool false) else some (.v .bool true)
 else
 none
 else
 none
 else
 some (.v .bool true)
 else
 none
 else
 none
 else
 some (.v .bool true)
 else
 none
 else
 none
 else
 bif decide (((conA a0 5).1) = 14) then
 bif decide (((conA a0 5).1) = 14) then
 bif holdsXB (conA a0 5) (nearL a1 5) then
 bif holdsX (conA a0 5) (nearL a1 5) then
 bif holdsXB (16, (conA a0 5).2) (nearL a1 5) then
 bif !(holdsX (16, (conA a0 5).2) (nearL a1 5)) then
 some (.v .bool false)
 else
 bif holdsXB (conA a0 5) (nearL a1 5) then
 bif holdsX (conA a0 5) (nearL a1 5) then
 bif decide ((0 : Int) < ((((conA a0 5).2).2).1).length) then
 bif decide (0 ≤ (((((conA a0 5).2).2).1).getD 0 (0 : Int))) && decide ((((((conA a0 5).2).2).1).getD 0 (0 : Int)) < (nearL a1 5).length) then
 bif !(decide (((nearL a1 5).getD ((((((conA a0 5).2).2).1).getD 0 (0 : Int)).toNat) (0 : Int)) = 0)) then
 bif decide ((0 : Int) < ((((conA a0 5).2).2).1).length) then
 bif decide (0 ≤ (((((conA a0 5).2).2).1).getD 0 (0 : Int))) && decide ((((((conA a0 5).2).2).1).getD 0 (0 : Int)) < (nearL a1 5).length) then
 bif !(decide (((nearL a1 5).getD ((((((conA a0 5).2).2).1).getD 0 (0 : Int)).toNat) (0 : Int)) = 1)) then some (.v .bool false) else some (.v .bool true)
 else
 none
 else
 none
 else
 some (.v .bool true)
 else
 none
 else
 none
 else
 some (.v .bool true)
 else
 none
 else
 none
 else
 bif holdsXB (conA a0 5) (nearL a1 5) then
 bif holdsX (conA a0 5) (nearL a1 5) then
 bif decide ((0 : Int) < ((((conA a0 5).2).2).1).length) then
 bif decide (0 ≤ (((((conA a0 5).2).2).1).getD 0 (0 : Int))) && decide ((((((conA a0 5).2).2).1).getD 0 (0 : Int)) < (nearL a1 5).length) then
 bif !(decide (((nearL a1 5).getD ((((((conA a0 5).2).2).1).getD 0 (0 : Int)).toNat) (0 : Int)) = 0)) then
 bif decide ((0 : Int) < ((((conA a0 5).2).2).1).length) then
 bif decide (0 ≤ (((((conA a0 5).2).2).1).getD 0 (0 : Int))) && decide ((((((conA a0 5).2).2).1).getD 0 (0 : Int)) < (nearL a1 5).length) then
 bif !(decide (((nearL a1 5).getD ((((((conA a0 5).2).2).1).getD 0 (0 : Int)).toNat) (0 : Int)) = 1)) then some (.v .bool false) else some (.v .bool true)
 else
 none
 else
 none
 else
 some (.v .bool true)
 else
 none
 else
 none
 else
 some (.v .bool true)
 else
 none
 else
 none
 else
 bif holdsXB (conA a0 5) (nearL a1 5) then
 bif holdsX (conA a0 5) (nearL a1 5) then
 bif holdsXB (15, (conA a0 5).2) (nearL a1 5) then
 bif !(holdsX (15, (conA a0 5).2) (nearL a1 5)) then
 some (.v .bool false)
 else
 bif holdsXB (conA a0 5) (nearL a1 5) then
 bif holdsX (conA a0 5) (nearL a1 5) then
 bif decide ((0 : Int) < ((((conA a0 5).2).2).1).length) then
 bif decide (0 ≤ (((((conA a0 5).2).2).1).getD 0 (0 : Int))) && decide ((((((conA a0 5).2).2).1).getD 0 (0 : Int)) < (nearL a1 5).length) then
 bif !(decide (((nearL a1 5).getD ((((((conA a0 5).2).2).1).getD 0 (0 : Int)).toNat) (0 : Int)) = 0)) then
 bif decide ((0 : Int) < ((((conA a0 5).2).2).1).length) then
 bif decide (0 ≤ (((((conA a0 5).2).2).1).getD 0 (0 : Int))) && decide ((((((conA a0 5).2).2).1).getD 0 (0 : Int)) < (nearL a1 5).length) then
 bif !(decide (((nearL a1 5).getD ((((((conA a0 5).2).2).1).getD 0 (0 : Int)).toNat) (0 : Int)) = 1)) then some (.v .bool false) else some (.v .bool true)
 else
 none
 else
 none
 else
 some (.v .bool true)
 else
 none
 else
 none
 else
 some (.v .bool true)
 else
 none
 else
 none
 else
 bif holdsXB (conA a0 5) (nearL a1 5) then
 bif holdsX (conA a0 5) (nearL a1 5) then
 bif decide ((0 : Int) < ((((conA a0 5).2).2).1).length) then
 bif decide (0 ≤ (((((conA a0 5).2).2).1).getD 0 (0 : Int))) && decide ((((((conA a0 5).2).2).1).getD 0 (0 : Int)) < (nearL a1 5).length) then
 bif !(decide (((nearL a1 5).getD ((((((conA a0 5).2).2).1).getD 0 (0 : Int)).toNat) (0 : Int)) = 0)) then
 bif decide ((0 : Int) < ((((conA a0 5).2).2).1).length) then
 bif decide (0 ≤ (((((conA a0 5).2).2).1).getD 0 (0 : Int))) && decide ((((((conA a0 5).2).2).1).getD 0 (0 : Int)) < (nearL a1 5).length) then
 bif !(decide (((nearL a1 5).getD ((((((conA a0 5).2).2).1).getD 0 (0 : Int)).toNat) (0 : Int)) = 1)) then some (.v .bool false) else some (.v .bool true)
 else
 none
 else
 none
 else
 some (.v .bool true)
 else
 none
 else
 none
 else
 some (.v .bool true)
 else
 none
 else
 none
 else
 bif decide (((conA a0 5).1) = 20) then
 bif holdsXB (conA a0 5) (nearL a1 5) then
 bif holdsX (conA a0 5) (nearL a1 5) then
 bif sortB (((conA a0 5).2).1) then
 bif !(List.isEmpty (sortL (((conA a0 5).2).1))) && Nat.ble (List.length (sortL (((conA a0 5).2).1))) 1000 then
 bif holdsXB (17, (compL (sortL (((conA a0 5).2).1)), ([], ([], ([], ([], ((0 : Int), []))))))) (nearL a1 5) then
 bif !(holdsX (17, (compL (sortL (((conA a0 5).2).1)), ([], ([], ([], ([], ((0 : Int), []))))))) (nearL a1 5)) then some (.v .bool false) else some (.v .bool true)
 else
 none
 else
 none
 else
 none
 else
 some (.v .bool true)
 else
 none
 else
 bif decide (((conA a0 5).1) = 23) then
 bif holdsXB (conA a0 5) (nearL a1 5) then
 bif holdsXB ((conA a0 5).1, ((((conA a0 5).2).2).1, (((conA a0 5).2).1, (((conA a0 5).2).2).2))) (nearL a1 5) then
 bif !((holdsX (conA a0 5) (nearL a1 5)) == (holdsX ((conA a0 5).1, ((((conA a0 5).2).2).1, (((conA a0 5).2).1, (((conA a0 5).2).2).2))) (nearL a1 5))) then
 some (.v .bool false)
 else
 some (.v .bool true)
 else
 none
 else
 none
 else
 some (.v .bool true)
 else
 none
 else
 none := by kernel_rfl
noncomputable def F725.fn : Func := Go.Proofs.Try.f4
noncomputable def F725.E : Env := ⟨tt, [(5, h_nearL), (6, h_conA), (8, h_holdsX), (12, h_wakes526), (13, h_backL), (16, h_cloneR)], [(1, [1, 2]), (2, [2, 5]), (3, [5, 6]), (4, [5, 6, 7]), (5, [5, 6, 7, 8]), (6, [5, 6, 7, 8, 15]), (7, [5, 6, 7, 8, 15, 16]), (8, [5, 6, 7, 8, 15, 16]), (9, [5, 6, 7, 8, 15, 16]), (10, [5, 6, 7, 8, 15, 16]), (12, [5, 6, 7, 8, 15, 31]), (13, [5, 6, 7, 8, 15, 31]), (15, [5, 6, 7, 8, 15, 39]), (17, [5, 6, 7, 8, 15, 51]), (19, [5, 6, 8, 68]), (20, [5, 6, 8]), (21, [5, 6, 8])], [(0, [5, 6, 8])], some [4], inv, [(17, h_revR)]⟩
theorem F725.start_eq (k : Nat) (a0 : Int × ((List Int) × ((List Int) × ((List Int) × (Int × Int))))) (a1 : List Int) : callW F725.E false F725.fn k [.agg [.v (.int .u8) a0.1, .v (.sl (.int .u8)) a0.2.1, .v (.sl (.int .u8)) a0.2.2.1, .v (.sl (.int .i8)) a0.2.2.2.1, .v (.int .i16) a0.2.2.2.2.1, .v (.int .u8) a0.2.2.2.2.2], .v (.sl (.int .i64)) a1] =
 bif nearLB a1 5 then
 bif conAB a0 5 then
 bif decide (((conA a0 5).1) = 1) then
 bif Nat.ble (((conA a0 5).2).1).length 1000 then
 bif Nat.ble (((((conA a0 5).2).2).2).1).length 1000 then
 bif holdsXB (conA a0 5) (nearL a1 5) then
 bif holdsXB ((conA a0 5).1, (List.reverse (((conA a0 5).2).1), ((((conA a0 5).2).2).1, (List.reverse (((((conA a0 5).2).2).2).1), ((((conA a0 5).2).2).2).2)))) (nearL a1 5) then
 some (.v .bool ((holdsX (conA a0 5) (nearL a1 5)) == (holdsX ((conA a0 5).1, (List.reverse (((conA a0 5).2).1), ((((conA a0 5).2).2).1, (List.reverse (((((conA a0 5).2).2).2).1), ((((conA a0 5).2).2).2).2)))) (nearL a1 5))))
 else
 none
 else
 none
 else
 none
 else
 none
 else
 bif decide (((conA a0 5).1) = 2) then
 bif Nat.ble (((conA a0 5).2).1).length 1000 then
 bif Nat.ble (((((conA a0 5).2).2).2).1).length 1000 then
 bif holdsXB (conA a0 5) (nearL a1 5) then
 bif holdsXB ((conA a0 5).1, (List.reverse (((conA a0 5).2).1), ((((conA a0 5).2).2).1, (List.reverse (((((conA a0 5).2).2).2).1), ((((conA a0 5).2).2).2).2)))) (nearL a1 5) then
 some (.v .bool ((holdsX (conA a0 5) (nearL a1 5)) == (holdsX ((conA a0 5).1, (List.reverse (((conA a0 5).2).1), ((((conA a0 5).2).2).1, (List.reverse (((((conA a0 5).2).2).2).1), ((((conA a0 5).2).2).2).2)))) (nearL a1 5))))
 else
 none
 else
 none
 else
 none
 else
 none
 else
 bif decide (((conA a0 5).1) = 3) then
 bif Nat.ble (((conA a0 5).2).1).length 1000 then
 bif Nat.ble (((((conA a0 5).2).2).2).1).length 1000 then
 bif holdsXB (conA a0 5) (nearL a1 5) then
 bif holdsXB ((conA a0 5).1, (List.reverse (((conA a0 5).2).1), ((((conA a0 5).2).2).1, (List.reverse (((((conA a0 5).2).2).2).1), ((((conA a0 5).2).2).2).2)))) (nearL a1 5) then
 some (.v .bool ((holdsX (conA a0 5) (nearL a1 5)) == (holdsX ((conA a0 5).1, (List.reverse (((conA a0 5).2).1), ((((conA a0 5).2).2).1, (List.reverse (((((conA a0 5).2).2).2).1), ((((conA a0 5).2).2).2).2)))) (nearL a1 5))))
 else
 none
 else
 none
 else
 none
 else
 none
 else
 bif decide (((conA a0 5).1) = 4) then
 bif Nat.ble (((conA a0 5).2).1).length 1000 then
 bif Nat.ble (((((conA a0 5).2).2).2).1).length 1000 then
 bif holdsXB (conA a0 5) (nearL a1 5) then
 bif holdsXB ((conA a0 5).1, (List.reverse (((conA a0 5).2).1), ((((conA a0 5).2).2).1, (List.reverse (((((conA a0 5).2).2).2).1), ((((conA a0 5).2).2).2).2)))) (nearL a1 5) then
 some (.v .bool ((holdsX (conA a0 5) (nearL a1 5)) == (holdsX ((conA a0 5).1, (List.reverse (((conA a0 5).2).1), ((((conA a0 5).2).2).1, (List.reverse (((((conA a0 5).2).2).2).1), ((((conA a0 5).2).2).2).2)))) (nearL a1 5))))
 else
 none
 else
 none
 else
 none
 else
 none
 else
 bif decide (((conA a0 5).1) = 17) then
 bif Nat.ble (((conA a0 5).2).1).length 1000 then
 bif holdsXB (conA a0 5) (nearL a1 5) then
 bif holdsXB ((conA a0 5).1, (List.reverse (((conA a0 5).2).1), ((conA a0 5).2).2)) (nearL a1 5) then
 some (.v .bool ((holdsX (conA a0 5) (nearL a1 5)) == (holdsX ((conA a0 5).1, (List.reverse (((conA a0 5).2).1), ((conA a0 5).2).2)) (nearL a1 5))))
 else
 none
 else
 none
 else
 none
 else
 bif decide (((conA a0 5).1) = 21) then
 bif Nat.ble (((conA a0 5).2).1).length 1000 then
 bif holdsXB (conA a0 5) (nearL a1 5) then
 bif holdsXB ((conA a0 5).1, (List.reverse (((conA a0 5).2).1), ((conA a0 5).2).2)) (nearL a1 5) then
 some (.v .bool ((holdsX (conA a0 5) (nearL a1 5)) == (holdsX ((conA a0 5).1, (List.reverse (((conA a0 5).2).1), ((conA a0 5).2).2)) (nearL a1 5))))
 else
 none
 else
 none
 else
 none
 else
 bif decide (((conA a0 5).1) = 12) then
 bif Nat.ble (((conA a0 5).2).1).length 1000 then
 bif Nat.ble ((((conA a0 5).2).2).1).length 1000 then
 bif holdsXB (conA a0 5) (nearL a1 5) then
 bif holdsXB ((conA a0 5).1, (List.reverse (((conA a0 5).2).1), (List.reverse ((((conA a0 5).2).2).1), (((conA a0 5).2).2).2))) (nearL a1 5) then
 some (.v .bool ((holdsX (conA a0 5) (nearL a1 5)) == (holdsX ((conA a0 5).1, (List.reverse (((conA a0 5).2).1), (List.reverse ((((conA a0 5).2).2).1), (((conA a0 5).2).2).2))) (nearL a1 5))))
 else
 none
 else
 none
 else
 none
 else
 none
 else
 bif decide (((conA a0 5).1) = 19) then
 bif Nat.ble (((conA a0 5).2).1).length 1000 then
 bif Nat.ble (((((conA a0 5).2).2).2).1).length 1000 then
 bif Nat.ble ((((((conA a0 5).2).2).2).2).1).length 1000 then
 bif holdsXB (conA a0 5) (nearL a1 5) then
 bif holdsXB ((conA a0 5).1, (List.reverse (((conA a0 5).2).1), ((((conA a0 5).2).2).1, (List.reverse (((((conA a0 5).2).2).2).1), (List.reverse ((((((conA a0 5).2).2).2).2).1), (((((conA a0 5).2).2).2).2).2))))) (nearL a1 5) then
 some (.v .bool ((holdsX (conA a0 5) (nearL a1 5)) == (holdsX ((conA a0 5).1, (List.reverse (((conA a0 5).2).1), ((((conA a0 5).2).2).1, (List.reverse (((((conA a0 5).2).2).2).1), (List.reverse ((((((conA a0 5).2).2).2).2).1), (((((conA a0 5).2).2).2).2).2))))) (nearL a1 5))))
 else
 none
 else
 none
 else
 none
 else
 none
 else
 none
 else
 bif decide (((conA a0 5).1) = 18) then
 bif Nat.ble ((((((((conA a0 5).2).2).2).2).2).2).2).length 2000 then
 bif Nat.ble (List.length ((((((((conA a0 5).2).2).2).2).2).2).2)) 2000 then
 bif holdsXB (conA a0 5) (nearL a1 5) then
 bif holdsXB ((conA a0 5).1, (((conA a0 5).2).1, ((((conA a0 5).2).2).1, (((((conA a0 5).2).2).2).1, ((((((conA a0 5).2).2).2).2).1, (((((((conA a0 5).2).2).2).2).2).1, ((((((((conA a0 5).2).2).2).2).2).2).1, List.reverse ((((((((conA a0 5).2).2).2).2).2).2).2)))))))) (nearL a1 5) then
 some (.v .bool ((holdsX (conA a0 5) (nearL a1 5)) == (holdsX ((conA a0 5).1, (((conA a0 5).2).1, ((((conA a0 5).2).2).1, (((((conA a0 5).2).2).2).1, ((((((conA a0 5).2).2).2).2).1, (((((((conA a0 5).2).2).2).2).2).1, ((((((((conA a0 5).2).2).2).2).2).2).1, List.reverse ((((((((conA a0 5).2).2).2).2).2).2).2)))))))) (nearL a1 5))))
 else
 none
 else
 none
 else
 none
 else
 none
 else
 bif holdsXB (conA a0 5) (nearL a1 5) then
 bif holdsXB (conA a0 5) (nearL a1 5) then some (.v .bool ((holdsX (conA a0 5) (nearL a1 5)) == (holdsX (conA a0 5) (nearL a1 5)))) else none
 else
 none
 else
 none
 else
 none := by kernel_rfl
end Go.Proofs.Ytohdaehblenokaa.Ev
