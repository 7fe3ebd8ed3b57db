/-
The functions as the evaluator runs them: printed by a program of mine, each equation by kernel_rfl.
Conditions: none.
-/
import Derived.Test.YtnojoaghcbljfaaGreatDoorAa
set_option linter.unusedVariables false
set_option linter.unusedSimpArgs false
set_option maxHeartbeats 4000000
set_option maxRecDepth 100000
namespace Go.Proofs.YtnojoaghcbljfaaGreatDoor.Ev
open Go
noncomputable def F381.fn : Func := Go.Proofs.Tryz.f81
noncomputable def F381.E : Env := ⟨tt, [(62, h_minD), (78, h_boundO), (80, h_cloneD), (92, h_sizeD), (107, h_turnedL), (108, h_lowsD), (111, h_without), (112, h_andD), (113, h_truths)], [(1, [1, 2]), (2, [1, 2, 6]), (3, [1, 2, 6, 7]), (4, [1, 2, 6, 7, 33]), (5, [1, 2, 6, 7]), (6, [1, 2, 6, 7, 47]), (7, [1, 2, 6, 7]), (8, [2, 7, 9, 10]), (9, [2, 7, 9, 10, 60]), (11, [2, 7, 9, 10, 82]), (12, [7, 9, 10])], [(0, [7, 9, 10])], some [4, 5], inv, []⟩
theorem F381.start_eq (k : Nat) (a0 : Con) (a1 : List Dom) (x0) (hx0 : x0 = cutD (a1.getD ((a0.2.1.length : Int).toNat) ((0 : Int), ([], ((0 : Int), ((0 : Int), (0 : Int)))))) (andK truthsD)) (x2) (hx2 : x2 = a1.take ((a0.2.1.length : Int).toNat)) (x3) (hx3 : x3 = withoutD ((withoutD (x0.1) 0).1) 1) (x4) (hx4 : x4 = IntKind.i64.wrap ((IntKind.i64.wrap (0 - a0.2.2.2.2.2.2.1)) - 1)) (x1) (hx1 : x1 = boundD (turnedL a0.2.2.2.1) x4 x2) (x5) (hx5 : x5 = boundD a0.2.2.2.1 a0.2.2.2.2.2.2.1 x2) (x6) (hx6 : x6 = sizeD ((withoutD (x0.1) 0).1)) (x7) (hx7 : x7 = sizeD ((withoutD (x0.1) 1).1)) (x8) (hx8 : x8 = x2.length + [(withoutD (x0.1) 0).1].length) (x9) (hx9 : x9 = x2.length + [(withoutD (x0.1) 1).1].length) : callW F381.E false F381.fn k [.agg (bC a0.1 a0.2.1 a0.2.2.1 a0.2.2.2.1 a0.2.2.2.2.1 a0.2.2.2.2.2.1 a0.2.2.2.2.2.2.1 a0.2.2.2.2.2.2.2), .v (.sl DomT) a1] =
 bif decide (0 ≤ (a0.2.1.length : Int)) && decide ((a0.2.1.length : Int) < a1.length) then
 bif cutB (a1.getD ((a0.2.1.length : Int).toNat) ((0 : Int), ([], ((0 : Int), ((0 : Int), (0 : Int)))))) (andKB truthsD) then
 bif turnedB a0.2.2.2.1 then
 bif decide (0 ≤ (a0.2.1.length : Int)) && decide ((a0.2.1.length : Int) ≤ a1.length) then
 bif lowsB (turnedL a0.2.2.2.1) x2 then
 bif decide ((IntKind.i64.wrap (0 - (lowsD (turnedL a0.2.2.2.1) x2))) ≤ a0.2.2.2.2.2.2.1) then
 bif domB (x0.1) && bigB 0 then
 bif decide (0 ≤ (a0.2.1.length : Int)) && decide ((a0.2.1.length : Int) ≤ a1.length) then
 bif lowsB a0.2.2.2.1 x2 then
 bif decide ((lowsD a0.2.2.2.1 x2) > a0.2.2.2.2.2.2.1) then
 bif domB ((withoutD (x0.1) 0).1) && bigB 1 then
 bif decide (0 ≤ (a0.2.1.length : Int)) && decide ((a0.2.1.length : Int) ≤ a1.length) then
 bif cloneB x2 then
 bif decide ((sizeD (x3.1)) > 0) then
 bif decide ((sizeD (x3.1)) = 1) then
 bif decide ((minD (x3.1)) = 1) then
 bif boundB a0.2.2.2.1 a0.2.2.2.2.2.2.1 x2 then
 bif x5.2.2 then
 bif decide (((x5.1).length + [x3.1].length) * 56 ≤ LIM) then
 some (.tup [.v (.sl DomT) ((x5.1) ++ [x3.1]), .v .bool true])
 else
 none
 else
 bif decide ([x3.1].length * 56 ≤ LIM) then
 some (.tup [.v (.sl DomT) [x3.1], .v .bool false])
 else
 none
 else
 none
 else
 bif decide ((sizeD (x3.1)) > 0) then
 bif decide ((sizeD (x3.1)) = 1) then
 bif turnedB a0.2.2.2.1 then
 bif boundB (turnedL a0.2.2.2.1) x4 x2 then
 bif x1.2.2 then
 bif decide (((x1.1).length + [x3.1].length) * 56 ≤ LIM) then
 some (.tup [.v (.sl DomT) ((x1.1) ++ [x3.1]), .v .bool true])
 else
 none
 else
 bif decide ([x3.1].length * 56 ≤ LIM) then
 some (.tup [.v (.sl DomT) [x3.1], .v .bool false])
 else
 none
 else
 none
 else
 none
 else
 bif decide ((x2.length + [x3.1].length) * 56 ≤ LIM) then
 some (.tup [.v (.sl DomT) (x2 ++ [x3.1]), .v .bool (decide ((sizeD (x3.1)) > 0))])
 else
 none
 else
 bif decide ((x2.length + [x3.1].length) * 56 ≤ LIM) then
 some (.tup [.v (.sl DomT) (x2 ++ [x3.1]), .v .bool (decide ((sizeD (x3.1)) > 0))])
 else
 none
 else
 bif decide ((sizeD (x3.1)) > 0) then
 bif decide ((sizeD (x3.1)) = 1) then
 bif turnedB a0.2.2.2.1 then
 bif boundB (turnedL a0.2.2.2.1) x4 x2 then
 bif x1.2.2 then
 bif decide (((x1.1).length + [x3.1].length) * 56 ≤ LIM) then
 some (.tup [.v (.sl DomT) ((x1.1) ++ [x3.1]), .v .bool true])
 else
 none
 else
 bif decide ([x3.1].length * 56 ≤ LIM) then
 some (.tup [.v (.sl DomT) [x3.1], .v .bool false])
 else
 none
 else
 none
 else
 none
 else
 bif decide ((x2.length + [x3.1].length) * 56 ≤ LIM) then
 some (.tup [.v (.sl DomT) (x2 ++ [x3.1]), .v .bool (decide ((sizeD (x3.1)) > 0))])
 else
 none
 else
 bif decide ((x2.length + [x3.1].length) * 56 ≤ LIM) then
 some (.tup [.v (.sl DomT) (x2 ++ [x3.1]), .v .bool (decide ((sizeD (x3.1)) > 0))])
 else
 none
 else
 bif decide ((sizeD (x3.1)) > 0) then
 bif decide ((sizeD (x3.1)) = 1) then
 bif turnedB a0.2.2.2.1 then
 bif boundB (turnedL a0.2.2.2.1) x4 x2 then
 bif x1.2.2 then
 bif decide (((x1.1).length + [x3.1].length) * 56 ≤ LIM) then
 some (.tup [.v (.sl DomT) ((x1.1) ++ [x3.1]), .v .bool true])
 else
 none
 else
 bif decide ([x3.1].length * 56 ≤ LIM) then
 some (.tup [.v (.sl DomT) [x3.1], .v .bool false])
 else
 none
 else
 none
 else
 none
 else
 bif decide ((x2.length + [x3.1].length) * 56 ≤ LIM) then
 some (.tup [.v (.sl DomT) (x2 ++ [x3.1]), .v .bool (decide ((sizeD (x3.1)) > 0))])
 else
 none
 else
 bif decide ((x2.length + [x3.1].length) * 56 ≤ LIM) then
 some (.tup [.v (.sl DomT) (x2 ++ [x3.1]), .v .bool (decide ((sizeD (x3.1)) > 0))])
 else
 none
 else
 none
 else
 none
 else
 none
 else
 bif decide (0 ≤ (a0.2.1.length : Int)) && decide ((a0.2.1.length : Int) ≤ a1.length) then
 bif cloneB x2 then
 bif decide (x6 > 0) then
 bif decide (x6 = 1) then
 bif decide ((minD ((withoutD (x0.1) 0).1)) = 1) then
 bif boundB a0.2.2.2.1 a0.2.2.2.2.2.2.1 x2 then
 bif x5.2.2 then
 bif decide (((x5.1).length + [(withoutD (x0.1) 0).1].length) * 56 ≤ LIM) then
 some (.tup [.v (.sl DomT) ((x5.1) ++ [(withoutD (x0.1) 0).1]), .v .bool true])
 else
 none
 else
 bif decide ([(withoutD (x0.1) 0).1].length * 56 ≤ LIM) then
 some (.tup [.v (.sl DomT) [(withoutD (x0.1) 0).1], .v .bool false])
 else
 none
 else
 none
 else
 bif decide (x6 > 0) then
 bif decide (x6 = 1) then
 bif turnedB a0.2.2.2.1 then
 bif boundB (turnedL a0.2.2.2.1) x4 x2 then
 bif x1.2.2 then
 bif decide (((x1.1).length + [(withoutD (x0.1) 0).1].length) * 56 ≤ LIM) then
 some (.tup [.v (.sl DomT) ((x1.1) ++ [(withoutD (x0.1) 0).1]), .v .bool true])
 else
 none
 else
 bif decide ([(withoutD (x0.1) 0).1].length * 56 ≤ LIM) then
 some (.tup [.v (.sl DomT) [(withoutD (x0.1) 0).1], .v .bool false])
 else
 none
 else
 none
 else
 none
 else
 bif decide (x8 * 56 ≤ LIM) then
 some (.tup [.v (.sl DomT) (x2 ++ [(withoutD (x0.1) 0).1]), .v .bool (decide (x6 > 0))])
 else
 none
 else
 bif decide (x8 * 56 ≤ LIM) then
 some (.tup [.v (.sl DomT) (x2 ++ [(withoutD (x0.1) 0).1]), .v .bool (decide (x6 > 0))])
 else
 none
 else
 bif decide (x6 > 0) then
 bif decide (x6 = 1) then
 bif turnedB a0.2.2.2.1 then
 bif boundB (turnedL a0.2.2.2.1) x4 x2 then
 bif x1.2.2 then
 bif decide (((x1.1).length + [(withoutD (x0.1) 0).1].length) * 56 ≤ LIM) then
 some (.tup [.v (.sl DomT) ((x1.1) ++ [(withoutD (x0.1) 0).1]), .v .bool true])
 else
 none
 else
 bif decide ([(withoutD (x0.1) 0).1].length * 56 ≤ LIM) then
 some (.tup [.v (.sl DomT) [(withoutD (x0.1) 0).1], .v .bool false])
 else
 none
 else
 none
 else
 none
 else
 bif decide (x8 * 56 ≤ LIM) then
 some (.tup [.v (.sl DomT) (x2 ++ [(withoutD (x0.1) 0).1]), .v .bool (decide (x6 > 0))])
 else
 none
 else
 bif decide (x8 * 56 ≤ LIM) then
 some (.tup [.v (.sl DomT) (x2 ++ [(withoutD (x0.1) 0).1]), .v .bool (decide (x6 > 0))])
 else
 none
 else
 bif decide (x6 > 0) then
 bif decide (x6 = 1) then
 bif turnedB a0.2.2.2.1 then
 bif boundB (turnedL a0.2.2.2.1) x4 x2 then
 bif x1.2.2 then
 bif decide (((x1.1).length + [(withoutD (x0.1) 0).1].length) * 56 ≤ LIM) then
 some (.tup [.v (.sl DomT) ((x1.1) ++ [(withoutD (x0.1) 0).1]), .v .bool true])
 else
 none
 else
 bif decide ([(withoutD (x0.1) 0).1].length * 56 ≤ LIM) then
 some (.tup [.v (.sl DomT) [(withoutD (x0.1) 0).1], .v .bool false])
 else
 none
 else
 none
 else
 none
 else
 bif decide (x8 * 56 ≤ LIM) then
 some (.tup [.v (.sl DomT) (x2 ++ [(withoutD (x0.1) 0).1]), .v .bool (decide (x6 > 0))])
 else
 none
 else
 bif decide (x8 * 56 ≤ LIM) then
 some (.tup [.v (.sl DomT) (x2 ++ [(withoutD (x0.1) 0).1]), .v .bool (decide (x6 > 0))])
 else
 none
 else
 none
 else
 none
 else
 none
 else
 none
 else
 none
 else
 bif decide (0 ≤ (a0.2.1.length : Int)) && decide ((a0.2.1.length : Int) ≤ a1.length) then
 bif lowsB a0.2.2.2.1 x2 then
 bif decide ((lowsD a0.2.2.2.1 x2) > a0.2.2.2.2.2.2.1) then
 bif domB (x0.1) && bigB 1 then
 bif decide (0 ≤ (a0.2.1.length : Int)) && decide ((a0.2.1.length : Int) ≤ a1.length) then
 bif cloneB x2 then
 bif decide (x7 > 0) then
 bif decide (x7 = 1) then
 bif decide ((minD ((withoutD (x0.1) 1).1)) = 1) then
 bif boundB a0.2.2.2.1 a0.2.2.2.2.2.2.1 x2 then
 bif x5.2.2 then
 bif decide (((x5.1).length + [(withoutD (x0.1) 1).1].length) * 56 ≤ LIM) then
 some (.tup [.v (.sl DomT) ((x5.1) ++ [(withoutD (x0.1) 1).1]), .v .bool true])
 else
 none
 else
 bif decide ([(withoutD (x0.1) 1).1].length * 56 ≤ LIM) then
 some (.tup [.v (.sl DomT) [(withoutD (x0.1) 1).1], .v .bool false])
 else
 none
 else
 none
 else
 bif decide (x7 > 0) then
 bif decide (x7 = 1) then
 bif turnedB a0.2.2.2.1 then
 bif boundB (turnedL a0.2.2.2.1) x4 x2 then
 bif x1.2.2 then
 bif decide (((x1.1).length + [(withoutD (x0.1) 1).1].length) * 56 ≤ LIM) then
 some (.tup [.v (.sl DomT) ((x1.1) ++ [(withoutD (x0.1) 1).1]), .v .bool true])
 else
 none
 else
 bif decide ([(withoutD (x0.1) 1).1].length * 56 ≤ LIM) then
 some (.tup [.v (.sl DomT) [(withoutD (x0.1) 1).1], .v .bool false])
 else
 none
 else
 none
 else
 none
 else
 bif decide (x9 * 56 ≤ LIM) then
 some (.tup [.v (.sl DomT) (x2 ++ [(withoutD (x0.1) 1).1]), .v .bool (decide (x7 > 0))])
 else
 none
 else
 bif decide (x9 * 56 ≤ LIM) then
 some (.tup [.v (.sl DomT) (x2 ++ [(withoutD (x0.1) 1).1]), .v .bool (decide (x7 > 0))])
 else
 none
 else
 bif decide (x7 > 0) then
 bif decide (x7 = 1) then
 bif turnedB a0.2.2.2.1 then
 bif boundB (turnedL a0.2.2.2.1) x4 x2 then
 bif x1.2.2 then
 bif decide (((x1.1).length + [(withoutD (x0.1) 1).1].length) * 56 ≤ LIM) then
 some (.tup [.v (.sl DomT) ((x1.1) ++ [(withoutD (x0.1) 1).1]), .v .bool true])
 else
 none
 else
 bif decide ([(withoutD (x0.1) 1).1].length * 56 ≤ LIM) then
 some (.tup [.v (.sl DomT) [(withoutD (x0.1) 1).1], .v .bool false])
 else
 none
 else
 none
 else
 none
 else
 bif decide (x9 * 56 ≤ LIM) then
 some (.tup [.v (.sl DomT) (x2 ++ [(withoutD (x0.1) 1).1]), .v .bool (decide (x7 > 0))])
 else
 none
 else
 bif decide (x9 * 56 ≤ LIM) then
 some (.tup [.v (.sl DomT) (x2 ++ [(withoutD (x0.1) 1).1]), .v .bool (decide (x7 > 0))])
 else
 none
 else
 bif decide (x7 > 0) then
 bif decide (x7 = 1) then
 bif turnedB a0.2.2.2.1 then
 bif boundB (turnedL a0.2.2.2.1) x4 x2 then
 bif x1.2.2 then
 bif decide (((x1.1).length + [(withoutD (x0.1) 1).1].length) * 56 ≤ LIM) then
 some (.tup [.v (.sl DomT) ((x1.1) ++ [(withoutD (x0.1) 1).1]), .v .bool true])
 else
 none
 else
 bif decide ([(withoutD (x0.1) 1).1].length * 56 ≤ LIM) then
 some (.tup [.v (.sl DomT) [(withoutD (x0.1) 1).1], .v .bool false])
 else
 none
 else
 none
 else
 none
 else
 bif decide (x9 * 56 ≤ LIM) then
 some (.tup [.v (.sl DomT) (x2 ++ [(withoutD (x0.1) 1).1]), .v .bool (decide (x7 > 0))])
 else
 none
 else
 bif decide (x9 * 56 ≤ LIM) then
 some (.tup [.v (.sl DomT) (x2 ++ [(withoutD (x0.1) 1).1]), .v .bool (decide (x7 > 0))])
 else
 none
 else
 none
 else
 none
 else
 none
 else
 bif decide (0 ≤ (a0.2.1.length : Int)) && decide ((a0.2.1.length : Int) ≤ a1.length) then
 bif cloneB x2 then
 bif decide ((sizeD (x0.1)) > 0) then
 bif decide ((sizeD (x0.1)) = 1) then
 bif decide ((minD (x0.1)) = 1) then
 bif boundB a0.2.2.2.1 a0.2.2.2.2.2.2.1 x2 then
 bif x5.2.2 then
 bif decide (((x5.1).length + [x0.1].length) * 56 ≤ LIM) then
 some (.tup [.v (.sl DomT) ((x5.1) ++ [x0.1]), .v .bool true])
 else
 none
 else
 bif decide ([x0.1].length * 56 ≤ LIM) then
 some (.tup [.v (.sl DomT) [x0.1], .v .bool false])
 else
 none
 else
 none
 else
 bif decide ((sizeD (x0.1)) > 0) then
 bif decide ((sizeD (x0.1)) = 1) then
 bif turnedB a0.2.2.2.1 then
 bif boundB (turnedL a0.2.2.2.1) x4 x2 then
 bif x1.2.2 then
 bif decide (((x1.1).length + [x0.1].length) * 56 ≤ LIM) then
 some (.tup [.v (.sl DomT) ((x1.1) ++ [x0.1]), .v .bool true])
 else
 none
 else
 bif decide ([x0.1].length * 56 ≤ LIM) then
 some (.tup [.v (.sl DomT) [x0.1], .v .bool false])
 else
 none
 else
 none
 else
 none
 else
 bif decide ((x2.length + [x0.1].length) * 56 ≤ LIM) then
 some (.tup [.v (.sl DomT) (x2 ++ [x0.1]), .v .bool (decide ((sizeD (x0.1)) > 0))])
 else
 none
 else
 bif decide ((x2.length + [x0.1].length) * 56 ≤ LIM) then
 some (.tup [.v (.sl DomT) (x2 ++ [x0.1]), .v .bool (decide ((sizeD (x0.1)) > 0))])
 else
 none
 else
 bif decide ((sizeD (x0.1)) > 0) then
 bif decide ((sizeD (x0.1)) = 1) then
 bif turnedB a0.2.2.2.1 then
 bif boundB (turnedL a0.2.2.2.1) x4 x2 then
 bif x1.2.2 then
 bif decide (((x1.1).length + [x0.1].length) * 56 ≤ LIM) then
 some (.tup [.v (.sl DomT) ((x1.1) ++ [x0.1]), .v .bool true])
 else
 none
 else
 bif decide ([x0.1].length * 56 ≤ LIM) then
 some (.tup [.v (.sl DomT) [x0.1], .v .bool false])
 else
 none
 else
 none
 else
 none
 else
 bif decide ((x2.length + [x0.1].length) * 56 ≤ LIM) then
 some (.tup [.v (.sl DomT) (x2 ++ [x0.1]), .v .bool (decide ((sizeD (x0.1)) > 0))])
 else
 none
 else
 bif decide ((x2.length + [x0.1].length) * 56 ≤ LIM) then
 some (.tup [.v (.sl DomT) (x2 ++ [x0.1]), .v .bool (decide ((sizeD (x0.1)) > 0))])
 else
 none
 else
 bif decide ((sizeD (x0.1)) > 0) then
 bif decide ((sizeD (x0.1)) = 1) then
 bif turnedB a0.2.2.2.1 then
 bif boundB (turnedL a0.2.2.2.1) x4 x2 then
 bif x1.2.2 then
 bif decide (((x1.1).length + [x0.1].length) * 56 ≤ LIM) then
 some (.tup [.v (.sl DomT) ((x1.1) ++ [x0.1]), .v .bool true])
 else
 none
 else
 bif decide ([x0.1].length * 56 ≤ LIM) then
 some (.tup [.v (.sl DomT) [x0.1], .v .bool false])
 else
 none
 else
 none
 else
 none
 else
 bif decide ((x2.length + [x0.1].length) * 56 ≤ LIM) then
 some (.tup [.v (.sl DomT) (x2 ++ [x0.1]), .v .bool (decide ((sizeD (x0.1)) > 0))])
 else
 none
 else
 bif decide ((x2.length + [x0.1].length) * 56 ≤ LIM) then
 some (.tup [.v (.sl DomT) (x2 ++ [x0.1]), .v .bool (decide ((sizeD (x0.1)) > 0))])
 else
 none
 else
 none
 else
 none
 else
 none
 else
 none
 else
 none
 else
 none
 else
 none
 else
 none
 else
 none := by subst hx9 hx8 hx7 hx6 hx5 hx1 hx4 hx3 hx2 hx0; kernel_rfl
end Go.Proofs.YtnojoaghcbljfaaGreatDoor.Ev
