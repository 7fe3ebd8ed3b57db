/-
The functions as the evaluator runs them: printed by a program of mine, each equation by kernel_rfl.
Conditions: none.
-/
import Derived.Test.YtnojoaghcbljfaaGreatDoorAa
set_option linter.unusedVariables false
set_option linter.unusedSimpArgs false
set_option maxHeartbeats 4000000
set_option maxRecDepth 100000
namespace Go.Proofs.YtnojoaghcbljfaaGreatDoor.Ev
open Go
noncomputable def F385.fn : Func := Go.Proofs.Tryz.f85
noncomputable def F385.body : Code := bodyOf F385.fn
noncomputable def F385.E : Env := ⟨tt, [(83, h_byO), (114, h_lowR), (115, h_hasL)], [(1, [1, 2]), (2, [1, 2, 6]), (3, [1, 2, 6, 7]), (4, [1, 2, 6, 7, 8]), (5, [1, 2, 6, 7, 8, 9]), (6, [1, 2, 6, 7, 8, 9, 10, 300009]), (7, [1, 2, 6, 7, 8, 9, 10]), (8, [1, 2, 6, 7, 8, 9, 10]), (9, [1, 2, 6, 7, 8, 9, 10]), (10, [1, 2, 6, 7, 8, 9, 10]), (11, [1, 2, 6, 7, 8, 9]), (12, [1, 2, 6, 7, 8, 9, 11]), (13, [1, 2, 6, 7, 8, 9, 11, 12]), (14, [1, 2, 6, 7, 9, 11, 65]), (15, [1, 2, 6, 7, 9, 11]), (16, [2, 7, 9, 11, 12]), (17, [2, 9, 11, 80]), (18, [2, 9, 11]), (19, [2, 9, 11, 86]), (20, [2, 9, 11]), (21, [2, 9, 11, 13]), (22, [2, 9, 11, 13, 95]), (23, [2, 9, 11, 13]), (24, [2, 9, 11, 13, 113]), (25, [9, 11, 13]), (26, [9, 11, 126]), (27, [9, 11]), (28, [9])], [(0, [1, 2, 6, 7, 8, 9]), (1, [1, 2, 6, 7, 8, 9, 10])], some [4, 5], inv, []⟩
noncomputable def F385.K0 : Conts := { nrm := endW F385.E false F385.fn.results.toList, ret := endW F385.E false F385.fn.results.toList, ex := [] }
noncomputable def F385.kt (k : Nat) (q : List Nat) : Conts := contAt F385.E k F385.body F385.K0 q
noncomputable def F385.l1_1_1_1_1_0_1_0 (n : Nat) (K : Conts) (p0 : List (List Int)) (p1 p2 p3 p4 p5 : Int) (p6 p7 p8 p9 p10 : List Int) (p11 : Int) (p12 p13 : List (List Int)) : Option AV := loopF F385.E n (inLoop (subC [1,1,1,1,1,0,1,0] F385.body)) K ⟨slots 132 [(1, .v (.sl (.sl (.int .i64))) p0), (2, .pb 0 0), (6, .v (.int .i64) p1), (7, .v (.int .i64) p2), (8, .v (.int .i64) p3), (9, .own 1), (10, .v (.int .i64) p4)], [.box (bC p5 p6 p7 p8 p9 p10 p11 p12), .row 30 (.sl (.int .i64)) p13]⟩
theorem F385.start_eq (k : Nat) (a0 : Con) (a1 : List (List Int)) : callW F385.E false F385.fn k [.agg (bC a0.1 a0.2.1 a0.2.2.1 a0.2.2.2.1 a0.2.2.2.2.1 a0.2.2.2.2.2.1 a0.2.2.2.2.2.2.1 a0.2.2.2.2.2.2.2), .v (.sl (.sl (.int .i64))) a1] =
 F385.l1_1_1_1_1_0_1_0 k (F385.kt k [1,1,1,1,1,0,1,0]) a1 (a0.2.1.length : Int) 0 0 0 a0.1 a0.2.1 a0.2.2.1 a0.2.2.2.1 a0.2.2.2.2.1 a0.2.2.2.2.2.1 a0.2.2.2.2.2.2.1 a0.2.2.2.2.2.2.2 [] := by kernel_rfl
theorem F385.l1_1_1_1_1_0_1_0_eq (n : Nat) (K : Conts) (p0 : List (List Int)) (p1 p2 p3 p4 p5 : Int) (p6 p7 p8 p9 p10 : List Int) (p11 : Int) (p12 p13 : List (List Int)) : F385.l1_1_1_1_1_0_1_0 (n + 1) K p0 p1 p2 p3 p4 p5 p6 p7 p8 p9 p10 p11 p12 p13 =
 bif decide (p4 < p1) then
 bif decide (0 ≤ p4) && decide (p4 < p8.length) then
 bif decide (0 ≤ p4) && decide (p4 < p0.length) then
 bif lowRB (p8.getD p4.toNat (0 : Int)) (p0.getD p4.toNat []) then
 bif decide (0 ≤ p4) && decide (p4 < p8.length) then
 bif decide (0 ≤ p4) && decide (p4 < p0.length) then
 bif lowRB (IntKind.i64.wrap (0 - (p8.getD p4.toNat (0 : Int)))) (p0.getD p4.toNat []) then
 bif decide (0 ≤ p4) && decide (p4 < p0.length) then
 bif decide ((p13.length + [p0.getD p4.toNat []].length) * 24 ≤ LIM) then
 F385.l1_1_1_1_1_0_1_0 n K p0 p1 (IntKind.i64.wrap (p2 + (lowR (p8.getD p4.toNat (0 : Int)) (p0.getD p4.toNat [])))) (IntKind.i64.wrap (p3 - (lowR (IntKind.i64.wrap (0 - (p8.getD p4.toNat (0 : Int)))) (p0.getD p4.toNat [])))) (IntKind.i64.wrap (p4 + 1)) p5 p6 p7 p8 p9 p10 p11 p12 (p13 ++ [p0.getD p4.toNat []])
 else
 none
 else
 none
 else
 none
 else
 none
 else
 none
 else
 none
 else
 none
 else
 none
 else
 exitK K 0 ⟨slots 132 [(1, .v (.sl (.sl (.int .i64))) p0), (2, .pb 0 0), (6, .v (.int .i64) p1), (7, .v (.int .i64) p2), (8, .v (.int .i64) p3), (9, .own 1)], [.box (bC p5 p6 p7 p8 p9 p10 p11 p12), .row 30 (.sl (.int .i64)) p13]⟩ := by kernel_rfl
theorem F385.c0 (k : Nat) (p0 : List (List Int)) (p1 p2 p3 p4 : Int) (p5 p6 p7 p8 p9 : List Int) (p10 : Int) (p11 p12 : List (List Int)) : exitK (F385.kt k [1,1,1,1,1,0,1,0]) 0 ⟨slots 132 [(1, .v (.sl (.sl (.int .i64))) p0), (2, .pb 0 0), (6, .v (.int .i64) p1), (7, .v (.int .i64) p2), (8, .v (.int .i64) p3), (9, .own 1)], [.box (bC p4 p5 p6 p7 p8 p9 p10 p11), .row 30 (.sl (.int .i64)) p12]⟩ =
 bif decide (0 ≤ p1) && decide (p1 < p0.length) then
 bif hasL (p0.getD p1.toNat []) 0 then
 bif decide (p3 > p10) then
 bif decide ([(0 : Int)].length * 8 ≤ LIM) then
 bif decide (0 ≤ p1) && decide (p1 < p0.length) then
 bif hasL (p0.getD p1.toNat []) 1 then
 bif decide (p2 ≤ p10) then
 bif decide (([(0 : Int)].length + [(1 : Int)].length) * 8 ≤ LIM) then
 bif decide ((([(0 : Int)] ++ [(1 : Int)]).length : Int) = 0) then
 some (.tup [.nl, .v .bool false])
 else
 bif decide ((([(0 : Int)] ++ [(1 : Int)]).length : Int) = 1) then
 bif decide ((0 : Int) < ([(0 : Int)] ++ [(1 : Int)]).length) then
 bif decide ((([(0 : Int)] ++ [(1 : Int)]).getD 0 (0 : Int)) = 1) then
 bif byRB p7 1 p10 p12 then
 bif (byR p7 1 p10 p12).2 then
 bif decide ((([(0 : Int)] ++ [(1 : Int)]).length : Int) = 1) then
 bif decide ((0 : Int) < ([(0 : Int)] ++ [(1 : Int)]).length) then
 bif decide ((([(0 : Int)] ++ [(1 : Int)]).getD 0 (0 : Int)) = 0) then
 bif byRB p7 (-1 : Int) (IntKind.i64.wrap ((IntKind.i64.wrap (0 - p10)) - 1)) ((byR p7 1 p10 p12).1) then
 bif (byR p7 (-1 : Int) (IntKind.i64.wrap ((IntKind.i64.wrap (0 - p10)) - 1)) ((byR p7 1 p10 p12).1)).2 then
 bif decide ((((byR p7 (-1 : Int) (IntKind.i64.wrap ((IntKind.i64.wrap (0 - p10)) - 1)) ((byR p7 1 p10 p12).1)).1).length + [[(0 : Int)] ++ [(1 : Int)]].length) * 24 ≤ LIM) then
 some (.tup [.v (.sl (.sl (.int .i64))) (((byR p7 (-1 : Int) (IntKind.i64.wrap ((IntKind.i64.wrap (0 - p10)) - 1)) ((byR p7 1 p10 p12).1)).1) ++ [[(0 : Int)] ++ [(1 : Int)]] : (List (List Int))), .v .bool true])
 else
 none
 else
 some (.tup [.nl, .v .bool false])
 else
 none
 else
 bif decide ((((byR p7 1 p10 p12).1).length + [[(0 : Int)] ++ [(1 : Int)]].length) * 24 ≤ LIM) then
 some (.tup [.v (.sl (.sl (.int .i64))) (((byR p7 1 p10 p12).1) ++ [[(0 : Int)] ++ [(1 : Int)]] : (List (List Int))), .v .bool true])
 else
 none
 else
 none
 else
 bif decide ((((byR p7 1 p10 p12).1).length + [[(0 : Int)] ++ [(1 : Int)]].length) * 24 ≤ LIM) then
 some (.tup [.v (.sl (.sl (.int .i64))) (((byR p7 1 p10 p12).1) ++ [[(0 : Int)] ++ [(1 : Int)]] : (List (List Int))), .v .bool true])
 else
 none
 else
 bif decide ((([(0 : Int)] ++ [(1 : Int)]).length : Int) = 1) then
 bif decide ((0 : Int) < ([(0 : Int)] ++ [(1 : Int)]).length) then
 bif decide ((([(0 : Int)] ++ [(1 : Int)]).getD 0 (0 : Int)) = 0) then
 bif byRB p7 (-1 : Int) (IntKind.i64.wrap ((IntKind.i64.wrap (0 - p10)) - 1)) [] then
 bif (byR p7 (-1 : Int) (IntKind.i64.wrap ((IntKind.i64.wrap (0 - p10)) - 1)) []).2 then
 bif decide ((((byR p7 (-1 : Int) (IntKind.i64.wrap ((IntKind.i64.wrap (0 - p10)) - 1)) []).1).length + [[(0 : Int)] ++ [(1 : Int)]].length) * 24 ≤ LIM) then
 some (.tup [.v (.sl (.sl (.int .i64))) (((byR p7 (-1 : Int) (IntKind.i64.wrap ((IntKind.i64.wrap (0 - p10)) - 1)) []).1) ++ [[(0 : Int)] ++ [(1 : Int)]] : (List (List Int))), .v .bool true])
 else
 none
 else
 some (.tup [.nl, .v .bool false])
 else
 none
 else
 some (.tup [.nl, .v .bool false])
 else
 none
 else
 some (.tup [.nl, .v .bool false])
 else
 none
 else
 bif decide ((([(0 : Int)] ++ [(1 : Int)]).length : Int) = 1) then
 bif decide ((0 : Int) < ([(0 : Int)] ++ [(1 : Int)]).length) then
 bif decide ((([(0 : Int)] ++ [(1 : Int)]).getD 0 (0 : Int)) = 0) then
 bif byRB p7 (-1 : Int) (IntKind.i64.wrap ((IntKind.i64.wrap (0 - p10)) - 1)) p12 then
 bif (byR p7 (-1 : Int) (IntKind.i64.wrap ((IntKind.i64.wrap (0 - p10)) - 1)) p12).2 then
 bif decide ((((byR p7 (-1 : Int) (IntKind.i64.wrap ((IntKind.i64.wrap (0 - p10)) - 1)) p12).1).length + [[(0 : Int)] ++ [(1 : Int)]].length) * 24 ≤ LIM) then
 some (.tup [.v (.sl (.sl (.int .i64))) (((byR p7 (-1 : Int) (IntKind.i64.wrap ((IntKind.i64.wrap (0 - p10)) - 1)) p12).1) ++ [[(0 : Int)] ++ [(1 : Int)]] : (List (List Int))), .v .bool true])
 else
 none
 else
 some (.tup [.nl, .v .bool false])
 else
 none
 else
 bif decide ((p12.length + [[(0 : Int)] ++ [(1 : Int)]].length) * 24 ≤ LIM) then
 some (.tup [.v (.sl (.sl (.int .i64))) (p12 ++ [[(0 : Int)] ++ [(1 : Int)]] : (List (List Int))), .v .bool true])
 else
 none
 else
 none
 else
 bif decide ((p12.length + [[(0 : Int)] ++ [(1 : Int)]].length) * 24 ≤ LIM) then
 some (.tup [.v (.sl (.sl (.int .i64))) (p12 ++ [[(0 : Int)] ++ [(1 : Int)]] : (List (List Int))), .v .bool true])
 else
 none
 else
 none
 else
 bif decide ((([(0 : Int)] ++ [(1 : Int)]).length : Int) = 1) then
 bif decide ((0 : Int) < ([(0 : Int)] ++ [(1 : Int)]).length) then
 bif decide ((([(0 : Int)] ++ [(1 : Int)]).getD 0 (0 : Int)) = 0) then
 bif byRB p7 (-1 : Int) (IntKind.i64.wrap ((IntKind.i64.wrap (0 - p10)) - 1)) p12 then
 bif (byR p7 (-1 : Int) (IntKind.i64.wrap ((IntKind.i64.wrap (0 - p10)) - 1)) p12).2 then
 bif decide ((((byR p7 (-1 : Int) (IntKind.i64.wrap ((IntKind.i64.wrap (0 - p10)) - 1)) p12).1).length + [[(0 : Int)] ++ [(1 : Int)]].length) * 24 ≤ LIM) then
 some (.tup [.v (.sl (.sl (.int .i64))) (((byR p7 (-1 : Int) (IntKind.i64.wrap ((IntKind.i64.wrap (0 - p10)) - 1)) p12).1) ++ [[(0 : Int)] ++ [(1 : Int)]] : (List (List Int))), .v .bool true])
 else
 none
 else
 some (.tup [.nl, .v .bool false])
 else
 none
 else
 bif decide ((p12.length + [[(0 : Int)] ++ [(1 : Int)]].length) * 24 ≤ LIM) then
 some (.tup [.v (.sl (.sl (.int .i64))) (p12 ++ [[(0 : Int)] ++ [(1 : Int)]] : (List (List Int))), .v .bool true])
 else
 none
 else
 none
 else
 bif decide ((p12.length + [[(0 : Int)] ++ [(1 : Int)]].length) * 24 ≤ LIM) then
 some (.tup [.v (.sl (.sl (.int .i64))) (p12 ++ [[(0 : Int)] ++ [(1 : Int)]] : (List (List Int))), .v .bool true])
 else
 none
 else
 none
 else
 bif decide (([(0 : Int)].length : Int) = 0) then
 some (.tup [.nl, .v .bool false])
 else
 bif decide (([(0 : Int)].length : Int) = 1) then
 bif decide ((0 : Int) < [(0 : Int)].length) then
 bif decide (([(0 : Int)].getD 0 (0 : Int)) = 1) then
 bif byRB p7 1 p10 p12 then
 bif (byR p7 1 p10 p12).2 then
 bif decide (([(0 : Int)].length : Int) = 1) then
 bif decide ((0 : Int) < [(0 : Int)].length) then
 bif decide (([(0 : Int)].getD 0 (0 : Int)) = 0) then
 bif byRB p7 (-1 : Int) (IntKind.i64.wrap ((IntKind.i64.wrap (0 - p10)) - 1)) ((byR p7 1 p10 p12).1) then
 bif (byR p7 (-1 : Int) (IntKind.i64.wrap ((IntKind.i64.wrap (0 - p10)) - 1)) ((byR p7 1 p10 p12).1)).2 then
 bif decide ((((byR p7 (-1 : Int) (IntKind.i64.wrap ((IntKind.i64.wrap (0 - p10)) - 1)) ((byR p7 1 p10 p12).1)).1).length + [[(0 : Int)]].length) * 24 ≤ LIM) then
 some (.tup [.v (.sl (.sl (.int .i64))) (((byR p7 (-1 : Int) (IntKind.i64.wrap ((IntKind.i64.wrap (0 - p10)) - 1)) ((byR p7 1 p10 p12).1)).1) ++ [[(0 : Int)]] : (List (List Int))), .v .bool true])
 else
 none
 else
 some (.tup [.nl, .v .bool false])
 else
 none
 else
 bif decide ((((byR p7 1 p10 p12).1).length + [[(0 : Int)]].length) * 24 ≤ LIM) then
 some (.tup [.v (.sl (.sl (.int .i64))) (((byR p7 1 p10 p12).1) ++ [[(0 : Int)]] : (List (List Int))), .v .bool true])
 else
 none
 else
 none
 else
 bif decide ((((byR p7 1 p10 p12).1).length + [[(0 : Int)]].length) * 24 ≤ LIM) then
 some (.tup [.v (.sl (.sl (.int .i64))) (((byR p7 1 p10 p12).1) ++ [[(0 : Int)]] : (List (List Int))), .v .bool true])
 else
 none
 else
 bif decide (([(0 : Int)].length : Int) = 1) then
 bif decide ((0 : Int) < [(0 : Int)].length) then
 bif decide (([(0 : Int)].getD 0 (0 : Int)) = 0) then
 bif byRB p7 (-1 : Int) (IntKind.i64.wrap ((IntKind.i64.wrap (0 - p10)) - 1)) [] then
 bif (byR p7 (-1 : Int) (IntKind.i64.wrap ((IntKind.i64.wrap (0 - p10)) - 1)) []).2 then
 bif decide ((((byR p7 (-1 : Int) (IntKind.i64.wrap ((IntKind.i64.wrap (0 - p10)) - 1)) []).1).length + [[(0 : Int)]].length) * 24 ≤ LIM) then
 some (.tup [.v (.sl (.sl (.int .i64))) (((byR p7 (-1 : Int) (IntKind.i64.wrap ((IntKind.i64.wrap (0 - p10)) - 1)) []).1) ++ [[(0 : Int)]] : (List (List Int))), .v .bool true])
 else
 none
 else
 some (.tup [.nl, .v .bool false])
 else
 none
 else
 some (.tup [.nl, .v .bool false])
 else
 none
 else
 some (.tup [.nl, .v .bool false])
 else
 none
 else
 bif decide (([(0 : Int)].length : Int) = 1) then
 bif decide ((0 : Int) < [(0 : Int)].length) then
 bif decide (([(0 : Int)].getD 0 (0 : Int)) = 0) then
 bif byRB p7 (-1 : Int) (IntKind.i64.wrap ((IntKind.i64.wrap (0 - p10)) - 1)) p12 then
 bif (byR p7 (-1 : Int) (IntKind.i64.wrap ((IntKind.i64.wrap (0 - p10)) - 1)) p12).2 then
 bif decide ((((byR p7 (-1 : Int) (IntKind.i64.wrap ((IntKind.i64.wrap (0 - p10)) - 1)) p12).1).length + [[(0 : Int)]].length) * 24 ≤ LIM) then
 some (.tup [.v (.sl (.sl (.int .i64))) (((byR p7 (-1 : Int) (IntKind.i64.wrap ((IntKind.i64.wrap (0 - p10)) - 1)) p12).1) ++ [[(0 : Int)]] : (List (List Int))), .v .bool true])
 else
 none
 else
 some (.tup [.nl, .v .bool false])
 else
 none
 else
 bif decide ((p12.length + [[(0 : Int)]].length) * 24 ≤ LIM) then some (.tup [.v (.sl (.sl (.int .i64))) (p12 ++ [[(0 : Int)]] : (List (List Int))), .v .bool true]) else none
 else
 none
 else
 bif decide ((p12.length + [[(0 : Int)]].length) * 24 ≤ LIM) then some (.tup [.v (.sl (.sl (.int .i64))) (p12 ++ [[(0 : Int)]] : (List (List Int))), .v .bool true]) else none
 else
 none
 else
 bif decide (([(0 : Int)].length : Int) = 1) then
 bif decide ((0 : Int) < [(0 : Int)].length) then
 bif decide (([(0 : Int)].getD 0 (0 : Int)) = 0) then
 bif byRB p7 (-1 : Int) (IntKind.i64.wrap ((IntKind.i64.wrap (0 - p10)) - 1)) p12 then
 bif (byR p7 (-1 : Int) (IntKind.i64.wrap ((IntKind.i64.wrap (0 - p10)) - 1)) p12).2 then
 bif decide ((((byR p7 (-1 : Int) (IntKind.i64.wrap ((IntKind.i64.wrap (0 - p10)) - 1)) p12).1).length + [[(0 : Int)]].length) * 24 ≤ LIM) then
 some (.tup [.v (.sl (.sl (.int .i64))) (((byR p7 (-1 : Int) (IntKind.i64.wrap ((IntKind.i64.wrap (0 - p10)) - 1)) p12).1) ++ [[(0 : Int)]] : (List (List Int))), .v .bool true])
 else
 none
 else
 some (.tup [.nl, .v .bool false])
 else
 none
 else
 bif decide ((p12.length + [[(0 : Int)]].length) * 24 ≤ LIM) then some (.tup [.v (.sl (.sl (.int .i64))) (p12 ++ [[(0 : Int)]] : (List (List Int))), .v .bool true]) else none
 else
 none
 else
 bif decide ((p12.length + [[(0 : Int)]].length) * 24 ≤ LIM) then some (.tup [.v (.sl (.sl (.int .i64))) (p12 ++ [[(0 : Int)]] : (List (List Int))), .v .bool true]) else none
 else
 bif decide (([(0 : Int)].length : Int) = 0) then
 some (.tup [.nl, .v .bool false])
 else
 bif decide (([(0 : Int)].length : Int) = 1) then
 bif decide ((0 : Int) < [(0 : Int)].length) then
 bif decide (([(0 : Int)].getD 0 (0 : Int)) = 1) then
 bif byRB p7 1 p10 p12 then
 bif (byR p7 1 p10 p12).2 then
 bif decide (([(0 : Int)].length : Int) = 1) then
 bif decide ((0 : Int) < [(0 : Int)].length) then
 bif decide (([(0 : Int)].getD 0 (0 : Int)) = 0) then
 bif byRB p7 (-1 : Int) (IntKind.i64.wrap ((IntKind.i64.wrap (0 - p10)) - 1)) ((byR p7 1 p10 p12).1) then
 bif (byR p7 (-1 : Int) (IntKind.i64.wrap ((IntKind.i64.wrap (0 - p10)) - 1)) ((byR p7 1 p10 p12).1)).2 then
 bif decide ((((byR p7 (-1 : Int) (IntKind.i64.wrap ((IntKind.i64.wrap (0 - p10)) - 1)) ((byR p7 1 p10 p12).1)).1).length + [[(0 : Int)]].length) * 24 ≤ LIM) then
 some (.tup [.v (.sl (.sl (.int .i64))) (((byR p7 (-1 : Int) (IntKind.i64.wrap ((IntKind.i64.wrap (0 - p10)) - 1)) ((byR p7 1 p10 p12).1)).1) ++ [[(0 : Int)]] : (List (List Int))), .v .bool true])
 else
 none
 else
 some (.tup [.nl, .v .bool false])
 else
 none
 else
 bif decide ((((byR p7 1 p10 p12).1).length + [[(0 : Int)]].length) * 24 ≤ LIM) then
 some (.tup [.v (.sl (.sl (.int .i64))) (((byR p7 1 p10 p12).1) ++ [[(0 : Int)]] : (List (List Int))), .v .bool true])
 else
 none
 else
 none
 else
 bif decide ((((byR p7 1 p10 p12).1).length + [[(0 : Int)]].length) * 24 ≤ LIM) then
 some (.tup [.v (.sl (.sl (.int .i64))) (((byR p7 1 p10 p12).1) ++ [[(0 : Int)]] : (List (List Int))), .v .bool true])
 else
 none
 else
 bif decide (([(0 : Int)].length : Int) = 1) then
 bif decide ((0 : Int) < [(0 : Int)].length) then
 bif decide (([(0 : Int)].getD 0 (0 : Int)) = 0) then
 bif byRB p7 (-1 : Int) (IntKind.i64.wrap ((IntKind.i64.wrap (0 - p10)) - 1)) [] then
 bif (byR p7 (-1 : Int) (IntKind.i64.wrap ((IntKind.i64.wrap (0 - p10)) - 1)) []).2 then
 bif decide ((((byR p7 (-1 : Int) (IntKind.i64.wrap ((IntKind.i64.wrap (0 - p10)) - 1)) []).1).length + [[(0 : Int)]].length) * 24 ≤ LIM) then
 some (.tup [.v (.sl (.sl (.int .i64))) (((byR p7 (-1 : Int) (IntKind.i64.wrap ((IntKind.i64.wrap (0 - p10)) - 1)) []).1) ++ [[(0 : Int)]] : (List (List Int))), .v .bool true])
 else
 none
 else
 some (.tup [.nl, .v .bool false])
 else
 none
 else
 some (.tup [.nl, .v .bool false])
 else
 none
 else
 some (.tup [.nl, .v .bool false])
 else
 none
 else
 bif decide (([(0 : Int)].length : Int) = 1) then
 bif decide ((0 : Int) < [(0 : Int)].length) then
 bif decide (([(0 : Int)].getD 0 (0 : Int)) = 0) then
 bif byRB p7 (-1 : Int) (IntKind.i64.wrap ((IntKind.i64.wrap (0 - p10)) - 1)) p12 then
 bif (byR p7 (-1 : Int) (IntKind.i64.wrap ((IntKind.i64.wrap (0 - p10)) - 1)) p12).2 then
 bif decide ((((byR p7 (-1 : Int) (IntKind.i64.wrap ((IntKind.i64.wrap (0 - p10)) - 1)) p12).1).length + [[(0 : Int)]].length) * 24 ≤ LIM) then
 some (.tup [.v (.sl (.sl (.int .i64))) (((byR p7 (-1 : Int) (IntKind.i64.wrap ((IntKind.i64.wrap (0 - p10)) - 1)) p12).1) ++ [[(0 : Int)]] : (List (List Int))), .v .bool true])
 else
 none
 else
 some (.tup [.nl, .v .bool false])
 else
 none
 else
 bif decide ((p12.length + [[(0 : Int)]].length) * 24 ≤ LIM) then some (.tup [.v (.sl (.sl (.int .i64))) (p12 ++ [[(0 : Int)]] : (List (List Int))), .v .bool true]) else none
 else
 none
 else
 bif decide ((p12.length + [[(0 : Int)]].length) * 24 ≤ LIM) then some (.tup [.v (.sl (.sl (.int .i64))) (p12 ++ [[(0 : Int)]] : (List (List Int))), .v .bool true]) else none
 else
 none
 else
 bif decide (([(0 : Int)].length : Int) = 1) then
 bif decide ((0 : Int) < [(0 : Int)].length) then
 bif decide (([(0 : Int)].getD 0 (0 : Int)) = 0) then
 bif byRB p7 (-1 : Int) (IntKind.i64.wrap ((IntKind.i64.wrap (0 - p10)) - 1)) p12 then
 bif (byR p7 (-1 : Int) (IntKind.i64.wrap ((IntKind.i64.wrap (0 - p10)) - 1)) p12).2 then
 bif decide ((((byR p7 (-1 : Int) (IntKind.i64.wrap ((IntKind.i64.wrap (0 - p10)) - 1)) p12).1).length + [[(0 : Int)]].length) * 24 ≤ LIM) then
 some (.tup [.v (.sl (.sl (.int .i64))) (((byR p7 (-1 : Int) (IntKind.i64.wrap ((IntKind.i64.wrap (0 - p10)) - 1)) p12).1) ++ [[(0 : Int)]] : (List (List Int))), .v .bool true])
 else
 none
 else
 some (.tup [.nl, .v .bool false])
 else
 none
 else
 bif decide ((p12.length + [[(0 : Int)]].length) * 24 ≤ LIM) then some (.tup [.v (.sl (.sl (.int .i64))) (p12 ++ [[(0 : Int)]] : (List (List Int))), .v .bool true]) else none
 else
 none
 else
 bif decide ((p12.length + [[(0 : Int)]].length) * 24 ≤ LIM) then some (.tup [.v (.sl (.sl (.int .i64))) (p12 ++ [[(0 : Int)]] : (List (List Int))), .v .bool true]) else none
 else
 none
 else
 none
 else
 bif decide (0 ≤ p1) && decide (p1 < p0.length) then
 bif hasL (p0.getD p1.toNat []) 1 then
 bif decide (p2 ≤ p10) then
 bif decide ([(1 : Int)].length * 8 ≤ LIM) then
 bif decide (([(1 : Int)].length : Int) = 0) then
 some (.tup [.nl, .v .bool false])
 else
 bif decide (([(1 : Int)].length : Int) = 1) then
 bif decide ((0 : Int) < [(1 : Int)].length) then
 bif decide (([(1 : Int)].getD 0 (0 : Int)) = 1) then
 bif byRB p7 1 p10 p12 then
 bif (byR p7 1 p10 p12).2 then
 bif decide (([(1 : Int)].length : Int) = 1) then
 bif decide ((0 : Int) < [(1 : Int)].length) then
 bif decide (([(1 : Int)].getD 0 (0 : Int)) = 0) then
 bif byRB p7 (-1 : Int) (IntKind.i64.wrap ((IntKind.i64.wrap (0 - p10)) - 1)) ((byR p7 1 p10 p12).1) then
 bif (byR p7 (-1 : Int) (IntKind.i64.wrap ((IntKind.i64.wrap (0 - p10)) - 1)) ((byR p7 1 p10 p12).1)).2 then
 bif decide ((((byR p7 (-1 : Int) (IntKind.i64.wrap ((IntKind.i64.wrap (0 - p10)) - 1)) ((byR p7 1 p10 p12).1)).1).length + [[(1 : Int)]].length) * 24 ≤ LIM) then
 some (.tup [.v (.sl (.sl (.int .i64))) (((byR p7 (-1 : Int) (IntKind.i64.wrap ((IntKind.i64.wrap (0 - p10)) - 1)) ((byR p7 1 p10 p12).1)).1) ++ [[(1 : Int)]] : (List (List Int))), .v .bool true])
 else
 none
 else
 some (.tup [.nl, .v .bool false])
 else
 none
 else
 bif decide ((((byR p7 1 p10 p12).1).length + [[(1 : Int)]].length) * 24 ≤ LIM) then
 some (.tup [.v (.sl (.sl (.int .i64))) (((byR p7 1 p10 p12).1) ++ [[(1 : Int)]] : (List (List Int))), .v .bool true])
 else
 none
 else
 none
 else
 bif decide ((((byR p7 1 p10 p12).1).length + [[(1 : Int)]].length) * 24 ≤ LIM) then
 some (.tup [.v (.sl (.sl (.int .i64))) (((byR p7 1 p10 p12).1) ++ [[(1 : Int)]] : (List (List Int))), .v .bool true])
 else
 none
 else
 bif decide (([(1 : Int)].length : Int) = 1) then
 bif decide ((0 : Int) < [(1 : Int)].length) then
 bif decide (([(1 : Int)].getD 0 (0 : Int)) = 0) then
 bif byRB p7 (-1 : Int) (IntKind.i64.wrap ((IntKind.i64.wrap (0 - p10)) - 1)) [] then
 bif (byR p7 (-1 : Int) (IntKind.i64.wrap ((IntKind.i64.wrap (0 - p10)) - 1)) []).2 then
 bif decide ((((byR p7 (-1 : Int) (IntKind.i64.wrap ((IntKind.i64.wrap (0 - p10)) - 1)) []).1).length + [[(1 : Int)]].length) * 24 ≤ LIM) then
 some (.tup [.v (.sl (.sl (.int .i64))) (((byR p7 (-1 : Int) (IntKind.i64.wrap ((IntKind.i64.wrap (0 - p10)) - 1)) []).1) ++ [[(1 : Int)]] : (List (List Int))), .v .bool true])
 else
 none
 else
 some (.tup [.nl, .v .bool false])
 else
 none
 else
 some (.tup [.nl, .v .bool false])
 else
 none
 else
 some (.tup [.nl, .v .bool false])
 else
 none
 else
 bif decide (([(1 : Int)].length : Int) = 1) then
 bif decide ((0 : Int) < [(1 : Int)].length) then
 bif decide (([(1 : Int)].getD 0 (0 : Int)) = 0) then
 bif byRB p7 (-1 : Int) (IntKind.i64.wrap ((IntKind.i64.wrap (0 - p10)) - 1)) p12 then
 bif (byR p7 (-1 : Int) (IntKind.i64.wrap ((IntKind.i64.wrap (0 - p10)) - 1)) p12).2 then
 bif decide ((((byR p7 (-1 : Int) (IntKind.i64.wrap ((IntKind.i64.wrap (0 - p10)) - 1)) p12).1).length + [[(1 : Int)]].length) * 24 ≤ LIM) then
 some (.tup [.v (.sl (.sl (.int .i64))) (((byR p7 (-1 : Int) (IntKind.i64.wrap ((IntKind.i64.wrap (0 - p10)) - 1)) p12).1) ++ [[(1 : Int)]] : (List (List Int))), .v .bool true])
 else
 none
 else
 some (.tup [.nl, .v .bool false])
 else
 none
 else
 bif decide ((p12.length + [[(1 : Int)]].length) * 24 ≤ LIM) then some (.tup [.v (.sl (.sl (.int .i64))) (p12 ++ [[(1 : Int)]] : (List (List Int))), .v .bool true]) else none
 else
 none
 else
 bif decide ((p12.length + [[(1 : Int)]].length) * 24 ≤ LIM) then some (.tup [.v (.sl (.sl (.int .i64))) (p12 ++ [[(1 : Int)]] : (List (List Int))), .v .bool true]) else none
 else
 none
 else
 bif decide (([(1 : Int)].length : Int) = 1) then
 bif decide ((0 : Int) < [(1 : Int)].length) then
 bif decide (([(1 : Int)].getD 0 (0 : Int)) = 0) then
 bif byRB p7 (-1 : Int) (IntKind.i64.wrap ((IntKind.i64.wrap (0 - p10)) - 1)) p12 then
 bif (byR p7 (-1 : Int) (IntKind.i64.wrap ((IntKind.i64.wrap (0 - p10)) - 1)) p12).2 then
 bif decide ((((byR p7 (-1 : Int) (IntKind.i64.wrap ((IntKind.i64.wrap (0 - p10)) - 1)) p12).1).length + [[(1 : Int)]].length) * 24 ≤ LIM) then
 some (.tup [.v (.sl (.sl (.int .i64))) (((byR p7 (-1 : Int) (IntKind.i64.wrap ((IntKind.i64.wrap (0 - p10)) - 1)) p12).1) ++ [[(1 : Int)]] : (List (List Int))), .v .bool true])
 else
 none
 else
 some (.tup [.nl, .v .bool false])
 else
 none
 else
 bif decide ((p12.length + [[(1 : Int)]].length) * 24 ≤ LIM) then some (.tup [.v (.sl (.sl (.int .i64))) (p12 ++ [[(1 : Int)]] : (List (List Int))), .v .bool true]) else none
 else
 none
 else
 bif decide ((p12.length + [[(1 : Int)]].length) * 24 ≤ LIM) then some (.tup [.v (.sl (.sl (.int .i64))) (p12 ++ [[(1 : Int)]] : (List (List Int))), .v .bool true]) else none
 else
 none
 else
 some (.tup [.nl, .v .bool false])
 else
 some (.tup [.nl, .v .bool false])
 else
 none
 else
 bif decide (0 ≤ p1) && decide (p1 < p0.length) then
 bif hasL (p0.getD p1.toNat []) 1 then
 bif decide (p2 ≤ p10) then
 bif decide ([(1 : Int)].length * 8 ≤ LIM) then
 bif decide (([(1 : Int)].length : Int) = 0) then
 some (.tup [.nl, .v .bool false])
 else
 bif decide (([(1 : Int)].length : Int) = 1) then
 bif decide ((0 : Int) < [(1 : Int)].length) then
 bif decide (([(1 : Int)].getD 0 (0 : Int)) = 1) then
 bif byRB p7 1 p10 p12 then
 bif (byR p7 1 p10 p12).2 then
 bif decide (([(1 : Int)].length : Int) = 1) then
 bif decide ((0 : Int) < [(1 : Int)].length) then
 bif decide (([(1 : Int)].getD 0 (0 : Int)) = 0) then
 bif byRB p7 (-1 : Int) (IntKind.i64.wrap ((IntKind.i64.wrap (0 - p10)) - 1)) ((byR p7 1 p10 p12).1) then
 bif (byR p7 (-1 : Int) (IntKind.i64.wrap ((IntKind.i64.wrap (0 - p10)) - 1)) ((byR p7 1 p10 p12).1)).2 then
 bif decide ((((byR p7 (-1 : Int) (IntKind.i64.wrap ((IntKind.i64.wrap (0 - p10)) - 1)) ((byR p7 1 p10 p12).1)).1).length + [[(1 : Int)]].length) * 24 ≤ LIM) then
 some (.tup [.v (.sl (.sl (.int .i64))) (((byR p7 (-1 : Int) (IntKind.i64.wrap ((IntKind.i64.wrap (0 - p10)) - 1)) ((byR p7 1 p10 p12).1)).1) ++ [[(1 : Int)]] : (List (List Int))), .v .bool true])
 else
 none
 else
 some (.tup [.nl, .v .bool false])
 else
 none
 else
 bif decide ((((byR p7 1 p10 p12).1).length + [[(1 : Int)]].length) * 24 ≤ LIM) then
 some (.tup [.v (.sl (.sl (.int .i64))) (((byR p7 1 p10 p12).1) ++ [[(1 : Int)]] : (List (List Int))), .v .bool true])
 else
 none
 else
 none
 else
 bif decide ((((byR p7 1 p10 p12).1).length + [[(1 : Int)]].length) * 24 ≤ LIM) then
 some (.tup [.v (.sl (.sl (.int .i64))) (((byR p7 1 p10 p12).1) ++ [[(1 : Int)]] : (List (List Int))), .v .bool true])
 else
 none
 else
 bif decide (([(1 : Int)].length : Int) = 1) then
 bif decide ((0 : Int) < [(1 : Int)].length) then
 bif decide (([(1 : Int)].getD 0 (0 : Int)) = 0) then
 bif byRB p7 (-1 : Int) (IntKind.i64.wrap ((IntKind.i64.wrap (0 - p10)) - 1)) [] then
 bif (byR p7 (-1 : Int) (IntKind.i64.wrap ((IntKind.i64.wrap (0 - p10)) - 1)) []).2 then
 bif decide ((((byR p7 (-1 : Int) (IntKind.i64.wrap ((IntKind.i64.wrap (0 - p10)) - 1)) []).1).length + [[(1 : Int)]].length) * 24 ≤ LIM) then
 some (.tup [.v (.sl (.sl (.int .i64))) (((byR p7 (-1 : Int) (IntKind.i64.wrap ((IntKind.i64.wrap (0 - p10)) - 1)) []).1) ++ [[(1 : Int)]] : (List (List Int))), .v .bool true])
 else
 none
 else
 some (.tup [.nl, .v .bool false])
 else
 none
 else
 some (.tup [.nl, .v .bool false])
 else
 none
 else
 some (.tup [.nl, .v .bool false])
 else
 none
 else
 bif decide (([(1 : Int)].length : Int) = 1) then
 bif decide ((0 : Int) < [(1 : Int)].length) then
 bif decide (([(1 : Int)].getD 0 (0 : Int)) = 0) then
 bif byRB p7 (-1 : Int) (IntKind.i64.wrap ((IntKind.i64.wrap (0 - p10)) - 1)) p12 then
 bif (byR p7 (-1 : Int) (IntKind.i64.wrap ((IntKind.i64.wrap (0 - p10)) - 1)) p12).2 then
 bif decide ((((byR p7 (-1 : Int) (IntKind.i64.wrap ((IntKind.i64.wrap (0 - p10)) - 1)) p12).1).length + [[(1 : Int)]].length) * 24 ≤ LIM) then
 some (.tup [.v (.sl (.sl (.int .i64))) (((byR p7 (-1 : Int) (IntKind.i64.wrap ((IntKind.i64.wrap (0 - p10)) - 1)) p12).1) ++ [[(1 : Int)]] : (List (List Int))), .v .bool true])
 else
 none
 else
 some (.tup [.nl, .v .bool false])
 else
 none
 else
 bif decide ((p12.length + [[(1 : Int)]].length) * 24 ≤ LIM) then some (.tup [.v (.sl (.sl (.int .i64))) (p12 ++ [[(1 : Int)]] : (List (List Int))), .v .bool true]) else none
 else
 none
 else
 bif decide ((p12.length + [[(1 : Int)]].length) * 24 ≤ LIM) then some (.tup [.v (.sl (.sl (.int .i64))) (p12 ++ [[(1 : Int)]] : (List (List Int))), .v .bool true]) else none
 else
 none
 else
 bif decide (([(1 : Int)].length : Int) = 1) then
 bif decide ((0 : Int) < [(1 : Int)].length) then
 bif decide (([(1 : Int)].getD 0 (0 : Int)) = 0) then
 bif byRB p7 (-1 : Int) (IntKind.i64.wrap ((IntKind.i64.wrap (0 - p10)) - 1)) p12 then
 bif (byR p7 (-1 : Int) (IntKind.i64.wrap ((IntKind.i64.wrap (0 - p10)) - 1)) p12).2 then
 bif decide ((((byR p7 (-1 : Int) (IntKind.i64.wrap ((IntKind.i64.wrap (0 - p10)) - 1)) p12).1).length + [[(1 : Int)]].length) * 24 ≤ LIM) then
 some (.tup [.v (.sl (.sl (.int .i64))) (((byR p7 (-1 : Int) (IntKind.i64.wrap ((IntKind.i64.wrap (0 - p10)) - 1)) p12).1) ++ [[(1 : Int)]] : (List (List Int))), .v .bool true])
 else
 none
 else
 some (.tup [.nl, .v .bool false])
 else
 none
 else
 bif decide ((p12.length + [[(1 : Int)]].length) * 24 ≤ LIM) then some (.tup [.v (.sl (.sl (.int .i64))) (p12 ++ [[(1 : Int)]] : (List (List Int))), .v .bool true]) else none
 else
 none
 else
 bif decide ((p12.length + [[(1 : Int)]].length) * 24 ≤ LIM) then some (.tup [.v (.sl (.sl (.int .i64))) (p12 ++ [[(1 : Int)]] : (List (List Int))), .v .bool true]) else none
 else
 none
 else
 some (.tup [.nl, .v .bool false])
 else
 some (.tup [.nl, .v .bool false])
 else
 none
 else
 none := by kernel_rfl
end Go.Proofs.YtnojoaghcbljfaaGreatDoor.Ev
