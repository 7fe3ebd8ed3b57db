/-
The functions as the evaluator runs them: printed by a program of mine, each equation by kernel_rfl.
Conditions: none.
-/
import Derived.Test.YtnojoaghcbljfaaGreatDoorAa
set_option linter.unusedVariables false
set_option linter.unusedSimpArgs false
set_option maxRecDepth 100000
namespace Go.Proofs.YtnojoaghcbljfaaGreatDoor.Ev
open Go
noncomputable def F469.fn : Func := Go.Proofs.Tryz.f169
noncomputable def F469.E : Env := ⟨tt, [], [(1, [0]), (2, [0, 4]), (3, [0])], [], some [2], inv, []⟩
theorem F469.start_eq (k : Nat) (a0 : List Int) : callW F469.E true F469.fn k [.v (.sl (.int .u64)) a0] =
 bif !(decide (a0.length = 0)) then
 bif decide ((([] : (List Int)).length + a0.length) * 8 ≤ LIM) then some (.nw 81 (.int .u64) ([] ++ a0)) else none
 else
 none := by kernel_rfl
noncomputable def F318.fn : Func := Go.Proofs.Tryz.f18
noncomputable def F318.E : Env := ⟨tt, [], [(1, [0]), (2, [0, 4]), (3, [0])], [], some [2], inv, []⟩
theorem F318.start_eq (k : Nat) (a0 : List (List Int)) : callW F318.E true F318.fn k [.v (.sl (.sl (.int .i64))) a0] =
 bif !(decide (a0.length = 0)) then
 bif decide ((([] : (List (List Int))).length + a0.length) * 24 ≤ LIM) then some (.nw 30 (.sl (.int .i64)) ([] ++ a0)) else none
 else
 none := by kernel_rfl
noncomputable def F445g447.fn : Func := Go.Proofs.Tryz.f145
noncomputable def F445g447.body : Code := bodyOf F445g447.fn
noncomputable def F445g447.E : Env := ⟨tt, [(99, h_madeD), (147, h_andK), (169, h_cloneU)], [(1, [1, 2, 4]), (2, [1, 2, 4, 6]), (3, [1, 2, 4, 6, 13, 14, 15]), (4, [1, 2, 4, 6, 13, 14, 15, 16]), (5, [1, 2, 4, 6, 7, 8, 13, 14, 15]), (6, [1, 2, 4, 6, 13, 14, 15]), (7, [2, 4, 6]), (8, [2, 4, 9]), (9, [2, 4, 9, 38]), (11, [2, 4, 9, 45]), (13, [2, 4, 9, 50]), (15, [4, 9, 55]), (16, [4, 9])], [(0, [2, 4, 6]), (1, [1, 2, 4, 6, 13, 14, 15]), (2, [4, 9])], some [4, 5], inv, []⟩
noncomputable def F445g447.K0 : Conts := { nrm := endW F445g447.E false F445g447.fn.results.toList, ret := endW F445g447.E false F445g447.fn.results.toList, ex := [] }
noncomputable def F445g447.kt (k : Nat) (q : List Nat) : Conts := contAt F445g447.E k F445g447.body F445g447.K0 q
noncomputable def F445g447.l1_1_0_1_0 (n : Nat) (K : Conts) (p0 : Int) (p1 : List Int) (p2 p3 p4 p5 p6 p7 : Int) (p8 : List Int) (p9 p10 p11 p12 p13 p14 p15 : Int) (p16 : List Int) : Option AV := loopF F445g447.E n (inLoop (subC [1,1,0,1,0] F445g447.body)) K ⟨slots 70 [(1, .fn 147 [] [.rp [.v (.int .i64) p0, .v (.sl (.int .u64)) p1, .v (.int .i64) p2, .v (.int .i64) p3, .v (.int .i64) p4]]), (2, .pb 0 0), (4, .pb 1 0), (6, .own 2), (13, .own 2), (14, .v (.int .i64) p5), (15, .v (.int .i64) p6)], [.box [.v (.int .i64) p7, .v (.sl (.int .u64)) p8, .v (.int .i64) p9, .v (.int .i64) p10, .v (.int .i64) p11], .box [.v (.int .i64) p12, .nl, .v (.int .i64) p13, .v (.int .i64) p14, .v (.int .i64) p15], .row 81 (.int .u64) p16]⟩
theorem F445g447.start_eq (k : Nat) (a0 z : Dom) : callW F445g447.E false F445g447.fn k [.agg [.v (.int .i64) a0.1, .v (.sl (.int .u64)) a0.2.1, .v (.int .i64) a0.2.2.1, .v (.int .i64) a0.2.2.2.1, .v (.int .i64) a0.2.2.2.2], .fn 147 [] [.rp [.v (.int .i64) z.1, .v (.sl (.int .u64)) z.2.1, .v (.int .i64) z.2.2.1, .v (.int .i64) z.2.2.2.1, .v (.int .i64) z.2.2.2.2]]] =
 bif cloneB a0.2.1 then
 F445g447.l1_1_0_1_0 k (F445g447.kt k [1,1,0,1,0]) z.1 z.2.1 z.2.2.1 z.2.2.2.1 z.2.2.2.2 (a0.2.1.length : Int) 0 a0.1 a0.2.1 a0.2.2.1 a0.2.2.2.1 a0.2.2.2.2 (0 : Int) (0 : Int) (0 : Int) (0 : Int) a0.2.1
 else
 none := by kernel_rfl
theorem F445g447.l1_1_0_1_0_eq (n : Nat) (K : Conts) (p0 : Int) (p1 : List Int) (p2 p3 p4 p5 p6 p7 : Int) (p8 : List Int) (p9 p10 p11 p12 p13 p14 p15 : Int) (p16 : List Int) : F445g447.l1_1_0_1_0 (n + 1) K p0 p1 p2 p3 p4 p5 p6 p7 p8 p9 p10 p11 p12 p13 p14 p15 p16 =
 bif decide (p6 < p5) then
 bif decide (0 ≤ p6) && decide (p6 < p16.length) then
 bif andKB (p0, (p1, (p2, (p3, p4)))) (IntKind.i64.wrap (p7 + (IntKind.i64.wrap (64 * p6)))) then
 bif decide (0 ≤ p6) && decide (p6 < p16.length) then
 F445g447.l1_1_0_1_0 n K p0 p1 p2 p3 p4 p5 (IntKind.i64.wrap (p6 + 1)) p7 p8 p9 p10 p11 p12 p13 p14 p15 (p16.set p6.toNat (bitsW .and .u64 (p16.getD p6.toNat (0 : Int)) (andK (p0, (p1, (p2, (p3, p4)))) (IntKind.i64.wrap (p7 + (IntKind.i64.wrap (64 * p6)))) (p16.getD p6.toNat (0 : Int)))))
 else
 none
 else
 none
 else
 none
 else
 exitK K 0 ⟨slots 70 [(2, .pb 0 0), (4, .pb 1 0), (6, .own 2)], [.box [.v (.int .i64) p7, .v (.sl (.int .u64)) p8, .v (.int .i64) p9, .v (.int .i64) p10, .v (.int .i64) p11], .box [.v (.int .i64) p12, .nl, .v (.int .i64) p13, .v (.int .i64) p14, .v (.int .i64) p15], .row 81 (.int .u64) p16]⟩ := by kernel_rfl
theorem F445g447.c0 (k : Nat) (p0 : Int) (p1 : List Int) (p2 p3 p4 p5 p6 p7 p8 : Int) (p9 : List Int) : exitK (F445g447.kt k [1,1,0,1,0]) 0 ⟨slots 70 [(2, .pb 0 0), (4, .pb 1 0), (6, .own 2)], [.box [.v (.int .i64) p0, .v (.sl (.int .u64)) p1, .v (.int .i64) p2, .v (.int .i64) p3, .v (.int .i64) p4], .box [.v (.int .i64) p5, .nl, .v (.int .i64) p6, .v (.int .i64) p7, .v (.int .i64) p8], .row 81 (.int .u64) p9]⟩ =
 bif p9.all uB then
 bif decide ((((((madeD p0 p9).2).2).2).2) = p4) then
 some (.tup [.agg [.v (.int .i64) p0, .v (.sl (.int .u64)) p1, .v (.int .i64) p2, .v (.int .i64) p3, .v (.int .i64) p4], .v (.int .i64) (0 : Int)])
 else
 bif decide ((((((madeD p0 p9).2).2).2).2) = 0) then
 some (.tup [.agg [.v (.int .i64) (0 : Int), .nl, .v (.int .i64) (0 : Int), .v (.int .i64) (0 : Int), .v (.int .i64) (0 : Int)], .v (.int .i64) (4 : Int)])
 else
 bif decide ((((((madeD p0 p9).2).2).2).2) = 1) then
 some (.tup [.agg [.v (.int .i64) ((madeD p0 p9).1), .v (.sl (.int .u64)) (((madeD p0 p9).2).1), .v (.int .i64) ((((madeD p0 p9).2).2).1), .v (.int .i64) (((((madeD p0 p9).2).2).2).1), .v (.int .i64) (((((madeD p0 p9).2).2).2).2)], .v (.int .i64) (3 : Int)])
 else
 bif !(decide (((((madeD p0 p9).2).2).1) = p2)) then
 some (.tup [.agg [.v (.int .i64) ((madeD p0 p9).1), .v (.sl (.int .u64)) (((madeD p0 p9).2).1), .v (.int .i64) ((((madeD p0 p9).2).2).1), .v (.int .i64) (((((madeD p0 p9).2).2).2).1), .v (.int .i64) (((((madeD p0 p9).2).2).2).2)], .v (.int .i64) (2 : Int)])
 else
 bif !(decide ((((((madeD p0 p9).2).2).2).1) = p3)) then
 some (.tup [.agg [.v (.int .i64) ((madeD p0 p9).1), .v (.sl (.int .u64)) (((madeD p0 p9).2).1), .v (.int .i64) ((((madeD p0 p9).2).2).1), .v (.int .i64) (((((madeD p0 p9).2).2).2).1), .v (.int .i64) (((((madeD p0 p9).2).2).2).2)], .v (.int .i64) (2 : Int)])
 else
 some (.tup [.agg [.v (.int .i64) ((madeD p0 p9).1), .v (.sl (.int .u64)) (((madeD p0 p9).2).1), .v (.int .i64) ((((madeD p0 p9).2).2).1), .v (.int .i64) (((((madeD p0 p9).2).2).2).1), .v (.int .i64) (((((madeD p0 p9).2).2).2).2)], .v (.int .i64) (1 : Int)])
 else
 none := by kernel_rfl
noncomputable def F447.fn : Func := Go.Proofs.Tryz.f147
noncomputable def F447.E : Env := ⟨tt, [(53, h_wordD)], [(1, [0, 2])], [], some [5], inv, []⟩
theorem F447.start_eq (k : Nat) (a0 a1 : Int) (z : Dom) : callW F447.E false F447.fn k [.v (.int .i64) a0, .v (.int .u64) a1, .rp [.v (.int .i64) z.1, .v (.sl (.int .u64)) z.2.1, .v (.int .i64) z.2.2.1, .v (.int .i64) z.2.2.2.1, .v (.int .i64) z.2.2.2.2]] =
 bif wordB z a0 then some (.v (.int .u64) (wordD z a0)) else none := by kernel_rfl
noncomputable def F412.fn : Func := Go.Proofs.Tryz.f112
noncomputable def F412.E : Env := ⟨tt, [(145, h_less)], [(1, [2, 3, 4])], [], some [4, 5], inv, []⟩
theorem F412.start_eq (k : Nat) (a0 a1 : Dom) : callW F412.E false F412.fn k [.agg [.v (.int .i64) a0.1, .v (.sl (.int .u64)) a0.2.1, .v (.int .i64) a0.2.2.1, .v (.int .i64) a0.2.2.2.1, .v (.int .i64) a0.2.2.2.2], .agg [.v (.int .i64) a1.1, .v (.sl (.int .u64)) a1.2.1, .v (.int .i64) a1.2.2.1, .v (.int .i64) a1.2.2.2.1, .v (.int .i64) a1.2.2.2.2]] =
 bif cutB a0 (andKB a1) then
 some (.tup [.agg [.v (.int .i64) (((cutD a0 (andK a1)).1).1), .v (.sl (.int .u64)) ((((cutD a0 (andK a1)).1).2).1), .v (.int .i64) (((((cutD a0 (andK a1)).1).2).2).1), .v (.int .i64) ((((((cutD a0 (andK a1)).1).2).2).2).1), .v (.int .i64) ((((((cutD a0 (andK a1)).1).2).2).2).2)], .v (.int .i64) ((cutD a0 (andK a1)).2)])
 else
 none := by kernel_rfl
noncomputable def F400.fn : Func := Go.Proofs.Tryz.f100
noncomputable def F400.E : Env := ⟨tt, [(92, h_sizeD), (112, h_andD)], [(1, [2, 3]), (2, [5])], [], some [4], inv, []⟩
theorem F400.start_eq (k : Nat) (a0 a1 : Dom) : callW F400.E false F400.fn k [.agg [.v (.int .i64) a0.1, .v (.sl (.int .u64)) a0.2.1, .v (.int .i64) a0.2.2.1, .v (.int .i64) a0.2.2.2.1, .v (.int .i64) a0.2.2.2.2], .agg [.v (.int .i64) a1.1, .v (.sl (.int .u64)) a1.2.1, .v (.int .i64) a1.2.2.1, .v (.int .i64) a1.2.2.2.1, .v (.int .i64) a1.2.2.2.2]] =
 bif cutB a0 (andKB a1) then some (.v .bool (decide ((sizeD ((cutD a0 (andK a1)).1)) > 0))) else none := by kernel_rfl
noncomputable def F356.fn : Func := Go.Proofs.Tryz.f56
noncomputable def F356.body : Code := bodyOf F356.fn
noncomputable def F356.E : Env := ⟨tt, [(62, h_minD), (86, h_maxD), (100, h_meetD)], [(1, [0, 1, 4]), (2, [0, 1, 4, 5]), (3, [0, 1, 4, 5, 6]), (4, [0, 1, 4, 5, 6]), (5, [0, 1, 4, 5, 6, 30, 31]), (6, [0, 1, 4, 5, 6, 30, 31, 32]), (7, [0, 1, 4, 5, 6, 7, 30, 31]), (8, [0, 1, 4, 5, 6, 7, 30, 31]), (9, [0, 1, 4, 5, 6, 30, 31]), (10, [0, 1, 4, 5, 6]), (11, [0, 1, 4, 6, 8]), (12, [0, 1, 4, 6, 8]), (13, [0, 1, 4, 6, 8]), (14, [4, 6])], [(0, [0, 1, 4, 5, 6]), (1, [0, 1, 4, 5, 6, 30, 31]), (2, [4, 6]), (3, [0, 1, 4, 6, 8])], some [4], inv, []⟩
noncomputable def F356.K0 : Conts := { nrm := endW F356.E false F356.fn.results.toList, ret := endW F356.E false F356.fn.results.toList, ex := [] }
noncomputable def F356.kt (k : Nat) (q : List Nat) : Conts := contAt F356.E k F356.body F356.K0 q
noncomputable def F356.l1_1_1_1_0_1_0 (n : Nat) (K : Conts) (p0 p1 : List Dom) (p2 p3 p4 : Int) (p5 p6 : List Dom) (p7 p8 p9 : List Bool) : Option AV := loopF F356.E n (inLoop (subC [1,1,1,1,0,1,0] F356.body)) K ⟨slots 127 [(0, .v (.sl DomT) p0), (1, .v (.sl DomT) p1), (4, .pb 0 0), (5, .v (.int .i64) p2), (6, .pb 1 0), (30, .v (.int .i64) p3), (31, .v (.int .i64) p4)], [.box [.nl, .nl, .nl, .nl, .nl], .box [.v (.sl DomT) p5, .v (.sl DomT) p6, .own 2, .own 3, .own 4], .row 4 .bool p7, .row 4 .bool p8, .row 4 .bool p9]⟩
noncomputable def F356.l1_1_1_1_1_0_1_0 (n : Nat) (K : Conts) (p0 p1 : List Dom) (p2 : Int) (p3 p4 : List Dom) (p5 p6 p7 : List Bool) : Option AV := loopF F356.E n (inLoop (subC [1,1,1,1,1,0,1,0] F356.body)) K ⟨slots 127 [(0, .v (.sl DomT) p0), (1, .v (.sl DomT) p1), (4, .pb 0 0), (6, .pb 1 0), (8, .v (.int .i64) p2)], [.box [.nl, .nl, .nl, .nl, .nl], .box [.v (.sl DomT) p3, .v (.sl DomT) p4, .own 2, .own 3, .own 4], .row 4 .bool p5, .row 4 .bool p6, .row 4 .bool p7]⟩
theorem F356.start_eq (k : Nat) (a0 a1 : List Dom) : callW F356.E false F356.fn k [.v (.sl DomT) a0, .v (.sl DomT) a1] =
 bif decide (0 ≤ (IntKind.i64.wrap ((a0.length : Int) + 1))) && decide ((IntKind.i64.wrap ((a0.length : Int) + 1)).toNat * 1 ≤ LIM) then
 bif decide (0 ≤ (IntKind.i64.wrap ((a0.length : Int) + 1))) && decide ((IntKind.i64.wrap ((a0.length : Int) + 1)).toNat * 1 ≤ LIM) then
 bif decide (0 ≤ (IntKind.i64.wrap ((a0.length : Int) + 1))) && decide ((IntKind.i64.wrap ((a0.length : Int) + 1)).toNat * 1 ≤ LIM) then
 bif decide ((0 : Int) < (List.replicate ((IntKind.i64.wrap ((a0.length : Int) + 1)).toNat) false).length) then
 bif decide (0 ≤ (a0.length : Int)) && decide ((a0.length : Int) < (List.replicate ((IntKind.i64.wrap ((a0.length : Int) + 1)).toNat) false).length) then
 F356.l1_1_1_1_0_1_0 k (F356.kt k [1,1,1,1,0,1,0]) a0 a1 (a0.length : Int) (a0.length : Int) 0 a0 a1 ((List.replicate ((IntKind.i64.wrap ((a0.length : Int) + 1)).toNat) false).set 0 true) (List.replicate ((IntKind.i64.wrap ((a0.length : Int) + 1)).toNat) false) ((List.replicate ((IntKind.i64.wrap ((a0.length : Int) + 1)).toNat) false).set ((a0.length : Int).toNat) true)
 else
 none
 else
 none
 else
 none
 else
 none
 else
 none := by kernel_rfl
theorem F356.l1_1_1_1_0_1_0_eq (n : Nat) (K : Conts) (p0 p1 : List Dom) (p2 p3 p4 : Int) (p5 p6 : List Dom) (p7 p8 p9 : List Bool) : F356.l1_1_1_1_0_1_0 (n + 1) K p0 p1 p2 p3 p4 p5 p6 p7 p8 p9 =
 bif decide (p4 < p3) then
 bif decide (0 ≤ p4) && decide (p4 < p7.length) then
 bif p7.getD p4.toNat false then
 bif decide (0 ≤ p4) && decide (p4 < p0.length) then
 bif decide (0 ≤ p4) && decide (p4 < p1.length) then
 bif cutB (p0.getD p4.toNat ((0 : Int), ([], ((0 : Int), ((0 : Int), (0 : Int)))))) (andKB (p1.getD p4.toNat ((0 : Int), ([], ((0 : Int), ((0 : Int), (0 : Int))))))) then
 bif decide (0 ≤ (IntKind.i64.wrap (p4 + 1))) && decide ((IntKind.i64.wrap (p4 + 1)) < p7.length) then
 bif decide (0 ≤ p4) && decide (p4 < p8.length) then
 bif p8.getD p4.toNat false then
 bif decide (0 ≤ (IntKind.i64.wrap (p4 + 1))) && decide ((IntKind.i64.wrap (p4 + 1)) < p8.length) then
 F356.l1_1_1_1_0_1_0 n K p0 p1 p2 p3 (IntKind.i64.wrap (p4 + 1)) p5 p6 (p7.set ((IntKind.i64.wrap (p4 + 1)).toNat) (meetD (p0.getD p4.toNat ((0 : Int), ([], ((0 : Int), ((0 : Int), (0 : Int)))))) (p1.getD p4.toNat ((0 : Int), ([], ((0 : Int), ((0 : Int), (0 : Int)))))))) (p8.set ((IntKind.i64.wrap (p4 + 1)).toNat) true) p9
 else
 none
 else
 bif decide (0 ≤ p4) && decide (p4 < (p7.set ((IntKind.i64.wrap (p4 + 1)).toNat) (meetD (p0.getD p4.toNat ((0 : Int), ([], ((0 : Int), ((0 : Int), (0 : Int)))))) (p1.getD p4.toNat ((0 : Int), ([], ((0 : Int), ((0 : Int), (0 : Int)))))))).length) then
 bif (p7.set ((IntKind.i64.wrap (p4 + 1)).toNat) (meetD (p0.getD p4.toNat ((0 : Int), ([], ((0 : Int), ((0 : Int), (0 : Int)))))) (p1.getD p4.toNat ((0 : Int), ([], ((0 : Int), ((0 : Int), (0 : Int)))))))).getD p4.toNat false then
 bif decide (0 ≤ p4) && decide (p4 < p0.length) then
 bif decide (0 ≤ p4) && decide (p4 < p1.length) then
 bif decide (0 ≤ (IntKind.i64.wrap (p4 + 1))) && decide ((IntKind.i64.wrap (p4 + 1)) < p8.length) then
 F356.l1_1_1_1_0_1_0 n K p0 p1 p2 p3 (IntKind.i64.wrap (p4 + 1)) p5 p6 (p7.set ((IntKind.i64.wrap (p4 + 1)).toNat) (meetD (p0.getD p4.toNat ((0 : Int), ([], ((0 : Int), ((0 : Int), (0 : Int)))))) (p1.getD p4.toNat ((0 : Int), ([], ((0 : Int), ((0 : Int), (0 : Int)))))))) (p8.set ((IntKind.i64.wrap (p4 + 1)).toNat) (decide ((minD (p0.getD p4.toNat ((0 : Int), ([], ((0 : Int), ((0 : Int), (0 : Int))))))) < (maxD (p1.getD p4.toNat ((0 : Int), ([], ((0 : Int), ((0 : Int), (0 : Int)))))))))) p9
 else
 none
 else
 none
 else
 none
 else
 bif decide (0 ≤ (IntKind.i64.wrap (p4 + 1))) && decide ((IntKind.i64.wrap (p4 + 1)) < p8.length) then
 F356.l1_1_1_1_0_1_0 n K p0 p1 p2 p3 (IntKind.i64.wrap (p4 + 1)) p5 p6 (p7.set ((IntKind.i64.wrap (p4 + 1)).toNat) (meetD (p0.getD p4.toNat ((0 : Int), ([], ((0 : Int), ((0 : Int), (0 : Int)))))) (p1.getD p4.toNat ((0 : Int), ([], ((0 : Int), ((0 : Int), (0 : Int)))))))) (p8.set ((IntKind.i64.wrap (p4 + 1)).toNat) false) p9
 else
 none
 else
 none
 else
 none
 else
 none
 else
 none
 else
 none
 else
 none
 else
 bif decide (0 ≤ (IntKind.i64.wrap (p4 + 1))) && decide ((IntKind.i64.wrap (p4 + 1)) < p7.length) then
 bif decide (0 ≤ p4) && decide (p4 < p8.length) then
 bif p8.getD p4.toNat false then
 bif decide (0 ≤ (IntKind.i64.wrap (p4 + 1))) && decide ((IntKind.i64.wrap (p4 + 1)) < p8.length) then
 F356.l1_1_1_1_0_1_0 n K p0 p1 p2 p3 (IntKind.i64.wrap (p4 + 1)) p5 p6 (p7.set ((IntKind.i64.wrap (p4 + 1)).toNat) false) (p8.set ((IntKind.i64.wrap (p4 + 1)).toNat) true) p9
 else
 none
 else
 bif decide (0 ≤ p4) && decide (p4 < (p7.set ((IntKind.i64.wrap (p4 + 1)).toNat) false).length) then
 bif (p7.set ((IntKind.i64.wrap (p4 + 1)).toNat) false).getD p4.toNat false then
 bif decide (0 ≤ p4) && decide (p4 < p0.length) then
 bif decide (0 ≤ p4) && decide (p4 < p1.length) then
 bif decide (0 ≤ (IntKind.i64.wrap (p4 + 1))) && decide ((IntKind.i64.wrap (p4 + 1)) < p8.length) then
 F356.l1_1_1_1_0_1_0 n K p0 p1 p2 p3 (IntKind.i64.wrap (p4 + 1)) p5 p6 (p7.set ((IntKind.i64.wrap (p4 + 1)).toNat) false) (p8.set ((IntKind.i64.wrap (p4 + 1)).toNat) (decide ((minD (p0.getD p4.toNat ((0 : Int), ([], ((0 : Int), ((0 : Int), (0 : Int))))))) < (maxD (p1.getD p4.toNat ((0 : Int), ([], ((0 : Int), ((0 : Int), (0 : Int)))))))))) p9
 else
 none
 else
 none
 else
 none
 else
 bif decide (0 ≤ (IntKind.i64.wrap (p4 + 1))) && decide ((IntKind.i64.wrap (p4 + 1)) < p8.length) then
 F356.l1_1_1_1_0_1_0 n K p0 p1 p2 p3 (IntKind.i64.wrap (p4 + 1)) p5 p6 (p7.set ((IntKind.i64.wrap (p4 + 1)).toNat) false) (p8.set ((IntKind.i64.wrap (p4 + 1)).toNat) false) p9
 else
 none
 else
 none
 else
 none
 else
 none
 else
 none
 else
 exitK K 0 ⟨slots 127 [(0, .v (.sl DomT) p0), (1, .v (.sl DomT) p1), (4, .pb 0 0), (5, .v (.int .i64) p2), (6, .pb 1 0)], [.box [.nl, .nl, .nl, .nl, .nl], .box [.v (.sl DomT) p5, .v (.sl DomT) p6, .own 2, .own 3, .own 4], .row 4 .bool p7, .row 4 .bool p8, .row 4 .bool p9]⟩ := by kernel_rfl
theorem F356.c0 (k : Nat) (p0 p1 : List Dom) (p2 : Int) (p3 p4 : List Dom) (p5 p6 p7 : List Bool) : exitK (F356.kt k [1,1,1,1,0,1,0]) 0 ⟨slots 127 [(0, .v (.sl DomT) p0), (1, .v (.sl DomT) p1), (4, .pb 0 0), (5, .v (.int .i64) p2), (6, .pb 1 0)], [.box [.nl, .nl, .nl, .nl, .nl], .box [.v (.sl DomT) p3, .v (.sl DomT) p4, .own 2, .own 3, .own 4], .row 4 .bool p5, .row 4 .bool p6, .row 4 .bool p7]⟩ =
 F356.l1_1_1_1_1_0_1_0 k (F356.kt k [1,1,1,1,1,0,1,0]) p0 p1 (IntKind.i64.wrap (p2 - 1)) p3 p4 p5 p6 p7 := by kernel_rfl
theorem F356.l1_1_1_1_1_0_1_0_eq (n : Nat) (K : Conts) (p0 p1 : List Dom) (p2 : Int) (p3 p4 : List Dom) (p5 p6 p7 : List Bool) : F356.l1_1_1_1_1_0_1_0 (n + 1) K p0 p1 p2 p3 p4 p5 p6 p7 =
 bif decide (p2 ≥ 0) then
 bif decide (0 ≤ p2) && decide (p2 < p0.length) then
 bif decide (0 ≤ p2) && decide (p2 < p1.length) then
 bif decide ((minD (p0.getD p2.toNat ((0 : Int), ([], ((0 : Int), ((0 : Int), (0 : Int))))))) < (maxD (p1.getD p2.toNat ((0 : Int), ([], ((0 : Int), ((0 : Int), (0 : Int)))))))) then
 bif decide (0 ≤ p2) && decide (p2 < p7.length) then F356.l1_1_1_1_1_0_1_0 n K p0 p1 (IntKind.i64.wrap (p2 - 1)) p3 p4 p5 p6 (p7.set p2.toNat true) else none
 else
 bif decide (0 ≤ p2) && decide (p2 < p0.length) then
 bif decide (0 ≤ p2) && decide (p2 < p1.length) then
 bif cutB (p0.getD p2.toNat ((0 : Int), ([], ((0 : Int), ((0 : Int), (0 : Int)))))) (andKB (p1.getD p2.toNat ((0 : Int), ([], ((0 : Int), ((0 : Int), (0 : Int))))))) then
 bif meetD (p0.getD p2.toNat ((0 : Int), ([], ((0 : Int), ((0 : Int), (0 : Int)))))) (p1.getD p2.toNat ((0 : Int), ([], ((0 : Int), ((0 : Int), (0 : Int)))))) then
 bif decide (0 ≤ (IntKind.i64.wrap (p2 + 1))) && decide ((IntKind.i64.wrap (p2 + 1)) < p7.length) then
 bif decide (0 ≤ p2) && decide (p2 < p7.length) then
 F356.l1_1_1_1_1_0_1_0 n K p0 p1 (IntKind.i64.wrap (p2 - 1)) p3 p4 p5 p6 (p7.set p2.toNat (p7.getD ((IntKind.i64.wrap (p2 + 1)).toNat) false))
 else
 none
 else
 none
 else
 bif decide (0 ≤ p2) && decide (p2 < p7.length) then F356.l1_1_1_1_1_0_1_0 n K p0 p1 (IntKind.i64.wrap (p2 - 1)) p3 p4 p5 p6 (p7.set p2.toNat false) else none
 else
 none
 else
 none
 else
 none
 else
 none
 else
 none
 else
 exitK K 2 ⟨slots 127 [(4, .pb 0 0), (6, .pb 1 0)], [.box [.nl, .nl, .nl, .nl, .nl], .box [.v (.sl DomT) p3, .v (.sl DomT) p4, .own 2, .own 3, .own 4], .row 4 .bool p5, .row 4 .bool p6, .row 4 .bool p7]⟩ := by kernel_rfl
theorem F356.c1 (k : Nat) (p0 p1 : List Dom) (p2 p3 p4 : List Bool) : exitK (F356.kt k [1,1,1,1,1,0,1,0]) 2 ⟨slots 127 [(4, .pb 0 0), (6, .pb 1 0)], [.box [.nl, .nl, .nl, .nl, .nl], .box [.v (.sl DomT) p0, .v (.sl DomT) p1, .own 2, .own 3, .own 4], .row 4 .bool p2, .row 4 .bool p3, .row 4 .bool p4]⟩ =
 some (.agg [.v (.sl DomT) p0, .v (.sl DomT) p1, .v (.sl .bool) p2, .v (.sl .bool) p3, .v (.sl .bool) p4]) := by kernel_rfl
noncomputable def F358.fn : Func := Go.Proofs.Tryz.f58
noncomputable def F358.E : Env := ⟨tt, [(22, h_hasD), (86, h_maxD)], [(1, [1, 2, 3])], [], some [6], inv, []⟩
theorem F358.start_eq (k : Nat) (a0 : (List Dom) × ((List Dom) × ((List Bool) × ((List Bool) × (List Bool))))) (a1 a2 : Int) : callW F358.E false F358.fn k [.agg [.v (.sl DomT) a0.1, .v (.sl DomT) a0.2.1, .v (.sl .bool) a0.2.2.1, .v (.sl .bool) a0.2.2.2.1, .v (.sl .bool) a0.2.2.2.2], .v (.int .i64) a1, .v (.int .i64) a2] =
 bif decide (0 ≤ a1) && decide (a1 < a0.2.2.2.1.length) then
 bif a0.2.2.2.1.getD a1.toNat false then
 some (.v .bool true)
 else
 bif decide (0 ≤ a1) && decide (a1 < a0.2.2.1.length) then
 bif a0.2.2.1.getD a1.toNat false then
 bif decide (0 ≤ a1) && decide (a1 < a0.2.1.length) then
 bif decide (a2 < (maxD (a0.2.1.getD a1.toNat ((0 : Int), ([], ((0 : Int), ((0 : Int), (0 : Int)))))))) then
 some (.v .bool true)
 else
 bif decide (0 ≤ a1) && decide (a1 < a0.2.1.length) then
 bif nearB ((a0.2.1.getD a1.toNat ((0 : Int), ([], ((0 : Int), ((0 : Int), (0 : Int)))))).1) then
 bif hasD (a0.2.1.getD a1.toNat ((0 : Int), ([], ((0 : Int), ((0 : Int), (0 : Int)))))) a2 then
 bif decide (0 ≤ (IntKind.i64.wrap (a1 + 1))) && decide ((IntKind.i64.wrap (a1 + 1)) < a0.2.2.2.2.length) then
 some (.v .bool (a0.2.2.2.2.getD ((IntKind.i64.wrap (a1 + 1)).toNat) false))
 else
 none
 else
 some (.v .bool false)
 else
 none
 else
 none
 else
 none
 else
 some (.v .bool false)
 else
 none
 else
 none := by kernel_rfl
noncomputable def F359.fn : Func := Go.Proofs.Tryz.f59
noncomputable def F359.E : Env := ⟨tt, [(22, h_hasD), (62, h_minD)], [(1, [1, 2, 3])], [], some [6], inv, []⟩
theorem F359.start_eq (k : Nat) (a0 : (List Dom) × ((List Dom) × ((List Bool) × ((List Bool) × (List Bool))))) (a1 a2 : Int) : callW F359.E false F359.fn k [.agg [.v (.sl DomT) a0.1, .v (.sl DomT) a0.2.1, .v (.sl .bool) a0.2.2.1, .v (.sl .bool) a0.2.2.2.1, .v (.sl .bool) a0.2.2.2.2], .v (.int .i64) a1, .v (.int .i64) a2] =
 bif decide (0 ≤ a1) && decide (a1 < a0.2.2.2.1.length) then
 bif a0.2.2.2.1.getD a1.toNat false then
 some (.v .bool true)
 else
 bif decide (0 ≤ a1) && decide (a1 < a0.2.2.1.length) then
 bif a0.2.2.1.getD a1.toNat false then
 bif decide (0 ≤ a1) && decide (a1 < a0.1.length) then
 bif decide (a2 > (minD (a0.1.getD a1.toNat ((0 : Int), ([], ((0 : Int), ((0 : Int), (0 : Int)))))))) then
 some (.v .bool true)
 else
 bif decide (0 ≤ a1) && decide (a1 < a0.1.length) then
 bif nearB ((a0.1.getD a1.toNat ((0 : Int), ([], ((0 : Int), ((0 : Int), (0 : Int)))))).1) then
 bif hasD (a0.1.getD a1.toNat ((0 : Int), ([], ((0 : Int), ((0 : Int), (0 : Int)))))) a2 then
 bif decide (0 ≤ (IntKind.i64.wrap (a1 + 1))) && decide ((IntKind.i64.wrap (a1 + 1)) < a0.2.2.2.2.length) then
 some (.v .bool (a0.2.2.2.2.getD ((IntKind.i64.wrap (a1 + 1)).toNat) false))
 else
 none
 else
 some (.v .bool false)
 else
 none
 else
 none
 else
 none
 else
 some (.v .bool false)
 else
 none
 else
 none := by kernel_rfl
noncomputable def F357g358.fn : Func := Go.Proofs.Tryz.f57
noncomputable def F357g358.body : Code := bodyOf F357g358.fn
noncomputable def F357g358.E : Env := ⟨tt, [(23, h_listD), (58, h_leftR)], [(1, [1, 2, 3]), (2, [1, 2, 3, 7]), (3, [1, 2, 7, 11, 12, 13, 30007]), (4, [1, 2, 7, 11, 12, 13, 14]), (5, [1, 2, 7, 9, 11, 12, 13]), (6, [1, 2, 7, 9, 11, 12, 13, 20]), (7, [1, 2, 7, 11, 12, 13]), (8, [7])], [(0, [7]), (1, [1, 2, 7, 11, 12, 13])], some [6], inv, []⟩
noncomputable def F357g358.K0 : Conts := { nrm := endW F357g358.E false F357g358.fn.results.toList, ret := endW F357g358.E false F357g358.fn.results.toList, ex := [] }
noncomputable def F357g358.kt (k : Nat) (q : List Nat) : Conts := contAt F357g358.E k F357g358.body F357g358.K0 q
noncomputable def F357g358.l1_1_0_1_0 (n : Nat) (K : Conts) (p0 : Int) (p1 p2 : List Dom) (p3 p4 p5 : List Bool) (p6 : List Int) (p7 p8 : Int) (p9 : List Int) : Option AV := loopF F357g358.E n (inLoop (subC [1,1,0,1,0] F357g358.body)) K ⟨slots 27 [(1, .v (.int .i64) p0), (2, .fn 58 [.agg [.v (.sl DomT) p1, .v (.sl DomT) p2, .v (.sl .bool) p3, .v (.sl .bool) p4, .v (.sl .bool) p5]] []), (7, .own 0), (11, .v (.sl (.int .i64)) p6), (12, .v (.int .i64) p7), (13, .v (.int .i64) p8)], [.row 3 (.int .i64) p9]⟩
theorem F357g358.start_eq (k : Nat) (a0 : Dom) (a1 : Int) (z : (List Dom) × ((List Dom) × ((List Bool) × ((List Bool) × (List Bool))))) : callW F357g358.E false F357g358.fn k [.agg [.v (.int .i64) a0.1, .v (.sl (.int .u64)) a0.2.1, .v (.int .i64) a0.2.2.1, .v (.int .i64) a0.2.2.2.1, .v (.int .i64) a0.2.2.2.2], .v (.int .i64) a1, .fn 58 [.agg [.v (.sl DomT) z.1, .v (.sl DomT) z.2.1, .v (.sl .bool) z.2.2.1, .v (.sl .bool) z.2.2.2.1, .v (.sl .bool) z.2.2.2.2]] []] =
 bif listB a0 then F357g358.l1_1_0_1_0 k (F357g358.kt k [1,1,0,1,0]) a1 z.1 z.2.1 z.2.2.1 z.2.2.2.1 z.2.2.2.2 (listD a0) ((listD a0).length : Int) 0 [] else none := by kernel_rfl
theorem F357g358.l1_1_0_1_0_eq (n : Nat) (K : Conts) (p0 : Int) (p1 p2 : List Dom) (p3 p4 p5 : List Bool) (p6 : List Int) (p7 p8 : Int) (p9 : List Int) : F357g358.l1_1_0_1_0 (n + 1) K p0 p1 p2 p3 p4 p5 p6 p7 p8 p9 =
 bif decide (p8 < p7) then
 bif decide (0 ≤ p8) && decide (p8 < p6.length) then
 bif leftB (p1, (p2, (p3, (p4, p5)))) p0 then
 bif leftR (p1, (p2, (p3, (p4, p5)))) p0 (p6.getD p8.toNat (0 : Int)) then
 bif decide ((p9.length + [p6.getD p8.toNat (0 : Int)].length) * 8 ≤ LIM) then
 F357g358.l1_1_0_1_0 n K p0 p1 p2 p3 p4 p5 p6 p7 (IntKind.i64.wrap (p8 + 1)) (p9 ++ [p6.getD p8.toNat (0 : Int)])
 else
 none
 else
 F357g358.l1_1_0_1_0 n K p0 p1 p2 p3 p4 p5 p6 p7 (IntKind.i64.wrap (p8 + 1)) p9
 else
 none
 else
 none
 else
 exitK K 0 ⟨slots 27 [(7, .own 0)], [.row 3 (.int .i64) p9]⟩ := by kernel_rfl
theorem F357g358.c0 (k : Nat) (p0 : List Int) : exitK (F357g358.kt k [1,1,0,1,0]) 0 ⟨slots 27 [(7, .own 0)], [.row 3 (.int .i64) p0]⟩ =
 some (.v (.sl (.int .i64)) p0) := by kernel_rfl
noncomputable def F357g359.fn : Func := Go.Proofs.Tryz.f57
noncomputable def F357g359.body : Code := bodyOf F357g359.fn
noncomputable def F357g359.E : Env := ⟨tt, [(23, h_listD), (59, h_rightR2)], [(1, [1, 2, 3]), (2, [1, 2, 3, 7]), (3, [1, 2, 7, 11, 12, 13, 30007]), (4, [1, 2, 7, 11, 12, 13, 14]), (5, [1, 2, 7, 9, 11, 12, 13]), (6, [1, 2, 7, 9, 11, 12, 13, 20]), (7, [1, 2, 7, 11, 12, 13]), (8, [7])], [(0, [7]), (1, [1, 2, 7, 11, 12, 13])], some [6], inv, []⟩
noncomputable def F357g359.K0 : Conts := { nrm := endW F357g359.E false F357g359.fn.results.toList, ret := endW F357g359.E false F357g359.fn.results.toList, ex := [] }
noncomputable def F357g359.kt (k : Nat) (q : List Nat) : Conts := contAt F357g359.E k F357g359.body F357g359.K0 q
noncomputable def F357g359.l1_1_0_1_0 (n : Nat) (K : Conts) (p0 : Int) (p1 p2 : List Dom) (p3 p4 p5 : List Bool) (p6 : List Int) (p7 p8 : Int) (p9 : List Int) : Option AV := loopF F357g359.E n (inLoop (subC [1,1,0,1,0] F357g359.body)) K ⟨slots 27 [(1, .v (.int .i64) p0), (2, .fn 59 [.agg [.v (.sl DomT) p1, .v (.sl DomT) p2, .v (.sl .bool) p3, .v (.sl .bool) p4, .v (.sl .bool) p5]] []), (7, .own 0), (11, .v (.sl (.int .i64)) p6), (12, .v (.int .i64) p7), (13, .v (.int .i64) p8)], [.row 3 (.int .i64) p9]⟩
theorem F357g359.start_eq (k : Nat) (a0 : Dom) (a1 : Int) (z : (List Dom) × ((List Dom) × ((List Bool) × ((List Bool) × (List Bool))))) : callW F357g359.E false F357g359.fn k [.agg [.v (.int .i64) a0.1, .v (.sl (.int .u64)) a0.2.1, .v (.int .i64) a0.2.2.1, .v (.int .i64) a0.2.2.2.1, .v (.int .i64) a0.2.2.2.2], .v (.int .i64) a1, .fn 59 [.agg [.v (.sl DomT) z.1, .v (.sl DomT) z.2.1, .v (.sl .bool) z.2.2.1, .v (.sl .bool) z.2.2.2.1, .v (.sl .bool) z.2.2.2.2]] []] =
 bif listB a0 then F357g359.l1_1_0_1_0 k (F357g359.kt k [1,1,0,1,0]) a1 z.1 z.2.1 z.2.2.1 z.2.2.2.1 z.2.2.2.2 (listD a0) ((listD a0).length : Int) 0 [] else none := by kernel_rfl
theorem F357g359.l1_1_0_1_0_eq (n : Nat) (K : Conts) (p0 : Int) (p1 p2 : List Dom) (p3 p4 p5 : List Bool) (p6 : List Int) (p7 p8 : Int) (p9 : List Int) : F357g359.l1_1_0_1_0 (n + 1) K p0 p1 p2 p3 p4 p5 p6 p7 p8 p9 =
 bif decide (p8 < p7) then
 bif decide (0 ≤ p8) && decide (p8 < p6.length) then
 bif rightB (p1, (p2, (p3, (p4, p5)))) p0 then
 bif rightR2 (p1, (p2, (p3, (p4, p5)))) p0 (p6.getD p8.toNat (0 : Int)) then
 bif decide ((p9.length + [p6.getD p8.toNat (0 : Int)].length) * 8 ≤ LIM) then
 F357g359.l1_1_0_1_0 n K p0 p1 p2 p3 p4 p5 p6 p7 (IntKind.i64.wrap (p8 + 1)) (p9 ++ [p6.getD p8.toNat (0 : Int)])
 else
 none
 else
 F357g359.l1_1_0_1_0 n K p0 p1 p2 p3 p4 p5 p6 p7 (IntKind.i64.wrap (p8 + 1)) p9
 else
 none
 else
 none
 else
 exitK K 0 ⟨slots 27 [(7, .own 0)], [.row 3 (.int .i64) p9]⟩ := by kernel_rfl
theorem F357g359.c0 (k : Nat) (p0 : List Int) : exitK (F357g359.kt k [1,1,0,1,0]) 0 ⟨slots 27 [(7, .own 0)], [.row 3 (.int .i64) p0]⟩ =
 some (.v (.sl (.int .i64)) p0) := by kernel_rfl
noncomputable def F325.fn : Func := Go.Proofs.Tryz.f25
noncomputable def F325.body : Code := bodyOf F325.fn
noncomputable def F325.E : Env := ⟨tt, [(48, h_fitsD), (49, h_made), (56, h_knownR), (57, h_kept)], [(1, [1, 2]), (2, [1, 2, 16]), (3, [1, 2]), (4, [1, 6]), (5, [7]), (6, [7, 8]), (7, [7, 8, 28, 29, 30, 300008]), (8, [7, 8, 28, 29, 30, 31]), (9, [7, 8, 9, 10, 28, 29, 30]), (10, [7, 8, 28, 29, 30]), (11, [7, 8]), (12, [7, 8, 45, 46, 47]), (13, [7, 8, 45, 46, 47, 48]), (14, [7, 8, 11, 12, 45, 46, 47]), (15, [7, 8, 45, 46, 47]), (16, [8])], [(0, [7, 8]), (1, [7, 8, 28, 29, 30]), (2, [8]), (3, [7, 8, 45, 46, 47])], some [4, 5], inv, []⟩
noncomputable def F325.K0 : Conts := { nrm := endW F325.E false F325.fn.results.toList, ret := endW F325.E false F325.fn.results.toList, ex := [] }
noncomputable def F325.kt (k : Nat) (q : List Nat) : Conts := contAt F325.E k F325.body F325.K0 q
noncomputable def F325.l1_1_1_1_1_0_1_0 (n : Nat) (K : Conts) (p0 : List Dom) (p1 p2 : Int) (p3 p4 : List Dom) (p5 p6 p7 : List Bool) (p8 : List (List Int)) : Option AV := loopF F325.E n (inLoop (subC [1,1,1,1,1,0,1,0] F325.body)) K ⟨slots 65 [(7, .pb 0 0), (8, .own 1), (28, .v (.sl DomT) p0), (29, .v (.int .i64) p1), (30, .v (.int .i64) p2)], [.box [.v (.sl DomT) p3, .v (.sl DomT) p4, .v (.sl .bool) p5, .v (.sl .bool) p6, .v (.sl .bool) p7], .row 30 (.sl (.int .i64)) p8]⟩
noncomputable def F325.l1_1_1_1_1_1_0_1_0 (n : Nat) (K : Conts) (p0 : List Dom) (p1 p2 : Int) (p3 p4 : List Dom) (p5 p6 p7 : List Bool) (p8 : List (List Int)) : Option AV := loopF F325.E n (inLoop (subC [1,1,1,1,1,1,0,1,0] F325.body)) K ⟨slots 65 [(7, .pb 0 0), (8, .own 1), (45, .v (.sl DomT) p0), (46, .v (.int .i64) p1), (47, .v (.int .i64) p2)], [.box [.v (.sl DomT) p3, .v (.sl DomT) p4, .v (.sl .bool) p5, .v (.sl .bool) p6, .v (.sl .bool) p7], .row 30 (.sl (.int .i64)) p8]⟩
theorem F325.start_eq (k : Nat) (a0 : Con) (a1 : List Dom) : callW F325.E false F325.fn k [.agg (bC a0.1 a0.2.1 a0.2.2.1 a0.2.2.2.1 a0.2.2.2.2.1 a0.2.2.2.2.2.1 a0.2.2.2.2.2.2.1 a0.2.2.2.2.2.2.2), .v (.sl DomT) a1] =
 bif fitsB a0 22 22 then
 bif !(fitsD a0 a1 22 22) then
 some (.tup [.nl, .v .bool false])
 else
 bif decide (0 ≤ (a0.2.1.length : Int)) && decide ((a0.2.1.length : Int) ≤ a1.length) then
 bif decide (0 ≤ (a0.2.1.length : Int)) && decide ((a0.2.1.length : Int) ≤ a1.length) then
 bif knownB (a1.take ((a0.2.1.length : Int).toNat)) (a1.drop ((a0.2.1.length : Int).toNat)) then
 F325.l1_1_1_1_1_0_1_0 k (F325.kt k [1,1,1,1,1,0,1,0]) ((knownR (a1.take ((a0.2.1.length : Int).toNat)) (a1.drop ((a0.2.1.length : Int).toNat))).1) (((knownR (a1.take ((a0.2.1.length : Int).toNat)) (a1.drop ((a0.2.1.length : Int).toNat))).1).length : Int) 0 ((knownR (a1.take ((a0.2.1.length : Int).toNat)) (a1.drop ((a0.2.1.length : Int).toNat))).1) (((knownR (a1.take ((a0.2.1.length : Int).toNat)) (a1.drop ((a0.2.1.length : Int).toNat))).2).1) ((((knownR (a1.take ((a0.2.1.length : Int).toNat)) (a1.drop ((a0.2.1.length : Int).toNat))).2).2).1) (((((knownR (a1.take ((a0.2.1.length : Int).toNat)) (a1.drop ((a0.2.1.length : Int).toNat))).2).2).2).1) (((((knownR (a1.take ((a0.2.1.length : Int).toNat)) (a1.drop ((a0.2.1.length : Int).toNat))).2).2).2).2) []
 else
 none
 else
 none
 else
 none
 else
 none := by kernel_rfl
theorem F325.l1_1_1_1_1_0_1_0_eq (n : Nat) (K : Conts) (p0 : List Dom) (p1 p2 : Int) (p3 p4 : List Dom) (p5 p6 p7 : List Bool) (p8 : List (List Int)) : F325.l1_1_1_1_1_0_1_0 (n + 1) K p0 p1 p2 p3 p4 p5 p6 p7 p8 =
 bif decide (p2 < p1) then
 bif decide (0 ≤ p2) && decide (p2 < p0.length) then
 bif listB (p0.getD p2.toNat ((0 : Int), ([], ((0 : Int), ((0 : Int), (0 : Int)))))) && leftB (p3, (p4, (p5, (p6, p7)))) p2 then
 bif decide ((p8.length + [keptL (p0.getD p2.toNat ((0 : Int), ([], ((0 : Int), ((0 : Int), (0 : Int)))))) (leftR (p3, (p4, (p5, (p6, p7)))) p2)].length) * 24 ≤ LIM) then
 F325.l1_1_1_1_1_0_1_0 n K p0 p1 (IntKind.i64.wrap (p2 + 1)) p3 p4 p5 p6 p7 (p8 ++ [keptL (p0.getD p2.toNat ((0 : Int), ([], ((0 : Int), ((0 : Int), (0 : Int)))))) (leftR (p3, (p4, (p5, (p6, p7)))) p2)])
 else
 none
 else
 none
 else
 none
 else
 exitK K 0 ⟨slots 65 [(7, .pb 0 0), (8, .own 1)], [.box [.v (.sl DomT) p3, .v (.sl DomT) p4, .v (.sl .bool) p5, .v (.sl .bool) p6, .v (.sl .bool) p7], .row 30 (.sl (.int .i64)) p8]⟩ := by kernel_rfl
theorem F325.c0 (k : Nat) (p0 p1 : List Dom) (p2 p3 p4 : List Bool) (p5 : List (List Int)) : exitK (F325.kt k [1,1,1,1,1,0,1,0]) 0 ⟨slots 65 [(7, .pb 0 0), (8, .own 1)], [.box [.v (.sl DomT) p0, .v (.sl DomT) p1, .v (.sl .bool) p2, .v (.sl .bool) p3, .v (.sl .bool) p4], .row 30 (.sl (.int .i64)) p5]⟩ =
 F325.l1_1_1_1_1_1_0_1_0 k (F325.kt k [1,1,1,1,1,1,0,1,0]) p1 (p1.length : Int) 0 p0 p1 p2 p3 p4 p5 := by kernel_rfl
theorem F325.l1_1_1_1_1_1_0_1_0_eq (n : Nat) (K : Conts) (p0 : List Dom) (p1 p2 : Int) (p3 p4 : List Dom) (p5 p6 p7 : List Bool) (p8 : List (List Int)) : F325.l1_1_1_1_1_1_0_1_0 (n + 1) K p0 p1 p2 p3 p4 p5 p6 p7 p8 =
 bif decide (p2 < p1) then
 bif decide (0 ≤ p2) && decide (p2 < p0.length) then
 bif listB (p0.getD p2.toNat ((0 : Int), ([], ((0 : Int), ((0 : Int), (0 : Int)))))) && rightB (p3, (p4, (p5, (p6, p7)))) p2 then
 bif decide ((p8.length + [keptL (p0.getD p2.toNat ((0 : Int), ([], ((0 : Int), ((0 : Int), (0 : Int)))))) (rightR2 (p3, (p4, (p5, (p6, p7)))) p2)].length) * 24 ≤ LIM) then
 F325.l1_1_1_1_1_1_0_1_0 n K p0 p1 (IntKind.i64.wrap (p2 + 1)) p3 p4 p5 p6 p7 (p8 ++ [keptL (p0.getD p2.toNat ((0 : Int), ([], ((0 : Int), ((0 : Int), (0 : Int)))))) (rightR2 (p3, (p4, (p5, (p6, p7)))) p2)])
 else
 none
 else
 none
 else
 none
 else
 exitK K 2 ⟨slots 65 [(8, .own 0)], [.row 30 (.sl (.int .i64)) p8]⟩ := by kernel_rfl
theorem F325.c1 (k : Nat) (p0 : List (List Int)) : exitK (F325.kt k [1,1,1,1,1,1,0,1,0]) 2 ⟨slots 65 [(8, .own 0)], [.row 30 (.sl (.int .i64)) p0]⟩ =
 bif Nat.ble p0.length 1000 then
 some (.tup [.v (.sl DomT) ((madeAll p0).1), .v .bool ((madeAll p0).2)])
 else
 none := by kernel_rfl
noncomputable def F362.fn : Func := Go.Proofs.Tryz.f62
noncomputable def F362.E : Env := ⟨tt, [], [(1, [1])], [], some [2], inv, []⟩
theorem F362.start_eq (k : Nat) (a0 : Dom) : callW F362.E false F362.fn k [.agg [.v (.int .i64) a0.1, .v (.sl (.int .u64)) a0.2.1, .v (.int .i64) a0.2.2.1, .v (.int .i64) a0.2.2.2.1, .v (.int .i64) a0.2.2.2.2]] =
 some (.v (.int .i64) a0.2.2.1) := by kernel_rfl
noncomputable def F386.fn : Func := Go.Proofs.Tryz.f86
noncomputable def F386.E : Env := ⟨tt, [], [(1, [1])], [], some [2], inv, []⟩
theorem F386.start_eq (k : Nat) (a0 : Dom) : callW F386.E false F386.fn k [.agg [.v (.int .i64) a0.1, .v (.sl (.int .u64)) a0.2.1, .v (.int .i64) a0.2.2.1, .v (.int .i64) a0.2.2.2.1, .v (.int .i64) a0.2.2.2.2]] =
 some (.v (.int .i64) a0.2.2.2.1) := by kernel_rfl
noncomputable def F326.fn : Func := Go.Proofs.Tryz.f26
noncomputable def F326.body : Code := bodyOf F326.fn
noncomputable def F326.E : Env := ⟨tt, [(50, h_ofD)], [(1, [0]), (2, [0, 3]), (3, [3, 8, 9, 10, 470003]), (4, [3, 8, 9, 10, 11]), (5, [3, 5, 8, 9, 10]), (6, [3, 6, 8, 9, 10]), (7, [3, 8, 9, 10]), (8, [3])], [(0, [3]), (1, [3, 8, 9, 10])], some [2], inv, []⟩
noncomputable def F326.K0 : Conts := { nrm := endW F326.E false F326.fn.results.toList, ret := endW F326.E false F326.fn.results.toList, ex := [] }
noncomputable def F326.kt (k : Nat) (q : List Nat) : Conts := contAt F326.E k F326.body F326.K0 q
noncomputable def F326.l1_1_0_1_0 (n : Nat) (K : Conts) (p0 : List (List Int)) (p1 p2 : Int) (p3 : List Dom) : Option AV := loopF F326.E n (inLoop (subC [1,1,0,1,0] F326.body)) K ⟨slots 25 [(3, .own 0), (8, .v (.sl (.sl (.int .i64))) p0), (9, .v (.int .i64) p1), (10, .v (.int .i64) p2)], [.row 47 DomT p3]⟩
theorem F326.start_eq (k : Nat) (a0 : List (List Int)) : callW F326.E false F326.fn k [.v (.sl (.sl (.int .i64))) a0] =
 F326.l1_1_0_1_0 k (F326.kt k [1,1,0,1,0]) a0 (a0.length : Int) 0 [] := by kernel_rfl
theorem F326.l1_1_0_1_0_eq (n : Nat) (K : Conts) (p0 : List (List Int)) (p1 p2 : Int) (p3 : List Dom) : F326.l1_1_0_1_0 (n + 1) K p0 p1 p2 p3 =
 bif decide (p2 < p1) then
 bif decide (0 ≤ p2) && decide (p2 < p0.length) then
 bif decide ((p3.length + [(ofD (p0.getD p2.toNat [])).1].length) * 56 ≤ LIM) then
 F326.l1_1_0_1_0 n K p0 p1 (IntKind.i64.wrap (p2 + 1)) (p3 ++ [(ofD (p0.getD p2.toNat [])).1])
 else
 none
 else
 none
 else
 exitK K 0 ⟨slots 25 [(3, .own 0)], [.row 47 DomT p3]⟩ := by kernel_rfl
theorem F326.c0 (k : Nat) (p0 : List Dom) : exitK (F326.kt k [1,1,0,1,0]) 0 ⟨slots 25 [(3, .own 0)], [.row 47 DomT p0]⟩ =
 some (.v (.sl DomT) p0) := by kernel_rfl
end Go.Proofs.YtnojoaghcbljfaaGreatDoor.Ev
