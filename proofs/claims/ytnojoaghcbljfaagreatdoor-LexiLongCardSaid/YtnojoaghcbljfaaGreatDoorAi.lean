/-
The functions as the evaluator runs them: printed by a program of mine, each equation by kernel_rfl.
Conditions: none.
The functions as the evaluator runs them: printed by a program of mine, each equation by kernel_rfl.
Conditions: none.
-/
import Derived.Test.YtnojoaghcbljfaaGreatDoorAa
set_option linter.unusedVariables false
set_option linter.unusedSimpArgs false
set_option maxRecDepth 100000
namespace Go.Proofs.YtnojoaghcbljfaaGreatDoor.Ev
open Go
noncomputable def F91.fn : Func := Go.Proofs.Tryz.f128
noncomputable def F91.E : Env := ⟨tt, [(154, h_word), (155, h_forms)], [(1, [0]), (2, [0, 4]), (3, [0, 11]), (4, [0])], [], some [2], inv, []⟩
theorem F91.start_eq (k : Nat) (a0 : Int) : callW F91.E false F91.fn k [.v (.int .i64) a0] =
 bif !(inS a0) then
 some (.v .str ⟨#[]⟩)
 else
 bif decide (0 ≤ (IntKind.i64.wrap (a0 - 1))) && decide ((IntKind.i64.wrap (a0 - 1)) < formsL.length) then
 some (.v .str ((formsL.getD ((IntKind.i64.wrap (a0 - 1)).toNat) (ByteArray.empty, ByteArray.empty)).2))
 else
 none := by kernel_rfl
noncomputable def F103.fn : Func := Go.Proofs.Tryz.f154
noncomputable def F103.E : Env := ⟨tt, [(155, h_forms)], [(1, [0]), (2, [0, 11]), (3, [0])], [], some [2, 3], inv, []⟩
theorem F103.start_eq (k : Nat) (a0 : Int) : callW F103.E false F103.fn k [.v (.int .i64) a0] =
 bif decide (a0 < 1) then
 some (.tup [.v .str ⟨#[]⟩, .v .bool false])
 else
 bif decide (a0 > (formsL.length : Int)) then
 some (.tup [.v .str ⟨#[]⟩, .v .bool false])
 else
 bif decide (0 ≤ (IntKind.i64.wrap (a0 - 1))) && decide ((IntKind.i64.wrap (a0 - 1)) < formsL.length) then
 some (.tup [.v .str ((formsL.getD ((IntKind.i64.wrap (a0 - 1)).toNat) (ByteArray.empty, ByteArray.empty)).1), .v .bool true])
 else
 none := by kernel_rfl
noncomputable def F95.fn : Func := Go.Proofs.Tryz.f132
noncomputable def F95.E : Env := ⟨tt, [(161, h_concatL)], [(1, [1])], [], some [2], inv, []⟩
theorem F95.start_eq (k : Nat) (a0 : Con) : callW F95.E false F95.fn k [.agg (bC a0.1 a0.2.1 a0.2.2.1 a0.2.2.2.1 a0.2.2.2.2.1 a0.2.2.2.2.2.1 a0.2.2.2.2.2.2.1 a0.2.2.2.2.2.2.2)] =
 bif concatB [a0.2.1, a0.2.2.1] then some (.v (.sl (.int .i64)) (concatL [a0.2.1, a0.2.2.1])) else none := by kernel_rfl
noncomputable def F110.fn : Func := Go.Proofs.Tryz.f161
noncomputable def F110.body : Code := bodyOf F110.fn
noncomputable def F110.E : Env := ⟨tt, [(174, h_grow)], [(1, [0]), (2, [0, 3]), (3, [0, 3, 9, 10, 11]), (4, [0, 3, 9, 10, 11, 12]), (5, [0, 3, 5, 9, 10, 11]), (6, [0, 3, 9, 10, 11]), (7, [0, 3, 9, 10, 11, 20]), (8, [0, 3, 9, 10, 11]), (9, [0, 3]), (10, [0, 6]), (11, [6, 25, 26, 27]), (12, [6, 25, 26, 27, 28]), (13, [6, 8, 25, 26, 27]), (14, [6, 25, 26, 27]), (15, [6])], [(0, [0, 3]), (1, [0, 3, 9, 10, 11]), (2, [6]), (3, [6, 25, 26, 27])], some [2], inv, []⟩
noncomputable def F110.K0 : Conts := { nrm := endW F110.E false F110.fn.results.toList, ret := endW F110.E false F110.fn.results.toList, ex := [] }
noncomputable def F110.kt (k : Nat) (q : List Nat) : Conts := contAt F110.E k F110.body F110.K0 q
noncomputable def F110.l1_1_0_1_0 (n : Nat) (K : Conts) (p0 : List (List Int)) (p1 : Int) (p2 : List (List Int)) (p3 p4 : Int) : Option AV := loopF F110.E n (inLoop (subC [1,1,0,1,0] F110.body)) K ⟨slots 36 [(0, .v (.sl (.sl (.int .i64))) p0), (3, .v (.int .i64) p1), (9, .v (.sl (.sl (.int .i64))) p2), (10, .v (.int .i64) p3), (11, .v (.int .i64) p4)], []⟩
noncomputable def F110.l1_1_1_1_0_1_0 (n : Nat) (K : Conts) (p0 : List (List Int)) (p1 p2 : Int) (p3 : List Int) : Option AV := loopF F110.E n (inLoop (subC [1,1,1,1,0,1,0] F110.body)) K ⟨slots 36 [(6, .own 0), (25, .v (.sl (.sl (.int .i64))) p0), (26, .v (.int .i64) p1), (27, .v (.int .i64) p2)], [.row 3 (.int .i64) p3]⟩
theorem F110.start_eq (k : Nat) (a0 : List (List Int)) : callW F110.E false F110.fn k [.v (.sl (.sl (.int .i64))) a0] =
 F110.l1_1_0_1_0 k (F110.kt k [1,1,0,1,0]) a0 0 a0 (a0.length : Int) 0 := by kernel_rfl
theorem F110.l1_1_0_1_0_eq (n : Nat) (K : Conts) (p0 : List (List Int)) (p1 : Int) (p2 : List (List Int)) (p3 p4 : Int) : F110.l1_1_0_1_0 (n + 1) K p0 p1 p2 p3 p4 =
 bif decide (p4 < p3) then
 bif decide (0 ≤ p4) && decide (p4 < p2.length) then
 bif decide ((IntKind.i64.wrap (p1 + ((p2.getD p4.toNat []).length : Int))) < 0) then
 none
 else
 F110.l1_1_0_1_0 n K p0 (IntKind.i64.wrap (p1 + ((p2.getD p4.toNat []).length : Int))) p2 p3 (IntKind.i64.wrap (p4 + 1))
 else
 none
 else
 exitK K 0 ⟨slots 36 [(0, .v (.sl (.sl (.int .i64))) p0), (3, .v (.int .i64) p1)], []⟩ := by kernel_rfl
theorem F110.c0 (k : Nat) (p0 : List (List Int)) (p1 : Int) : exitK (F110.kt k [1,1,0,1,0]) 0 ⟨slots 36 [(0, .v (.sl (.sl (.int .i64))) p0), (3, .v (.int .i64) p1)], []⟩ =
 bif growB p1 then F110.l1_1_1_1_0_1_0 k (F110.kt k [1,1,1,1,0,1,0]) p0 (p0.length : Int) 0 [] else none := by kernel_rfl
theorem F110.l1_1_1_1_0_1_0_eq (n : Nat) (K : Conts) (p0 : List (List Int)) (p1 p2 : Int) (p3 : List Int) : F110.l1_1_1_1_0_1_0 (n + 1) K p0 p1 p2 p3 =
 bif decide (p2 < p1) then
 bif decide (0 ≤ p2) && decide (p2 < p0.length) then
 bif decide ((p3.length + (p0.getD p2.toNat []).length) * 8 ≤ LIM) then
 F110.l1_1_1_1_0_1_0 n K p0 p1 (IntKind.i64.wrap (p2 + 1)) (p3 ++ (p0.getD p2.toNat []))
 else
 none
 else
 none
 else
 exitK K 2 ⟨slots 36 [(6, .own 0)], [.row 3 (.int .i64) p3]⟩ := by kernel_rfl
theorem F110.c1 (k : Nat) (p0 : List Int) : exitK (F110.kt k [1,1,1,1,0,1,0]) 2 ⟨slots 36 [(6, .own 0)], [.row 3 (.int .i64) p0]⟩ =
 some (.v (.sl (.int .i64)) p0) := by kernel_rfl
noncomputable def F111.fn : Func := Go.Proofs.Tryz.f162
noncomputable def F111.E : Env := ⟨tt, [(94, h_any)], [(1, [0, 3])], [], some [4], inv, []⟩
theorem F111.start_eq (k : Nat) (a0 : List Int) (a1 : Int) : callW F111.E false F111.fn k [.v (.sl (.int .i64)) a0, .v (.int .i64) a1] =
 some (.v .bool (!(List.any a0 (numB a1)))) := by kernel_rfl
noncomputable def F97.fn : Func := Go.Proofs.Tryz.f134
noncomputable def F97.body : Code := bodyOf F97.fn
noncomputable def F97.E : Env := ⟨tt, [(162, h_boundedD)], [(1, [1]), (2, [1, 3, 4, 5]), (3, [1, 3, 4, 5, 9]), (4, [1, 3, 4, 5, 9, 10]), (6, [1, 3, 4, 5, 12]), (7, [1, 3, 4, 5]), (8, [1, 3, 4, 5, 15, 16, 17]), (9, [1, 3, 4, 5, 15, 16, 17, 18]), (10, [1, 3, 4, 5, 7, 15, 16, 17]), (11, [1, 3, 4, 5, 15, 16, 17, 24]), (12, [1, 3, 4, 5, 15, 16, 17]), (13, [1, 3, 4, 5])], [(0, [1, 3, 4, 5]), (1, [1, 3, 4, 5]), (2, [1, 3, 4, 5, 15, 16, 17])], some [2], inv, []⟩
noncomputable def F97.K0 : Conts := { nrm := endW F97.E false F97.fn.results.toList, ret := endW F97.E false F97.fn.results.toList, ex := [] }
noncomputable def F97.kt (k : Nat) (q : List Nat) : Conts := contAt F97.E k F97.body F97.K0 q
noncomputable def F97.n1_1_1 (n : Nat) (K : Conts) (p0 p1 p2 p3 : Int) (p4 p5 p6 p7 p8 : List Int) (p9 : Int) (p10 : List (List Int)) : Option AV := runC F97.E (loopF F97.E n) (subC [1,1,1] F97.body) K ⟨slots 53 [(1, .pb 0 0), (3, .v (.int .i64) p0), (4, .v (.int .i64) p1), (5, .v (.int .i64) p2)], [.box (bC p3 p4 p5 p6 p7 p8 p9 p10)]⟩
noncomputable def F97.k_n1_1_1 (n : Nat) (K : Conts) (q : List Nat) : Conts := contAt F97.E n (subC [1, 1, 1] F97.body) K q
noncomputable def F97.l1_1_1_0_1_0 (n : Nat) (K : Conts) (p0 p1 p2 : Int) (p3 : List (List Int)) (p4 p5 p6 : Int) (p7 p8 p9 p10 p11 : List Int) (p12 : Int) (p13 : List (List Int)) : Option AV := loopF F97.E n (inLoop (subC [1,1,1,0,1,0] F97.body)) K ⟨slots 53 [(1, .pb 0 0), (3, .v (.int .i64) p0), (4, .v (.int .i64) p1), (5, .v (.int .i64) p2), (15, .v (.sl (.sl (.int .i64))) p3), (16, .v (.int .i64) p4), (17, .v (.int .i64) p5)], [.box (bC p6 p7 p8 p9 p10 p11 p12 p13)]⟩
theorem F97.start_eq (k : Nat) (a0 : Con) : callW F97.E false F97.fn k [.agg (bC a0.1 a0.2.1 a0.2.2.1 a0.2.2.2.1 a0.2.2.2.2.1 a0.2.2.2.2.2.1 a0.2.2.2.2.2.2.1 a0.2.2.2.2.2.2.2)] =
 bif decide (a0.1 = 19) then
 F97.n1_1_1 k (F97.kt k [1,1,1]) 0 0 0 a0.1 a0.2.1 a0.2.2.1 a0.2.2.2.1 a0.2.2.2.2.1 a0.2.2.2.2.2.1 a0.2.2.2.2.2.2.1 a0.2.2.2.2.2.2.2
 else
 bif decide (a0.1 = 21) then
 F97.n1_1_1 k (F97.kt k [1,1,1]) (-1000000 : Int) 0 (-9999999999 : Int) a0.1 a0.2.1 a0.2.2.1 a0.2.2.2.1 a0.2.2.2.2.1 a0.2.2.2.2.2.1 a0.2.2.2.2.2.2.1 a0.2.2.2.2.2.2.2
 else
 F97.n1_1_1 k (F97.kt k [1,1,1]) (-1000000 : Int) (-1000000 : Int) (-9999999999 : Int) a0.1 a0.2.1 a0.2.2.1 a0.2.2.2.1 a0.2.2.2.2.1 a0.2.2.2.2.2.1 a0.2.2.2.2.2.2.1 a0.2.2.2.2.2.2.2 := by kernel_rfl
theorem F97.n1_1_1_eq (n : Nat) (K : Conts) (p0 p1 p2 p3 : Int) (p4 p5 p6 p7 p8 : List Int) (p9 : Int) (p10 : List (List Int)) : F97.n1_1_1 n K p0 p1 p2 p3 p4 p5 p6 p7 p8 p9 p10 =
 F97.l1_1_1_0_1_0 n (F97.k_n1_1_1 n K [0,1,0]) p0 p1 p2 p10 (p10.length : Int) 0 p3 p4 p5 p6 p7 p8 p9 p10 := by kernel_rfl
theorem F97.l1_1_1_0_1_0_eq (n : Nat) (K : Conts) (p0 p1 p2 : Int) (p3 : List (List Int)) (p4 p5 p6 : Int) (p7 p8 p9 p10 p11 : List Int) (p12 : Int) (p13 : List (List Int)) : F97.l1_1_1_0_1_0 (n + 1) K p0 p1 p2 p3 p4 p5 p6 p7 p8 p9 p10 p11 p12 p13 =
 bif decide (p5 < p4) then
 bif decide (0 ≤ p5) && decide (p5 < p3.length) then
 bif !(boundedD (p3.getD p5.toNat []) p0) then
 K.ret ⟨slots 53 [(2, .v .bool false)], []⟩
 else
 F97.l1_1_1_0_1_0 n K p0 p1 p2 p3 p4 (IntKind.i64.wrap (p5 + 1)) p6 p7 p8 p9 p10 p11 p12 p13
 else
 none
 else
 exitK K 1 ⟨slots 53 [(1, .pb 0 0), (3, .v (.int .i64) p0), (4, .v (.int .i64) p1), (5, .v (.int .i64) p2)], [.box (bC p6 p7 p8 p9 p10 p11 p12 p13)]⟩ := by kernel_rfl
theorem F97.c0 (n : Nat) (K : Conts) : (F97.k_n1_1_1 n K [0,1,0]).ret ⟨slots 53 [(2, .v .bool false)], []⟩ =
 K.ret ⟨slots 53 [(2, .v .bool false)], []⟩ := by kernel_rfl
theorem F97.c1 (n : Nat) (K : Conts) (p0 p1 p2 p3 : Int) (p4 p5 p6 p7 p8 : List Int) (p9 : Int) (p10 : List (List Int)) : exitK (F97.k_n1_1_1 n K [0,1,0]) 1 ⟨slots 53 [(1, .pb 0 0), (3, .v (.int .i64) p0), (4, .v (.int .i64) p1), (5, .v (.int .i64) p2)], [.box (bC p3 p4 p5 p6 p7 p8 p9 p10)]⟩ =
 bif boundedD p6 p0 then
 bif boundedD p7 p1 then
 bif boundedD p8 p1 then
 bif decide (p9 ≥ p2) then K.ret ⟨slots 53 [(2, .v .bool (decide (p9 ≤ 9999999999)))], []⟩ else K.ret ⟨slots 53 [(2, .v .bool false)], []⟩
 else
 K.ret ⟨slots 53 [(2, .v .bool false)], []⟩
 else
 K.ret ⟨slots 53 [(2, .v .bool false)], []⟩
 else
 K.ret ⟨slots 53 [(2, .v .bool false)], []⟩ := by kernel_rfl
theorem F97.c2 (k : Nat) : (F97.kt k [1,1,1]).ret ⟨slots 53 [(2, .v .bool false)], []⟩ =
 some (.v .bool false) := by kernel_rfl
theorem F97.c3 (k : Nat) (p0 : Bool) : (F97.kt k [1,1,1]).ret ⟨slots 53 [(2, .v .bool p0)], []⟩ =
 some (.v .bool p0) := by kernel_rfl
noncomputable def F76.fn : Func := Go.Proofs.Tryz.f93
noncomputable def F76.E : Env := ⟨tt, [(94, h_any), (128, h_shapeS), (129, h_countedD), (130, h_alikeD), (131, h_has1), (132, h_varsD), (134, h_numbersD), (135, h_countsD)], [(1, [2, 3]), (2, [2, 3, 5]), (3, [2, 3, 5, 9]), (5, [2, 3, 12]), (7, [2, 32]), (9, [37]), (10, [])], [(0, [])], some [4], inv, []⟩
theorem F76.start_eq (k : Nat) (a0 : Con) (a1 : Int) : callW F76.E false F76.fn k [.agg (bC a0.1 a0.2.1 a0.2.2.1 a0.2.2.2.1 a0.2.2.2.2.1 a0.2.2.2.2.2.1 a0.2.2.2.2.2.2.1 a0.2.2.2.2.2.2.2), .v (.int .i64) a1] =
 bif strEq (shapeS a0.1) ⟨#[]⟩ then
 some (.v (.int .i64) (9 : Int))
 else
 bif shapeB a0 (shapeS a0.1) then
 bif !(countedD a0 (shapeS a0.1)) then
 some (.v (.int .i64) (10 : Int))
 else
 bif kindB a0 then
 bif !(alikeD a0) then
 some (.v (.int .i64) (10 : Int))
 else
 bif !(decide (a0.2.2.2.2.2.2.1 = 0)) then
 bif !(has1 (shapeS a0.1) ⟨#[107]⟩) then
 some (.v (.int .i64) (10 : Int))
 else
 bif varsB a0 then
 bif List.any (varsD a0) (varB a1) then
 some (.v (.int .i64) (7 : Int))
 else
 bif kindB a0 then
 bif !(numbersD a0) then
 some (.v (.int .i64) (11 : Int))
 else
 bif kindB a0 then
 bif !(countsD a0) then some (.v (.int .i64) (11 : Int)) else some (.v (.int .i64) (0 : Int))
 else
 none
 else
 none
 else
 none
 else
 bif varsB a0 then
 bif List.any (varsD a0) (varB a1) then
 some (.v (.int .i64) (7 : Int))
 else
 bif kindB a0 then
 bif !(numbersD a0) then
 some (.v (.int .i64) (11 : Int))
 else
 bif kindB a0 then
 bif !(countsD a0) then some (.v (.int .i64) (11 : Int)) else some (.v (.int .i64) (0 : Int))
 else
 none
 else
 none
 else
 none
 else
 none
 else
 none := by kernel_rfl
end Go.Proofs.YtnojoaghcbljfaaGreatDoor.Ev
set_option linter.unusedVariables false
set_option linter.unusedSimpArgs false
set_option maxRecDepth 100000
namespace Go.Proofs.YtnojoaghcbljfaaGreatDoor.Ev
open Go
noncomputable def F92k22.fn : Func := Go.Proofs.Tryz.f129
noncomputable def F92k22.E : Env := ⟨tt, [(131, h_has1), (157, h_namedD)], [(1, [1, 2]), (2, [1, 2, 8]), (3, [1, 2]), (4, [1, 2, 5]), (5, [1, 2, 5, 50]), (6, [1, 2, 5])], [], some [4], inv, []⟩
theorem F92k22.start_eq (k : Nat) (c : (List Int) × ((List Int) × ((List Int) × ((List Int) × ((List Int) × (Int × (List (List Int)))))))) : callW F92k22.E false F92k22.fn k [.agg (bC (22 : Int) c.1 c.2.1 c.2.2.1 c.2.2.2.1 c.2.2.2.2.1 c.2.2.2.2.2.1 c.2.2.2.2.2.2), .v .str ⟨#[86, 87]⟩] =
 bif decide ((c.2.2.2.2.2.2.length : Int) = 0) then
 bif withinD (c.1.length : Int) 1 64 then
 bif withinD (c.2.1.length : Int) 1 64 then
 bif decide ((c.2.2.1.length : Int) = (0 : Int)) then
 bif decide ((c.2.2.2.1.length : Int) = (0 : Int)) then some (.v .bool (decide ((c.2.2.2.2.1.length : Int) = (0 : Int)))) else some (.v .bool false)
 else
 some (.v .bool false)
 else
 some (.v .bool false)
 else
 some (.v .bool false)
 else
 some (.v .bool false) := by kernel_rfl
noncomputable def F93k22.fn : Func := Go.Proofs.Tryz.f130
noncomputable def F93k22.E : Env := ⟨tt, [], [(1, [1]), (2, [1, 4]), (3, [1, 4, 5]), (4, [1, 4, 5]), (5, [1, 4, 5]), (6, [1, 4, 5]), (8, [1, 4, 17]), (10, [1, 4, 35]), (12, [1, 4, 53]), (13, [1, 4, 53]), (15, [1, 63]), (16, [])], [(0, [])], some [2], inv, []⟩
theorem F93k22.start_eq (k : Nat) (c : (List Int) × ((List Int) × ((List Int) × ((List Int) × ((List Int) × (Int × (List (List Int)))))))) : callW F93k22.E false F93k22.fn k [.agg (bC (22 : Int) c.1 c.2.1 c.2.2.1 c.2.2.2.1 c.2.2.2.2.1 c.2.2.2.2.2.1 c.2.2.2.2.2.2)] =
 some (.v .bool (decide ((c.2.1.length : Int) = (c.1.length : Int)))) := by kernel_rfl
noncomputable def F98k22.fn : Func := Go.Proofs.Tryz.f135
noncomputable def F98k22.E : Env := ⟨tt, [], [(1, [1]), (2, [1, 7]), (3, [1]), (4, [1, 3]), (5, [1, 3, 14, 15]), (6, [1, 3, 14, 15, 16]), (7, [1, 3, 4, 14, 15]), (8, [1, 3, 14, 15, 44]), (9, [1, 3, 14, 15]), (10, [])], [(0, []), (1, [1, 3, 14, 15])], some [2], inv, []⟩
theorem F98k22.start_eq (k : Nat) (c : (List Int) × ((List Int) × ((List Int) × ((List Int) × ((List Int) × (Int × (List (List Int)))))))) : callW F98k22.E false F98k22.fn k [.agg (bC (22 : Int) c.1 c.2.1 c.2.2.1 c.2.2.2.1 c.2.2.2.2.1 c.2.2.2.2.2.1 c.2.2.2.2.2.2)] =
 some (.v .bool true) := by kernel_rfl
end Go.Proofs.YtnojoaghcbljfaaGreatDoor.Ev
