/-
The functions as the evaluator runs them: printed by a program of mine, each equation by kernel_rfl.
Conditions: none.
-/
import Derived.Test.YtnojoaghcbljfaaGreatDoorCg
set_option linter.unusedVariables false
set_option linter.unusedSimpArgs false
set_option maxRecDepth 100000
namespace Go.Proofs.YtnojoaghcbljfaaGreatDoor.Ev
open Go
noncomputable def F311.fn : Func := Go.Proofs.Tryz.f11
noncomputable def F311.body : Code := bodyOf F311.fn
noncomputable def F311.E : Env := ⟨tt, [(20, h_sameL), (34, h_conA), (35, h_localC), (36, h_holdsC), (39, h_linF), (40, h_doms340), (42, h_wakes342), (43, h_lists343)], [(1, [1, 2, 3]), (2, [2, 3]), (3, [2, 7]), (4, [2, 7, 8]), (5, [2, 7, 8, 9]), (6, [2, 7, 8, 9, 10]), (7, [2, 7, 8, 9, 10, 28, 29, 300009, 30010]), (8, [2, 7, 8, 9, 10, 28, 29, 30]), (9, [2, 7, 8, 9, 10, 11, 28, 29]), (10, [2, 7, 8, 9, 10, 11, 12, 28, 29]), (11, [2, 7, 8, 9, 10, 11, 12, 28, 29, 35]), (12, [2, 7, 8, 9, 10, 12, 28, 29]), (13, [2, 7, 8, 9, 10, 28, 29]), (14, [7, 8, 9, 10]), (15, [8, 9, 10, 13, 14])], [(0, [7, 8, 9, 10]), (1, [2, 7, 8, 9, 10, 28, 29])], some [6], inv⟩
noncomputable def F311.K0 : Conts := { nrm := endW F311.E false F311.fn.results.toList, ret := endW F311.E false F311.fn.results.toList, ex := [] }
noncomputable def F311.kt (k : Nat) (q : List Nat) : Conts := contAt F311.E k F311.body F311.K0 q
noncomputable def F311.l1_1_1_1_1_1_0_1_0 (n : Nat) (K : Conts) (p0 : List Int) (p1 p2 p3 : Int) (p4 p5 p6 p7 p8 : List Int) (p9 : Int) (p10 : List (List Int)) (p11 : Int) (p12 p13 p14 p15 p16 : List Int) (p17 : Int) (p18 p19 : List (List Int)) (p20 : List Int) : Option AV := loopF F311.E n (inLoop (subC [1,1,1,1,1,1,0,1,0] F311.body)) K ⟨slots 76 [(2, .v (.sl (.int .i8)) p0), (7, .pb 0 0), (8, .pb 1 0), (9, .own 2), (10, .own 3), (28, .v (.int .i64) p1), (29, .v (.int .i64) p2)], [.box (bC p3 p4 p5 p6 p7 p8 p9 p10), .box (bC p11 p12 p13 p14 p15 p16 p17 p18), .row 30 (.sl (.int .i64)) p19, .row 3 (.int .i64) p20]⟩
theorem F311.start_eq (k : Nat) (a0 : Int × ((List Int) × ((List Int) × ((List Int) × (Int × Int))))) (a1 : Int) (a2 : List Int) : callW F311.E false F311.fn k [.agg [.v (.int .u8) a0.1, .v (.sl (.int .u8)) a0.2.1, .v (.sl (.int .u8)) a0.2.2.1, .v (.sl (.int .i8)) a0.2.2.2.1, .v (.int .i16) a0.2.2.2.2.1, .v (.int .u8) a0.2.2.2.2.2], .v (.int .u8) a1, .v (.sl (.int .i8)) a2] =
 bif conAB (a1.tmod 4, a0.2) 4 then
 bif localB (conA (a1.tmod 4, a0.2) 4) then
 F311.l1_1_1_1_1_1_0_1_0 k (F311.kt k [1,1,1,1,1,1,0,1,0]) a2 (IntKind.i64.wrap (((((conA (a1.tmod 4, a0.2) 4).2).1).length : Int) + (((((conA (a1.tmod 4, a0.2) 4).2).2).1).length : Int))) 0 ((conA (a1.tmod 4, a0.2) 4).1) (((conA (a1.tmod 4, a0.2) 4).2).1) ((((conA (a1.tmod 4, a0.2) 4).2).2).1) (((((conA (a1.tmod 4, a0.2) 4).2).2).2).1) ((((((conA (a1.tmod 4, a0.2) 4).2).2).2).2).1) (((((((conA (a1.tmod 4, a0.2) 4).2).2).2).2).2).1) ((((((((conA (a1.tmod 4, a0.2) 4).2).2).2).2).2).2).1) ((((((((conA (a1.tmod 4, a0.2) 4).2).2).2).2).2).2).2) ((localC (conA (a1.tmod 4, a0.2) 4)).1) (((localC (conA (a1.tmod 4, a0.2) 4)).2).1) ((((localC (conA (a1.tmod 4, a0.2) 4)).2).2).1) (((((localC (conA (a1.tmod 4, a0.2) 4)).2).2).2).1) ((((((localC (conA (a1.tmod 4, a0.2) 4)).2).2).2).2).1) (((((((localC (conA (a1.tmod 4, a0.2) 4)).2).2).2).2).2).1) ((((((((localC (conA (a1.tmod 4, a0.2) 4)).2).2).2).2).2).2).1) ((((((((localC (conA (a1.tmod 4, a0.2) 4)).2).2).2).2).2).2).2) [] []
 else
 none
 else
 none := by kernel_rfl
theorem F311.l1_1_1_1_1_1_0_1_0_eq (n : Nat) (K : Conts) (p0 : List Int) (p1 p2 p3 : Int) (p4 p5 p6 p7 p8 : List Int) (p9 : Int) (p10 : List (List Int)) (p11 : Int) (p12 p13 p14 p15 p16 : List Int) (p17 : Int) (p18 p19 : List (List Int)) (p20 : List Int) : F311.l1_1_1_1_1_1_0_1_0 (n + 1) K p0 p1 p2 p3 p4 p5 p6 p7 p8 p9 p10 p11 p12 p13 p14 p15 p16 p17 p18 p19 p20 =
 bif decide (p2 < p1) then
 bif decide (p2 < (p0.length : Int)) then
 bif decide (0 ≤ p2) && decide (p2 < p0.length) then
 bif decide ((p19.length + [[IntKind.i64.wrap (p0.getD p2.toNat (0 : Int))]].length) * 24 ≤ LIM) then
 bif decide ((p20.length + [IntKind.i64.wrap (p0.getD p2.toNat (0 : Int))].length) * 8 ≤ LIM) then
 F311.l1_1_1_1_1_1_0_1_0 n K p0 p1 (IntKind.i64.wrap (p2 + 1)) p3 p4 p5 p6 p7 p8 p9 p10 p11 p12 p13 p14 p15 p16 p17 p18 (p19 ++ [[IntKind.i64.wrap (p0.getD p2.toNat (0 : Int))]]) (p20 ++ [IntKind.i64.wrap (p0.getD p2.toNat (0 : Int))])
 else
 none
 else
 none
 else
 none
 else
 bif decide ((p19.length + [[1]].length) * 24 ≤ LIM) then
 bif decide ((p20.length + [1].length) * 8 ≤ LIM) then
 F311.l1_1_1_1_1_1_0_1_0 n K p0 p1 (IntKind.i64.wrap (p2 + 1)) p3 p4 p5 p6 p7 p8 p9 p10 p11 p12 p13 p14 p15 p16 p17 p18 (p19 ++ [[1]]) (p20 ++ [1])
 else
 none
 else
 none
 else
 exitK K 0 ⟨slots 76 [(7, .pb 0 0), (8, .pb 1 0), (9, .own 2), (10, .own 3)], [.box (bC p3 p4 p5 p6 p7 p8 p9 p10), .box (bC p11 p12 p13 p14 p15 p16 p17 p18), .row 30 (.sl (.int .i64)) p19, .row 3 (.int .i64) p20]⟩ := by kernel_rfl
theorem F311.c0 (k : Nat) (p0 : Int) (p1 p2 p3 p4 p5 : List Int) (p6 : Int) (p7 : List (List Int)) (p8 : Int) (p9 p10 p11 p12 p13 : List Int) (p14 : Int) (p15 p16 : List (List Int)) (p17 : List Int) : exitK (F311.kt k [1,1,1,1,1,1,0,1,0]) 0 ⟨slots 76 [(7, .pb 0 0), (8, .pb 1 0), (9, .own 2), (10, .own 3)], [.box (bC p0 p1 p2 p3 p4 p5 p6 p7), .box (bC p8 p9 p10 p11 p12 p13 p14 p15), .row 30 (.sl (.int .i64)) p16, .row 3 (.int .i64) p17]⟩ =
 bif Nat.ble p16.length 1000 then
 bif linFB (p0, (p1, (p2, (p3, (p4, (p5, (p6, p7))))))) (domsL p16) then
 bif holdsB (p8, (p9, (p10, (p11, (p12, (p13, (p14, p15))))))) p17 then
 bif ((linF (p0, (p1, (p2, (p3, (p4, (p5, (p6, p7))))))) (domsL p16)).2) == (holdsC (p8, (p9, (p10, (p11, (p12, (p13, (p14, p15))))))) p17) then
 bif !((linF (p0, (p1, (p2, (p3, (p4, (p5, (p6, p7))))))) (domsL p16)).2) then
 some (.v .bool true)
 else
 bif Nat.ble ((linF (p0, (p1, (p2, (p3, (p4, (p5, (p6, p7))))))) (domsL p16)).1).length 1000 && ((linF (p0, (p1, (p2, (p3, (p4, (p5, (p6, p7))))))) (domsL p16)).1).all listB then
 bif Nat.ble (listsL ((linF (p0, (p1, (p2, (p3, (p4, (p5, (p6, p7))))))) (domsL p16)).1)).length 1000 && lensB (listsL ((linF (p0, (p1, (p2, (p3, (p4, (p5, (p6, p7))))))) (domsL p16)).1)) then
 some (.v .bool (sameL (listsL ((linF (p0, (p1, (p2, (p3, (p4, (p5, (p6, p7))))))) (domsL p16)).1)) p16))
 else
 none
 else
 none
 else
 some (.v .bool false)
 else
 none
 else
 none
 else
 none := by kernel_rfl
noncomputable def F312.fn : Func := Go.Proofs.Tryz.f12
noncomputable def F312.body : Code := bodyOf F312.fn
noncomputable def F312.E : Env := ⟨tt, [(14, h_makeA), (15, h_containsL), (20, h_sameL), (22, h_hasD), (23, h_listD), (30, h_sol), (39, h_linF), (40, h_doms340), (42, h_wakes342), (43, h_lists343)], [(1, [1, 2]), (2, [5, 6]), (3, [5, 6, 7, 8]), (4, [5, 6, 7, 8, 9, 10]), (5, [5, 6, 7, 9, 10, 45]), (6, [5, 6, 7, 9, 10]), (7, [5, 6, 7, 9, 48]), (8, [5, 6, 7, 9]), (9, [5, 6, 7, 9, 59]), (10, [5, 6, 7, 9]), (11, [5, 6, 7, 9, 11]), (12, [5, 7, 9, 11, 60, 61, 62]), (13, [5, 7, 9, 11, 60, 61, 62, 63]), (14, [5, 7, 9, 11, 12, 13, 60, 61, 62]), (15, [5, 7, 9, 11, 12, 13, 60, 61, 62]), (16, [5, 7, 9, 11, 13, 60, 61, 62, 77, 78, 79]), (17, [5, 7, 9, 11, 13, 60, 61, 62, 77, 78, 79, 80]), (18, [5, 7, 9, 11, 13, 15, 60, 61, 62, 77, 78, 79]), (19, [5, 7, 9, 11, 13, 60, 61, 62, 77, 78, 79, 86]), (20, [5, 7, 9, 11, 13, 60, 61, 62, 77, 78, 79]), (21, [5, 7, 9, 11, 60, 61, 62]), (22, [5, 7, 9, 11]), (23, [5, 7, 9, 11, 89, 90, 91]), (24, [5, 7, 9, 11, 89, 90, 91, 92]), (25, [5, 7, 9, 11, 17, 89, 90, 91]), (26, [5, 7, 9, 11, 89, 90, 91, 95, 96, 97]), (27, [5, 7, 9, 11, 89, 90, 91, 95, 96, 97, 98]), (28, [5, 7, 9, 11, 18, 19, 89, 90, 91, 95, 96, 97]), (29, [5, 7, 9, 11, 89, 90, 91, 95, 96, 97, 108]), (30, [5, 7, 9, 11, 89, 90, 91, 95, 96, 97]), (31, [5, 7, 9, 11, 89, 90, 91]), (32, [5, 7, 9, 11]), (33, [5, 9, 116]), (34, [5, 9]), (35, [9, 20, 21])], [(0, [5, 7, 9, 11]), (1, [5, 7, 9, 11, 60, 61, 62]), (2, [5, 7, 9, 11, 60, 61, 62]), (3, [5, 7, 9, 11, 13, 60, 61, 62, 77, 78, 79]), (4, [5, 7, 9, 11]), (5, [5, 7, 9, 11, 89, 90, 91]), (6, [5, 7, 9, 11, 89, 90, 91]), (7, [5, 7, 9, 11, 89, 90, 91, 95, 96, 97])], some [4], inv⟩
noncomputable def F312.K0 : Conts := { nrm := endW F312.E false F312.fn.results.toList, ret := endW F312.E false F312.fn.results.toList, ex := [] }
noncomputable def F312.kt (k : Nat) (q : List Nat) : Conts := contAt F312.E k F312.body F312.K0 q
noncomputable def F312.l1_1_1_1_1_1_1_1_0_1_0 (n : Nat) (K : Conts) (p0 : List (List Int)) (p1 : List Dom) (p2 : Bool) (p3 p4 p5 : Int) (p6 p7 p8 p9 p10 : List Int) (p11 : Int) (p12 p13 : List (List Int)) : Option AV := loopF F312.E n (inLoop (subC [1,1,1,1,1,1,1,1,0,1,0] F312.body)) K ⟨slots 134 [(5, .pb 0 0), (7, .v (.sl (.sl (.int .i64))) p0), (9, .v (.sl DomT) p1), (11, .v .bool p2), (60, .own 1), (61, .v (.int .i64) p3), (62, .v (.int .i64) p4)], [.box (bC p5 p6 p7 p8 p9 p10 p11 p12), .frz (.sl (.int .i64)) p13]⟩
noncomputable def F312.k_l1_1_1_1_1_1_1_1_0_1_0 (n : Nat) (K : Conts) (q : List Nat) : Conts := contAt F312.E n (inLoop (subC [1, 1, 1, 1, 1, 1, 1, 1, 0, 1, 0] F312.body)) (loopK F312.E n (inLoop (subC [1, 1, 1, 1, 1, 1, 1, 1, 0, 1, 0] F312.body)) K) q
noncomputable def F312.l1_1_1_1_1_1_1_1_0_1_0_0_1_1_0_0_1_1_1_0 (n : Nat) (K : Conts) (p0 : List (List Int)) (p1 : List Dom) (p2 : Bool) (p3 : List Int) (p4 p5 : Int) (p6 : List Int) (p7 p8 p9 : Int) (p10 p11 p12 p13 p14 : List Int) (p15 : Int) (p16 p17 : List (List Int)) : Option AV := loopF F312.E n (inLoop (subC [1,1,1,1,1,1,1,1,0,1,0,0,1,1,0,0,1,1,1,0] F312.body)) K ⟨slots 134 [(5, .pb 0 0), (7, .v (.sl (.sl (.int .i64))) p0), (9, .v (.sl DomT) p1), (11, .v .bool p2), (13, .v (.sl (.int .i64)) p3), (60, .own 1), (61, .v (.int .i64) p4), (62, .v (.int .i64) p5), (77, .v (.sl (.int .i64)) p6), (78, .v (.int .i64) p7), (79, .v (.int .i64) p8)], [.box (bC p9 p10 p11 p12 p13 p14 p15 p16), .frz (.sl (.int .i64)) p17]⟩
noncomputable def F312.l1_1_1_1_1_1_1_1_1_0_1_0 (n : Nat) (K : Conts) (p0 : List (List Int)) (p1 : List Dom) (p2 : Bool) (p3 : List (List Int)) (p4 p5 p6 : Int) (p7 p8 p9 p10 p11 : List Int) (p12 : Int) (p13 : List (List Int)) : Option AV := loopF F312.E n (inLoop (subC [1,1,1,1,1,1,1,1,1,0,1,0] F312.body)) K ⟨slots 134 [(5, .pb 0 0), (7, .v (.sl (.sl (.int .i64))) p0), (9, .v (.sl DomT) p1), (11, .v .bool p2), (89, .v (.sl (.sl (.int .i64))) p3), (90, .v (.int .i64) p4), (91, .v (.int .i64) p5)], [.box (bC p6 p7 p8 p9 p10 p11 p12 p13)]⟩
noncomputable def F312.k_l1_1_1_1_1_1_1_1_1_0_1_0 (n : Nat) (K : Conts) (q : List Nat) : Conts := contAt F312.E n (inLoop (subC [1, 1, 1, 1, 1, 1, 1, 1, 1, 0, 1, 0] F312.body)) (loopK F312.E n (inLoop (subC [1, 1, 1, 1, 1, 1, 1, 1, 1, 0, 1, 0] F312.body)) K) q
noncomputable def F312.l1_1_1_1_1_1_1_1_1_0_1_0_0_1_1_0_0_1_1_0 (n : Nat) (K : Conts) (p0 : List (List Int)) (p1 : List Dom) (p2 : Bool) (p3 : List (List Int)) (p4 p5 : Int) (p6 : List Int) (p7 p8 p9 : Int) (p10 p11 p12 p13 p14 : List Int) (p15 : Int) (p16 : List (List Int)) : Option AV := loopF F312.E n (inLoop (subC [1,1,1,1,1,1,1,1,1,0,1,0,0,1,1,0,0,1,1,0] F312.body)) K ⟨slots 134 [(5, .pb 0 0), (7, .v (.sl (.sl (.int .i64))) p0), (9, .v (.sl DomT) p1), (11, .v .bool p2), (89, .v (.sl (.sl (.int .i64))) p3), (90, .v (.int .i64) p4), (91, .v (.int .i64) p5), (95, .v (.sl (.int .i64)) p6), (96, .v (.int .i64) p7), (97, .v (.int .i64) p8)], [.box (bC p9 p10 p11 p12 p13 p14 p15 p16)]⟩
theorem F312.start_eq (k : Nat) (a0 : (Int × ((List Int) × ((List Int) × ((List Int) × (Int × Int))))) × (List (List Int))) (a1 : Int) : callW F312.E false F312.fn k [.agg [.v (.int .u8) a0.1.1, .v (.sl (.int .u8)) a0.1.2.1, .v (.sl (.int .u8)) a0.1.2.2.1, .v (.sl (.int .i8)) a0.1.2.2.2.1, .v (.int .i16) a0.1.2.2.2.2.1, .v (.int .u8) a0.1.2.2.2.2.2, .v (.sl (.sl (.int .i64))) a0.2], .v (.int .u8) a1] =
 bif makeAB a0 (IntKind.i64.wrap (1 + (IntKind.i64.wrap (a1.tmod 4)))) 9 then
 bif solB (makeAC a0 (IntKind.i64.wrap (1 + (IntKind.i64.wrap (a1.tmod 4))))) (makeAL a0 (IntKind.i64.wrap (1 + (IntKind.i64.wrap (a1.tmod 4)))) 9) 4000 then
 bif Nat.ble (makeAL a0 (IntKind.i64.wrap (1 + (IntKind.i64.wrap (a1.tmod 4)))) 9).length 1000 then
 bif linFB (makeAC a0 (IntKind.i64.wrap (1 + (IntKind.i64.wrap (a1.tmod 4))))) (domsL (makeAL a0 (IntKind.i64.wrap (1 + (IntKind.i64.wrap (a1.tmod 4)))) 9)) then
 bif !((solL (makeAC a0 (IntKind.i64.wrap (1 + (IntKind.i64.wrap (a1.tmod 4))))) (makeAL a0 (IntKind.i64.wrap (1 + (IntKind.i64.wrap (a1.tmod 4)))) 9) 4000).2) then
 some (.v .bool true)
 else
 bif !((linF (makeAC a0 (IntKind.i64.wrap (1 + (IntKind.i64.wrap (a1.tmod 4))))) (domsL (makeAL a0 (IntKind.i64.wrap (1 + (IntKind.i64.wrap (a1.tmod 4)))) 9))).2) then
 some (.v .bool (decide ((((solL (makeAC a0 (IntKind.i64.wrap (1 + (IntKind.i64.wrap (a1.tmod 4))))) (makeAL a0 (IntKind.i64.wrap (1 + (IntKind.i64.wrap (a1.tmod 4)))) 9) 4000).1).length : Int) = 0)))
 else
 bif !(decide ((((linF (makeAC a0 (IntKind.i64.wrap (1 + (IntKind.i64.wrap (a1.tmod 4))))) (domsL (makeAL a0 (IntKind.i64.wrap (1 + (IntKind.i64.wrap (a1.tmod 4)))) 9))).1).length : Int) = ((makeAL a0 (IntKind.i64.wrap (1 + (IntKind.i64.wrap (a1.tmod 4)))) 9).length : Int))) then
 some (.v .bool false)
 else
 F312.l1_1_1_1_1_1_1_1_0_1_0 k (F312.kt k [1,1,1,1,1,1,1,1,0,1,0]) ((solL (makeAC a0 (IntKind.i64.wrap (1 + (IntKind.i64.wrap (a1.tmod 4))))) (makeAL a0 (IntKind.i64.wrap (1 + (IntKind.i64.wrap (a1.tmod 4)))) 9) 4000).1) ((linF (makeAC a0 (IntKind.i64.wrap (1 + (IntKind.i64.wrap (a1.tmod 4))))) (domsL (makeAL a0 (IntKind.i64.wrap (1 + (IntKind.i64.wrap (a1.tmod 4)))) 9))).1) true ((makeAL a0 (IntKind.i64.wrap (1 + (IntKind.i64.wrap (a1.tmod 4)))) 9).length : Int) 0 ((makeAC a0 (IntKind.i64.wrap (1 + (IntKind.i64.wrap (a1.tmod 4))))).1) (((makeAC a0 (IntKind.i64.wrap (1 + (IntKind.i64.wrap (a1.tmod 4))))).2).1) ((((makeAC a0 (IntKind.i64.wrap (1 + (IntKind.i64.wrap (a1.tmod 4))))).2).2).1) (((((makeAC a0 (IntKind.i64.wrap (1 + (IntKind.i64.wrap (a1.tmod 4))))).2).2).2).1) ((((((makeAC a0 (IntKind.i64.wrap (1 + (IntKind.i64.wrap (a1.tmod 4))))).2).2).2).2).1) (((((((makeAC a0 (IntKind.i64.wrap (1 + (IntKind.i64.wrap (a1.tmod 4))))).2).2).2).2).2).1) ((((((((makeAC a0 (IntKind.i64.wrap (1 + (IntKind.i64.wrap (a1.tmod 4))))).2).2).2).2).2).2).1) ((((((((makeAC a0 (IntKind.i64.wrap (1 + (IntKind.i64.wrap (a1.tmod 4))))).2).2).2).2).2).2).2) (makeAL a0 (IntKind.i64.wrap (1 + (IntKind.i64.wrap (a1.tmod 4)))) 9)
 else
 none
 else
 none
 else
 none
 else
 none := by kernel_rfl
theorem F312.l1_1_1_1_1_1_1_1_0_1_0_eq (n : Nat) (K : Conts) (p0 : List (List Int)) (p1 : List Dom) (p2 : Bool) (p3 p4 p5 : Int) (p6 p7 p8 p9 p10 : List Int) (p11 : Int) (p12 p13 : List (List Int)) : F312.l1_1_1_1_1_1_1_1_0_1_0 (n + 1) K p0 p1 p2 p3 p4 p5 p6 p7 p8 p9 p10 p11 p12 p13 =
 bif decide (p4 < p3) then
 bif decide (0 ≤ p4) && decide (p4 < p13.length) then
 bif p2 then
 bif decide (0 ≤ p4) && decide (p4 < p1.length) then
 bif listB (p1.getD p4.toNat ((0 : Int), ([], ((0 : Int), ((0 : Int), (0 : Int)))))) then
 F312.l1_1_1_1_1_1_1_1_0_1_0_0_1_1_0_0_1_1_1_0 n (F312.k_l1_1_1_1_1_1_1_1_0_1_0 n K [1,1,0,0,1,1,1,0]) p0 p1 (decide (((p13.getD p4.toNat []).length : Int) = 1)) (p13.getD p4.toNat []) p3 p4 (listD (p1.getD p4.toNat ((0 : Int), ([], ((0 : Int), ((0 : Int), (0 : Int))))))) ((listD (p1.getD p4.toNat ((0 : Int), ([], ((0 : Int), ((0 : Int), (0 : Int))))))).length : Int) 0 p5 p6 p7 p8 p9 p10 p11 p12 p13
 else
 none
 else
 none
 else
 bif decide (0 ≤ p4) && decide (p4 < p1.length) then
 bif listB (p1.getD p4.toNat ((0 : Int), ([], ((0 : Int), ((0 : Int), (0 : Int)))))) then
 F312.l1_1_1_1_1_1_1_1_0_1_0_0_1_1_0_0_1_1_1_0 n (F312.k_l1_1_1_1_1_1_1_1_0_1_0 n K [1,1,0,0,1,1,1,0]) p0 p1 false (p13.getD p4.toNat []) p3 p4 (listD (p1.getD p4.toNat ((0 : Int), ([], ((0 : Int), ((0 : Int), (0 : Int))))))) ((listD (p1.getD p4.toNat ((0 : Int), ([], ((0 : Int), ((0 : Int), (0 : Int))))))).length : Int) 0 p5 p6 p7 p8 p9 p10 p11 p12 p13
 else
 none
 else
 none
 else
 none
 else
 exitK K 0 ⟨slots 134 [(5, .pb 0 0), (7, .v (.sl (.sl (.int .i64))) p0), (9, .v (.sl DomT) p1), (11, .v .bool p2)], [.box (bC p5 p6 p7 p8 p9 p10 p11 p12)]⟩ := by kernel_rfl
theorem F312.l1_1_1_1_1_1_1_1_0_1_0_0_1_1_0_0_1_1_1_0_eq (n : Nat) (K : Conts) (p0 : List (List Int)) (p1 : List Dom) (p2 : Bool) (p3 : List Int) (p4 p5 : Int) (p6 : List Int) (p7 p8 p9 : Int) (p10 p11 p12 p13 p14 : List Int) (p15 : Int) (p16 p17 : List (List Int)) : F312.l1_1_1_1_1_1_1_1_0_1_0_0_1_1_0_0_1_1_1_0 (n + 1) K p0 p1 p2 p3 p4 p5 p6 p7 p8 p9 p10 p11 p12 p13 p14 p15 p16 p17 =
 bif decide (p8 < p7) then
 bif decide (0 ≤ p8) && decide (p8 < p6.length) then
 bif !(containsL p3 (p6.getD p8.toNat (0 : Int))) then
 K.ret ⟨slots 134 [(4, .v .bool false)], []⟩
 else
 F312.l1_1_1_1_1_1_1_1_0_1_0_0_1_1_0_0_1_1_1_0 n K p0 p1 p2 p3 p4 p5 p6 p7 (IntKind.i64.wrap (p8 + 1)) p9 p10 p11 p12 p13 p14 p15 p16 p17
 else
 none
 else
 exitK K 2 ⟨slots 134 [(5, .pb 0 0), (7, .v (.sl (.sl (.int .i64))) p0), (9, .v (.sl DomT) p1), (11, .v .bool p2), (60, .own 1), (61, .v (.int .i64) p4), (62, .v (.int .i64) p5)], [.box (bC p9 p10 p11 p12 p13 p14 p15 p16), .frz (.sl (.int .i64)) p17]⟩ := by kernel_rfl
theorem F312.c0 (k : Nat) (p0 : List (List Int)) (p1 : List Dom) (p2 : Bool) (p3 : Int) (p4 p5 p6 p7 p8 : List Int) (p9 : Int) (p10 : List (List Int)) : exitK (F312.kt k [1,1,1,1,1,1,1,1,0,1,0]) 0 ⟨slots 134 [(5, .pb 0 0), (7, .v (.sl (.sl (.int .i64))) p0), (9, .v (.sl DomT) p1), (11, .v .bool p2)], [.box (bC p3 p4 p5 p6 p7 p8 p9 p10)]⟩ =
 F312.l1_1_1_1_1_1_1_1_1_0_1_0 k (F312.kt k [1,1,1,1,1,1,1,1,1,0,1,0]) p0 p1 p2 p0 (p0.length : Int) 0 p3 p4 p5 p6 p7 p8 p9 p10 := by kernel_rfl
theorem F312.c2 (n : Nat) (K : Conts) (p0 : List (List Int)) (p1 : List Dom) (p2 : Bool) (p3 p4 p5 : Int) (p6 p7 p8 p9 p10 : List Int) (p11 : Int) (p12 p13 : List (List Int)) : exitK (F312.k_l1_1_1_1_1_1_1_1_0_1_0 n K [1,1,0,0,1,1,1,0]) 2 ⟨slots 134 [(5, .pb 0 0), (7, .v (.sl (.sl (.int .i64))) p0), (9, .v (.sl DomT) p1), (11, .v .bool p2), (60, .own 1), (61, .v (.int .i64) p3), (62, .v (.int .i64) p4)], [.box (bC p5 p6 p7 p8 p9 p10 p11 p12), .frz (.sl (.int .i64)) p13]⟩ =
 F312.l1_1_1_1_1_1_1_1_0_1_0 n K p0 p1 p2 p3 (IntKind.i64.wrap (p4 + 1)) p5 p6 p7 p8 p9 p10 p11 p12 p13 := by kernel_rfl
theorem F312.l1_1_1_1_1_1_1_1_1_0_1_0_eq (n : Nat) (K : Conts) (p0 : List (List Int)) (p1 : List Dom) (p2 : Bool) (p3 : List (List Int)) (p4 p5 p6 : Int) (p7 p8 p9 p10 p11 : List Int) (p12 : Int) (p13 : List (List Int)) : F312.l1_1_1_1_1_1_1_1_1_0_1_0 (n + 1) K p0 p1 p2 p3 p4 p5 p6 p7 p8 p9 p10 p11 p12 p13 =
 bif decide (p5 < p4) then
 bif decide (0 ≤ p5) && decide (p5 < p3.length) then
 F312.l1_1_1_1_1_1_1_1_1_0_1_0_0_1_1_0_0_1_1_0 n (F312.k_l1_1_1_1_1_1_1_1_1_0_1_0 n K [1,1,0,0,1,1,0]) p0 p1 p2 p3 p4 p5 (p3.getD p5.toNat []) ((p3.getD p5.toNat []).length : Int) 0 p6 p7 p8 p9 p10 p11 p12 p13
 else
 none
 else
 exitK K 4 ⟨slots 134 [(5, .pb 0 0), (7, .v (.sl (.sl (.int .i64))) p0), (9, .v (.sl DomT) p1), (11, .v .bool p2)], [.box (bC p6 p7 p8 p9 p10 p11 p12 p13)]⟩ := by kernel_rfl
theorem F312.l1_1_1_1_1_1_1_1_1_0_1_0_0_1_1_0_0_1_1_0_eq (n : Nat) (K : Conts) (p0 : List (List Int)) (p1 : List Dom) (p2 : Bool) (p3 : List (List Int)) (p4 p5 : Int) (p6 : List Int) (p7 p8 p9 : Int) (p10 p11 p12 p13 p14 : List Int) (p15 : Int) (p16 : List (List Int)) : F312.l1_1_1_1_1_1_1_1_1_0_1_0_0_1_1_0_0_1_1_0 (n + 1) K p0 p1 p2 p3 p4 p5 p6 p7 p8 p9 p10 p11 p12 p13 p14 p15 p16 =
 bif decide (p8 < p7) then
 bif decide (0 ≤ p8) && decide (p8 < p6.length) then
 bif decide (0 ≤ p8) && decide (p8 < p1.length) then
 bif nearB ((p1.getD p8.toNat ((0 : Int), ([], ((0 : Int), ((0 : Int), (0 : Int)))))).1) then
 bif !(hasD (p1.getD p8.toNat ((0 : Int), ([], ((0 : Int), ((0 : Int), (0 : Int)))))) (p6.getD p8.toNat (0 : Int))) then
 K.ret ⟨slots 134 [(4, .v .bool false)], []⟩
 else
 F312.l1_1_1_1_1_1_1_1_1_0_1_0_0_1_1_0_0_1_1_0 n K p0 p1 p2 p3 p4 p5 p6 p7 (IntKind.i64.wrap (p8 + 1)) p9 p10 p11 p12 p13 p14 p15 p16
 else
 none
 else
 none
 else
 none
 else
 exitK K 6 ⟨slots 134 [(5, .pb 0 0), (7, .v (.sl (.sl (.int .i64))) p0), (9, .v (.sl DomT) p1), (11, .v .bool p2), (89, .v (.sl (.sl (.int .i64))) p3), (90, .v (.int .i64) p4), (91, .v (.int .i64) p5)], [.box (bC p9 p10 p11 p12 p13 p14 p15 p16)]⟩ := by kernel_rfl
theorem F312.c4 (k : Nat) (p0 : List (List Int)) (p1 : List Dom) (p2 : Bool) (p3 : Int) (p4 p5 p6 p7 p8 : List Int) (p9 : Int) (p10 : List (List Int)) : exitK (F312.kt k [1,1,1,1,1,1,1,1,1,0,1,0]) 4 ⟨slots 134 [(5, .pb 0 0), (7, .v (.sl (.sl (.int .i64))) p0), (9, .v (.sl DomT) p1), (11, .v .bool p2)], [.box (bC p3 p4 p5 p6 p7 p8 p9 p10)]⟩ =
 bif p2 then
 bif !(decide ((p0.length : Int) = 1)) then
 some (.v .bool false)
 else
 bif linFB (p3, (p4, (p5, (p6, (p7, (p8, (p9, p10))))))) p1 then
 bif (linF (p3, (p4, (p5, (p6, (p7, (p8, (p9, p10))))))) p1).2 then
 bif Nat.ble ((linF (p3, (p4, (p5, (p6, (p7, (p8, (p9, p10))))))) p1).1).length 1000 && ((linF (p3, (p4, (p5, (p6, (p7, (p8, (p9, p10))))))) p1).1).all listB then
 bif Nat.ble p1.length 1000 && p1.all listB then
 bif Nat.ble (listsL ((linF (p3, (p4, (p5, (p6, (p7, (p8, (p9, p10))))))) p1).1)).length 1000 && lensB (listsL ((linF (p3, (p4, (p5, (p6, (p7, (p8, (p9, p10))))))) p1).1)) then
 some (.v .bool (sameL (listsL ((linF (p3, (p4, (p5, (p6, (p7, (p8, (p9, p10))))))) p1).1)) (listsL p1)))
 else
 none
 else
 none
 else
 none
 else
 some (.v .bool false)
 else
 none
 else
 bif linFB (p3, (p4, (p5, (p6, (p7, (p8, (p9, p10))))))) p1 then
 bif (linF (p3, (p4, (p5, (p6, (p7, (p8, (p9, p10))))))) p1).2 then
 bif Nat.ble ((linF (p3, (p4, (p5, (p6, (p7, (p8, (p9, p10))))))) p1).1).length 1000 && ((linF (p3, (p4, (p5, (p6, (p7, (p8, (p9, p10))))))) p1).1).all listB then
 bif Nat.ble p1.length 1000 && p1.all listB then
 bif Nat.ble (listsL ((linF (p3, (p4, (p5, (p6, (p7, (p8, (p9, p10))))))) p1).1)).length 1000 && lensB (listsL ((linF (p3, (p4, (p5, (p6, (p7, (p8, (p9, p10))))))) p1).1)) then
 some (.v .bool (sameL (listsL ((linF (p3, (p4, (p5, (p6, (p7, (p8, (p9, p10))))))) p1).1)) (listsL p1)))
 else
 none
 else
 none
 else
 none
 else
 some (.v .bool false)
 else
 none := by kernel_rfl
theorem F312.c6 (n : Nat) (K : Conts) (p0 : List (List Int)) (p1 : List Dom) (p2 : Bool) (p3 : List (List Int)) (p4 p5 p6 : Int) (p7 p8 p9 p10 p11 : List Int) (p12 : Int) (p13 : List (List Int)) : exitK (F312.k_l1_1_1_1_1_1_1_1_1_0_1_0 n K [1,1,0,0,1,1,0]) 6 ⟨slots 134 [(5, .pb 0 0), (7, .v (.sl (.sl (.int .i64))) p0), (9, .v (.sl DomT) p1), (11, .v .bool p2), (89, .v (.sl (.sl (.int .i64))) p3), (90, .v (.int .i64) p4), (91, .v (.int .i64) p5)], [.box (bC p6 p7 p8 p9 p10 p11 p12 p13)]⟩ =
 F312.l1_1_1_1_1_1_1_1_1_0_1_0 n K p0 p1 p2 p3 p4 (IntKind.i64.wrap (p5 + 1)) p6 p7 p8 p9 p10 p11 p12 p13 := by kernel_rfl
end Go.Proofs.YtnojoaghcbljfaaGreatDoor.Ev
