/-
The functions as the evaluator runs them: printed by a program of mine, each equation by kernel_rfl.
Conditions: none.
-/
import Derived.Test.YtdihbphkbdelbaaGreatDoorAa
import Derived.Test.YtdihbphkbdelbaaGreatDoorEvR
set_option linter.unusedVariables false
set_option linter.unusedSimpArgs false
set_option maxRecDepth 100000
namespace Go.Proofs.YtdihbphkbdelbaaGreatDoor.Ev
open Go
noncomputable def F380.fn : Func := Go.Proofs.Tryz.f71
noncomputable def F380.E : Env := ⟨tt, [], [(1, [0]), (2, [0, 4]), (3, [0])], [], some [2], inv, []⟩
theorem F380.start_eq (k : Nat) (a0 : List Dom) : callW F380.E true F380.fn k [.v (.sl DomT) a0] =
 bif !(decide (a0.length = 0)) then
 bif decide ((([] : (List Dom)).length + a0.length) * 56 ≤ LIM) then
 some (.nw 88 DomT ([] ++ a0))
 else
 none
 else
 none := by kernel_rfl
noncomputable def F362.fn : Func := Go.Proofs.Tryz.f200
noncomputable def F362.E : Env := ⟨tt, [], [(1, [1])], [], some [2], inv, []⟩
theorem F362.start_eq (k : Nat) (a0 : Dom) : callW F362.E false F362.fn k [.agg [.v (.int .i64) a0.1, .v (.sl (.int .u64)) a0.2.1, .v (.int .i64) a0.2.2.1, .v (.int .i64) a0.2.2.2.1, .v (.int .i64) a0.2.2.2.2]] =
 some (.v (.int .i64) a0.2.2.1) := by kernel_rfl
noncomputable def F386.fn : Func := Go.Proofs.Tryz.f199
noncomputable def F386.E : Env := ⟨tt, [], [(1, [1])], [], some [2], inv, []⟩
theorem F386.start_eq (k : Nat) (a0 : Dom) : callW F386.E false F386.fn k [.agg [.v (.int .i64) a0.1, .v (.sl (.int .u64)) a0.2.1, .v (.int .i64) a0.2.2.1, .v (.int .i64) a0.2.2.2.1, .v (.int .i64) a0.2.2.2.2]] =
 some (.v (.int .i64) a0.2.2.2.1) := by kernel_rfl
noncomputable def F690.fn : Func := Go.Proofs.Tryz.f190
noncomputable def F690.E : Env := ⟨tt, [(199, h_maxD), (200, h_minD)], [(1, [1, 2, 3])], [], some [6, 7], inv, []⟩
theorem F690.start_eq (k : Nat) (a0 : Con) (a1 : List Dom) (a2 : Int) : callW F690.E false F690.fn k [.agg (bC a0.1 a0.2.1 a0.2.2.1 a0.2.2.2.1 a0.2.2.2.2.1 a0.2.2.2.2.2.1 a0.2.2.2.2.2.2.1 a0.2.2.2.2.2.2.2), .v (.sl DomT) a1, .v (.int .i64) a2] =
 bif decide (0 ≤ a2) && decide (a2 < a1.length) then
 bif decide (0 ≤ a2) && decide (a2 < a1.length) then
 bif decide (0 ≤ a2) && decide (a2 < a0.2.2.2.1.length) then
 some (.tup [.v (.int .i64) (maxD (a1.getD a2.toNat ((0 : Int), ([], ((0 : Int), ((0 : Int), (0 : Int))))))), .v (.int .i64) (IntKind.i64.wrap ((minD (a1.getD a2.toNat ((0 : Int), ([], ((0 : Int), ((0 : Int), (0 : Int))))))) + (a0.2.2.2.1.getD a2.toNat (0 : Int))))])
 else
 none
 else
 none
 else
 none := by kernel_rfl
noncomputable def F673.fn : Func := Go.Proofs.Tryz.f173
noncomputable def F673.body : Code := bodyOf F673.fn
noncomputable def F673.E : Env := ⟨tt, [(190, h_sureD)], [(1, [1, 2, 3, 4]), (2, [1, 2, 3, 4, 9]), (3, [1, 2, 3, 4, 9, 14, 15]), (4, [1, 2, 3, 4, 9, 14, 15, 16]), (5, [1, 2, 3, 4, 9, 10, 14, 15]), (6, [1, 2, 3, 4, 9, 10, 11, 12, 14, 15]), (7, [1, 2, 3, 4, 9, 10, 14, 15, 37]), (8, [1, 2, 3, 4, 9, 14, 15]), (9, [9])], [(0, [9]), (1, [1, 2, 3, 4, 9, 14, 15])], some [8], inv, []⟩
noncomputable def F673.K0 : Conts := { nrm := endW F673.E false F673.fn.results.toList, ret := endW F673.E false F673.fn.results.toList, ex := [] }
noncomputable def F673.kt (k : Nat) (q : List Nat) : Conts := contAt F673.E k F673.body F673.K0 q
noncomputable def F673.l1_1_0_1_0 (n : Nat) (K : Conts) (p0 : List Dom) (p1 p2 p3 p4 p5 p6 : Int) (p7 p8 p9 p10 p11 : List Int) (p12 : Int) (p13 : List (List Int)) : Option AV := loopF F673.E n (inLoop (subC [1,1,0,1,0] F673.body)) K ⟨slots 47 [(1, .v (.sl DomT) p0), (2, .v (.int .i64) p1), (3, .v (.int .i64) p2), (4, .pb 0 0), (9, .v (.int .i64) p3), (14, .v (.int .i64) p4), (15, .v (.int .i64) p5)], [.box (bC p6 p7 p8 p9 p10 p11 p12 p13)]⟩
theorem F673.start_eq (k : Nat) (a0 : Con) (a1 : List Dom) (a2 a3 : Int) : callW F673.E false F673.fn k [.agg (bC a0.1 a0.2.1 a0.2.2.1 a0.2.2.2.1 a0.2.2.2.2.1 a0.2.2.2.2.2.1 a0.2.2.2.2.2.2.1 a0.2.2.2.2.2.2.2), .v (.sl DomT) a1, .v (.int .i64) a2, .v (.int .i64) a3] =
 F673.l1_1_0_1_0 k (F673.kt k [1,1,0,1,0]) a1 a2 a3 0 (a1.length : Int) 0 a0.1 a0.2.1 a0.2.2.1 a0.2.2.2.1 a0.2.2.2.2.1 a0.2.2.2.2.2.1 a0.2.2.2.2.2.2.1 a0.2.2.2.2.2.2.2 := by kernel_rfl
theorem F673.l1_1_0_1_0_eq (n : Nat) (K : Conts) (p0 : List Dom) (p1 p2 p3 p4 p5 p6 : Int) (p7 p8 p9 p10 p11 : List Int) (p12 : Int) (p13 : List (List Int)) : F673.l1_1_0_1_0 (n + 1) K p0 p1 p2 p3 p4 p5 p6 p7 p8 p9 p10 p11 p12 p13 =
 bif decide (p5 < p4) then
 bif cumB (p6, (p7, (p8, (p9, (p10, (p11, (p12, p13))))))) p0 && inI p0 p5 then
 bif !(decide (p5 = p1)) then
 bif decide ((maxD (p0.getD p5.toNat dom0)) ≤ p2) then
 bif decide (p2 < (sureE (p6, (p7, (p8, (p9, (p10, (p11, (p12, p13))))))) p0 p5)) then
 bif decide (0 ≤ p5) && decide (p5 < p10.length) then
 F673.l1_1_0_1_0 n K p0 p1 p2 (IntKind.i64.wrap (p3 + (p10.getD p5.toNat (0 : Int)))) p4 (IntKind.i64.wrap (p5 + 1)) p6 p7 p8 p9 p10 p11 p12 p13
 else
 none
 else
 F673.l1_1_0_1_0 n K p0 p1 p2 p3 p4 (IntKind.i64.wrap (p5 + 1)) p6 p7 p8 p9 p10 p11 p12 p13
 else
 F673.l1_1_0_1_0 n K p0 p1 p2 p3 p4 (IntKind.i64.wrap (p5 + 1)) p6 p7 p8 p9 p10 p11 p12 p13
 else
 F673.l1_1_0_1_0 n K p0 p1 p2 p3 p4 (IntKind.i64.wrap (p5 + 1)) p6 p7 p8 p9 p10 p11 p12 p13
 else
 none
 else
 exitK K 0 ⟨slots 47 [(9, .v (.int .i64) p3)], []⟩ := by kernel_rfl
theorem F673.c0 (k : Nat) (p0 : Int) : exitK (F673.kt k [1,1,0,1,0]) 0 ⟨slots 47 [(9, .v (.int .i64) p0)], []⟩ =
 some (.v (.int .i64) p0) := by kernel_rfl
noncomputable def F671.fn : Func := Go.Proofs.Tryz.f171
noncomputable def F671.body : Code := bodyOf F671.fn
noncomputable def F671.E : Env := ⟨tt, [(190, h_sureD)], [(1, [1, 2, 3, 4]), (2, [1, 2, 3, 4, 9]), (3, [1, 2, 3, 4, 9, 16, 17]), (4, [1, 2, 3, 4, 9, 16, 17, 18]), (5, [1, 2, 3, 4, 9, 10, 16, 17]), (6, [1, 2, 3, 4, 9, 10, 11, 12, 16, 17]), (7, [1, 2, 3, 4, 9, 11, 16, 17, 50]), (8, [1, 2, 3, 4, 9, 16, 17]), (9, [9])], [(0, [9]), (1, [1, 2, 3, 4, 9, 16, 17])], some [8], inv, []⟩
noncomputable def F671.K0 : Conts := { nrm := endW F671.E false F671.fn.results.toList, ret := endW F671.E false F671.fn.results.toList, ex := [] }
noncomputable def F671.kt (k : Nat) (q : List Nat) : Conts := contAt F671.E k F671.body F671.K0 q
noncomputable def F671.l1_1_0_1_0 (n : Nat) (K : Conts) (p0 : List Dom) (p1 p2 p3 p4 p5 : Int) (p6 p7 p8 p9 p10 : List Int) (p11 : Int) (p12 : List (List Int)) (p13 : List Int) : Option AV := loopF F671.E n (inLoop (subC [1,1,0,1,0] F671.body)) K ⟨slots 57 [(1, .v (.sl DomT) p0), (2, .v (.int .i64) p1), (3, .v (.int .i64) p2), (4, .pb 0 0), (9, .own 1), (16, .v (.int .i64) p3), (17, .v (.int .i64) p4)], [.box (bC p5 p6 p7 p8 p9 p10 p11 p12), .row 3 (.int .i64) p13]⟩
theorem F671.start_eq (k : Nat) (a0 : Con) (a1 : List Dom) (a2 a3 : Int) : callW F671.E false F671.fn k [.agg (bC a0.1 a0.2.1 a0.2.2.1 a0.2.2.2.1 a0.2.2.2.2.1 a0.2.2.2.2.2.1 a0.2.2.2.2.2.2.1 a0.2.2.2.2.2.2.2), .v (.sl DomT) a1, .v (.int .i64) a2, .v (.int .i64) a3] =
 F671.l1_1_0_1_0 k (F671.kt k [1,1,0,1,0]) a1 a2 a3 (a1.length : Int) 0 a0.1 a0.2.1 a0.2.2.1 a0.2.2.2.1 a0.2.2.2.2.1 a0.2.2.2.2.2.1 a0.2.2.2.2.2.2.1 a0.2.2.2.2.2.2.2 [a3] := by kernel_rfl
theorem F671.l1_1_0_1_0_eq (n : Nat) (K : Conts) (p0 : List Dom) (p1 p2 p3 p4 p5 : Int) (p6 p7 p8 p9 p10 : List Int) (p11 : Int) (p12 : List (List Int)) (p13 : List Int) : F671.l1_1_0_1_0 (n + 1) K p0 p1 p2 p3 p4 p5 p6 p7 p8 p9 p10 p11 p12 p13 =
 bif decide (p4 < p3) then
 bif cumB (p5, (p6, (p7, (p8, (p9, (p10, (p11, p12))))))) p0 && inI p0 p4 then
 bif !(decide (p4 = p1)) then
 bif decide ((maxD (p0.getD p4.toNat dom0)) < (sureE (p5, (p6, (p7, (p8, (p9, (p10, (p11, p12))))))) p0 p4)) then
 bif decide ((maxD (p0.getD p4.toNat dom0)) > p2) then
 bif decide (0 ≤ p1) && decide (p1 < p8.length) then
 bif decide ((maxD (p0.getD p4.toNat dom0)) < (IntKind.i64.wrap (p2 + (p8.getD p1.toNat (0 : Int))))) then
 bif decide ((p13.length + [maxD (p0.getD p4.toNat dom0)].length) * 8 ≤ LIM) then
 F671.l1_1_0_1_0 n K p0 p1 p2 p3 (IntKind.i64.wrap (p4 + 1)) p5 p6 p7 p8 p9 p10 p11 p12 (p13 ++ [maxD (p0.getD p4.toNat dom0)])
 else
 none
 else
 F671.l1_1_0_1_0 n K p0 p1 p2 p3 (IntKind.i64.wrap (p4 + 1)) p5 p6 p7 p8 p9 p10 p11 p12 p13
 else
 none
 else
 F671.l1_1_0_1_0 n K p0 p1 p2 p3 (IntKind.i64.wrap (p4 + 1)) p5 p6 p7 p8 p9 p10 p11 p12 p13
 else
 F671.l1_1_0_1_0 n K p0 p1 p2 p3 (IntKind.i64.wrap (p4 + 1)) p5 p6 p7 p8 p9 p10 p11 p12 p13
 else
 F671.l1_1_0_1_0 n K p0 p1 p2 p3 (IntKind.i64.wrap (p4 + 1)) p5 p6 p7 p8 p9 p10 p11 p12 p13
 else
 none
 else
 exitK K 0 ⟨slots 57 [(9, .own 0)], [.row 3 (.int .i64) p13]⟩ := by kernel_rfl
theorem F671.c0 (k : Nat) (p0 : List Int) : exitK (F671.kt k [1,1,0,1,0]) 0 ⟨slots 57 [(9, .own 0)], [.row 3 (.int .i64) p0]⟩ =
 some (.v (.sl (.int .i64)) p0) := by kernel_rfl
noncomputable def F672.fn : Func := Go.Proofs.Tryz.f172
noncomputable def F672.E : Env := ⟨tt, [(173, h_loadD)], [(1, [0, 1, 2, 3])], [], some [5], inv, []⟩
theorem F672.start_eq (k : Nat) (a0 : Int) (z : Con) (y : List Dom) (x : Int) : callW F672.E false F672.fn k [.v (.int .i64) a0, .rp (bC z.1 z.2.1 z.2.2.1 z.2.2.2.1 z.2.2.2.2.1 z.2.2.2.2.2.1 z.2.2.2.2.2.2.1 z.2.2.2.2.2.2.2), .rp [.v (.sl DomT) y], .rp [.v (.int .i64) x]] =
 bif cumB z y then
 bif decide (0 ≤ x) && decide (x < z.2.2.2.2.1.length) then
 some (.v .bool (decide ((IntKind.i64.wrap ((loadD z y x a0) + (z.2.2.2.2.1.getD x.toNat (0 : Int)))) > z.2.2.2.2.2.2.1)))
 else
 none
 else
 none := by kernel_rfl
noncomputable def F529.fn : Func := Go.Proofs.Tryz.f29
noncomputable def F529.body : Code := bodyOf F529.fn
noncomputable def F529.E : Env := ⟨tt, [(70, h_fitsD), (71, h_cloneD)], [(1, [1, 2]), (2, [1, 2, 12]), (3, [1, 2]), (4, [2, 6]), (5, [2, 6, 7, 8]), (6, [2, 6, 7, 22]), (7, [2, 6, 7]), (8, [2, 6, 24])], [(0, [4, 5]), (1, [2, 6])], some [4, 5], inv, [(72, h_pass)]⟩
noncomputable def F529.K0 : Conts := { nrm := endW F529.E false F529.fn.results.toList, ret := endW F529.E false F529.fn.results.toList, ex := [] }
noncomputable def F529.kt (k : Nat) (q : List Nat) : Conts := contAt F529.E k F529.body F529.K0 q
noncomputable def F529.l1_1_1_0 (n : Nat) (K : Conts) (p0 : Int) (p1 p2 p3 p4 p5 : List Int) (p6 : Int) (p7 : List (List Int)) (p8 : List Dom) : Option AV := loopF F529.E n (inLoop (subC [1,1,1,0] F529.body)) K ⟨slots 26 [(2, .pb 0 0), (6, .own 1)], [.box (bC p0 p1 p2 p3 p4 p5 p6 p7), .row 88 DomT p8]⟩
theorem F529.start_eq (k : Nat) (a0 : Con) (a1 : List Dom) : callW F529.E false F529.fn k [.agg (bC a0.1 a0.2.1 a0.2.2.1 a0.2.2.2.1 a0.2.2.2.2.1 a0.2.2.2.2.2.1 a0.2.2.2.2.2.2.1 a0.2.2.2.2.2.2.2), .v (.sl DomT) a1] =
 bif fitsB a0 19 19 then
 bif !(fitsD a0 a1 19 19) then
 some (.tup [.nl, .v .bool false])
 else
 bif cloneB a1 then
 F529.l1_1_1_0 k (F529.kt k [1,1,1,0]) a0.1 a0.2.1 a0.2.2.1 a0.2.2.2.1 a0.2.2.2.2.1 a0.2.2.2.2.2.1 a0.2.2.2.2.2.2.1 a0.2.2.2.2.2.2.2 a1
 else
 none
 else
 none := by kernel_rfl
theorem F529.l1_1_1_0_eq (n : Nat) (K : Conts) (p0 : Int) (p1 p2 p3 p4 p5 : List Int) (p6 : Int) (p7 : List (List Int)) (p8 : List Dom) : F529.l1_1_1_0 (n + 1) K p0 p1 p2 p3 p4 p5 p6 p7 p8 =
 bif passB (p0, (p1, (p2, (p3, (p4, (p5, (p6, p7))))))) p8 then
 bif !((passD (p0, (p1, (p2, (p3, (p4, (p5, (p6, p7))))))) p8).2.2) then
 K.ret ⟨slots 26 [(4, .nl), (5, .v .bool false)], []⟩
 else
 bif !((passD (p0, (p1, (p2, (p3, (p4, (p5, (p6, p7))))))) p8).2.1) then
 K.ret ⟨slots 26 [(4, .own 0), (5, .v .bool true)], [.row 88 DomT ((passD (p0, (p1, (p2, (p3, (p4, (p5, (p6, p7))))))) p8).1)]⟩
 else
 F529.l1_1_1_0 n K p0 p1 p2 p3 p4 p5 p6 p7 ((passD (p0, (p1, (p2, (p3, (p4, (p5, (p6, p7))))))) p8).1)
 else
 none := by kernel_rfl
theorem F529.c0 (k : Nat) : (F529.kt k [1,1,1,0]).ret ⟨slots 26 [(4, .nl), (5, .v .bool false)], []⟩ =
 some (.tup [.nl, .v .bool false]) := by kernel_rfl
theorem F529.c1 (k : Nat) (p0 : List Dom) : (F529.kt k [1,1,1,0]).ret ⟨slots 26 [(4, .own 0), (5, .v .bool true)], [.row 88 DomT p0]⟩ =
 some (.tup [.v (.sl DomT) p0, .v .bool true]) := by kernel_rfl
noncomputable def F572.fn : Func := Go.Proofs.Tryz.f72
noncomputable def F572.body : Code := bodyOf F572.fn
noncomputable def F572.E : Env := ⟨tt, [(41, h_listD), (73, h_ofD), (130, h_sizeD), (131, h_mayD)], [(1, [1, 2]), (2, [1, 2, 6]), (3, [1, 2, 6, 12, 13]), (4, [1, 2, 6, 12, 13, 14]), (5, [1, 2, 6, 7, 12, 13]), (6, [1, 2, 6, 7, 8, 12, 13]), (7, [1, 2, 6, 7, 8, 12, 13, 20, 21, 22, 30008]), (8, [1, 2, 6, 7, 8, 12, 13, 20, 21, 22, 23]), (9, [1, 2, 6, 7, 8, 10, 12, 13, 20, 21, 22]), (10, [1, 2, 6, 7, 8, 10, 12, 13, 20, 21, 22, 30]), (11, [1, 2, 6, 7, 8, 12, 13, 20, 21, 22]), (12, [1, 2, 6, 7, 8, 12, 13]), (13, [1, 2, 6, 7, 8, 12, 13, 38]), (14, [1, 2, 6, 7, 8, 12, 13]), (15, [1, 2, 6, 7, 8, 12, 13, 46]), (16, [1, 2, 12, 13]), (17, [1, 2, 6, 12, 13]), (18, [6])], [(0, [6]), (1, [1, 2, 6, 12, 13]), (2, [1, 2, 6, 7, 8, 12, 13]), (3, [1, 2, 6, 7, 8, 12, 13, 20, 21, 22])], some [4, 5], inv, []⟩
noncomputable def F572.kt (k : Nat) (K : Conts) (q : List Nat) : Conts := contAt F572.E k F572.body K q
noncomputable def F572.l1_1_0_1_0 (n : Nat) (K : Conts) (p0 : Bool) (p1 p2 : Int) (p3 p4 : Nat → Prop) (p5 : World) (p6 : Value) (p7 : List Dom) (p8 : Int) (p9 p10 p11 p12 p13 : List Int) (p14 : Int) (p15 : List (List Int)) : Option AV := loopF F572.E n (inLoop (subC [1,1,0,1,0] F572.body)) K ⟨slots 57 [(1, .own 1), (2, .pb 2 0), (6, .v .bool p0), (12, .v (.int .i64) p1), (13, .v (.int .i64) p2)], [.gst p3 p4 p5 p6, .row 88 DomT p7, .box (bC p8 p9 p10 p11 p12 p13 p14 p15)]⟩
noncomputable def F572.k_l1_1_0_1_0 (n : Nat) (K : Conts) (q : List Nat) : Conts := contAt F572.E n (inLoop (subC [1, 1, 0, 1, 0] F572.body)) (loopK F572.E n (inLoop (subC [1, 1, 0, 1, 0] F572.body)) K) q
noncomputable def F572.l1_1_0_1_0_0_1_1_0_0_1_1_0_1_0 (n : Nat) (K : Conts) (p0 : Bool) (p1 p2 p3 : Int) (p4 : List Int) (p5 p6 : Int) (p7 p8 : Nat → Prop) (p9 : World) (p10 : Value) (p11 : List Dom) (p12 : Int) (p13 p14 p15 p16 p17 : List Int) (p18 : Int) (p19 : List (List Int)) (p20 : List Int) : Option AV := loopF F572.E n (inLoop (subC [1,1,0,1,0,0,1,1,0,0,1,1,0,1,0] F572.body)) K ⟨slots 57 [(1, .own 1), (2, .pb 2 0), (6, .v .bool p0), (7, .v (.int .i64) p1), (8, .own 3), (12, .v (.int .i64) p2), (13, .v (.int .i64) p3), (20, .v (.sl (.int .i64)) p4), (21, .v (.int .i64) p5), (22, .v (.int .i64) p6)], [.gst p7 p8 p9 p10, .row 88 DomT p11, .box (bC p12 p13 p14 p15 p16 p17 p18 p19), .row 3 (.int .i64) p20]⟩
theorem F572.start_eq (k : Nat) (K : Conts) (a0 : Con) (xs : List Dom) (F O : Nat → Prop) (W : World) (V : Value) : runC F572.E (loopF F572.E k) F572.body K (startM F572.fn 1 [.agg (bC a0.1 a0.2.1 a0.2.2.1 a0.2.2.2.1 a0.2.2.2.2.1 a0.2.2.2.2.2.1 a0.2.2.2.2.2.2.1 a0.2.2.2.2.2.2.2), .un] 88 DomT xs F O W V) =
 F572.l1_1_0_1_0 k (F572.kt k K [1,1,0,1,0]) false (xs.length : Int) 0 F O W V xs a0.1 a0.2.1 a0.2.2.1 a0.2.2.2.1 a0.2.2.2.2.1 a0.2.2.2.2.2.1 a0.2.2.2.2.2.2.1 a0.2.2.2.2.2.2.2 := by kernel_rfl
theorem F572.l1_1_0_1_0_eq (n : Nat) (K : Conts) (p0 : Bool) (p1 p2 : Int) (p3 p4 : Nat → Prop) (p5 : World) (p6 : Value) (p7 : List Dom) (p8 : Int) (p9 p10 p11 p12 p13 : List Int) (p14 : Int) (p15 : List (List Int)) : F572.l1_1_0_1_0 (n + 1) K p0 p1 p2 p3 p4 p5 p6 p7 p8 p9 p10 p11 p12 p13 p14 p15 =
 bif decide (p2 < p1) then
 bif decide (0 ≤ p2) && decide (p2 < p7.length) then
 bif listB (p7.getD p2.toNat ((0 : Int), ([], ((0 : Int), ((0 : Int), (0 : Int)))))) then
 F572.l1_1_0_1_0_0_1_1_0_0_1_1_0_1_0 n (F572.k_l1_1_0_1_0 n K [1,1,0,0,1,1,0,1,0]) p0 p2 p1 p2 (listD (p7.getD p2.toNat ((0 : Int), ([], ((0 : Int), ((0 : Int), (0 : Int))))))) ((listD (p7.getD p2.toNat ((0 : Int), ([], ((0 : Int), ((0 : Int), (0 : Int))))))).length : Int) 0 p3 p4 p5 p6 p7 p8 p9 p10 p11 p12 p13 p14 p15 []
 else
 none
 else
 none
 else
 exitK K 0 ⟨slots 57 [(6, .v .bool p0)], [.gst p3 p4 p5 p6, .row 88 DomT p7]⟩ := by kernel_rfl
theorem F572.l1_1_0_1_0_0_1_1_0_0_1_1_0_1_0_eq (n : Nat) (K : Conts) (p0 : Bool) (p1 p2 p3 : Int) (p4 : List Int) (p5 p6 : Int) (p7 p8 : Nat → Prop) (p9 : World) (p10 : Value) (p11 : List Dom) (p12 : Int) (p13 p14 p15 p16 p17 : List Int) (p18 : Int) (p19 : List (List Int)) (p20 : List Int) : F572.l1_1_0_1_0_0_1_1_0_0_1_1_0_1_0 (n + 1) K p0 p1 p2 p3 p4 p5 p6 p7 p8 p9 p10 p11 p12 p13 p14 p15 p16 p17 p18 p19 p20 =
 bif decide (p6 < p5) then
 bif decide (0 ≤ p6) && decide (p6 < p4.length) then
 bif mayB (p12, (p13, (p14, (p15, (p16, (p17, (p18, p19))))))) p11 p1 (p4.getD p6.toNat (0 : Int)) then
 bif mayD (p12, (p13, (p14, (p15, (p16, (p17, (p18, p19))))))) p11 p1 (p4.getD p6.toNat (0 : Int)) then
 bif decide ((p20.length + [p4.getD p6.toNat (0 : Int)].length) * 8 ≤ LIM) then
 F572.l1_1_0_1_0_0_1_1_0_0_1_1_0_1_0 n K p0 p1 p2 p3 p4 p5 (IntKind.i64.wrap (p6 + 1)) p7 p8 p9 p10 p11 p12 p13 p14 p15 p16 p17 p18 p19 (p20 ++ [p4.getD p6.toNat (0 : Int)])
 else
 none
 else
 F572.l1_1_0_1_0_0_1_1_0_0_1_1_0_1_0 n K p0 p1 p2 p3 p4 p5 (IntKind.i64.wrap (p6 + 1)) p7 p8 p9 p10 p11 p12 p13 p14 p15 p16 p17 p18 p19 p20
 else
 none
 else
 none
 else
 exitK K 2 ⟨slots 57 [(1, .own 1), (2, .pb 2 0), (6, .v .bool p0), (7, .v (.int .i64) p1), (8, .own 3), (12, .v (.int .i64) p2), (13, .v (.int .i64) p3)], [.gst p7 p8 p9 p10, .row 88 DomT p11, .box (bC p12 p13 p14 p15 p16 p17 p18 p19), .row 3 (.int .i64) p20]⟩ := by kernel_rfl
theorem F572.c0 (k : Nat) (K : Conts) (p0 : Bool) (p1 p2 : Nat → Prop) (p3 : World) (p4 : Value) (p5 : List Dom) : exitK (F572.kt k K [1,1,0,1,0]) 0 ⟨slots 57 [(6, .v .bool p0)], [.gst p1 p2 p3 p4, .row 88 DomT p5]⟩ =
 K.ret ⟨slots 57 [(4, .v .bool p0), (5, .v .bool true)], [.gst p1 p2 p3 p4, .row 88 DomT p5]⟩ := by kernel_rfl
theorem F572.c1 (n : Nat) (K : Conts) (p0 : Bool) (p1 p2 p3 : Int) (p4 p5 : Nat → Prop) (p6 : World) (p7 : Value) (p8 : List Dom) (p9 : Int) (p10 p11 p12 p13 p14 : List Int) (p15 : Int) (p16 : List (List Int)) (p17 : List Int) : exitK (F572.k_l1_1_0_1_0 n K [1,1,0,0,1,1,0,1,0]) 2 ⟨slots 57 [(1, .own 1), (2, .pb 2 0), (6, .v .bool p0), (7, .v (.int .i64) p1), (8, .own 3), (12, .v (.int .i64) p2), (13, .v (.int .i64) p3)], [.gst p4 p5 p6 p7, .row 88 DomT p8, .box (bC p9 p10 p11 p12 p13 p14 p15 p16), .row 3 (.int .i64) p17]⟩ =
 bif decide ((p17.length : Int) = 0) then
 K.ret ⟨slots 57 [(4, .v .bool false), (5, .v .bool false)], [.gst p4 p5 p6 p7, .row 88 DomT p8]⟩
 else
 bif decide (0 ≤ p1) && decide (p1 < p8.length) then
 bif decide ((p17.length : Int) < (sizeD (p8.getD p1.toNat ((0 : Int), ([], ((0 : Int), ((0 : Int), (0 : Int)))))))) then
 bif decide (0 ≤ p1) && decide (p1 < p8.length) then
 F572.l1_1_0_1_0 n K true p2 (IntKind.i64.wrap (p3 + 1)) p4 p5 p6 p7 (p8.set p1.toNat ((ofD p17).1)) p9 p10 p11 p12 p13 p14 p15 p16
 else
 none
 else
 F572.l1_1_0_1_0 n K p0 p2 (IntKind.i64.wrap (p3 + 1)) p4 p5 p6 p7 p8 p9 p10 p11 p12 p13 p14 p15 p16
 else
 none := by kernel_rfl
theorem F572.c2 (k : Nat) (K : Conts) (p0 p1 : Nat → Prop) (p2 : World) (p3 : Value) (p4 : List Dom) : (F572.kt k K [1,1,0,1,0]).ret ⟨slots 57 [(4, .v .bool false), (5, .v .bool false)], [.gst p0 p1 p2 p3, .row 88 DomT p4]⟩ =
 K.ret ⟨slots 57 [(4, .v .bool false), (5, .v .bool false)], [.gst p0 p1 p2 p3, .row 88 DomT p4]⟩ := by kernel_rfl
noncomputable def F637.fn : Func := Go.Proofs.Tryz.f137
noncomputable def F637.E : Env := ⟨tt, [], [(1, [1, 2, 3, 4])], [], some [8], inv, []⟩
theorem F637.start_eq (k : Nat) (a0 : Con) (a1 : List (List Int)) (a2 a3 : Int) : callW F637.E false F637.fn k [.agg (bC a0.1 a0.2.1 a0.2.2.1 a0.2.2.2.1 a0.2.2.2.2.1 a0.2.2.2.2.2.1 a0.2.2.2.2.2.2.1 a0.2.2.2.2.2.2.2), .v (.sl (.sl (.int .i64))) a1, .v (.int .i64) a2, .v (.int .i64) a3] =
 bif decide (0 ≤ a2) && decide (a2 < a1.length) then
 bif decide (0 ≤ a2) && decide (a2 < a1.length) then
 bif decide (0 ≤ (IntKind.i64.wrap (((a1.getD a2.toNat []).length : Int) - 1))) && decide ((IntKind.i64.wrap (((a1.getD a2.toNat []).length : Int) - 1)) < (a1.getD a2.toNat []).length) then
 bif decide (((a1.getD a2.toNat []).getD ((IntKind.i64.wrap (((a1.getD a2.toNat []).length : Int) - 1)).toNat) (0 : Int)) ≤ a3) then
 bif decide (0 ≤ a2) && decide (a2 < a1.length) then
 bif decide ((0 : Int) < (a1.getD a2.toNat []).length) then
 bif decide (0 ≤ a2) && decide (a2 < a0.2.2.2.1.length) then
 some (.v .bool (decide (a3 < (IntKind.i64.wrap (((a1.getD a2.toNat []).getD 0 (0 : Int)) + (a0.2.2.2.1.getD a2.toNat (0 : Int)))))))
 else
 none
 else
 none
 else
 none
 else
 some (.v .bool false)
 else
 none
 else
 none
 else
 none := by kernel_rfl
noncomputable def F574.fn : Func := Go.Proofs.Tryz.f74
noncomputable def F574.body : Code := bodyOf F574.fn
noncomputable def F574.E : Env := ⟨tt, [(137, h_sureR)], [(1, [1, 2, 3, 4]), (2, [1, 2, 3, 4, 9]), (3, [1, 2, 3, 4, 9]), (4, [1, 2, 3, 4, 9]), (5, [1, 2, 3, 4, 9, 10]), (6, [1, 2, 3, 4, 9, 10, 11]), (7, [1, 2, 3, 4, 9, 10, 11]), (8, [1, 2, 3, 4, 9, 10, 11]), (9, [1, 2, 3, 4, 9, 10, 11, 12]), (10, [1, 2, 3, 4, 9, 10, 11, 46]), (11, [1, 2, 3, 4, 9, 10]), (12, [1, 2, 3, 4, 9, 57]), (13, [])], [(0, []), (1, [1, 2, 3, 4, 9]), (2, [1, 2, 3, 4, 9, 10]), (3, [1, 2, 3, 4, 9, 10, 11])], some [8], inv, []⟩
noncomputable def F574.K0 : Conts := { nrm := endW F574.E false F574.fn.results.toList, ret := endW F574.E false F574.fn.results.toList, ex := [] }
noncomputable def F574.kt (k : Nat) (q : List Nat) : Conts := contAt F574.E k F574.body F574.K0 q
noncomputable def F574.l1_0_1_0 (n : Nat) (K : Conts) (p0 : List (List Int)) (p1 p2 p3 p4 : Int) (p5 p6 p7 p8 p9 : List Int) (p10 : Int) (p11 : List (List Int)) : Option AV := loopF F574.E n (inLoop (subC [1,0,1,0] F574.body)) K ⟨slots 58 [(1, .v (.sl (.sl (.int .i64))) p0), (2, .v (.int .i64) p1), (3, .v (.int .i64) p2), (4, .pb 0 0), (9, .v (.int .i64) p3)], [.box (bC p4 p5 p6 p7 p8 p9 p10 p11)]⟩
noncomputable def F574.k_l1_0_1_0 (n : Nat) (K : Conts) (q : List Nat) : Conts := contAt F574.E n (inLoop (subC [1, 0, 1, 0] F574.body)) (loopK F574.E n (inLoop (subC [1, 0, 1, 0] F574.body)) K) q
noncomputable def F574.l1_0_1_0_0_1_0_0_1_0_1_0 (n : Nat) (K : Conts) (p0 : List (List Int)) (p1 p2 p3 p4 p5 p6 : Int) (p7 p8 p9 p10 p11 : List Int) (p12 : Int) (p13 : List (List Int)) : Option AV := loopF F574.E n (inLoop (subC [1,0,1,0,0,1,0,0,1,0,1,0] F574.body)) K ⟨slots 58 [(1, .v (.sl (.sl (.int .i64))) p0), (2, .v (.int .i64) p1), (3, .v (.int .i64) p2), (4, .pb 0 0), (9, .v (.int .i64) p3), (10, .v (.int .i64) p4), (11, .v (.int .i64) p5)], [.box (bC p6 p7 p8 p9 p10 p11 p12 p13)]⟩
theorem F574.start_eq (k : Nat) (a0 : Con) (a1 : List (List Int)) (a2 a3 : Int) : callW F574.E false F574.fn k [.agg (bC a0.1 a0.2.1 a0.2.2.1 a0.2.2.2.1 a0.2.2.2.2.1 a0.2.2.2.2.2.1 a0.2.2.2.2.2.2.1 a0.2.2.2.2.2.2.2), .v (.sl (.sl (.int .i64))) a1, .v (.int .i64) a2, .v (.int .i64) a3] =
 F574.l1_0_1_0 k (F574.kt k [1,0,1,0]) a1 a2 a3 a3 a0.1 a0.2.1 a0.2.2.1 a0.2.2.2.1 a0.2.2.2.2.1 a0.2.2.2.2.2.1 a0.2.2.2.2.2.2.1 a0.2.2.2.2.2.2.2 := by kernel_rfl
theorem F574.l1_0_1_0_eq (n : Nat) (K : Conts) (p0 : List (List Int)) (p1 p2 p3 p4 : Int) (p5 p6 p7 p8 p9 : List Int) (p10 : Int) (p11 : List (List Int)) : F574.l1_0_1_0 (n + 1) K p0 p1 p2 p3 p4 p5 p6 p7 p8 p9 p10 p11 =
 bif decide (0 ≤ p1) && decide (p1 < p7.length) then
 bif decide (p3 < (IntKind.i64.wrap (p2 + (p7.getD p1.toNat (0 : Int))))) then
 bif decide (0 ≤ p1) && decide (p1 < p8.length) then
 F574.l1_0_1_0_0_1_0_0_1_0_1_0 n (F574.k_l1_0_1_0 n K [1,0,0,1,0,1,0]) p0 p1 p2 p3 (p8.getD p1.toNat (0 : Int)) 0 p4 p5 p6 p7 p8 p9 p10 p11
 else
 none
 else
 exitK K 0 ⟨slots 58 [], []⟩
 else
 none := by kernel_rfl
theorem F574.l1_0_1_0_0_1_0_0_1_0_1_0_eq (n : Nat) (K : Conts) (p0 : List (List Int)) (p1 p2 p3 p4 p5 p6 : Int) (p7 p8 p9 p10 p11 : List Int) (p12 : Int) (p13 : List (List Int)) : F574.l1_0_1_0_0_1_0_0_1_0_1_0 (n + 1) K p0 p1 p2 p3 p4 p5 p6 p7 p8 p9 p10 p11 p12 p13 =
 bif decide (p5 < (p0.length : Int)) then
 bif listsB (p6, (p7, (p8, (p9, (p10, (p11, (p12, p13))))))) p0 && inL2 p0 p5 && tM p3 then
 bif !(decide (p5 = p1)) then
 bif sureR (p6, (p7, (p8, (p9, (p10, (p11, (p12, p13))))))) p0 p5 p3 then
 bif decide (0 ≤ p5) && decide (p5 < p10.length) then
 F574.l1_0_1_0_0_1_0_0_1_0_1_0 n K p0 p1 p2 p3 (IntKind.i64.wrap (p4 + (p10.getD p5.toNat (0 : Int)))) (IntKind.i64.wrap (p5 + 1)) p6 p7 p8 p9 p10 p11 p12 p13
 else
 none
 else
 F574.l1_0_1_0_0_1_0_0_1_0_1_0 n K p0 p1 p2 p3 p4 (IntKind.i64.wrap (p5 + 1)) p6 p7 p8 p9 p10 p11 p12 p13
 else
 F574.l1_0_1_0_0_1_0_0_1_0_1_0 n K p0 p1 p2 p3 p4 (IntKind.i64.wrap (p5 + 1)) p6 p7 p8 p9 p10 p11 p12 p13
 else
 none
 else
 exitK K 2 ⟨slots 58 [(1, .v (.sl (.sl (.int .i64))) p0), (2, .v (.int .i64) p1), (3, .v (.int .i64) p2), (4, .pb 0 0), (9, .v (.int .i64) p3), (10, .v (.int .i64) p4)], [.box (bC p6 p7 p8 p9 p10 p11 p12 p13)]⟩ := by kernel_rfl
theorem F574.c0 (k : Nat) : exitK (F574.kt k [1,0,1,0]) 0 ⟨slots 58 [], []⟩ =
 some (.v .bool true) := by kernel_rfl
theorem F574.c1 (n : Nat) (K : Conts) (p0 : List (List Int)) (p1 p2 p3 p4 p5 : Int) (p6 p7 p8 p9 p10 : List Int) (p11 : Int) (p12 : List (List Int)) : exitK (F574.k_l1_0_1_0 n K [1,0,0,1,0,1,0]) 2 ⟨slots 58 [(1, .v (.sl (.sl (.int .i64))) p0), (2, .v (.int .i64) p1), (3, .v (.int .i64) p2), (4, .pb 0 0), (9, .v (.int .i64) p3), (10, .v (.int .i64) p4)], [.box (bC p5 p6 p7 p8 p9 p10 p11 p12)]⟩ =
 bif decide (p4 > p11) then K.ret ⟨slots 58 [(8, .v .bool false)], []⟩ else F574.l1_0_1_0 n K p0 p1 p2 (IntKind.i64.wrap (p3 + 1)) p5 p6 p7 p8 p9 p10 p11 p12 := by kernel_rfl
theorem F574.c2 (k : Nat) : (F574.kt k [1,0,1,0]).ret ⟨slots 58 [(8, .v .bool false)], []⟩ =
 some (.v .bool false) := by kernel_rfl
noncomputable def F531.fn : Func := Go.Proofs.Tryz.f31
noncomputable def F531.body : Code := bodyOf F531.fn
noncomputable def F531.E : Env := ⟨tt, [(36, h_fitsR), (74, h_mayR)], [(1, [1, 2]), (2, [1, 2, 6]), (3, [1, 2, 19]), (4, [1, 2]), (5, [1, 2, 7]), (6, [1, 2, 7]), (7, [1, 2, 7]), (8, [1, 2, 7, 8]), (9, [1, 2, 7, 8, 9]), (10, [1, 2, 7, 8, 9]), (11, [1, 2, 7, 8, 9]), (12, [1, 2, 7, 8, 9, 10]), (13, [1, 2, 7, 8, 9, 10, 11, 30010]), (14, [1, 2, 7, 8, 9, 10, 11]), (15, [1, 2, 7, 8, 9, 10, 11]), (16, [1, 2, 7, 8, 9, 10, 11, 12]), (17, [1, 2, 7, 8, 9, 10, 11, 50]), (18, [1, 2, 7, 8, 9, 10]), (19, [1, 2, 7, 8, 9, 10, 63]), (20, [1, 2, 7, 8, 9, 10]), (21, [1, 2, 7, 8, 9, 10]), (22, [1, 2, 7, 8, 9, 10, 13]), (23, [1, 2, 7, 8, 9, 10, 13, 14, 290013]), (24, [1, 2, 7, 8, 9, 10, 13, 14]), (25, [1, 2, 7, 8, 9, 10, 13, 14]), (26, [1, 2, 7, 8, 9, 10, 13, 14, 83]), (28, [2, 7, 8, 9, 13]), (29, [1, 2, 7, 8]), (30, [1, 2, 7, 97]), (31, [])], [(0, []), (1, [1, 2, 7]), (2, [1, 2, 7, 8]), (3, [1, 2, 7, 8, 9]), (4, [1, 2, 7, 8, 9, 10]), (5, [1, 2, 7, 8, 9, 10, 11]), (6, [2, 7, 8, 9, 13]), (7, [1, 2, 7, 8, 9, 10, 13, 14])], some [4, 5], inv, []⟩
noncomputable def F531.K0 : Conts := { nrm := endW F531.E false F531.fn.results.toList, ret := endW F531.E false F531.fn.results.toList, ex := [] }
noncomputable def F531.kt (k : Nat) (q : List Nat) : Conts := contAt F531.E k F531.body F531.K0 q
noncomputable def F531.l1_1_1_0_1_0 (n : Nat) (K : Conts) (p0 : List (List Int)) (p1 p2 : Int) (p3 p4 p5 p6 p7 : List Int) (p8 : Int) (p9 : List (List Int)) : Option AV := loopF F531.E n (inLoop (subC [1,1,1,0,1,0] F531.body)) K ⟨slots 99 [(1, .v (.sl (.sl (.int .i64))) p0), (2, .pb 0 0), (7, .v (.int .i64) p1)], [.box (bC p2 p3 p4 p5 p6 p7 p8 p9)]⟩
noncomputable def F531.k_l1_1_1_0_1_0 (n : Nat) (K : Conts) (q : List Nat) : Conts := contAt F531.E n (inLoop (subC [1, 1, 1, 0, 1, 0] F531.body)) (loopK F531.E n (inLoop (subC [1, 1, 1, 0, 1, 0] F531.body)) K) q
noncomputable def F531.l1_1_1_0_1_0_0_1_0_0_1_0_1_0 (n : Nat) (K : Conts) (p0 : List (List Int)) (p1 : Int) (p2 : Bool) (p3 p4 : Int) (p5 p6 p7 p8 p9 : List Int) (p10 : Int) (p11 : List (List Int)) : Option AV := loopF F531.E n (inLoop (subC [1,1,1,0,1,0,0,1,0,0,1,0,1,0] F531.body)) K ⟨slots 99 [(1, .v (.sl (.sl (.int .i64))) p0), (2, .pb 0 0), (7, .v (.int .i64) p1), (8, .v .bool p2), (9, .v (.int .i64) p3)], [.box (bC p4 p5 p6 p7 p8 p9 p10 p11)]⟩
noncomputable def F531.k_l1_1_1_0_1_0_0_1_0_0_1_0_1_0 (n : Nat) (K : Conts) (q : List Nat) : Conts := contAt F531.E n (inLoop (subC [1, 1, 1, 0, 1, 0, 0, 1, 0, 0, 1, 0, 1, 0] F531.body)) (loopK F531.E n (inLoop (subC [1, 1, 1, 0, 1, 0, 0, 1, 0, 0, 1, 0, 1, 0] F531.body)) K) q
noncomputable def F531.l1_1_1_0_1_0_0_1_0_0_1_0_1_0_0_1_0_0_1_0_1_0 (n : Nat) (K : Conts) (p0 : List (List Int)) (p1 : Int) (p2 : Bool) (p3 p4 p5 : Int) (p6 p7 p8 p9 p10 : List Int) (p11 : Int) (p12 : List (List Int)) (p13 : List Int) : Option AV := loopF F531.E n (inLoop (subC [1,1,1,0,1,0,0,1,0,0,1,0,1,0,0,1,0,0,1,0,1,0] F531.body)) K ⟨slots 99 [(1, .v (.sl (.sl (.int .i64))) p0), (2, .pb 0 0), (7, .v (.int .i64) p1), (8, .v .bool p2), (9, .v (.int .i64) p3), (10, .own 1), (11, .v (.int .i64) p4)], [.box (bC p5 p6 p7 p8 p9 p10 p11 p12), .row 3 (.int .i64) p13]⟩
noncomputable def F531.l1_1_1_0_1_0_0_1_0_0_1_0_1_0_0_1_0_0_1_1_1_1_1_0_1_0 (n : Nat) (K : Conts) (p0 : List (List Int)) (p1 : Int) (p2 : Bool) (p3 p4 p5 : Int) (p6 p7 p8 p9 p10 : List Int) (p11 : Int) (p12 : List (List Int)) (p13 : List Int) (p14 : List (List Int)) : Option AV := loopF F531.E n (inLoop (subC [1,1,1,0,1,0,0,1,0,0,1,0,1,0,0,1,0,0,1,1,1,1,1,0,1,0] F531.body)) K ⟨slots 99 [(1, .v (.sl (.sl (.int .i64))) p0), (2, .pb 0 0), (7, .v (.int .i64) p1), (8, .v .bool p2), (9, .v (.int .i64) p3), (10, .own 1), (13, .own 2), (14, .v (.int .i64) p4)], [.box (bC p5 p6 p7 p8 p9 p10 p11 p12), .row 3 (.int .i64) p13, .row 29 (.sl (.int .i64)) p14]⟩
noncomputable def F531.l1_1_1_0_1_0_0_1_0_0_1_0_1_0_0_1_0_0_1_1_1_1_1_0_1_0b (n : Nat) (K : Conts) (p0 : List (List Int)) (p1 : Int) (p2 : Bool) (p3 p4 p5 : Int) (p6 p7 p8 p9 p10 : List Int) (p11 : Int) (p12 : List (List Int)) (p13 : List Int) (p14 : List (List Int)) : Option AV := loopF F531.E n (inLoop (subC [1,1,1,0,1,0,0,1,0,0,1,0,1,0,0,1,0,0,1,1,1,1,1,0,1,0] F531.body)) K ⟨slots 99 [(1, .v (.sl (.sl (.int .i64))) p0), (2, .pb 0 0), (7, .v (.int .i64) p1), (8, .v .bool p2), (9, .v (.int .i64) p3), (10, .own 1), (13, .own 2), (14, .v (.int .i64) p4)], [.box (bC p5 p6 p7 p8 p9 p10 p11 p12), .frz (.int .i64) p13, .row 29 (.sl (.int .i64)) p14]⟩
noncomputable def F531.l1_1_1_0_1_0_0_1_0_0_1_0_1_0b (n : Nat) (K : Conts) (p0 : Int) (p1 : Bool) (p2 : Int) (p3 : List (List Int)) (p4 : Int) (p5 p6 p7 p8 p9 : List Int) (p10 : Int) (p11 : List (List Int)) : Option AV := loopF F531.E n (inLoop (subC [1,1,1,0,1,0,0,1,0,0,1,0,1,0] F531.body)) K ⟨slots 99 [(1, .own 0), (2, .pb 1 0), (7, .v (.int .i64) p0), (8, .v .bool p1), (9, .v (.int .i64) p2)], [.row 29 (.sl (.int .i64)) p3, .box (bC p4 p5 p6 p7 p8 p9 p10 p11)]⟩
noncomputable def F531.k_l1_1_1_0_1_0_0_1_0_0_1_0_1_0b (n : Nat) (K : Conts) (q : List Nat) : Conts := contAt F531.E n (inLoop (subC [1, 1, 1, 0, 1, 0, 0, 1, 0, 0, 1, 0, 1, 0] F531.body)) (loopK F531.E n (inLoop (subC [1, 1, 1, 0, 1, 0, 0, 1, 0, 0, 1, 0, 1, 0] F531.body)) K) q
noncomputable def F531.l1_1_1_0_1_0_0_1_0_0_1_0_1_0_0_1_0_0_1_0_1_0b (n : Nat) (K : Conts) (p0 : Int) (p1 : Bool) (p2 p3 : Int) (p4 : List (List Int)) (p5 : Int) (p6 p7 p8 p9 p10 : List Int) (p11 : Int) (p12 : List (List Int)) (p13 : List Int) : Option AV := loopF F531.E n (inLoop (subC [1,1,1,0,1,0,0,1,0,0,1,0,1,0,0,1,0,0,1,0,1,0] F531.body)) K ⟨slots 99 [(1, .own 0), (2, .pb 1 0), (7, .v (.int .i64) p0), (8, .v .bool p1), (9, .v (.int .i64) p2), (10, .own 2), (11, .v (.int .i64) p3)], [.row 29 (.sl (.int .i64)) p4, .box (bC p5 p6 p7 p8 p9 p10 p11 p12), .row 3 (.int .i64) p13]⟩
noncomputable def F531.l1_1_1_0_1_0b (n : Nat) (K : Conts) (p0 : Int) (p1 : List (List Int)) (p2 : Int) (p3 p4 p5 p6 p7 : List Int) (p8 : Int) (p9 : List (List Int)) : Option AV := loopF F531.E n (inLoop (subC [1,1,1,0,1,0] F531.body)) K ⟨slots 99 [(1, .own 0), (2, .pb 1 0), (7, .v (.int .i64) p0)], [.row 29 (.sl (.int .i64)) p1, .box (bC p2 p3 p4 p5 p6 p7 p8 p9)]⟩
noncomputable def F531.k_l1_1_1_0_1_0b (n : Nat) (K : Conts) (q : List Nat) : Conts := contAt F531.E n (inLoop (subC [1, 1, 1, 0, 1, 0] F531.body)) (loopK F531.E n (inLoop (subC [1, 1, 1, 0, 1, 0] F531.body)) K) q
noncomputable def F531.l1_1_1_0_1_0_0_1_0_0_1_0_1_0_0_1_0_0_1_1_1_1_1_0_1_0c (n : Nat) (K : Conts) (p0 : Int) (p1 : Bool) (p2 p3 : Int) (p4 : List (List Int)) (p5 : Int) (p6 p7 p8 p9 p10 : List Int) (p11 : Int) (p12 : List (List Int)) (p13 : List Int) (p14 : List (List Int)) : Option AV := loopF F531.E n (inLoop (subC [1,1,1,0,1,0,0,1,0,0,1,0,1,0,0,1,0,0,1,1,1,1,1,0,1,0] F531.body)) K ⟨slots 99 [(1, .own 0), (2, .pb 1 0), (7, .v (.int .i64) p0), (8, .v .bool p1), (9, .v (.int .i64) p2), (10, .own 2), (13, .own 3), (14, .v (.int .i64) p3)], [.row 29 (.sl (.int .i64)) p4, .box (bC p5 p6 p7 p8 p9 p10 p11 p12), .row 3 (.int .i64) p13, .row 29 (.sl (.int .i64)) p14]⟩
noncomputable def F531.l1_1_1_0_1_0_0_1_0_0_1_0_1_0_0_1_0_0_1_1_1_1_1_0_1_0d (n : Nat) (K : Conts) (p0 : Int) (p1 : Bool) (p2 p3 : Int) (p4 : List (List Int)) (p5 : Int) (p6 p7 p8 p9 p10 : List Int) (p11 : Int) (p12 : List (List Int)) (p13 : List Int) (p14 : List (List Int)) : Option AV := loopF F531.E n (inLoop (subC [1,1,1,0,1,0,0,1,0,0,1,0,1,0,0,1,0,0,1,1,1,1,1,0,1,0] F531.body)) K ⟨slots 99 [(1, .own 0), (2, .pb 1 0), (7, .v (.int .i64) p0), (8, .v .bool p1), (9, .v (.int .i64) p2), (10, .own 2), (13, .own 3), (14, .v (.int .i64) p3)], [.row 29 (.sl (.int .i64)) p4, .box (bC p5 p6 p7 p8 p9 p10 p11 p12), .frz (.int .i64) p13, .row 29 (.sl (.int .i64)) p14]⟩
theorem F531.start_eq (k : Nat) (a0 : Con) (a1 : List (List Int)) : callW F531.E false F531.fn k [.agg (bC a0.1 a0.2.1 a0.2.2.1 a0.2.2.2.1 a0.2.2.2.2.1 a0.2.2.2.2.2.1 a0.2.2.2.2.2.2.1 a0.2.2.2.2.2.2.2), .v (.sl (.sl (.int .i64))) a1] =
 bif fitsB a0 19 19 then
 bif !(fitsR a0 a1 19 19) then
 some (.tup [.nl, .v .bool false])
 else
 F531.l1_1_1_0_1_0 k (F531.kt k [1,1,1,0,1,0]) a1 0 a0.1 a0.2.1 a0.2.2.1 a0.2.2.2.1 a0.2.2.2.2.1 a0.2.2.2.2.2.1 a0.2.2.2.2.2.2.1 a0.2.2.2.2.2.2.2
 else
 none := by kernel_rfl
theorem F531.l1_1_1_0_1_0_eq (n : Nat) (K : Conts) (p0 : List (List Int)) (p1 p2 : Int) (p3 p4 p5 p6 p7 : List Int) (p8 : Int) (p9 : List (List Int)) : F531.l1_1_1_0_1_0 (n + 1) K p0 p1 p2 p3 p4 p5 p6 p7 p8 p9 =
 bif decide (p1 < 1000000) then
 F531.l1_1_1_0_1_0_0_1_0_0_1_0_1_0 n (F531.k_l1_1_1_0_1_0 n K [1,0,0,1,0,1,0]) p0 p1 false 0 p2 p3 p4 p5 p6 p7 p8 p9
 else
 exitK K 0 ⟨slots 99 [], []⟩ := by kernel_rfl
theorem F531.l1_1_1_0_1_0_0_1_0_0_1_0_1_0_eq (n : Nat) (K : Conts) (p0 : List (List Int)) (p1 : Int) (p2 : Bool) (p3 p4 : Int) (p5 p6 p7 p8 p9 : List Int) (p10 : Int) (p11 : List (List Int)) : F531.l1_1_1_0_1_0_0_1_0_0_1_0_1_0 (n + 1) K p0 p1 p2 p3 p4 p5 p6 p7 p8 p9 p10 p11 =
 bif decide (p3 < (p0.length : Int)) then
 F531.l1_1_1_0_1_0_0_1_0_0_1_0_1_0_0_1_0_0_1_0_1_0 n (F531.k_l1_1_1_0_1_0_0_1_0_0_1_0_1_0 n K [1,0,0,1,0,1,0]) p0 p1 p2 p3 0 p4 p5 p6 p7 p8 p9 p10 p11 []
 else
 exitK K 2 ⟨slots 99 [(1, .v (.sl (.sl (.int .i64))) p0), (2, .pb 0 0), (7, .v (.int .i64) p1), (8, .v .bool p2)], [.box (bC p4 p5 p6 p7 p8 p9 p10 p11)]⟩ := by kernel_rfl
theorem F531.l1_1_1_0_1_0_0_1_0_0_1_0_1_0_0_1_0_0_1_0_1_0_eq (n : Nat) (K : Conts) (p0 : List (List Int)) (p1 : Int) (p2 : Bool) (p3 p4 p5 : Int) (p6 p7 p8 p9 p10 : List Int) (p11 : Int) (p12 : List (List Int)) (p13 : List Int) : F531.l1_1_1_0_1_0_0_1_0_0_1_0_1_0_0_1_0_0_1_0_1_0 (n + 1) K p0 p1 p2 p3 p4 p5 p6 p7 p8 p9 p10 p11 p12 p13 =
 bif decide (0 ≤ p3) && decide (p3 < p0.length) then
 bif decide (p4 < ((p0.getD p3.toNat []).length : Int)) then
 bif decide (0 ≤ p3) && decide (p3 < p0.length) then
 bif decide (0 ≤ p4) && decide (p4 < (p0.getD p3.toNat []).length) then
 bif mayRB (p5, (p6, (p7, (p8, (p9, (p10, (p11, p12))))))) p0 p3 ((p0.getD p3.toNat []).getD p4.toNat (0 : Int)) then
 bif mayR (p5, (p6, (p7, (p8, (p9, (p10, (p11, p12))))))) p0 p3 ((p0.getD p3.toNat []).getD p4.toNat (0 : Int)) then
 bif decide (0 ≤ p3) && decide (p3 < p0.length) then
 bif decide (0 ≤ p4) && decide (p4 < (p0.getD p3.toNat []).length) then
 bif decide ((p13.length + [(p0.getD p3.toNat []).getD p4.toNat (0 : Int)].length) * 8 ≤ LIM) then
 F531.l1_1_1_0_1_0_0_1_0_0_1_0_1_0_0_1_0_0_1_0_1_0 n K p0 p1 p2 p3 (IntKind.i64.wrap (p4 + 1)) p5 p6 p7 p8 p9 p10 p11 p12 (p13 ++ [(p0.getD p3.toNat []).getD p4.toNat (0 : Int)])
 else
 none
 else
 none
 else
 none
 else
 F531.l1_1_1_0_1_0_0_1_0_0_1_0_1_0_0_1_0_0_1_0_1_0 n K p0 p1 p2 p3 (IntKind.i64.wrap (p4 + 1)) p5 p6 p7 p8 p9 p10 p11 p12 p13
 else
 none
 else
 none
 else
 none
 else
 exitK K 4 ⟨slots 99 [(1, .v (.sl (.sl (.int .i64))) p0), (2, .pb 0 0), (7, .v (.int .i64) p1), (8, .v .bool p2), (9, .v (.int .i64) p3), (10, .own 1)], [.box (bC p5 p6 p7 p8 p9 p10 p11 p12), .row 3 (.int .i64) p13]⟩
 else
 none := by kernel_rfl
theorem F531.c2 (n : Nat) (K : Conts) (p0 : List (List Int)) (p1 : Int) (p2 : Bool) (p3 p4 : Int) (p5 p6 p7 p8 p9 : List Int) (p10 : Int) (p11 : List (List Int)) (p12 : List Int) : exitK (F531.k_l1_1_1_0_1_0_0_1_0_0_1_0_1_0 n K [1,0,0,1,0,1,0]) 4 ⟨slots 99 [(1, .v (.sl (.sl (.int .i64))) p0), (2, .pb 0 0), (7, .v (.int .i64) p1), (8, .v .bool p2), (9, .v (.int .i64) p3), (10, .own 1)], [.box (bC p4 p5 p6 p7 p8 p9 p10 p11), .row 3 (.int .i64) p12]⟩ =
 bif decide ((p12.length : Int) = 0) then
 K.ret ⟨slots 99 [(4, .nl), (5, .v .bool false)], []⟩
 else
 bif p2 then
 F531.l1_1_1_0_1_0_0_1_0_0_1_0_1_0_0_1_0_0_1_1_1_1_1_0_1_0 n (F531.k_l1_1_1_0_1_0_0_1_0_0_1_0_1_0 n K [1,0,0,1,1,1,1,1,0,1,0]) p0 p1 true p3 0 p4 p5 p6 p7 p8 p9 p10 p11 p12 []
 else
 bif decide (0 ≤ p3) && decide (p3 < p0.length) then
 F531.l1_1_1_0_1_0_0_1_0_0_1_0_1_0_0_1_0_0_1_1_1_1_1_0_1_0 n (F531.k_l1_1_1_0_1_0_0_1_0_0_1_0_1_0 n K [1,0,0,1,1,1,1,1,0,1,0]) p0 p1 (decide ((p12.length : Int) < ((p0.getD p3.toNat []).length : Int))) p3 0 p4 p5 p6 p7 p8 p9 p10 p11 p12 []
 else
 none := by kernel_rfl
theorem F531.l1_1_1_0_1_0_0_1_0_0_1_0_1_0_0_1_0_0_1_1_1_1_1_0_1_0_eq (n : Nat) (K : Conts) (p0 : List (List Int)) (p1 : Int) (p2 : Bool) (p3 p4 p5 : Int) (p6 p7 p8 p9 p10 : List Int) (p11 : Int) (p12 : List (List Int)) (p13 : List Int) (p14 : List (List Int)) : F531.l1_1_1_0_1_0_0_1_0_0_1_0_1_0_0_1_0_0_1_1_1_1_1_0_1_0 (n + 1) K p0 p1 p2 p3 p4 p5 p6 p7 p8 p9 p10 p11 p12 p13 p14 =
 bif decide (p4 < (p0.length : Int)) then
 bif decide (p4 = p3) then
 bif decide ((p14.length + [p13].length) * 24 ≤ LIM) then
 F531.l1_1_1_0_1_0_0_1_0_0_1_0_1_0_0_1_0_0_1_1_1_1_1_0_1_0b n K p0 p1 p2 p3 (IntKind.i64.wrap (p4 + 1)) p5 p6 p7 p8 p9 p10 p11 p12 p13 (p14 ++ [p13])
 else
 none
 else
 bif decide (0 ≤ p4) && decide (p4 < p0.length) then
 bif decide ((p14.length + [p0.getD p4.toNat []].length) * 24 ≤ LIM) then
 F531.l1_1_1_0_1_0_0_1_0_0_1_0_1_0_0_1_0_0_1_1_1_1_1_0_1_0 n K p0 p1 p2 p3 (IntKind.i64.wrap (p4 + 1)) p5 p6 p7 p8 p9 p10 p11 p12 p13 (p14 ++ [p0.getD p4.toNat []])
 else
 none
 else
 none
 else
 exitK K 6 ⟨slots 99 [(2, .pb 0 0), (7, .v (.int .i64) p1), (8, .v .bool p2), (9, .v (.int .i64) p3), (13, .own 1)], [.box (bC p5 p6 p7 p8 p9 p10 p11 p12), .row 29 (.sl (.int .i64)) p14]⟩ := by kernel_rfl
theorem F531.l1_1_1_0_1_0_0_1_0_0_1_0_1_0_0_1_0_0_1_1_1_1_1_0_1_0b_eq (n : Nat) (K : Conts) (p0 : List (List Int)) (p1 : Int) (p2 : Bool) (p3 p4 p5 : Int) (p6 p7 p8 p9 p10 : List Int) (p11 : Int) (p12 : List (List Int)) (p13 : List Int) (p14 : List (List Int)) : F531.l1_1_1_0_1_0_0_1_0_0_1_0_1_0_0_1_0_0_1_1_1_1_1_0_1_0b (n + 1) K p0 p1 p2 p3 p4 p5 p6 p7 p8 p9 p10 p11 p12 p13 p14 =
 bif decide (p4 < (p0.length : Int)) then
 bif decide (p4 = p3) then
 bif decide ((p14.length + [p13].length) * 24 ≤ LIM) then
 F531.l1_1_1_0_1_0_0_1_0_0_1_0_1_0_0_1_0_0_1_1_1_1_1_0_1_0b n K p0 p1 p2 p3 (IntKind.i64.wrap (p4 + 1)) p5 p6 p7 p8 p9 p10 p11 p12 p13 (p14 ++ [p13])
 else
 none
 else
 bif decide (0 ≤ p4) && decide (p4 < p0.length) then
 bif decide ((p14.length + [p0.getD p4.toNat []].length) * 24 ≤ LIM) then
 F531.l1_1_1_0_1_0_0_1_0_0_1_0_1_0_0_1_0_0_1_1_1_1_1_0_1_0b n K p0 p1 p2 p3 (IntKind.i64.wrap (p4 + 1)) p5 p6 p7 p8 p9 p10 p11 p12 p13 (p14 ++ [p0.getD p4.toNat []])
 else
 none
 else
 none
 else
 exitK K 6 ⟨slots 99 [(2, .pb 0 0), (7, .v (.int .i64) p1), (8, .v .bool p2), (9, .v (.int .i64) p3), (13, .own 1)], [.box (bC p5 p6 p7 p8 p9 p10 p11 p12), .row 29 (.sl (.int .i64)) p14]⟩ := by kernel_rfl
theorem F531.c4 (n : Nat) (K : Conts) : (F531.k_l1_1_1_0_1_0 n K [1,0,0,1,0,1,0]).ret ⟨slots 99 [(4, .nl), (5, .v .bool false)], []⟩ =
 K.ret ⟨slots 99 [(4, .nl), (5, .v .bool false)], []⟩ := by kernel_rfl
theorem F531.c5 (n : Nat) (K : Conts) (p0 : Int) (p1 : Bool) (p2 p3 : Int) (p4 p5 p6 p7 p8 : List Int) (p9 : Int) (p10 p11 : List (List Int)) : exitK (F531.k_l1_1_1_0_1_0_0_1_0_0_1_0_1_0 n K [1,0,0,1,1,1,1,1,0,1,0]) 6 ⟨slots 99 [(2, .pb 0 0), (7, .v (.int .i64) p0), (8, .v .bool p1), (9, .v (.int .i64) p2), (13, .own 1)], [.box (bC p3 p4 p5 p6 p7 p8 p9 p10), .row 29 (.sl (.int .i64)) p11]⟩ =
 F531.l1_1_1_0_1_0_0_1_0_0_1_0_1_0b n K p0 p1 (IntKind.i64.wrap (p2 + 1)) p11 p3 p4 p5 p6 p7 p8 p9 p10 := by kernel_rfl
theorem F531.l1_1_1_0_1_0_0_1_0_0_1_0_1_0b_eq (n : Nat) (K : Conts) (p0 : Int) (p1 : Bool) (p2 : Int) (p3 : List (List Int)) (p4 : Int) (p5 p6 p7 p8 p9 : List Int) (p10 : Int) (p11 : List (List Int)) : F531.l1_1_1_0_1_0_0_1_0_0_1_0_1_0b (n + 1) K p0 p1 p2 p3 p4 p5 p6 p7 p8 p9 p10 p11 =
 bif decide (p2 < (p3.length : Int)) then
 F531.l1_1_1_0_1_0_0_1_0_0_1_0_1_0_0_1_0_0_1_0_1_0b n (F531.k_l1_1_1_0_1_0_0_1_0_0_1_0_1_0b n K [1,0,0,1,0,1,0]) p0 p1 p2 0 p3 p4 p5 p6 p7 p8 p9 p10 p11 []
 else
 exitK K 2 ⟨slots 99 [(1, .own 0), (2, .pb 1 0), (7, .v (.int .i64) p0), (8, .v .bool p1)], [.row 29 (.sl (.int .i64)) p3, .box (bC p4 p5 p6 p7 p8 p9 p10 p11)]⟩ := by kernel_rfl
theorem F531.l1_1_1_0_1_0_0_1_0_0_1_0_1_0_0_1_0_0_1_0_1_0b_eq (n : Nat) (K : Conts) (p0 : Int) (p1 : Bool) (p2 p3 : Int) (p4 : List (List Int)) (p5 : Int) (p6 p7 p8 p9 p10 : List Int) (p11 : Int) (p12 : List (List Int)) (p13 : List Int) : F531.l1_1_1_0_1_0_0_1_0_0_1_0_1_0_0_1_0_0_1_0_1_0b (n + 1) K p0 p1 p2 p3 p4 p5 p6 p7 p8 p9 p10 p11 p12 p13 =
 bif decide (0 ≤ p2) && decide (p2 < p4.length) then
 bif decide (p3 < ((p4.getD p2.toNat []).length : Int)) then
 bif decide (0 ≤ p2) && decide (p2 < p4.length) then
 bif decide (0 ≤ p3) && decide (p3 < (p4.getD p2.toNat []).length) then
 bif mayRB (p5, (p6, (p7, (p8, (p9, (p10, (p11, p12))))))) p4 p2 ((p4.getD p2.toNat []).getD p3.toNat (0 : Int)) then
 bif mayR (p5, (p6, (p7, (p8, (p9, (p10, (p11, p12))))))) p4 p2 ((p4.getD p2.toNat []).getD p3.toNat (0 : Int)) then
 bif decide (0 ≤ p2) && decide (p2 < p4.length) then
 bif decide (0 ≤ p3) && decide (p3 < (p4.getD p2.toNat []).length) then
 bif decide ((p13.length + [(p4.getD p2.toNat []).getD p3.toNat (0 : Int)].length) * 8 ≤ LIM) then
 F531.l1_1_1_0_1_0_0_1_0_0_1_0_1_0_0_1_0_0_1_0_1_0b n K p0 p1 p2 (IntKind.i64.wrap (p3 + 1)) p4 p5 p6 p7 p8 p9 p10 p11 p12 (p13 ++ [(p4.getD p2.toNat []).getD p3.toNat (0 : Int)])
 else
 none
 else
 none
 else
 none
 else
 F531.l1_1_1_0_1_0_0_1_0_0_1_0_1_0_0_1_0_0_1_0_1_0b n K p0 p1 p2 (IntKind.i64.wrap (p3 + 1)) p4 p5 p6 p7 p8 p9 p10 p11 p12 p13
 else
 none
 else
 none
 else
 none
 else
 exitK K 4 ⟨slots 99 [(1, .own 0), (2, .pb 1 0), (7, .v (.int .i64) p0), (8, .v .bool p1), (9, .v (.int .i64) p2), (10, .own 2)], [.row 29 (.sl (.int .i64)) p4, .box (bC p5 p6 p7 p8 p9 p10 p11 p12), .row 3 (.int .i64) p13]⟩
 else
 none := by kernel_rfl
theorem F531.c6 (k : Nat) : (F531.kt k [1,1,1,0,1,0]).ret ⟨slots 99 [(4, .nl), (5, .v .bool false)], []⟩ =
 some (.tup [.nl, .v .bool false]) := by kernel_rfl
theorem F531.c7 (n : Nat) (K : Conts) (p0 : Int) (p1 : Bool) (p2 : List (List Int)) (p3 : Int) (p4 p5 p6 p7 p8 : List Int) (p9 : Int) (p10 : List (List Int)) : exitK (F531.k_l1_1_1_0_1_0 n K [1,0,0,1,0,1,0]) 2 ⟨slots 99 [(1, .own 0), (2, .pb 1 0), (7, .v (.int .i64) p0), (8, .v .bool p1)], [.row 29 (.sl (.int .i64)) p2, .box (bC p3 p4 p5 p6 p7 p8 p9 p10)]⟩ =
 bif !p1 then
 K.ret ⟨slots 99 [(4, .own 0), (5, .v .bool true)], [.row 29 (.sl (.int .i64)) p2]⟩
 else
 F531.l1_1_1_0_1_0b n K (IntKind.i64.wrap (p0 + 1)) p2 p3 p4 p5 p6 p7 p8 p9 p10 := by kernel_rfl
theorem F531.c10 (n : Nat) (K : Conts) (p0 : Int) (p1 : Bool) (p2 : Int) (p3 : List (List Int)) (p4 : Int) (p5 p6 p7 p8 p9 : List Int) (p10 : Int) (p11 : List (List Int)) (p12 : List Int) : exitK (F531.k_l1_1_1_0_1_0_0_1_0_0_1_0_1_0b n K [1,0,0,1,0,1,0]) 4 ⟨slots 99 [(1, .own 0), (2, .pb 1 0), (7, .v (.int .i64) p0), (8, .v .bool p1), (9, .v (.int .i64) p2), (10, .own 2)], [.row 29 (.sl (.int .i64)) p3, .box (bC p4 p5 p6 p7 p8 p9 p10 p11), .row 3 (.int .i64) p12]⟩ =
 bif decide ((p12.length : Int) = 0) then
 K.ret ⟨slots 99 [(4, .nl), (5, .v .bool false)], []⟩
 else
 bif p1 then
 F531.l1_1_1_0_1_0_0_1_0_0_1_0_1_0_0_1_0_0_1_1_1_1_1_0_1_0c n (F531.k_l1_1_1_0_1_0_0_1_0_0_1_0_1_0b n K [1,0,0,1,1,1,1,1,0,1,0]) p0 true p2 0 p3 p4 p5 p6 p7 p8 p9 p10 p11 p12 []
 else
 bif decide (0 ≤ p2) && decide (p2 < p3.length) then
 F531.l1_1_1_0_1_0_0_1_0_0_1_0_1_0_0_1_0_0_1_1_1_1_1_0_1_0c n (F531.k_l1_1_1_0_1_0_0_1_0_0_1_0_1_0b n K [1,0,0,1,1,1,1,1,0,1,0]) p0 (decide ((p12.length : Int) < ((p3.getD p2.toNat []).length : Int))) p2 0 p3 p4 p5 p6 p7 p8 p9 p10 p11 p12 []
 else
 none := by kernel_rfl
theorem F531.l1_1_1_0_1_0b_eq (n : Nat) (K : Conts) (p0 : Int) (p1 : List (List Int)) (p2 : Int) (p3 p4 p5 p6 p7 : List Int) (p8 : Int) (p9 : List (List Int)) : F531.l1_1_1_0_1_0b (n + 1) K p0 p1 p2 p3 p4 p5 p6 p7 p8 p9 =
 bif decide (p0 < 1000000) then
 F531.l1_1_1_0_1_0_0_1_0_0_1_0_1_0b n (F531.k_l1_1_1_0_1_0b n K [1,0,0,1,0,1,0]) p0 false 0 p1 p2 p3 p4 p5 p6 p7 p8 p9
 else
 exitK K 0 ⟨slots 99 [], []⟩ := by kernel_rfl
theorem F531.l1_1_1_0_1_0_0_1_0_0_1_0_1_0_0_1_0_0_1_1_1_1_1_0_1_0c_eq (n : Nat) (K : Conts) (p0 : Int) (p1 : Bool) (p2 p3 : Int) (p4 : List (List Int)) (p5 : Int) (p6 p7 p8 p9 p10 : List Int) (p11 : Int) (p12 : List (List Int)) (p13 : List Int) (p14 : List (List Int)) : F531.l1_1_1_0_1_0_0_1_0_0_1_0_1_0_0_1_0_0_1_1_1_1_1_0_1_0c (n + 1) K p0 p1 p2 p3 p4 p5 p6 p7 p8 p9 p10 p11 p12 p13 p14 =
 bif decide (p3 < (p4.length : Int)) then
 bif decide (p3 = p2) then
 bif decide ((p14.length + [p13].length) * 24 ≤ LIM) then
 F531.l1_1_1_0_1_0_0_1_0_0_1_0_1_0_0_1_0_0_1_1_1_1_1_0_1_0d n K p0 p1 p2 (IntKind.i64.wrap (p3 + 1)) p4 p5 p6 p7 p8 p9 p10 p11 p12 p13 (p14 ++ [p13])
 else
 none
 else
 bif decide (0 ≤ p3) && decide (p3 < p4.length) then
 bif decide ((p14.length + [p4.getD p3.toNat []].length) * 24 ≤ LIM) then
 F531.l1_1_1_0_1_0_0_1_0_0_1_0_1_0_0_1_0_0_1_1_1_1_1_0_1_0c n K p0 p1 p2 (IntKind.i64.wrap (p3 + 1)) p4 p5 p6 p7 p8 p9 p10 p11 p12 p13 (p14 ++ [p4.getD p3.toNat []])
 else
 none
 else
 none
 else
 exitK K 6 ⟨slots 99 [(2, .pb 0 0), (7, .v (.int .i64) p0), (8, .v .bool p1), (9, .v (.int .i64) p2), (13, .own 1)], [.box (bC p5 p6 p7 p8 p9 p10 p11 p12), .row 29 (.sl (.int .i64)) p14]⟩ := by kernel_rfl
theorem F531.l1_1_1_0_1_0_0_1_0_0_1_0_1_0_0_1_0_0_1_1_1_1_1_0_1_0d_eq (n : Nat) (K : Conts) (p0 : Int) (p1 : Bool) (p2 p3 : Int) (p4 : List (List Int)) (p5 : Int) (p6 p7 p8 p9 p10 : List Int) (p11 : Int) (p12 : List (List Int)) (p13 : List Int) (p14 : List (List Int)) : F531.l1_1_1_0_1_0_0_1_0_0_1_0_1_0_0_1_0_0_1_1_1_1_1_0_1_0d (n + 1) K p0 p1 p2 p3 p4 p5 p6 p7 p8 p9 p10 p11 p12 p13 p14 =
 bif decide (p3 < (p4.length : Int)) then
 bif decide (p3 = p2) then
 bif decide ((p14.length + [p13].length) * 24 ≤ LIM) then
 F531.l1_1_1_0_1_0_0_1_0_0_1_0_1_0_0_1_0_0_1_1_1_1_1_0_1_0d n K p0 p1 p2 (IntKind.i64.wrap (p3 + 1)) p4 p5 p6 p7 p8 p9 p10 p11 p12 p13 (p14 ++ [p13])
 else
 none
 else
 bif decide (0 ≤ p3) && decide (p3 < p4.length) then
 bif decide ((p14.length + [p4.getD p3.toNat []].length) * 24 ≤ LIM) then
 F531.l1_1_1_0_1_0_0_1_0_0_1_0_1_0_0_1_0_0_1_1_1_1_1_0_1_0d n K p0 p1 p2 (IntKind.i64.wrap (p3 + 1)) p4 p5 p6 p7 p8 p9 p10 p11 p12 p13 (p14 ++ [p4.getD p3.toNat []])
 else
 none
 else
 none
 else
 exitK K 6 ⟨slots 99 [(2, .pb 0 0), (7, .v (.int .i64) p0), (8, .v .bool p1), (9, .v (.int .i64) p2), (13, .own 1)], [.box (bC p5 p6 p7 p8 p9 p10 p11 p12), .row 29 (.sl (.int .i64)) p14]⟩ := by kernel_rfl
theorem F531.c11 (k : Nat) (p0 : List (List Int)) : (F531.kt k [1,1,1,0,1,0]).ret ⟨slots 99 [(4, .own 0), (5, .v .bool true)], [.row 29 (.sl (.int .i64)) p0]⟩ =
 some (.tup [.v (.sl (.sl (.int .i64))) p0, .v .bool true]) := by kernel_rfl
theorem F531.c13 (n : Nat) (K : Conts) (p0 : Int) (p1 : Bool) (p2 p3 : Int) (p4 p5 p6 p7 p8 : List Int) (p9 : Int) (p10 p11 : List (List Int)) : exitK (F531.k_l1_1_1_0_1_0_0_1_0_0_1_0_1_0b n K [1,0,0,1,1,1,1,1,0,1,0]) 6 ⟨slots 99 [(2, .pb 0 0), (7, .v (.int .i64) p0), (8, .v .bool p1), (9, .v (.int .i64) p2), (13, .own 1)], [.box (bC p3 p4 p5 p6 p7 p8 p9 p10), .row 29 (.sl (.int .i64)) p11]⟩ =
 F531.l1_1_1_0_1_0_0_1_0_0_1_0_1_0b n K p0 p1 (IntKind.i64.wrap (p2 + 1)) p11 p3 p4 p5 p6 p7 p8 p9 p10 := by kernel_rfl
theorem F531.c16 (n : Nat) (K : Conts) : (F531.k_l1_1_1_0_1_0b n K [1,0,0,1,0,1,0]).ret ⟨slots 99 [(4, .nl), (5, .v .bool false)], []⟩ =
 K.ret ⟨slots 99 [(4, .nl), (5, .v .bool false)], []⟩ := by kernel_rfl
theorem F531.c17 (n : Nat) (K : Conts) (p0 : Int) (p1 : Bool) (p2 : List (List Int)) (p3 : Int) (p4 p5 p6 p7 p8 : List Int) (p9 : Int) (p10 : List (List Int)) : exitK (F531.k_l1_1_1_0_1_0b n K [1,0,0,1,0,1,0]) 2 ⟨slots 99 [(1, .own 0), (2, .pb 1 0), (7, .v (.int .i64) p0), (8, .v .bool p1)], [.row 29 (.sl (.int .i64)) p2, .box (bC p3 p4 p5 p6 p7 p8 p9 p10)]⟩ =
 bif !p1 then
 K.ret ⟨slots 99 [(4, .own 0), (5, .v .bool true)], [.row 29 (.sl (.int .i64)) p2]⟩
 else
 F531.l1_1_1_0_1_0b n K (IntKind.i64.wrap (p0 + 1)) p2 p3 p4 p5 p6 p7 p8 p9 p10 := by kernel_rfl
noncomputable def F530.fn : Func := Go.Proofs.Tryz.f30
noncomputable def F530.body : Code := bodyOf F530.fn
noncomputable def F530.E : Env := ⟨tt, [(73, h_ofD)], [(1, [0]), (2, [0, 3]), (3, [3, 8, 9, 10, 880003]), (4, [3, 8, 9, 10, 11]), (5, [3, 5, 8, 9, 10]), (6, [3, 6, 8, 9, 10]), (7, [3, 8, 9, 10]), (8, [3])], [(0, [3]), (1, [3, 8, 9, 10])], some [2], inv, []⟩
noncomputable def F530.K0 : Conts := { nrm := endW F530.E false F530.fn.results.toList, ret := endW F530.E false F530.fn.results.toList, ex := [] }
noncomputable def F530.kt (k : Nat) (q : List Nat) : Conts := contAt F530.E k F530.body F530.K0 q
noncomputable def F530.l1_1_0_1_0 (n : Nat) (K : Conts) (p0 : List (List Int)) (p1 p2 : Int) (p3 : List Dom) : Option AV := loopF F530.E n (inLoop (subC [1,1,0,1,0] F530.body)) K ⟨slots 25 [(3, .own 0), (8, .v (.sl (.sl (.int .i64))) p0), (9, .v (.int .i64) p1), (10, .v (.int .i64) p2)], [.row 88 DomT p3]⟩
theorem F530.start_eq (k : Nat) (a0 : List (List Int)) : callW F530.E false F530.fn k [.v (.sl (.sl (.int .i64))) a0] =
 F530.l1_1_0_1_0 k (F530.kt k [1,1,0,1,0]) a0 (a0.length : Int) 0 [] := by kernel_rfl
theorem F530.l1_1_0_1_0_eq (n : Nat) (K : Conts) (p0 : List (List Int)) (p1 p2 : Int) (p3 : List Dom) : F530.l1_1_0_1_0 (n + 1) K p0 p1 p2 p3 =
 bif decide (p2 < p1) then
 bif decide (0 ≤ p2) && decide (p2 < p0.length) then
 bif decide ((p3.length + [(ofD (p0.getD p2.toNat [])).1].length) * 56 ≤ LIM) then
 F530.l1_1_0_1_0 n K p0 p1 (IntKind.i64.wrap (p2 + 1)) (p3 ++ [(ofD (p0.getD p2.toNat [])).1])
 else
 none
 else
 none
 else
 exitK K 0 ⟨slots 25 [(3, .own 0)], [.row 88 DomT p3]⟩ := by kernel_rfl
theorem F530.c0 (k : Nat) (p0 : List Dom) : exitK (F530.kt k [1,1,0,1,0]) 0 ⟨slots 25 [(3, .own 0)], [.row 88 DomT p0]⟩ =
 some (.v (.sl DomT) p0) := by kernel_rfl
noncomputable def F534.fn : Func := Go.Proofs.Tryz.f34
noncomputable def F534.body : Code := bodyOf F534.fn
noncomputable def F534.E : Env := ⟨tt, [(41, h_listD)], [(1, [0]), (2, [0, 3]), (3, [3, 6, 7, 8, 290003]), (4, [3, 6, 7, 8, 9]), (5, [3, 5, 6, 7, 8]), (6, [3, 6, 7, 8]), (7, [3])], [(0, [3]), (1, [3, 6, 7, 8])], some [2], inv, []⟩
noncomputable def F534.K0 : Conts := { nrm := endW F534.E false F534.fn.results.toList, ret := endW F534.E false F534.fn.results.toList, ex := [] }
noncomputable def F534.kt (k : Nat) (q : List Nat) : Conts := contAt F534.E k F534.body F534.K0 q
noncomputable def F534.l1_1_0_1_0 (n : Nat) (K : Conts) (p0 : List Dom) (p1 p2 : Int) (p3 : List (List Int)) : Option AV := loopF F534.E n (inLoop (subC [1,1,0,1,0] F534.body)) K ⟨slots 19 [(3, .own 0), (6, .v (.sl DomT) p0), (7, .v (.int .i64) p1), (8, .v (.int .i64) p2)], [.row 29 (.sl (.int .i64)) p3]⟩
theorem F534.start_eq (k : Nat) (a0 : List Dom) : callW F534.E false F534.fn k [.v (.sl DomT) a0] =
 F534.l1_1_0_1_0 k (F534.kt k [1,1,0,1,0]) a0 (a0.length : Int) 0 [] := by kernel_rfl
theorem F534.l1_1_0_1_0_eq (n : Nat) (K : Conts) (p0 : List Dom) (p1 p2 : Int) (p3 : List (List Int)) : F534.l1_1_0_1_0 (n + 1) K p0 p1 p2 p3 =
 bif decide (p2 < p1) then
 bif decide (0 ≤ p2) && decide (p2 < p0.length) then
 bif listB (p0.getD p2.toNat ((0 : Int), ([], ((0 : Int), ((0 : Int), (0 : Int)))))) then
 bif decide ((p3.length + [listD (p0.getD p2.toNat ((0 : Int), ([], ((0 : Int), ((0 : Int), (0 : Int))))))].length) * 24 ≤ LIM) then
 F534.l1_1_0_1_0 n K p0 p1 (IntKind.i64.wrap (p2 + 1)) (p3 ++ [listD (p0.getD p2.toNat ((0 : Int), ([], ((0 : Int), ((0 : Int), (0 : Int))))))])
 else
 none
 else
 none
 else
 none
 else
 exitK K 0 ⟨slots 19 [(3, .own 0)], [.row 29 (.sl (.int .i64)) p3]⟩ := by kernel_rfl
theorem F534.c0 (k : Nat) (p0 : List (List Int)) : exitK (F534.kt k [1,1,0,1,0]) 0 ⟨slots 19 [(3, .own 0)], [.row 29 (.sl (.int .i64)) p0]⟩ =
 some (.v (.sl (.sl (.int .i64))) p0) := by kernel_rfl
noncomputable def F99g672.fn : Func := Go.Proofs.Tryz.f158
noncomputable def F99g672.body : Code := bodyOf F99g672.fn
noncomputable def F99g672.E : Env := ⟨tt, [(172, h_overD)], [(1, [0, 1]), (2, [0, 1, 7, 8]), (3, [0, 1, 7, 8, 9]), (4, [0, 1, 5, 7, 8]), (5, [0, 1, 5, 7, 8, 16]), (6, [0, 1, 7, 8]), (7, [])], [(0, []), (1, [0, 1, 7, 8])], some [4], inv, []⟩
noncomputable def F99g672.K0 : Conts := { nrm := endW F99g672.E false F99g672.fn.results.toList, ret := endW F99g672.E false F99g672.fn.results.toList, ex := [] }
noncomputable def F99g672.kt (k : Nat) (q : List Nat) : Conts := contAt F99g672.E k F99g672.body F99g672.K0 q
noncomputable def F99g672.l1_0_1_0 (n : Nat) (K : Conts) (p0 : List Int) (p1 : Int) (p2 p3 p4 p5 p6 : List Int) (p7 : Int) (p8 : List (List Int)) (p9 : List Dom) (p10 p11 p12 : Int) : Option AV := loopF F99g672.E n (inLoop (subC [1,0,1,0] F99g672.body)) K ⟨slots 19 [(0, .v (.sl (.int .i64)) p0), (1, .fn 172 [] [.rp (bC p1 p2 p3 p4 p5 p6 p7 p8), .rp [.v (.sl DomT) p9], .rp [.v (.int .i64) p10]]), (7, .v (.int .i64) p11), (8, .v (.int .i64) p12)], []⟩
theorem F99g672.start_eq (k : Nat) (a0 : List Int) (z : Con) (y : List Dom) (x : Int) : callW F99g672.E false F99g672.fn k [.v (.sl (.int .i64)) a0, .fn 172 [] [.rp (bC z.1 z.2.1 z.2.2.1 z.2.2.2.1 z.2.2.2.2.1 z.2.2.2.2.2.1 z.2.2.2.2.2.2.1 z.2.2.2.2.2.2.2), .rp [.v (.sl DomT) y], .rp [.v (.int .i64) x]]] =
 F99g672.l1_0_1_0 k (F99g672.kt k [1,0,1,0]) a0 z.1 z.2.1 z.2.2.1 z.2.2.2.1 z.2.2.2.2.1 z.2.2.2.2.2.1 z.2.2.2.2.2.2.1 z.2.2.2.2.2.2.2 y x (a0.length : Int) 0 := by kernel_rfl
theorem F99g672.l1_0_1_0_eq (n : Nat) (K : Conts) (p0 : List Int) (p1 : Int) (p2 p3 p4 p5 p6 : List Int) (p7 : Int) (p8 : List (List Int)) (p9 : List Dom) (p10 p11 p12 : Int) : F99g672.l1_0_1_0 (n + 1) K p0 p1 p2 p3 p4 p5 p6 p7 p8 p9 p10 p11 p12 =
 bif decide (p12 < p11) then
 bif decide (0 ≤ p12) && decide (p12 < p0.length) then
 bif cumB (p1, (p2, (p3, (p4, (p5, (p6, (p7, p8))))))) p9 && inI p9 p10 then
 bif overD (p1, (p2, (p3, (p4, (p5, (p6, (p7, p8))))))) p9 p10 (p0.getD p12.toNat (0 : Int)) then
 K.ret ⟨slots 19 [(4, .v (.int .i64) p12)], []⟩
 else
 F99g672.l1_0_1_0 n K p0 p1 p2 p3 p4 p5 p6 p7 p8 p9 p10 p11 (IntKind.i64.wrap (p12 + 1))
 else
 none
 else
 none
 else
 exitK K 0 ⟨slots 19 [], []⟩ := by kernel_rfl
theorem F99g672.c0 (k : Nat) (p0 : Int) : (F99g672.kt k [1,0,1,0]).ret ⟨slots 19 [(4, .v (.int .i64) p0)], []⟩ =
 some (.v (.int .i64) p0) := by kernel_rfl
theorem F99g672.c1 (k : Nat) : exitK (F99g672.kt k [1,0,1,0]) 0 ⟨slots 19 [], []⟩ =
 some (.v (.int .i64) (-1 : Int)) := by kernel_rfl
noncomputable def F77g672.fn : Func := Go.Proofs.Tryz.f101
noncomputable def F77g672.E : Env := ⟨tt, [(158, h_idxM)], [(1, [0, 1])], [], some [4], inv, []⟩
theorem F77g672.start_eq (k : Nat) (a0 : List Int) (z : Con) (y : List Dom) (x : Int) : callW F77g672.E false F77g672.fn k [.v (.sl (.int .i64)) a0, .fn 172 [] [.rp (bC z.1 z.2.1 z.2.2.1 z.2.2.2.1 z.2.2.2.2.1 z.2.2.2.2.2.1 z.2.2.2.2.2.2.1 z.2.2.2.2.2.2.2), .rp [.v (.sl DomT) y], .rp [.v (.int .i64) x]]] =
 bif cumB z y && inI y x then some (.v .bool (decide ((idx (overD z y x) a0 0) ≥ 0))) else none := by kernel_rfl
noncomputable def F631.fn : Func := Go.Proofs.Tryz.f131
noncomputable def F631.E : Env := ⟨tt, [(101, h_anyM), (171, h_timesD)], [(1, [3, 4, 5, 6]), (2, [3, 4, 5, 6, 14]), (3, [3, 4, 5, 6])], [], some [8], inv, []⟩
theorem F631.start_eq (k : Nat) (a0 : Con) (a1 : List Dom) (a2 a3 : Int) : callW F631.E false F631.fn k [.agg (bC a0.1 a0.2.1 a0.2.2.1 a0.2.2.2.1 a0.2.2.2.2.1 a0.2.2.2.2.2.1 a0.2.2.2.2.2.2.1 a0.2.2.2.2.2.2.2), .v (.sl DomT) a1, .v (.int .i64) a2, .v (.int .i64) a3] =
 bif decide (0 ≤ a2) && decide (a2 < a0.2.2.2.1.length) then
 bif decide ((a0.2.2.2.1.getD a2.toNat (0 : Int)) = 0) then
 some (.v .bool true)
 else
 bif mayB a0 a1 a2 a3 then
 bif cumB a0 a1 && inI a1 a2 then some (.v .bool (!(List.any (timesD a0 a1 a2 a3) (overD a0 a1 a2)))) else none
 else
 none
 else
 none := by kernel_rfl
end Go.Proofs.YtdihbphkbdelbaaGreatDoor.Ev
