/-
The functions as the evaluator runs them: printed by a program of mine, each equation by kernel_rfl.
Conditions: none.
-/
import Derived.Test.YtohdaehblenokaaGreatGh
set_option linter.unusedVariables false
set_option linter.unusedSimpArgs false
set_option maxRecDepth 100000
namespace Go.Proofs.YtohdaehblenokaaGreat.Ev
open Go
noncomputable def F28.fn : Func := Go.Proofs.Tryz.f31
noncomputable def F28.body : Code := bodyOf F28.fn
noncomputable def F28.E : Env := ⟨tt, [(52, h_linearY), (53, h_threeY), (54, h_logicY), (55, h_rowY), (56, h_cumY), (57, h_circY), (58, h_gccY), (59, h_pairsY)], [(1, [1, 2]), (2, [1, 2, 9]), (3, [1, 2]), (4, [1, 2, 15]), (5, [1, 2]), (6, [1, 2, 21]), (7, [1, 2]), (8, [1, 2, 26]), (9, [1, 2, 26, 27]), (10, [1, 2, 5]), (11, [1, 2, 5]), (12, [1, 2, 5]), (13, [1, 2, 5, 6]), (14, [1, 2, 5, 6]), (15, [1, 2, 5, 6]), (16, [1, 2, 5, 6, 57]), (17, []), (19, [1, 2, 26, 58]), (21, [1, 2, 26, 63]), (23, [1, 2, 26, 68]), (25, [1, 2, 73]), (26, [1, 2])], [(0, [1, 2]), (1, []), (2, [1, 2, 5]), (3, [1, 2, 5]), (4, [1, 2, 5, 6])], some [4], inv, []⟩
noncomputable def F28.K0 : Conts := { nrm := endW F28.E false F28.fn.results.toList, ret := endW F28.E false F28.fn.results.toList, ex := [] }
noncomputable def F28.kt (k : Nat) (q : List Nat) : Conts := contAt F28.E k F28.body F28.K0 q
noncomputable def F28.l1_1_1_1_0_1_0_1_0_0_1_0 (n : Nat) (K : Conts) (p0 : List Int) (p1 p2 : Int) (p3 p4 p5 p6 p7 : List Int) (p8 : Int) (p9 : List (List Int)) : Option AV := loopF F28.E n (inLoop (subC [1,1,1,1,0,1,0,1,0,0,1,0] F28.body)) K ⟨slots 81 [(1, .v (.sl (.int .i64)) p0), (2, .pb 0 0), (5, .v (.int .i64) p1)], [.box (bC p2 p3 p4 p5 p6 p7 p8 p9)]⟩
noncomputable def F28.k_l1_1_1_1_0_1_0_1_0_0_1_0 (n : Nat) (K : Conts) (q : List Nat) : Conts := contAt F28.E n (inLoop (subC [1, 1, 1, 1, 0, 1, 0, 1, 0, 0, 1, 0] F28.body)) (loopK F28.E n (inLoop (subC [1, 1, 1, 1, 0, 1, 0, 1, 0, 0, 1, 0] F28.body)) K) q
noncomputable def F28.l1_1_1_1_0_1_0_1_0_0_1_0_0_1_0_0_1_0 (n : Nat) (K : Conts) (p0 : List Int) (p1 p2 p3 : Int) (p4 p5 p6 p7 p8 : List Int) (p9 : Int) (p10 : List (List Int)) : Option AV := loopF F28.E n (inLoop (subC [1,1,1,1,0,1,0,1,0,0,1,0,0,1,0,0,1,0] F28.body)) K ⟨slots 81 [(1, .v (.sl (.int .i64)) p0), (2, .pb 0 0), (5, .v (.int .i64) p1), (6, .v (.int .i64) p2)], [.box (bC p3 p4 p5 p6 p7 p8 p9 p10)]⟩
theorem F28.start_eq (k : Nat) (kk : Int) (c : (List Int) × ((List Int) × ((List Int) × ((List Int) × ((List Int) × (Int × (List (List Int)))))))) (a1 : List Int) : callW F28.E false F28.fn k [.agg (bC kk c.1 c.2.1 c.2.2.1 c.2.2.2.1 c.2.2.2.2.1 c.2.2.2.2.2.1 c.2.2.2.2.2.2), .v (.sl (.int .i64)) a1] =
 bif decide (kk ≤ 4) then
 bif linearYB (kk, c) a1 then some (.v .bool (linearY (kk, c) a1)) else none
 else
 bif decide (kk ≤ 11) then
 bif threeYB (kk, c) a1 then some (.v .bool (threeY (kk, c) a1)) else none
 else
 bif decide (kk ≤ 16) then
 bif logicYB (kk, c) a1 then some (.v .bool (logicY (kk, c) a1)) else none
 else
 bif decide (kk = 17) then
 F28.l1_1_1_1_0_1_0_1_0_0_1_0 k (F28.kt k [1,1,1,1,0,1,0,1,0,0,1,0]) a1 0 kk c.1 c.2.1 c.2.2.1 c.2.2.2.1 c.2.2.2.2.1 c.2.2.2.2.2.1 c.2.2.2.2.2.2
 else
 bif decide (kk = 18) then
 bif rowYB (kk, c) a1 then some (.v .bool (rowY (kk, c) a1)) else none
 else
 bif decide (kk = 19) then
 bif cumYB (kk, c) a1 then some (.v .bool (cumY (kk, c) a1)) else none
 else
 bif decide (kk = 20) then
 bif circYB (kk, c) a1 then some (.v .bool (circY (kk, c) a1)) else none
 else
 bif decide (kk = 21) then
 bif gccYB (kk, c) a1 then some (.v .bool (gccY (kk, c) a1)) else none
 else
 bif pairsYB (kk, c) a1 then some (.v .bool (pairsY (kk, c) a1)) else none := by kernel_rfl
theorem F28.l1_1_1_1_0_1_0_1_0_0_1_0_eq (n : Nat) (K : Conts) (p0 : List Int) (p1 p2 : Int) (p3 p4 p5 p6 p7 : List Int) (p8 : Int) (p9 : List (List Int)) : F28.l1_1_1_1_0_1_0_1_0_0_1_0 (n + 1) K p0 p1 p2 p3 p4 p5 p6 p7 p8 p9 =
 bif decide (p1 < (p3.length : Int)) then
 F28.l1_1_1_1_0_1_0_1_0_0_1_0_0_1_0_0_1_0 n (F28.k_l1_1_1_1_0_1_0_1_0_0_1_0 n K [1,0,0,1,0]) p0 p1 0 p2 p3 p4 p5 p6 p7 p8 p9
 else
 exitK K 1 ⟨slots 81 [], []⟩ := by kernel_rfl
theorem F28.l1_1_1_1_0_1_0_1_0_0_1_0_0_1_0_0_1_0_eq (n : Nat) (K : Conts) (p0 : List Int) (p1 p2 p3 : Int) (p4 p5 p6 p7 p8 : List Int) (p9 : Int) (p10 : List (List Int)) : F28.l1_1_1_1_0_1_0_1_0_0_1_0_0_1_0_0_1_0 (n + 1) K p0 p1 p2 p3 p4 p5 p6 p7 p8 p9 p10 =
 bif decide (p2 < p1) then
 bif decide (0 ≤ p1) && decide (p1 < p4.length) then
 bif decide (0 ≤ (p4.getD p1.toNat (0 : Int))) && decide ((p4.getD p1.toNat (0 : Int)) < p0.length) then
 bif decide (0 ≤ p2) && decide (p2 < p4.length) then
 bif decide (0 ≤ (p4.getD p2.toNat (0 : Int))) && decide ((p4.getD p2.toNat (0 : Int)) < p0.length) then
 bif decide ((p0.getD ((p4.getD p1.toNat (0 : Int)).toNat) (0 : Int)) = (p0.getD ((p4.getD p2.toNat (0 : Int)).toNat) (0 : Int))) then
 K.ret ⟨slots 81 [(4, .v .bool false)], []⟩
 else
 F28.l1_1_1_1_0_1_0_1_0_0_1_0_0_1_0_0_1_0 n K p0 p1 (IntKind.i64.wrap (p2 + 1)) p3 p4 p5 p6 p7 p8 p9 p10
 else
 none
 else
 none
 else
 none
 else
 none
 else
 exitK K 3 ⟨slots 81 [(1, .v (.sl (.int .i64)) p0), (2, .pb 0 0), (5, .v (.int .i64) p1)], [.box (bC p3 p4 p5 p6 p7 p8 p9 p10)]⟩ := by kernel_rfl
theorem F28.c0 (k : Nat) : exitK (F28.kt k [1,1,1,1,0,1,0,1,0,0,1,0]) 1 ⟨slots 81 [], []⟩ =
 some (.v .bool true) := by kernel_rfl
theorem F28.c1 (n : Nat) (K : Conts) : (F28.k_l1_1_1_1_0_1_0_1_0_0_1_0 n K [1,0,0,1,0]).ret ⟨slots 81 [(4, .v .bool false)], []⟩ =
 K.ret ⟨slots 81 [(4, .v .bool false)], []⟩ := by kernel_rfl
theorem F28.c2 (n : Nat) (K : Conts) (p0 : List Int) (p1 p2 : Int) (p3 p4 p5 p6 p7 : List Int) (p8 : Int) (p9 : List (List Int)) : exitK (F28.k_l1_1_1_1_0_1_0_1_0_0_1_0 n K [1,0,0,1,0]) 3 ⟨slots 81 [(1, .v (.sl (.int .i64)) p0), (2, .pb 0 0), (5, .v (.int .i64) p1)], [.box (bC p2 p3 p4 p5 p6 p7 p8 p9)]⟩ =
 F28.l1_1_1_1_0_1_0_1_0_0_1_0 n K p0 (IntKind.i64.wrap (p1 + 1)) p2 p3 p4 p5 p6 p7 p8 p9 := by kernel_rfl
theorem F28.c3 (k : Nat) : (F28.kt k [1,1,1,1,0,1,0,1,0,0,1,0]).ret ⟨slots 81 [(4, .v .bool false)], []⟩ =
 some (.v .bool false) := by kernel_rfl
noncomputable def F522.fn : Func := Go.Proofs.Tryz.f8
noncomputable def F522.body : Code := bodyOf F522.fn
noncomputable def F522.E : Env := ⟨tt, [(30, h_rightD), (31, h_holdsY)], [(1, [1, 2]), (2, [1, 2, 5]), (3, [1, 2, 12]), (4, [1, 2]), (5, [1, 2, 6]), (6, [1, 2, 6]), (7, [1, 2, 6]), (8, [1, 2, 6, 30]), (9, [1, 2])], [(0, [1, 2]), (1, [1, 2, 6])], some [4], inv, []⟩
noncomputable def F522.K0 : Conts := { nrm := endW F522.E false F522.fn.results.toList, ret := endW F522.E false F522.fn.results.toList, ex := [] }
noncomputable def F522.kt (k : Nat) (q : List Nat) : Conts := contAt F522.E k F522.body F522.K0 q
noncomputable def F522.l1_1_1_0_1_0 (n : Nat) (K : Conts) (p0 : List Int) (p1 p2 : Int) (p3 p4 p5 p6 p7 : List Int) (p8 : Int) (p9 : List (List Int)) : Option AV := loopF F522.E n (inLoop (subC [1,1,1,0,1,0] F522.body)) K ⟨slots 34 [(1, .v (.sl (.int .i64)) p0), (2, .pb 0 0), (6, .v (.int .i64) p1)], [.box (bC p2 p3 p4 p5 p6 p7 p8 p9)]⟩
theorem F522.start_eq (k : Nat) (kk : Int) (c : (List Int) × ((List Int) × ((List Int) × ((List Int) × ((List Int) × (Int × (List (List Int)))))))) (a1 : List Int) : callW F522.E false F522.fn k [.agg (bC kk c.1 c.2.1 c.2.2.1 c.2.2.2.1 c.2.2.2.2.1 c.2.2.2.2.2.1 c.2.2.2.2.2.2), .v (.sl (.int .i64)) a1] =
 bif smallC (kk, c) && rightNB (a1.length : Int) then
 bif !(decide ((rightD (kk, c) (a1.length : Int)) = 0)) then
 some (.v .bool false)
 else
 F522.l1_1_1_0_1_0 k (F522.kt k [1,1,1,0,1,0]) a1 0 kk c.1 c.2.1 c.2.2.1 c.2.2.2.1 c.2.2.2.2.1 c.2.2.2.2.2.1 c.2.2.2.2.2.2
 else
 none := by kernel_rfl
theorem F522.l1_1_1_0_1_0_eq (n : Nat) (K : Conts) (p0 : List Int) (p1 p2 : Int) (p3 p4 p5 p6 p7 : List Int) (p8 : Int) (p9 : List (List Int)) : F522.l1_1_1_0_1_0 (n + 1) K p0 p1 p2 p3 p4 p5 p6 p7 p8 p9 =
 bif decide (p1 < (p0.length : Int)) then
 bif decide (0 ≤ p1) && decide (p1 < p0.length) then
 bif decide ((p0.getD p1.toNat (0 : Int)) < (-1000000 : Int)) then
 K.ret ⟨slots 34 [(4, .v .bool false)], []⟩
 else
 bif decide (0 ≤ p1) && decide (p1 < p0.length) then
 bif decide ((p0.getD p1.toNat (0 : Int)) > 1000000) then
 K.ret ⟨slots 34 [(4, .v .bool false)], []⟩
 else
 F522.l1_1_1_0_1_0 n K p0 (IntKind.i64.wrap (p1 + 1)) p2 p3 p4 p5 p6 p7 p8 p9
 else
 none
 else
 none
 else
 exitK K 0 ⟨slots 34 [(1, .v (.sl (.int .i64)) p0), (2, .pb 0 0)], [.box (bC p2 p3 p4 p5 p6 p7 p8 p9)]⟩ := by kernel_rfl
theorem F522.c0 (k : Nat) : (F522.kt k [1,1,1,0,1,0]).ret ⟨slots 34 [(4, .v .bool false)], []⟩ =
 some (.v .bool false) := by kernel_rfl
theorem F522.c1 (k : Nat) (p0 : List Int) (p1 : Int) (p2 p3 p4 p5 p6 : List Int) (p7 : Int) (p8 : List (List Int)) : exitK (F522.kt k [1,1,1,0,1,0]) 0 ⟨slots 34 [(1, .v (.sl (.int .i64)) p0), (2, .pb 0 0)], [.box (bC p1 p2 p3 p4 p5 p6 p7 p8)]⟩ =
 bif holdsYB (p1, (p2, (p3, (p4, (p5, (p6, (p7, p8))))))) p0 then some (.v .bool (holdsY (p1, (p2, (p3, (p4, (p5, (p6, (p7, p8))))))) p0)) else none := by kernel_rfl
noncomputable def F567.fn : Func := Go.Proofs.Tryz.f7
noncomputable def F567.E : Env := ⟨tt, [(14, h_rightG), (15, h_any), (17, h_valuesL), (18, h_sumX), (19, h_logicX), (20, h_apartX), (21, h_anyR), (24, h_fitsX), (25, h_roundX), (26, h_countedX), (27, h_cmpX), (28, h_inverseX), (29, h_arithX)], [(1, [1, 2]), (2, [1, 2, 15]), (3, [1, 2]), (4, [2, 5, 6]), (5, [2, 5, 6, 25]), (6, [2, 5, 6, 25, 26]), (8, [2, 5, 6, 25, 34]), (10, [2, 5, 6, 25, 42]), (12, [2, 5, 6, 25, 50]), (13, [2, 5, 6, 25, 50]), (14, [2, 5, 6, 25, 50]), (15, [2, 5, 6, 25, 50]), (16, [2, 5, 6, 25, 50]), (17, [2, 5, 6, 25, 50]), (19, [2, 5, 6, 25, 61]), (21, [2, 5, 6, 25, 65]), (23, [2, 5, 6, 25, 71]), (25, [2, 5, 6, 25, 76]), (27, [2, 5, 6, 25, 80]), (29, [2, 5, 6, 25, 85]), (31, [2, 5, 6, 91]), (32, [2, 5])], [(0, [2, 5])], some [4], inv, []⟩
theorem F567.start_eq (k : Nat) (kk : Int) (c : (List Int) × ((List Int) × ((List Int) × ((List Int) × ((List Int) × (Int × (List (List Int)))))))) (a1 : List Int) : callW F567.E false F567.fn k [.agg (bC kk c.1 c.2.1 c.2.2.1 c.2.2.2.1 c.2.2.2.2.1 c.2.2.2.2.2.1 c.2.2.2.2.2.2), .v (.sl (.int .i64)) a1] =
 bif smallC (kk, c) then
 bif !(decide ((rightG (kk, c) (a1.length : Int)) = 0)) then
 some (.v .bool false)
 else
 bif List.any a1 farB then
 some (.v .bool false)
 else
 bif placesB1 c.1 a1 then
 bif placesB1 c.2.1 a1 then
 bif decide (kk = 1) then
 bif sumXB (kk, c) (valuesL c.1 a1) then some (.v .bool (decide ((sumX (kk, c) (valuesL c.1 a1)) = c.2.2.2.2.2.1))) else none
 else
 bif decide (kk = 2) then
 bif sumXB (kk, c) (valuesL c.1 a1) then some (.v .bool (decide ((sumX (kk, c) (valuesL c.1 a1)) ≤ c.2.2.2.2.2.1))) else none
 else
 bif decide (kk = 3) then
 bif sumXB (kk, c) (valuesL c.1 a1) then some (.v .bool (!(decide ((sumX (kk, c) (valuesL c.1 a1)) = c.2.2.2.2.2.1)))) else none
 else
 bif decide (kk = 4) then
 bif logicXB (kk, c) (valuesL c.1 a1) (valuesL c.2.1 a1) then some (.v .bool (logicX (kk, c) (valuesL c.1 a1) (valuesL c.2.1 a1))) else none
 else
 bif decide (kk = 13) then
 bif logicXB (kk, c) (valuesL c.1 a1) (valuesL c.2.1 a1) then some (.v .bool (logicX (kk, c) (valuesL c.1 a1) (valuesL c.2.1 a1))) else none
 else
 bif decide (kk = 14) then
 bif logicXB (kk, c) (valuesL c.1 a1) (valuesL c.2.1 a1) then some (.v .bool (logicX (kk, c) (valuesL c.1 a1) (valuesL c.2.1 a1))) else none
 else
 bif decide (kk = 15) then
 bif logicXB (kk, c) (valuesL c.1 a1) (valuesL c.2.1 a1) then some (.v .bool (logicX (kk, c) (valuesL c.1 a1) (valuesL c.2.1 a1))) else none
 else
 bif decide (kk = 16) then
 bif logicXB (kk, c) (valuesL c.1 a1) (valuesL c.2.1 a1) then some (.v .bool (logicX (kk, c) (valuesL c.1 a1) (valuesL c.2.1 a1))) else none
 else
 bif decide (kk = 12) then
 bif logicXB (kk, c) (valuesL c.1 a1) (valuesL c.2.1 a1) then some (.v .bool (logicX (kk, c) (valuesL c.1 a1) (valuesL c.2.1 a1))) else none
 else
 bif decide (kk = 17) then
 bif sortB (valuesL c.1 a1) then some (.v .bool (apartX (valuesL c.1 a1))) else none
 else
 bif decide (kk = 18) then
 some (.v .bool (List.any c.2.2.2.2.2.2 (rowEqB (valuesL c.1 a1))))
 else
 bif decide (kk = 19) then
 bif fitsXB (kk, c) (valuesL c.1 a1) then some (.v .bool (fitsX (kk, c) (valuesL c.1 a1))) else none
 else
 bif decide (kk = 20) then
 bif Nat.ble (valuesL c.1 a1).length 1000 then some (.v .bool (roundX (valuesL c.1 a1))) else none
 else
 bif decide (kk = 21) then
 bif countedXB (kk, c) (valuesL c.1 a1) then some (.v .bool (countedX (kk, c) (valuesL c.1 a1))) else none
 else
 bif decide (kk = 22) then
 bif cmpXB (valuesL c.1 a1) (valuesL c.2.1 a1) then some (.v .bool (decide ((cmpX (valuesL c.1 a1) (valuesL c.2.1 a1)) ≤ 0))) else none
 else
 bif decide (kk = 23) then
 bif Nat.ble (valuesL c.1 a1).length 1000 && Nat.ble (valuesL c.2.1 a1).length 1000 then some (.v .bool (inverseX (valuesL c.1 a1) (valuesL c.2.1 a1))) else none
 else
 bif arithXB (kk, c) (valuesL c.1 a1) then some (.v .bool (arithX (kk, c) (valuesL c.1 a1))) else none
 else
 none
 else
 none
 else
 none := by kernel_rfl
noncomputable def F521.fn : Func := Go.Proofs.Tryz.f6
noncomputable def F521.body : Code := bodyOf F521.fn
noncomputable def F521.E : Env := ⟨tt, [], [(1, [0, 1]), (2, [0, 1, 5]), (3, [0, 5, 8, 9, 30005]), (4, [0, 5, 8, 9, 10]), (5, [0, 5, 6, 8, 9]), (6, [0, 5, 6, 7, 8, 9]), (7, [0, 5, 6, 7, 8, 9, 16]), (8, [0, 5, 7, 8, 9]), (9, [0, 5, 8, 9]), (10, [5])], [(0, [5]), (1, [0, 5, 8, 9])], some [4], inv, []⟩
noncomputable def F521.K0 : Conts := { nrm := endW F521.E false F521.fn.results.toList, ret := endW F521.E false F521.fn.results.toList, ex := [] }
noncomputable def F521.kt (k : Nat) (q : List Nat) : Conts := contAt F521.E k F521.body F521.K0 q
noncomputable def F521.l1_1_0_1_0 (n : Nat) (K : Conts) (p0 : List Int) (p1 p2 : Int) (p3 : List Int) : Option AV := loopF F521.E n (inLoop (subC [1,1,0,1,0] F521.body)) K ⟨slots 28 [(0, .v (.sl (.int .i64)) p0), (5, .own 0), (8, .v (.int .i64) p1), (9, .v (.int .i64) p2)], [.row 3 (.int .i64) p3]⟩
noncomputable def F521.k_l1_1_0_1_0 (n : Nat) (K : Conts) (q : List Nat) : Conts := contAt F521.E n (inLoop (subC [1, 1, 0, 1, 0] F521.body)) (loopK F521.E n (inLoop (subC [1, 1, 0, 1, 0] F521.body)) K) q
noncomputable def F521.n1_1_0_1_0_0_1_1_0_0_1_1_1 (n : Nat) (K : Conts) (p0 : List Int) (p1 p2 p3 : Int) (p4 : List Int) : Option AV := runC F521.E (loopF F521.E n) (subC [1,1,0,1,0,0,1,1,0,0,1,1,1] F521.body) K ⟨slots 28 [(0, .v (.sl (.int .i64)) p0), (5, .own 0), (7, .v (.int .i64) p1), (8, .v (.int .i64) p2), (9, .v (.int .i64) p3)], [.row 3 (.int .i64) p4]⟩
theorem F521.start_eq (k : Nat) (a0 : List Int) (a1 : Int) : callW F521.E false F521.fn k [.v (.sl (.int .i64)) a0, .v (.int .i64) a1] =
 F521.l1_1_0_1_0 k (F521.kt k [1,1,0,1,0]) a0 a1 0 [] := by kernel_rfl
theorem F521.l1_1_0_1_0_eq (n : Nat) (K : Conts) (p0 : List Int) (p1 p2 : Int) (p3 : List Int) : F521.l1_1_0_1_0 (n + 1) K p0 p1 p2 p3 =
 bif decide (p2 < p1) then
 bif decide (p2 < (p0.length : Int)) then
 bif decide (0 ≤ p2) && decide (p2 < p0.length) then
 F521.n1_1_0_1_0_0_1_1_0_0_1_1_1 n (F521.k_l1_1_0_1_0 n K [1,1,0,0,1,1,1]) p0 ((p0.getD p2.toNat (0 : Int)).tmod 7) p1 p2 p3
 else
 none
 else
 F521.n1_1_0_1_0_0_1_1_0_0_1_1_1 n (F521.k_l1_1_0_1_0 n K [1,1,0,0,1,1,1]) p0 p2 p1 p2 p3
 else
 exitK K 0 ⟨slots 28 [(5, .own 0)], [.row 3 (.int .i64) p3]⟩ := by kernel_rfl
theorem F521.n1_1_0_1_0_0_1_1_0_0_1_1_1_eq (n : Nat) (K : Conts) (p0 : List Int) (p1 p2 p3 : Int) (p4 : List Int) : F521.n1_1_0_1_0_0_1_1_0_0_1_1_1 n K p0 p1 p2 p3 p4 =
 bif decide ((p4.length + [p1].length) * 8 ≤ LIM) then
 K.nrm ⟨slots 28 [(0, .v (.sl (.int .i64)) p0), (5, .own 2), (7, .v (.int .i64) p1), (8, .v (.int .i64) p2), (9, .v (.int .i64) p3), (22, .own 0), (23, .v (.int .i64) p1), (24, .own 1), (25, .own 2)], [.dead, .row 3 (.int .i64) [p1], .row 3 (.int .i64) (p4 ++ [p1])]⟩
 else
 none := by kernel_rfl
theorem F521.c0 (k : Nat) (p0 : List Int) : exitK (F521.kt k [1,1,0,1,0]) 0 ⟨slots 28 [(5, .own 0)], [.row 3 (.int .i64) p0]⟩ =
 some (.v (.sl (.int .i64)) p0) := by kernel_rfl
theorem F521.c1 (n : Nat) (K : Conts) (p0 : List Int) (p1 p2 p3 p4 : Int) (p5 p6 : List Int) : (F521.k_l1_1_0_1_0 n K [1,1,0,0,1,1,1]).nrm ⟨slots 28 [(0, .v (.sl (.int .i64)) p0), (5, .own 2), (7, .v (.int .i64) p1), (8, .v (.int .i64) p2), (9, .v (.int .i64) p3), (22, .own 0), (23, .v (.int .i64) p4), (24, .own 1), (25, .own 2)], [.dead, .row 3 (.int .i64) p5, .row 3 (.int .i64) p6]⟩ =
 F521.l1_1_0_1_0 n K p0 p2 (IntKind.i64.wrap (p3 + 1)) p6 := by kernel_rfl
end Go.Proofs.YtohdaehblenokaaGreat.Ev
