/-
The functions as the evaluator runs them: printed by a program of mine, each equation by kernel_rfl.
Conditions: none.
-/
import Derived.Test.YtohdaehblenokaaGh
set_option linter.unusedVariables false
set_option linter.unusedSimpArgs false
set_option maxRecDepth 100000
namespace Go.Proofs.Ytohdaehblenokaa.Ev
open Go
noncomputable def F567.fn : Func := Go.Proofs.Try.f8
noncomputable def F567.E : Env := ⟨tt, [(22, h_rightG), (23, h_any), (25, h_valuesL), (26, h_sumX), (27, h_logicX), (28, h_apartX), (29, h_anyR), (32, h_fitsX), (33, h_roundX), (34, h_countedX), (35, h_cmpX), (36, h_inverseX), (37, h_arithX)], [(1, [1, 2]), (2, [1, 2, 15]), (3, [1, 2]), (4, [2, 5, 6]), (5, [2, 5, 6, 25]), (6, [2, 5, 6, 25, 26]), (8, [2, 5, 6, 25, 34]), (10, [2, 5, 6, 25, 42]), (12, [2, 5, 6, 25, 50]), (13, [2, 5, 6, 25, 50]), (14, [2, 5, 6, 25, 50]), (15, [2, 5, 6, 25, 50]), (16, [2, 5, 6, 25, 50]), (17, [2, 5, 6, 25, 50]), (19, [2, 5, 6, 25, 61]), (21, [2, 5, 6, 25, 65]), (23, [2, 5, 6, 25, 71]), (25, [2, 5, 6, 25, 76]), (27, [2, 5, 6, 25, 80]), (29, [2, 5, 6, 25, 85]), (31, [2, 5, 6, 91]), (32, [2, 5])], [(0, [2, 5])], some [4], inv, []⟩
theorem F567.start_eq (k : Nat) (kk : Int) (c : (List Int) × ((List Int) × ((List Int) × ((List Int) × ((List Int) × (Int × (List (List Int)))))))) (a1 : List Int) : callW F567.E false F567.fn k [.agg (bC kk c.1 c.2.1 c.2.2.1 c.2.2.2.1 c.2.2.2.2.1 c.2.2.2.2.2.1 c.2.2.2.2.2.2), .v (.sl (.int .i64)) a1] =
 bif smallC (kk, c) then
 bif !(decide ((rightG (kk, c) (a1.length : Int)) = 0)) then
 some (.v .bool false)
 else
 bif List.any a1 farB then
 some (.v .bool false)
 else
 bif placesB1 c.1 a1 then
 bif placesB1 c.2.1 a1 then
 bif decide (kk = 1) then
 bif sumXB (kk, c) (valuesL c.1 a1) then some (.v .bool (decide ((sumX (kk, c) (valuesL c.1 a1)) = c.2.2.2.2.2.1))) else none
 else
 bif decide (kk = 2) then
 bif sumXB (kk, c) (valuesL c.1 a1) then some (.v .bool (decide ((sumX (kk, c) (valuesL c.1 a1)) ≤ c.2.2.2.2.2.1))) else none
 else
 bif decide (kk = 3) then
 bif sumXB (kk, c) (valuesL c.1 a1) then some (.v .bool (!(decide ((sumX (kk, c) (valuesL c.1 a1)) = c.2.2.2.2.2.1)))) else none
 else
 bif decide (kk = 4) then
 bif logicXB (kk, c) (valuesL c.1 a1) (valuesL c.2.1 a1) then some (.v .bool (logicX (kk, c) (valuesL c.1 a1) (valuesL c.2.1 a1))) else none
 else
 bif decide (kk = 13) then
 bif logicXB (kk, c) (valuesL c.1 a1) (valuesL c.2.1 a1) then some (.v .bool (logicX (kk, c) (valuesL c.1 a1) (valuesL c.2.1 a1))) else none
 else
 bif decide (kk = 14) then
 bif logicXB (kk, c) (valuesL c.1 a1) (valuesL c.2.1 a1) then some (.v .bool (logicX (kk, c) (valuesL c.1 a1) (valuesL c.2.1 a1))) else none
 else
 bif decide (kk = 15) then
 bif logicXB (kk, c) (valuesL c.1 a1) (valuesL c.2.1 a1) then some (.v .bool (logicX (kk, c) (valuesL c.1 a1) (valuesL c.2.1 a1))) else none
 else
 bif decide (kk = 16) then
 bif logicXB (kk, c) (valuesL c.1 a1) (valuesL c.2.1 a1) then some (.v .bool (logicX (kk, c) (valuesL c.1 a1) (valuesL c.2.1 a1))) else none
 else
 bif decide (kk = 12) then
 bif logicXB (kk, c) (valuesL c.1 a1) (valuesL c.2.1 a1) then some (.v .bool (logicX (kk, c) (valuesL c.1 a1) (valuesL c.2.1 a1))) else none
 else
 bif decide (kk = 17) then
 bif sortB (valuesL c.1 a1) then some (.v .bool (apartX (valuesL c.1 a1))) else none
 else
 bif decide (kk = 18) then
 some (.v .bool (List.any c.2.2.2.2.2.2 (rowEqB (valuesL c.1 a1))))
 else
 bif decide (kk = 19) then
 bif fitsXB (kk, c) (valuesL c.1 a1) then some (.v .bool (fitsX (kk, c) (valuesL c.1 a1))) else none
 else
 bif decide (kk = 20) then
 bif Nat.ble (valuesL c.1 a1).length 1000 then some (.v .bool (roundX (valuesL c.1 a1))) else none
 else
 bif decide (kk = 21) then
 bif countedXB (kk, c) (valuesL c.1 a1) then some (.v .bool (countedX (kk, c) (valuesL c.1 a1))) else none
 else
 bif decide (kk = 22) then
 bif cmpXB (valuesL c.1 a1) (valuesL c.2.1 a1) then some (.v .bool (decide ((cmpX (valuesL c.1 a1) (valuesL c.2.1 a1)) ≤ 0))) else none
 else
 bif decide (kk = 23) then
 bif Nat.ble (valuesL c.1 a1).length 1000 && Nat.ble (valuesL c.2.1 a1).length 1000 then some (.v .bool (inverseX (valuesL c.1 a1) (valuesL c.2.1 a1))) else none
 else
 bif arithXB (kk, c) (valuesL c.1 a1) then some (.v .bool (arithX (kk, c) (valuesL c.1 a1))) else none
 else
 none
 else
 none
 else
 none := by kernel_rfl
noncomputable def F521.fn : Func := Go.Proofs.Try.f5
noncomputable def F521.body : Code := bodyOf F521.fn
noncomputable def F521.E : Env := ⟨tt, [], [(1, [0, 1]), (2, [0, 1, 5]), (3, [0, 5, 8, 9, 30005]), (4, [0, 5, 8, 9, 10]), (5, [0, 5, 6, 8, 9]), (6, [0, 5, 6, 7, 8, 9]), (7, [0, 5, 6, 7, 8, 9, 16]), (8, [0, 5, 7, 8, 9]), (9, [0, 5, 8, 9]), (10, [5])], [(0, [5]), (1, [0, 5, 8, 9])], some [4], inv, []⟩
noncomputable def F521.K0 : Conts := { nrm := endW F521.E false F521.fn.results.toList, ret := endW F521.E false F521.fn.results.toList, ex := [] }
noncomputable def F521.kt (k : Nat) (q : List Nat) : Conts := contAt F521.E k F521.body F521.K0 q
noncomputable def F521.l1_1_0_1_0 (n : Nat) (K : Conts) (p0 : List Int) (p1 p2 : Int) (p3 : List Int) : Option AV := loopF F521.E n (inLoop (subC [1,1,0,1,0] F521.body)) K ⟨slots 28 [(0, .v (.sl (.int .i64)) p0), (5, .own 0), (8, .v (.int .i64) p1), (9, .v (.int .i64) p2)], [.row 3 (.int .i64) p3]⟩
noncomputable def F521.k_l1_1_0_1_0 (n : Nat) (K : Conts) (q : List Nat) : Conts := contAt F521.E n (inLoop (subC [1, 1, 0, 1, 0] F521.body)) (loopK F521.E n (inLoop (subC [1, 1, 0, 1, 0] F521.body)) K) q
noncomputable def F521.n1_1_0_1_0_0_1_1_0_0_1_1_1 (n : Nat) (K : Conts) (p0 : List Int) (p1 p2 p3 : Int) (p4 : List Int) : Option AV := runC F521.E (loopF F521.E n) (subC [1,1,0,1,0,0,1,1,0,0,1,1,1] F521.body) K ⟨slots 28 [(0, .v (.sl (.int .i64)) p0), (5, .own 0), (7, .v (.int .i64) p1), (8, .v (.int .i64) p2), (9, .v (.int .i64) p3)], [.row 3 (.int .i64) p4]⟩
theorem F521.start_eq (k : Nat) (a0 : List Int) (a1 : Int) : callW F521.E false F521.fn k [.v (.sl (.int .i64)) a0, .v (.int .i64) a1] =
 F521.l1_1_0_1_0 k (F521.kt k [1,1,0,1,0]) a0 a1 0 [] := by kernel_rfl
theorem F521.l1_1_0_1_0_eq (n : Nat) (K : Conts) (p0 : List Int) (p1 p2 : Int) (p3 : List Int) : F521.l1_1_0_1_0 (n + 1) K p0 p1 p2 p3 =
 bif decide (p2 < p1) then
 bif decide (p2 < (p0.length : Int)) then
 bif decide (0 ≤ p2) && decide (p2 < p0.length) then
 F521.n1_1_0_1_0_0_1_1_0_0_1_1_1 n (F521.k_l1_1_0_1_0 n K [1,1,0,0,1,1,1]) p0 ((p0.getD p2.toNat (0 : Int)).tmod 7) p1 p2 p3
 else
 none
 else
 F521.n1_1_0_1_0_0_1_1_0_0_1_1_1 n (F521.k_l1_1_0_1_0 n K [1,1,0,0,1,1,1]) p0 p2 p1 p2 p3
 else
 exitK K 0 ⟨slots 28 [(5, .own 0)], [.row 3 (.int .i64) p3]⟩ := by kernel_rfl
theorem F521.n1_1_0_1_0_0_1_1_0_0_1_1_1_eq (n : Nat) (K : Conts) (p0 : List Int) (p1 p2 p3 : Int) (p4 : List Int) : F521.n1_1_0_1_0_0_1_1_0_0_1_1_1 n K p0 p1 p2 p3 p4 =
 bif decide ((p4.length + [p1].length) * 8 ≤ LIM) then
 K.nrm ⟨slots 28 [(0, .v (.sl (.int .i64)) p0), (5, .own 2), (7, .v (.int .i64) p1), (8, .v (.int .i64) p2), (9, .v (.int .i64) p3), (22, .own 0), (23, .v (.int .i64) p1), (24, .own 1), (25, .own 2)], [.dead, .row 3 (.int .i64) [p1], .row 3 (.int .i64) (p4 ++ [p1])]⟩
 else
 none := by kernel_rfl
theorem F521.c0 (k : Nat) (p0 : List Int) : exitK (F521.kt k [1,1,0,1,0]) 0 ⟨slots 28 [(5, .own 0)], [.row 3 (.int .i64) p0]⟩ =
 some (.v (.sl (.int .i64)) p0) := by kernel_rfl
theorem F521.c1 (n : Nat) (K : Conts) (p0 : List Int) (p1 p2 p3 p4 : Int) (p5 p6 : List Int) : (F521.k_l1_1_0_1_0 n K [1,1,0,0,1,1,1]).nrm ⟨slots 28 [(0, .v (.sl (.int .i64)) p0), (5, .own 2), (7, .v (.int .i64) p1), (8, .v (.int .i64) p2), (9, .v (.int .i64) p3), (22, .own 0), (23, .v (.int .i64) p4), (24, .own 1), (25, .own 2)], [.dead, .row 3 (.int .i64) p5, .row 3 (.int .i64) p6]⟩ =
 F521.l1_1_0_1_0 n K p0 p2 (IntKind.i64.wrap (p3 + 1)) p6 := by kernel_rfl
end Go.Proofs.Ytohdaehblenokaa.Ev
