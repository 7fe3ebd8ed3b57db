/-
The functions as the evaluator runs them: printed by a program of mine, each equation by kernel_rfl.
Conditions: none.
-/
import Derived.Test.YtlfdikofmfhefaaGreatDoorAa
set_option linter.unusedVariables false
set_option linter.unusedSimpArgs false
set_option maxRecDepth 100000
namespace Go.Proofs.YtlfdikofmfhefaaGreatDoor.Ev
open Go
noncomputable def F87.fn : Func := Go.Proofs.Tryz.f49
noncomputable def F87.body : Code := bodyOf F87.fn
noncomputable def F87.E : Env := ⟨tt, [], [(1, [0, 1]), (2, [0, 1, 5]), (3, [0, 1, 5]), (4, [0, 1, 5]), (5, [0, 1, 5, 17]), (6, [])], [(0, []), (1, [0, 1, 5])], some [4], inv, []⟩
noncomputable def F87.K0 : Conts := { nrm := endW F87.E false F87.fn.results.toList, ret := endW F87.E false F87.fn.results.toList, ex := [] }
noncomputable def F87.kt (k : Nat) (q : List Nat) : Conts := contAt F87.E k F87.body F87.K0 q
noncomputable def F87.l1_0_1_0 (n : Nat) (K : Conts) (p0 : List Int) (p1 p2 : Int) : Option AV := loopF F87.E n (inLoop (subC [1,0,1,0] F87.body)) K ⟨slots 18 [(0, .v (.sl (.int .i64)) p0), (1, .v (.int .i64) p1), (5, .v (.int .i64) p2)], []⟩
theorem F87.start_eq (k : Nat) (a0 : List Int) (a1 : Int) : callW F87.E false F87.fn k [.v (.sl (.int .i64)) a0, .v (.int .i64) a1] =
 F87.l1_0_1_0 k (F87.kt k [1,0,1,0]) a0 a1 0 := by kernel_rfl
theorem F87.l1_0_1_0_eq (n : Nat) (K : Conts) (p0 : List Int) (p1 p2 : Int) : F87.l1_0_1_0 (n + 1) K p0 p1 p2 =
 bif decide (p2 < (p0.length : Int)) then
 bif decide (0 ≤ p2) && decide (p2 < p0.length) then
 bif decide ((p0.getD p2.toNat (0 : Int)) = p1) then K.ret ⟨slots 18 [(4, .v .bool true)], []⟩ else F87.l1_0_1_0 n K p0 p1 (IntKind.i64.wrap (p2 + 1))
 else
 none
 else
 exitK K 0 ⟨slots 18 [], []⟩ := by kernel_rfl
theorem F87.c0 (k : Nat) : (F87.kt k [1,0,1,0]).ret ⟨slots 18 [(4, .v .bool true)], []⟩ =
 some (.v .bool true) := by kernel_rfl
theorem F87.c1 (k : Nat) : exitK (F87.kt k [1,0,1,0]) 0 ⟨slots 18 [], []⟩ =
 some (.v .bool false) := by kernel_rfl
noncomputable def F70.fn : Func := Go.Proofs.Tryz.f26
noncomputable def F70.body : Code := bodyOf F70.fn
noncomputable def F70.E : Env := ⟨tt, [(49, h_hasL)], [(1, [0]), (2, [0, 15]), (3, [0]), (4, [0, 4]), (5, [0, 4, 5]), (6, [0, 4, 5, 6]), (7, [0, 4, 5, 6]), (8, [0, 4, 5, 6]), (9, [0, 4, 5, 6, 39]), (10, [0, 4, 5, 6]), (11, [0, 4, 5, 6, 45]), (12, [0, 4, 5, 6]), (13, [0, 4, 5, 6, 55]), (14, [0, 4, 5]), (15, [0, 63]), (16, [0]), (17, [0, 7, 30007]), (18, [0, 7, 8, 30007]), (19, [0, 7, 8, 30007]), (20, [0, 7, 8, 30007]), (21, [0, 7, 8, 9, 30007]), (22, [0, 7, 8, 30007]), (23, [0, 7, 8, 10, 30007]), (24, [0, 7, 8, 10, 11, 30007]), (25, [0, 7, 8, 10, 11, 12, 30007, 30010]), (26, [0, 7, 8, 10, 11, 12, 30007]), (27, [0, 7, 8, 10, 11, 12, 30007]), (28, [0, 7, 8, 10, 11, 12, 95, 30007]), (29, [0, 7, 8, 10, 12, 30007]), (30, [0, 7, 8, 10, 11, 12, 30007]), (31, [0, 8, 10, 11]), (32, [0, 8, 10, 111]), (33, [0, 8, 10]), (34, [7, 30007])], [(0, [0, 4, 5]), (1, [0, 4, 5, 6]), (2, [7]), (3, [0, 7, 8]), (4, [0, 8, 10, 11]), (5, [0, 7, 8, 10, 11, 12])], some [2, 3], inv, []⟩
noncomputable def F70.K0 : Conts := { nrm := endW F70.E false F70.fn.results.toList, ret := endW F70.E false F70.fn.results.toList, ex := [] }
noncomputable def F70.kt (k : Nat) (q : List Nat) : Conts := contAt F70.E k F70.body F70.K0 q
noncomputable def F70.l1_1_1_1_0_1_0 (n : Nat) (K : Conts) (p0 : List Int) (p1 p2 p3 : Int) : Option AV := loopF F70.E n (inLoop (subC [1,1,1,1,0,1,0] F70.body)) K ⟨slots 121 [(0, .v (.sl (.int .i64)) p0), (4, .v (.int .i64) p1), (5, .v (.int .i64) p2), (6, .v (.int .i64) p3)], []⟩
noncomputable def F70.l1_1_1_1_1_1_1_0_1_0 (n : Nat) (K : Conts) (p0 : List Int) (p1 : Int) (p2 : List Int) : Option AV := loopF F70.E n (inLoop (subC [1,1,1,1,1,1,1,0,1,0] F70.body)) K ⟨slots 121 [(0, .v (.sl (.int .i64)) p0), (7, .own 0), (8, .v (.int .i64) p1)], [.row 3 (.int .i64) p2]⟩
noncomputable def F70.k_l1_1_1_1_1_1_1_0_1_0 (n : Nat) (K : Conts) (q : List Nat) : Conts := contAt F70.E n (inLoop (subC [1, 1, 1, 1, 1, 1, 1, 0, 1, 0] F70.body)) (loopK F70.E n (inLoop (subC [1, 1, 1, 1, 1, 1, 1, 0, 1, 0] F70.body)) K) q
noncomputable def F70.l1_1_1_1_1_1_1_0_1_0_0_1_0_0_1_1_1_1_0_1_0 (n : Nat) (K : Conts) (p0 : List Int) (p1 : Int) (p2 : Bool) (p3 : Int) (p4 p5 : List Int) : Option AV := loopF F70.E n (inLoop (subC [1,1,1,1,1,1,1,0,1,0,0,1,0,0,1,1,1,1,0,1,0] F70.body)) K ⟨slots 121 [(0, .v (.sl (.int .i64)) p0), (7, .own 0), (8, .v (.int .i64) p1), (10, .own 1), (11, .v .bool p2), (12, .v (.int .i64) p3)], [.row 3 (.int .i64) p4, .row 3 (.int .i64) p5]⟩
theorem F70.start_eq (k : Nat) (a0 : List Int) : callW F70.E false F70.fn k [.v (.sl (.int .i64)) a0] =
 bif decide ((a0.length : Int) = 0) then
 some (.tup [.nl, .v (.int .i64) (4 : Int)])
 else
 bif decide ((0 : Int) < a0.length) then
 bif decide ((0 : Int) < a0.length) then F70.l1_1_1_1_0_1_0 k (F70.kt k [1,1,1,1,0,1,0]) a0 (a0.getD 0 (0 : Int)) (a0.getD 0 (0 : Int)) 0 else none
 else
 none := by kernel_rfl
theorem F70.l1_1_1_1_0_1_0_eq (n : Nat) (K : Conts) (p0 : List Int) (p1 p2 p3 : Int) : F70.l1_1_1_1_0_1_0 (n + 1) K p0 p1 p2 p3 =
 bif decide (p3 < (p0.length : Int)) then
 bif decide (0 ≤ p3) && decide (p3 < p0.length) then
 bif decide ((p0.getD p3.toNat (0 : Int)) < (-1000000 : Int)) then
 K.ret ⟨slots 121 [(2, .nl), (3, .v (.int .i64) (3 : Int))], []⟩
 else
 bif decide (0 ≤ p3) && decide (p3 < p0.length) then
 bif decide ((p0.getD p3.toNat (0 : Int)) > 1000000) then
 K.ret ⟨slots 121 [(2, .nl), (3, .v (.int .i64) (3 : Int))], []⟩
 else
 bif decide (0 ≤ p3) && decide (p3 < p0.length) then
 bif decide ((p0.getD p3.toNat (0 : Int)) < p1) then
 bif decide (0 ≤ p3) && decide (p3 < p0.length) then
 bif decide (0 ≤ p3) && decide (p3 < p0.length) then
 bif decide ((p0.getD p3.toNat (0 : Int)) > p2) then
 bif decide (0 ≤ p3) && decide (p3 < p0.length) then
 F70.l1_1_1_1_0_1_0 n K p0 (p0.getD p3.toNat (0 : Int)) (p0.getD p3.toNat (0 : Int)) (IntKind.i64.wrap (p3 + 1))
 else
 none
 else
 F70.l1_1_1_1_0_1_0 n K p0 (p0.getD p3.toNat (0 : Int)) p2 (IntKind.i64.wrap (p3 + 1))
 else
 none
 else
 none
 else
 bif decide (0 ≤ p3) && decide (p3 < p0.length) then
 bif decide ((p0.getD p3.toNat (0 : Int)) > p2) then
 bif decide (0 ≤ p3) && decide (p3 < p0.length) then F70.l1_1_1_1_0_1_0 n K p0 p1 (p0.getD p3.toNat (0 : Int)) (IntKind.i64.wrap (p3 + 1)) else none
 else
 F70.l1_1_1_1_0_1_0 n K p0 p1 p2 (IntKind.i64.wrap (p3 + 1))
 else
 none
 else
 none
 else
 none
 else
 none
 else
 exitK K 0 ⟨slots 121 [(0, .v (.sl (.int .i64)) p0), (4, .v (.int .i64) p1), (5, .v (.int .i64) p2)], []⟩ := by kernel_rfl
theorem F70.c0 (k : Nat) (p0 : Int) : (F70.kt k [1,1,1,1,0,1,0]).ret ⟨slots 121 [(2, .nl), (3, .v (.int .i64) p0)], []⟩ =
 some (.tup [.nl, .v (.int .i64) p0]) := by kernel_rfl
theorem F70.c1 (k : Nat) (p0 : List Int) (p1 p2 : Int) : exitK (F70.kt k [1,1,1,1,0,1,0]) 0 ⟨slots 121 [(0, .v (.sl (.int .i64)) p0), (4, .v (.int .i64) p1), (5, .v (.int .i64) p2)], []⟩ =
 bif decide ((IntKind.i64.wrap (p2 - p1)) ≥ 65536) then
 some (.tup [.nl, .v (.int .i64) (5 : Int)])
 else
 F70.l1_1_1_1_1_1_1_0_1_0 k (F70.kt k [1,1,1,1,1,1,1,0,1,0]) p0 0 [] := by kernel_rfl
theorem F70.l1_1_1_1_1_1_1_0_1_0_eq (n : Nat) (K : Conts) (p0 : List Int) (p1 : Int) (p2 : List Int) : F70.l1_1_1_1_1_1_1_0_1_0 (n + 1) K p0 p1 p2 =
 bif decide (p1 < (p0.length : Int)) then
 bif decide (0 ≤ p1) && decide (p1 < p0.length) then
 bif hasL p2 (p0.getD p1.toNat (0 : Int)) then
 F70.l1_1_1_1_1_1_1_0_1_0 n K p0 (IntKind.i64.wrap (p1 + 1)) p2
 else
 F70.l1_1_1_1_1_1_1_0_1_0_0_1_0_0_1_1_1_1_0_1_0 n (F70.k_l1_1_1_1_1_1_1_0_1_0 n K [1,0,0,1,1,1,1,0,1,0]) p0 p1 false 0 p2 []
 else
 none
 else
 exitK K 2 ⟨slots 121 [(7, .own 0)], [.row 3 (.int .i64) p2]⟩ := by kernel_rfl
theorem F70.l1_1_1_1_1_1_1_0_1_0_0_1_0_0_1_1_1_1_0_1_0_eq (n : Nat) (K : Conts) (p0 : List Int) (p1 : Int) (p2 : Bool) (p3 : Int) (p4 p5 : List Int) : F70.l1_1_1_1_1_1_1_0_1_0_0_1_0_0_1_1_1_1_0_1_0 (n + 1) K p0 p1 p2 p3 p4 p5 =
 bif decide (p3 < (p4.length : Int)) then
 bif decide (0 ≤ p3) && decide (p3 < p4.length) then
 bif decide (0 ≤ p1) && decide (p1 < p0.length) then
 bif decide ((p4.getD p3.toNat (0 : Int)) > (p0.getD p1.toNat (0 : Int))) then
 bif !p2 then
 bif decide (0 ≤ p1) && decide (p1 < p0.length) then
 bif decide ((p5.length + [p0.getD p1.toNat (0 : Int)].length) * 8 ≤ LIM) then
 bif decide (0 ≤ p3) && decide (p3 < p4.length) then
 bif decide (((p5 ++ [p0.getD p1.toNat (0 : Int)]).length + [p4.getD p3.toNat (0 : Int)].length) * 8 ≤ LIM) then
 F70.l1_1_1_1_1_1_1_0_1_0_0_1_0_0_1_1_1_1_0_1_0 n K p0 p1 true (IntKind.i64.wrap (p3 + 1)) p4 ((p5 ++ [p0.getD p1.toNat (0 : Int)]) ++ [p4.getD p3.toNat (0 : Int)])
 else
 none
 else
 none
 else
 none
 else
 none
 else
 bif decide (0 ≤ p3) && decide (p3 < p4.length) then
 bif decide ((p5.length + [p4.getD p3.toNat (0 : Int)].length) * 8 ≤ LIM) then
 F70.l1_1_1_1_1_1_1_0_1_0_0_1_0_0_1_1_1_1_0_1_0 n K p0 p1 p2 (IntKind.i64.wrap (p3 + 1)) p4 (p5 ++ [p4.getD p3.toNat (0 : Int)])
 else
 none
 else
 none
 else
 bif decide (0 ≤ p3) && decide (p3 < p4.length) then
 bif decide ((p5.length + [p4.getD p3.toNat (0 : Int)].length) * 8 ≤ LIM) then
 F70.l1_1_1_1_1_1_1_0_1_0_0_1_0_0_1_1_1_1_0_1_0 n K p0 p1 p2 (IntKind.i64.wrap (p3 + 1)) p4 (p5 ++ [p4.getD p3.toNat (0 : Int)])
 else
 none
 else
 none
 else
 none
 else
 none
 else
 exitK K 4 ⟨slots 121 [(0, .v (.sl (.int .i64)) p0), (8, .v (.int .i64) p1), (10, .own 0), (11, .v .bool p2)], [.row 3 (.int .i64) p5]⟩ := by kernel_rfl
theorem F70.c2 (k : Nat) (p0 : List Int) : exitK (F70.kt k [1,1,1,1,1,1,1,0,1,0]) 2 ⟨slots 121 [(7, .own 0)], [.row 3 (.int .i64) p0]⟩ =
 some (.tup [.v (.sl (.int .i64)) p0, .v (.int .i64) (0 : Int)]) := by kernel_rfl
theorem F70.c3 (n : Nat) (K : Conts) (p0 : List Int) (p1 : Int) (p2 : Bool) (p3 : List Int) : exitK (F70.k_l1_1_1_1_1_1_1_0_1_0 n K [1,0,0,1,1,1,1,0,1,0]) 4 ⟨slots 121 [(0, .v (.sl (.int .i64)) p0), (8, .v (.int .i64) p1), (10, .own 0), (11, .v .bool p2)], [.row 3 (.int .i64) p3]⟩ =
 bif !p2 then
 bif decide (0 ≤ p1) && decide (p1 < p0.length) then
 bif decide ((p3.length + [p0.getD p1.toNat (0 : Int)].length) * 8 ≤ LIM) then
 F70.l1_1_1_1_1_1_1_0_1_0 n K p0 (IntKind.i64.wrap (p1 + 1)) (p3 ++ [p0.getD p1.toNat (0 : Int)])
 else
 none
 else
 none
 else
 F70.l1_1_1_1_1_1_1_0_1_0 n K p0 (IntKind.i64.wrap (p1 + 1)) p3 := by kernel_rfl
noncomputable def F54.fn : Func := Go.Proofs.Tryz.f72
noncomputable def F54.body : Code := bodyOf F54.fn
noncomputable def F54.E : Env := ⟨tt, [], [(1, [0, 1, 2]), (2, [0, 1, 2, 7]), (3, [0, 1, 2, 7, 8, 30007]), (4, [0, 1, 2, 7, 8]), (5, [0, 1, 2, 7, 8]), (6, [0, 1, 2, 7, 8, 9]), (7, [0, 1, 2, 7, 8, 9, 19]), (8, [0, 1, 2, 7, 8, 9]), (9, [7])], [(0, [7]), (1, [0, 1, 2, 7, 8])], some [6], inv, []⟩
noncomputable def F54.K0 : Conts := { nrm := endW F54.E false F54.fn.results.toList, ret := endW F54.E false F54.fn.results.toList, ex := [] }
noncomputable def F54.kt (k : Nat) (q : List Nat) : Conts := contAt F54.E k F54.body F54.K0 q
noncomputable def F54.l1_1_0_1_0 (n : Nat) (K : Conts) (p0 : List Int) (p1 p2 p3 : Int) (p4 : List Int) : Option AV := loopF F54.E n (inLoop (subC [1,1,0,1,0] F54.body)) K ⟨slots 32 [(0, .v (.sl (.int .u8)) p0), (1, .v (.int .i64) p1), (2, .v (.int .i64) p2), (7, .own 0), (8, .v (.int .i64) p3)], [.row 3 (.int .i64) p4]⟩
theorem F54.start_eq (k : Nat) (a0 : List Int) (a1 a2 : Int) : callW F54.E false F54.fn k [.v (.sl (.int .u8)) a0, .v (.int .i64) a1, .v (.int .i64) a2] =
 F54.l1_1_0_1_0 k (F54.kt k [1,1,0,1,0]) a0 a1 a2 0 [] := by kernel_rfl
theorem F54.l1_1_0_1_0_eq (n : Nat) (K : Conts) (p0 : List Int) (p1 p2 p3 : Int) (p4 : List Int) : F54.l1_1_0_1_0 (n + 1) K p0 p1 p2 p3 p4 =
 bif decide (p3 < p1) then
 bif decide (p3 < (p0.length : Int)) then
 bif decide (0 ≤ p3) && decide (p3 < p0.length) then
 bif !decide (p2 = 0) then
 bif decide ((p4.length + [(IntKind.i64.wrap (p0.getD p3.toNat (0 : Int))).tmod p2].length) * 8 ≤ LIM) then
 F54.l1_1_0_1_0 n K p0 p1 p2 (IntKind.i64.wrap (p3 + 1)) (p4 ++ [(IntKind.i64.wrap (p0.getD p3.toNat (0 : Int))).tmod p2])
 else
 none
 else
 none
 else
 none
 else
 bif !decide (p2 = 0) then
 bif decide ((p4.length + [p3.tmod p2].length) * 8 ≤ LIM) then F54.l1_1_0_1_0 n K p0 p1 p2 (IntKind.i64.wrap (p3 + 1)) (p4 ++ [p3.tmod p2]) else none
 else
 none
 else
 exitK K 0 ⟨slots 32 [(7, .own 0)], [.row 3 (.int .i64) p4]⟩ := by kernel_rfl
theorem F54.c0 (k : Nat) (p0 : List Int) : exitK (F54.kt k [1,1,0,1,0]) 0 ⟨slots 32 [(7, .own 0)], [.row 3 (.int .i64) p0]⟩ =
 some (.v (.sl (.int .i64)) p0) := by kernel_rfl
noncomputable def F55.fn : Func := Go.Proofs.Tryz.f73
noncomputable def F55.body : Code := bodyOf F55.fn
noncomputable def F55.E : Env := ⟨tt, [], [(1, [0, 1, 2, 3, 4]), (2, [0, 1, 2, 3, 4, 11]), (3, [0, 1, 2, 3, 4, 11, 12, 30011]), (4, [0, 1, 2, 3, 4, 11, 12]), (5, [0, 1, 2, 3, 4, 11, 12]), (6, [0, 1, 2, 3, 4, 11, 12, 13]), (7, [0, 1, 2, 3, 4, 11, 12, 13, 24]), (8, [0, 1, 2, 3, 4, 11, 12, 13]), (9, [0, 1, 2, 3, 4, 11, 12, 13]), (10, [0, 1, 2, 3, 4, 11, 12, 13, 40]), (11, [0, 1, 2, 3, 4, 11, 12, 13]), (12, [11])], [(0, [11]), (1, [0, 1, 2, 3, 4, 11, 12])], some [10], inv, []⟩
noncomputable def F55.K0 : Conts := { nrm := endW F55.E false F55.fn.results.toList, ret := endW F55.E false F55.fn.results.toList, ex := [] }
noncomputable def F55.kt (k : Nat) (q : List Nat) : Conts := contAt F55.E k F55.body F55.K0 q
noncomputable def F55.l1_1_0_1_0 (n : Nat) (K : Conts) (p0 : List Int) (p1 p2 p3 p4 p5 : Int) (p6 : List Int) : Option AV := loopF F55.E n (inLoop (subC [1,1,0,1,0] F55.body)) K ⟨slots 48 [(0, .v (.sl (.int .i8)) p0), (1, .v (.int .i64) p1), (2, .v (.int .i64) p2), (3, .v (.int .i64) p3), (4, .v (.int .i64) p4), (11, .own 0), (12, .v (.int .i64) p5)], [.row 3 (.int .i64) p6]⟩
theorem F55.start_eq (k : Nat) (a0 : List Int) (a1 a2 a3 a4 : Int) : callW F55.E false F55.fn k [.v (.sl (.int .i8)) a0, .v (.int .i64) a1, .v (.int .i64) a2, .v (.int .i64) a3, .v (.int .i64) a4] =
 F55.l1_1_0_1_0 k (F55.kt k [1,1,0,1,0]) a0 a1 a2 a3 a4 0 [] := by kernel_rfl
theorem F55.l1_1_0_1_0_eq (n : Nat) (K : Conts) (p0 : List Int) (p1 p2 p3 p4 p5 : Int) (p6 : List Int) : F55.l1_1_0_1_0 (n + 1) K p0 p1 p2 p3 p4 p5 p6 =
 bif decide (p5 < p2) then
 bif decide ((IntKind.i64.wrap (p1 + p5)) < (p0.length : Int)) then
 bif decide (0 ≤ (IntKind.i64.wrap (p1 + p5))) && decide ((IntKind.i64.wrap (p1 + p5)) < p0.length) then
 bif !decide (p4 = 0) then
 bif decide (((IntKind.i64.wrap (p0.getD ((IntKind.i64.wrap (p1 + p5)).toNat) (0 : Int))).tmod p4) < 0) then
 bif decide (p3 ≥ 0) then
 bif decide ((p6.length + [IntKind.i64.wrap (0 - ((IntKind.i64.wrap (p0.getD ((IntKind.i64.wrap (p1 + p5)).toNat) (0 : Int))).tmod p4))].length) * 8 ≤ LIM) then
 F55.l1_1_0_1_0 n K p0 p1 p2 p3 p4 (IntKind.i64.wrap (p5 + 1)) (p6 ++ [IntKind.i64.wrap (0 - ((IntKind.i64.wrap (p0.getD ((IntKind.i64.wrap (p1 + p5)).toNat) (0 : Int))).tmod p4))])
 else
 none
 else
 bif decide ((p6.length + [(IntKind.i64.wrap (p0.getD ((IntKind.i64.wrap (p1 + p5)).toNat) (0 : Int))).tmod p4].length) * 8 ≤ LIM) then
 F55.l1_1_0_1_0 n K p0 p1 p2 p3 p4 (IntKind.i64.wrap (p5 + 1)) (p6 ++ [(IntKind.i64.wrap (p0.getD ((IntKind.i64.wrap (p1 + p5)).toNat) (0 : Int))).tmod p4])
 else
 none
 else
 bif decide ((p6.length + [(IntKind.i64.wrap (p0.getD ((IntKind.i64.wrap (p1 + p5)).toNat) (0 : Int))).tmod p4].length) * 8 ≤ LIM) then
 F55.l1_1_0_1_0 n K p0 p1 p2 p3 p4 (IntKind.i64.wrap (p5 + 1)) (p6 ++ [(IntKind.i64.wrap (p0.getD ((IntKind.i64.wrap (p1 + p5)).toNat) (0 : Int))).tmod p4])
 else
 none
 else
 none
 else
 none
 else
 bif !decide (p4 = 0) then
 bif decide (((1 : Int).tmod p4) < 0) then
 bif decide (p3 ≥ 0) then
 bif decide ((p6.length + [IntKind.i64.wrap (0 - ((1 : Int).tmod p4))].length) * 8 ≤ LIM) then
 F55.l1_1_0_1_0 n K p0 p1 p2 p3 p4 (IntKind.i64.wrap (p5 + 1)) (p6 ++ [IntKind.i64.wrap (0 - ((1 : Int).tmod p4))])
 else
 none
 else
 bif decide ((p6.length + [(1 : Int).tmod p4].length) * 8 ≤ LIM) then
 F55.l1_1_0_1_0 n K p0 p1 p2 p3 p4 (IntKind.i64.wrap (p5 + 1)) (p6 ++ [(1 : Int).tmod p4])
 else
 none
 else
 bif decide ((p6.length + [(1 : Int).tmod p4].length) * 8 ≤ LIM) then
 F55.l1_1_0_1_0 n K p0 p1 p2 p3 p4 (IntKind.i64.wrap (p5 + 1)) (p6 ++ [(1 : Int).tmod p4])
 else
 none
 else
 none
 else
 exitK K 0 ⟨slots 48 [(11, .own 0)], [.row 3 (.int .i64) p6]⟩ := by kernel_rfl
theorem F55.c0 (k : Nat) (p0 : List Int) : exitK (F55.kt k [1,1,0,1,0]) 0 ⟨slots 48 [(11, .own 0)], [.row 3 (.int .i64) p0]⟩ =
 some (.v (.sl (.int .i64)) p0) := by kernel_rfl
end Go.Proofs.YtlfdikofmfhefaaGreatDoor.Ev
