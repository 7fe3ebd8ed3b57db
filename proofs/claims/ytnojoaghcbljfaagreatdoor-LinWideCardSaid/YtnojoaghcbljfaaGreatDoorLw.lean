/-
The functions as the evaluator runs them: printed by a program of mine, each equation by kernel_rfl.
Conditions: none.
-/
import Derived.Test.YtnojoaghcbljfaaGreatDoorCg
import Derived.Test.YtnojoaghcbljfaaGreatDoorYd
import Derived.Test.YtnojoaghcbljfaaGreatDoorYc
set_option linter.unusedVariables false
set_option linter.unusedSimpArgs false
set_option maxRecDepth 100000
namespace Go.Proofs.YtnojoaghcbljfaaGreatDoor.Ev
open Go
noncomputable def F313.fn : Func := Go.Proofs.Tryz.f13
noncomputable def F313.body : Code := bodyOf F313.fn
noncomputable def F313.E : Env := ⟨tt, [(20, h_sameL), (39, h_linF), (40, h_doms340), (41, h_linR), (42, h_wakes342), (43, h_lists343)], [(1, [1]), (2, [1, 3, 4]), (3, [3, 4, 5]), (4, [3, 4, 5, 6]), (5, [3, 5, 6, 35, 36, 37, 200030005, 400030005, 300006]), (6, [3, 5, 6, 35, 36, 37, 38]), (7, [3, 5, 6, 7, 8, 35, 36, 37]), (8, [3, 5, 6, 7, 8, 9, 35, 36, 37]), (9, [3, 5, 6, 7, 8, 9, 35, 36, 37, 45]), (10, [3, 5, 6, 7, 8, 9, 35, 36, 37]), (11, [3, 5, 6, 7, 8, 9, 10, 35, 36, 37]), (12, [3, 5, 6, 7, 8, 9, 10, 35, 36, 37, 54]), (13, [3, 5, 6, 7, 8, 9, 10, 35, 36, 37]), (14, [3, 5, 6, 7, 8, 9, 10, 11, 35, 36, 37]), (15, [3, 5, 6, 7, 9, 10, 11, 35, 36, 37, 65, 66, 67]), (16, [3, 5, 6, 7, 9, 10, 11, 35, 36, 37, 65, 66, 67, 68]), (17, [3, 5, 6, 7, 9, 10, 11, 13, 35, 36, 37, 65, 66, 67]), (18, [3, 5, 6, 7, 9, 10, 11, 35, 36, 37, 65, 66, 67]), (19, [3, 5, 6, 7, 9, 11, 35, 36, 37]), (20, [3, 5, 6, 7, 9, 11, 35, 36, 37]), (21, [3, 5, 6, 35, 36, 37]), (22, [5, 6]), (23, [5, 6, 102]), (24, [5, 6]), (25, [5, 6, 14, 15]), (26, [14, 15, 16, 17])], [(0, [5, 6]), (1, [3, 5, 6, 35, 36, 37]), (2, [3, 5, 6, 7, 9, 11, 35, 36, 37]), (3, [3, 5, 6, 7, 9, 10, 11, 35, 36, 37, 65, 66, 67])], some [2], inv, [(44, h_sort), (45, h_comp)]⟩
noncomputable def F313.K0 : Conts := { nrm := endW F313.E false F313.fn.results.toList, ret := endW F313.E false F313.fn.results.toList, ex := [] }
noncomputable def F313.kt (k : Nat) (q : List Nat) : Conts := contAt F313.E k F313.body F313.K0 q
noncomputable def F313.l1_1_1_1_0_1_0 (n : Nat) (K : Conts) (p0 : List Int) (p1 : List (List Int)) (p2 p3 p4 p5 : Int) (p6 : List (List Int)) (p7 p8 : List Int) : Option AV := loopF F313.E n (inLoop (subC [1,1,1,1,0,1,0] F313.body)) K ⟨slots 134 [(3, .v (.sl (.int .i64)) p0), (5, .pb 0 0), (6, .own 1), (35, .v (.sl (.sl (.int .i64))) p1), (36, .v (.int .i64) p2), (37, .v (.int .i64) p3)], [.box [.v (.int .i64) p4, .own 2, .nl, .own 3, .nl, .nl, .v (.int .i64) p5, .nl], .row 30 (.sl (.int .i64)) p6, .row 3 (.int .i64) p7, .row 3 (.int .i64) p8]⟩
noncomputable def F313.k_l1_1_1_1_0_1_0 (n : Nat) (K : Conts) (q : List Nat) : Conts := contAt F313.E n (inLoop (subC [1, 1, 1, 1, 0, 1, 0] F313.body)) (loopK F313.E n (inLoop (subC [1, 1, 1, 1, 0, 1, 0] F313.body)) K) q
noncomputable def F313.n1_1_1_1_0_1_0_0_1 (n : Nat) (K : Conts) (p0 : List Int) (p1 : List (List Int)) (p2 p3 : Int) (p4 : Bool) (p5 p6 : Int) (p7 : List (List Int)) (p8 p9 : List Int) : Option AV := runC F313.E (loopF F313.E n) (subC [1,1,1,1,0,1,0,0,1] F313.body) K ⟨slots 134 [(3, .v (.sl (.int .i64)) p0), (5, .pb 0 0), (6, .own 1), (35, .v (.sl (.sl (.int .i64))) p1), (36, .v (.int .i64) p2), (37, .v (.int .i64) p3), (38, .v .bool p4)], [.box [.v (.int .i64) p5, .own 2, .nl, .own 3, .nl, .nl, .v (.int .i64) p6, .nl], .row 30 (.sl (.int .i64)) p7, .row 3 (.int .i64) p8, .row 3 (.int .i64) p9]⟩
noncomputable def F313.k_n1_1_1_1_0_1_0_0_1 (n : Nat) (K : Conts) (q : List Nat) : Conts := contAt F313.E n (subC [1, 1, 1, 1, 0, 1, 0, 0, 1] F313.body) K q
noncomputable def F313.n1_1_1_1_0_1_0_0_1_1_0_0_1_1_0_1 (n : Nat) (K : Conts) (p0 : List Int) (p1 : Int) (p2 : List Int) (p3 : Int) (p4 : List (List Int)) (p5 p6 : Int) (p7 : Bool) (p8 p9 : Int) (p10 : List (List Int)) (p11 p12 : List Int) : Option AV := runC F313.E (loopF F313.E n) (subC [1,1,1,1,0,1,0,0,1,1,0,0,1,1,0,1] F313.body) K ⟨slots 134 [(3, .v (.sl (.int .i64)) p0), (5, .pb 0 0), (6, .own 1), (7, .v (.int .i64) p1), (8, .v (.sl (.int .i64)) p2), (9, .v (.int .i64) p3), (35, .v (.sl (.sl (.int .i64))) p4), (36, .v (.int .i64) p5), (37, .v (.int .i64) p6), (45, .v .bool p7)], [.box [.v (.int .i64) p8, .own 2, .nl, .own 3, .nl, .nl, .v (.int .i64) p9, .nl], .row 30 (.sl (.int .i64)) p10, .row 3 (.int .i64) p11, .row 3 (.int .i64) p12]⟩
noncomputable def F313.n1_1_1_1_0_1_0_0_1_1_0_0_1_1_1_1_0_1 (n : Nat) (K : Conts) (p0 : List Int) (p1 : Int) (p2 : List Int) (p3 p4 : Int) (p5 : List (List Int)) (p6 p7 : Int) (p8 : Bool) (p9 p10 : Int) (p11 : List (List Int)) (p12 p13 : List Int) : Option AV := runC F313.E (loopF F313.E n) (subC [1,1,1,1,0,1,0,0,1,1,0,0,1,1,1,1,0,1] F313.body) K ⟨slots 134 [(3, .v (.sl (.int .i64)) p0), (5, .pb 0 0), (6, .own 1), (7, .v (.int .i64) p1), (8, .v (.sl (.int .i64)) p2), (9, .v (.int .i64) p3), (10, .v (.int .i64) p4), (35, .v (.sl (.sl (.int .i64))) p5), (36, .v (.int .i64) p6), (37, .v (.int .i64) p7), (54, .v .bool p8)], [.box [.v (.int .i64) p9, .own 2, .nl, .own 3, .nl, .nl, .v (.int .i64) p10, .nl], .row 30 (.sl (.int .i64)) p11, .row 3 (.int .i64) p12, .row 3 (.int .i64) p13]⟩
noncomputable def F313.n1_1_1_1_1_0 (n : Nat) (K : Conts) (p0 p1 : Int) (p2 : List (List Int)) (p3 p4 : List Int) : Option AV := runC F313.E (loopF F313.E n) (subC [1,1,1,1,1,0] F313.body) K ⟨slots 134 [(5, .pb 0 0), (6, .own 1)], [.box [.v (.int .i64) p0, .own 2, .nl, .own 3, .nl, .nl, .v (.int .i64) p1, .nl], .row 30 (.sl (.int .i64)) p2, .row 3 (.int .i64) p3, .row 3 (.int .i64) p4]⟩
noncomputable def F313.k_n1_1_1_1_1_0 (n : Nat) (K : Conts) (q : List Nat) : Conts := contAt F313.E n (subC [1, 1, 1, 1, 1, 0] F313.body) K q
noncomputable def F313.l1_1_1_1_0_1_0_0_1_1_0_0_1_1_1_1_1_1_0_1_0 (n : Nat) (K : Conts) (p0 : List Int) (p1 p2 p3 : Int) (p4 : List (List Int)) (p5 p6 : Int) (p7 : List Int) (p8 p9 p10 p11 : Int) (p12 : List (List Int)) (p13 p14 p15 : List Int) : Option AV := loopF F313.E n (inLoop (subC [1,1,1,1,0,1,0,0,1,1,0,0,1,1,1,1,1,1,0,1,0] F313.body)) K ⟨slots 134 [(3, .v (.sl (.int .i64)) p0), (5, .pb 0 0), (6, .own 1), (7, .v (.int .i64) p1), (9, .v (.int .i64) p2), (10, .v (.int .i64) p3), (11, .own 2), (35, .v (.sl (.sl (.int .i64))) p4), (36, .v (.int .i64) p5), (37, .v (.int .i64) p6), (65, .v (.sl (.int .i64)) p7), (66, .v (.int .i64) p8), (67, .v (.int .i64) p9)], [.box [.v (.int .i64) p10, .own 3, .nl, .own 4, .nl, .nl, .v (.int .i64) p11, .nl], .row 30 (.sl (.int .i64)) p12, .row 3 (.int .i64) p13, .row 3 (.int .i64) p14, .row 3 (.int .i64) p15]⟩
noncomputable def F313.k_l1_1_1_1_0_1_0_0_1_1_0_0_1_1_1_1_1_1_0_1_0 (n : Nat) (K : Conts) (q : List Nat) : Conts := contAt F313.E n (inLoop (subC [1, 1, 1, 1, 0, 1, 0, 0, 1, 1, 0, 0, 1, 1, 1, 1, 1, 1, 0, 1, 0] F313.body)) (loopK F313.E n (inLoop (subC [1, 1, 1, 1, 0, 1, 0, 0, 1, 1, 0, 0, 1, 1, 1, 1, 1, 1, 0, 1, 0] F313.body)) K) q
noncomputable def F313.n1_1_1_1_1_0_0 (n : Nat) (K : Conts) (p0 p1 : Int) (p2 : List (List Int)) (p3 p4 : List Int) : Option AV := runC F313.E (loopF F313.E n) (subC [1,1,1,1,1,0,0] F313.body) K ⟨slots 134 [(5, .pb 0 0), (6, .own 1)], [.box [.v (.int .i64) p0, .own 2, .nl, .own 3, .nl, .nl, .v (.int .i64) p1, .nl], .row 30 (.sl (.int .i64)) p2, .row 3 (.int .i64) p3, .row 3 (.int .i64) p4]⟩
noncomputable def F313.n1_1_1_1_0_1_0_0_1_1_0_0_1_1_1_1_1_1_0_1_0_0_1 (n : Nat) (K : Conts) (p0 : List Int) (p1 p2 p3 : Int) (p4 : List (List Int)) (p5 p6 : Int) (p7 : List Int) (p8 p9 : Int) (p10 : Bool) (p11 p12 : Int) (p13 : List (List Int)) (p14 p15 p16 : List Int) : Option AV := runC F313.E (loopF F313.E n) (subC [1,1,1,1,0,1,0,0,1,1,0,0,1,1,1,1,1,1,0,1,0,0,1] F313.body) K ⟨slots 134 [(3, .v (.sl (.int .i64)) p0), (5, .pb 0 0), (6, .own 1), (7, .v (.int .i64) p1), (9, .v (.int .i64) p2), (10, .v (.int .i64) p3), (11, .own 2), (35, .v (.sl (.sl (.int .i64))) p4), (36, .v (.int .i64) p5), (37, .v (.int .i64) p6), (65, .v (.sl (.int .i64)) p7), (66, .v (.int .i64) p8), (67, .v (.int .i64) p9), (68, .v .bool p10)], [.box [.v (.int .i64) p11, .own 3, .nl, .own 4, .nl, .nl, .v (.int .i64) p12, .nl], .row 30 (.sl (.int .i64)) p13, .row 3 (.int .i64) p14, .row 3 (.int .i64) p15, .row 3 (.int .i64) p16]⟩
noncomputable def F313.n1_1_1_1_1_0_1 (n : Nat) (K : Conts) (p0 : Bool) (p1 p2 : Int) (p3 : List (List Int)) (p4 p5 : List Int) : Option AV := runC F313.E (loopF F313.E n) (subC [1,1,1,1,1,0,1] F313.body) K ⟨slots 134 [(5, .pb 0 0), (6, .own 1), (102, .v .bool p0)], [.box [.v (.int .i64) p1, .own 2, .nl, .own 3, .nl, .nl, .v (.int .i64) p2, .nl], .row 30 (.sl (.int .i64)) p3, .row 3 (.int .i64) p4, .row 3 (.int .i64) p5]⟩
noncomputable def F313.n1_1_1_1_0_1_0_0_1_1_0_0_1_1_1_1_1_1_1_0 (n : Nat) (K : Conts) (p0 : List Int) (p1 p2 : Int) (p3 : List (List Int)) (p4 p5 p6 p7 : Int) (p8 : List (List Int)) (p9 p10 p11 : List Int) : Option AV := runC F313.E (loopF F313.E n) (subC [1,1,1,1,0,1,0,0,1,1,0,0,1,1,1,1,1,1,1,0] F313.body) K ⟨slots 134 [(3, .v (.sl (.int .i64)) p0), (5, .pb 0 0), (6, .own 1), (7, .v (.int .i64) p1), (9, .v (.int .i64) p2), (11, .own 2), (35, .v (.sl (.sl (.int .i64))) p3), (36, .v (.int .i64) p4), (37, .v (.int .i64) p5)], [.box [.v (.int .i64) p6, .own 3, .nl, .own 4, .nl, .nl, .v (.int .i64) p7, .nl], .row 30 (.sl (.int .i64)) p8, .row 3 (.int .i64) p9, .row 3 (.int .i64) p10, .row 3 (.int .i64) p11]⟩
noncomputable def F313.n1_1_1_1_1_1 (n : Nat) (K : Conts) (p0 p1 : Int) (p2 : List (List Int)) (p3 p4 p5 : List Int) : Option AV := runC F313.E (loopF F313.E n) (subC [1,1,1,1,1,1] F313.body) K ⟨slots 134 [(5, .pb 0 0), (6, .own 1)], [.box [.v (.int .i64) p0, .own 2, .own 3, .own 4, .nl, .nl, .v (.int .i64) p1, .nl], .row 30 (.sl (.int .i64)) p2, .row 3 (.int .i64) p3, .row 3 (.int .i64) p4, .row 3 (.int .i64) p5]⟩
noncomputable def F313.n1_1_1_1_1_1b (n : Nat) (K : Conts) (p0 p1 : Int) (p2 : List (List Int)) (p3 p4 : List Int) : Option AV := runC F313.E (loopF F313.E n) (subC [1,1,1,1,1,1] F313.body) K ⟨slots 134 [(5, .pb 0 0), (6, .own 1)], [.box [.v (.int .i64) p0, .own 2, .nl, .own 3, .nl, .nl, .v (.int .i64) p1, .nl], .row 30 (.sl (.int .i64)) p2, .row 3 (.int .i64) p3, .row 3 (.int .i64) p4]⟩
noncomputable def F313.n1_1_1_1_0_1_0_0_1_1_0_0_1_1_1_1_1_1_1_1 (n : Nat) (K : Conts) (p0 : List Int) (p1 p2 : Int) (p3 : List (List Int)) (p4 p5 p6 p7 : Int) (p8 : List (List Int)) (p9 p10 p11 : List Int) : Option AV := runC F313.E (loopF F313.E n) (subC [1,1,1,1,0,1,0,0,1,1,0,0,1,1,1,1,1,1,1,1] F313.body) K ⟨slots 134 [(3, .v (.sl (.int .i64)) p0), (5, .pb 0 0), (6, .own 1), (7, .v (.int .i64) p1), (9, .v (.int .i64) p2), (11, .own 2), (35, .v (.sl (.sl (.int .i64))) p3), (36, .v (.int .i64) p4), (37, .v (.int .i64) p5)], [.box [.v (.int .i64) p6, .own 3, .nl, .own 4, .nl, .nl, .v (.int .i64) p7, .nl], .row 30 (.sl (.int .i64)) p8, .row 3 (.int .i64) p9, .row 3 (.int .i64) p10, .row 3 (.int .i64) p11]⟩
theorem F313.start_eq (k : Nat) (a0 : Int × ((List Int) × ((List (List Int)) × Int))) : callW F313.E false F313.fn k [.agg [.v (.int .u8) a0.1, .v (.sl (.int .i64)) a0.2.1, .v (.sl (.sl (.int .i64))) a0.2.2.1, .v (.int .i64) a0.2.2.2]] =
 bif decide (0 ≤ (if 5 < (a0.2.2.1.length : Int) then 5 else (a0.2.2.1.length : Int))) && decide ((if 5 < (a0.2.2.1.length : Int) then 5 else (a0.2.2.1.length : Int)) ≤ a0.2.2.1.length) then
 F313.l1_1_1_1_0_1_0 k (F313.kt k [1,1,1,1,0,1,0]) a0.2.1 (a0.2.2.1.take ((if 5 < (a0.2.2.1.length : Int) then 5 else (a0.2.2.1.length : Int)).toNat)) ((a0.2.2.1.take ((if 5 < (a0.2.2.1.length : Int) then 5 else (a0.2.2.1.length : Int)).toNat)).length : Int) 0 (IntKind.i64.wrap (1 + (IntKind.i64.wrap (a0.1.tmod 4)))) (a0.2.2.2.tmod 10000000000) [] [] []
 else
 none := by kernel_rfl
theorem F313.l1_1_1_1_0_1_0_eq (n : Nat) (K : Conts) (p0 : List Int) (p1 : List (List Int)) (p2 p3 p4 p5 : Int) (p6 : List (List Int)) (p7 p8 : List Int) : F313.l1_1_1_1_0_1_0 (n + 1) K p0 p1 p2 p3 p4 p5 p6 p7 p8 =
 F313.n1_1_1_1_0_1_0_0_1 n (F313.k_l1_1_1_1_0_1_0 n K [1]) p0 p1 p2 p3 (decide (p3 < p2)) p4 p5 p6 p7 p8 := by kernel_rfl
theorem F313.n1_1_1_1_0_1_0_0_1_eqT (n : Nat) (K : Conts) (p0 : List Int) (p1 : List (List Int)) (p2 p3 p5 p6 : Int) (p7 : List (List Int)) (p8 p9 : List Int) : F313.n1_1_1_1_0_1_0_0_1 n K p0 p1 p2 p3 true p5 p6 p7 p8 p9 =
 bif decide (0 ≤ p3) && decide (p3 < p1.length) then
 F313.n1_1_1_1_0_1_0_0_1_1_0_0_1_1_0_1 n (F313.k_n1_1_1_1_0_1_0_0_1 n K [1,0,0,1,1,0,1]) p0 p3 (p1.getD p3.toNat []) 1 p1 p2 p3 (decide (p3 < (p0.length : Int))) p5 p6 p7 p8 p9
 else
 none := by kernel_rfl
theorem F313.n1_1_1_1_0_1_0_0_1_eqF (n : Nat) (K : Conts) (p0 : List Int) (p1 : List (List Int)) (p2 p3 p5 p6 : Int) (p7 : List (List Int)) (p8 p9 : List Int) : F313.n1_1_1_1_0_1_0_0_1 n K p0 p1 p2 p3 false p5 p6 p7 p8 p9 =
 exitK K 0 ⟨slots 134 [(5, .pb 0 0), (6, .own 1)], [.box [.v (.int .i64) p5, .own 2, .nl, .own 3, .nl, .nl, .v (.int .i64) p6, .nl], .row 30 (.sl (.int .i64)) p7, .row 3 (.int .i64) p8, .row 3 (.int .i64) p9]⟩ := by kernel_rfl
theorem F313.n1_1_1_1_0_1_0_0_1_eq (n : Nat) (K : Conts) (p0 : List Int) (p1 : List (List Int)) (p2 p3 : Int) (p4 : Bool) (p5 p6 : Int) (p7 : List (List Int)) (p8 p9 : List Int) : F313.n1_1_1_1_0_1_0_0_1 n K p0 p1 p2 p3 p4 p5 p6 p7 p8 p9 =
  bif p4 then
   bif decide (0 ≤ p3) && decide (p3 < p1.length) then
    F313.n1_1_1_1_0_1_0_0_1_1_0_0_1_1_0_1 n (F313.k_n1_1_1_1_0_1_0_0_1 n K [1, 0, 0, 1, 1, 0, 1]) p0 p3 (p1.getD p3.toNat []) 1 p1 p2 p3 (decide (p3 < (p0.length : Int))) p5 p6 p7 p8 p9
   else
    none
  else
   exitK K 0 ⟨slots 134 [(5, .pb 0 0), (6, .own 1)], [.box [.v (.int .i64) p5, .own 2, .nl, .own 3, .nl, .nl, .v (.int .i64) p6, .nl], .row 30 (.sl (.int .i64)) p7, .row 3 (.int .i64) p8, .row 3 (.int .i64) p9]⟩ := by
 cases p4 with
 | true => exact F313.n1_1_1_1_0_1_0_0_1_eqT n K p0 p1 p2 p3 p5 p6 p7 p8 p9
 | false => exact F313.n1_1_1_1_0_1_0_0_1_eqF n K p0 p1 p2 p3 p5 p6 p7 p8 p9
theorem F313.n1_1_1_1_0_1_0_0_1_1_0_0_1_1_0_1_eqT (n : Nat) (K : Conts) (p0 : List Int) (p1 : Int) (p2 : List Int) (p3 : Int) (p4 : List (List Int)) (p5 p6 p8 p9 : Int) (p10 : List (List Int)) (p11 p12 : List Int) : F313.n1_1_1_1_0_1_0_0_1_1_0_0_1_1_0_1 n K p0 p1 p2 p3 p4 p5 p6 true p8 p9 p10 p11 p12 =
 bif decide (0 ≤ p1) && decide (p1 < p0.length) then
 K.nrm ⟨slots 134 [(3, .v (.sl (.int .i64)) p0), (5, .pb 0 0), (6, .own 1), (7, .v (.int .i64) p1), (8, .v (.sl (.int .i64)) p2), (9, .v (.int .i64) ((p0.getD p1.toNat (0 : Int)).tmod 1000001)), (35, .v (.sl (.sl (.int .i64))) p4), (36, .v (.int .i64) p5), (37, .v (.int .i64) p6), (45, .v .bool true), (46, .v (.sl (.int .i64)) p0), (47, .v (.int .i64) p1), (48, .rp [.v (.int .i64) (p0.getD p1.toNat (0 : Int))]), (49, .v (.int .i64) (p0.getD p1.toNat (0 : Int))), (50, .v (.int .i64) ((p0.getD p1.toNat (0 : Int)).tmod 1000001))], [.box [.v (.int .i64) p8, .own 2, .nl, .own 3, .nl, .nl, .v (.int .i64) p9, .nl], .row 30 (.sl (.int .i64)) p10, .row 3 (.int .i64) p11, .row 3 (.int .i64) p12, .hole]⟩
 else
 none := by kernel_rfl
theorem F313.n1_1_1_1_0_1_0_0_1_1_0_0_1_1_0_1_eqF (n : Nat) (K : Conts) (p0 : List Int) (p1 : Int) (p2 : List Int) (p3 : Int) (p4 : List (List Int)) (p5 p6 p8 p9 : Int) (p10 : List (List Int)) (p11 p12 : List Int) : F313.n1_1_1_1_0_1_0_0_1_1_0_0_1_1_0_1 n K p0 p1 p2 p3 p4 p5 p6 false p8 p9 p10 p11 p12 =
 K.nrm ⟨slots 134 [(3, .v (.sl (.int .i64)) p0), (5, .pb 0 0), (6, .own 1), (7, .v (.int .i64) p1), (8, .v (.sl (.int .i64)) p2), (9, .v (.int .i64) p3), (35, .v (.sl (.sl (.int .i64))) p4), (36, .v (.int .i64) p5), (37, .v (.int .i64) p6), (45, .v .bool false)], [.box [.v (.int .i64) p8, .own 2, .nl, .own 3, .nl, .nl, .v (.int .i64) p9, .nl], .row 30 (.sl (.int .i64)) p10, .row 3 (.int .i64) p11, .row 3 (.int .i64) p12]⟩ := by kernel_rfl
theorem F313.n1_1_1_1_0_1_0_0_1_1_0_0_1_1_0_1_eq (n : Nat) (K : Conts) (p0 : List Int) (p1 : Int) (p2 : List Int) (p3 : Int) (p4 : List (List Int)) (p5 p6 : Int) (p7 : Bool) (p8 p9 : Int) (p10 : List (List Int)) (p11 p12 : List Int) : F313.n1_1_1_1_0_1_0_0_1_1_0_0_1_1_0_1 n K p0 p1 p2 p3 p4 p5 p6 p7 p8 p9 p10 p11 p12 =
  bif p7 then
   bif decide (0 ≤ p1) && decide (p1 < p0.length) then
    K.nrm ⟨slots 134 [(3, .v (.sl (.int .i64)) p0), (5, .pb 0 0), (6, .own 1), (7, .v (.int .i64) p1), (8, .v (.sl (.int .i64)) p2), (9, .v (.int .i64) ((p0.getD p1.toNat (0 : Int)).tmod 1000001)), (35, .v (.sl (.sl (.int .i64))) p4), (36, .v (.int .i64) p5), (37, .v (.int .i64) p6), (45, .v .bool true), (46, .v (.sl (.int .i64)) p0), (47, .v (.int .i64) p1), (48, .rp [.v (.int .i64) (p0.getD p1.toNat (0 : Int))]), (49, .v (.int .i64) (p0.getD p1.toNat (0 : Int))), (50, .v (.int .i64) ((p0.getD p1.toNat (0 : Int)).tmod 1000001))], [.box [.v (.int .i64) p8, .own 2, .nl, .own 3, .nl, .nl, .v (.int .i64) p9, .nl], .row 30 (.sl (.int .i64)) p10, .row 3 (.int .i64) p11, .row 3 (.int .i64) p12, .hole]⟩
   else
    none
  else
   K.nrm ⟨slots 134 [(3, .v (.sl (.int .i64)) p0), (5, .pb 0 0), (6, .own 1), (7, .v (.int .i64) p1), (8, .v (.sl (.int .i64)) p2), (9, .v (.int .i64) p3), (35, .v (.sl (.sl (.int .i64))) p4), (36, .v (.int .i64) p5), (37, .v (.int .i64) p6), (45, .v .bool false)], [.box [.v (.int .i64) p8, .own 2, .nl, .own 3, .nl, .nl, .v (.int .i64) p9, .nl], .row 30 (.sl (.int .i64)) p10, .row 3 (.int .i64) p11, .row 3 (.int .i64) p12]⟩ := by
 cases p7 with
 | true => exact F313.n1_1_1_1_0_1_0_0_1_1_0_0_1_1_0_1_eqT n K p0 p1 p2 p3 p4 p5 p6 p8 p9 p10 p11 p12
 | false => exact F313.n1_1_1_1_0_1_0_0_1_1_0_0_1_1_0_1_eqF n K p0 p1 p2 p3 p4 p5 p6 p8 p9 p10 p11 p12
theorem F313.c0 (n : Nat) (K : Conts) (p0 p1 : Int) (p2 : List (List Int)) (p3 p4 : List Int) : exitK (F313.k_l1_1_1_1_0_1_0 n K [1]) 0 ⟨slots 134 [(5, .pb 0 0), (6, .own 1)], [.box [.v (.int .i64) p0, .own 2, .nl, .own 3, .nl, .nl, .v (.int .i64) p1, .nl], .row 30 (.sl (.int .i64)) p2, .row 3 (.int .i64) p3, .row 3 (.int .i64) p4]⟩ =
 exitK K 0 ⟨slots 134 [(5, .pb 0 0), (6, .own 1)], [.box [.v (.int .i64) p0, .own 2, .nl, .own 3, .nl, .nl, .v (.int .i64) p1, .nl], .row 30 (.sl (.int .i64)) p2, .row 3 (.int .i64) p3, .row 3 (.int .i64) p4]⟩ := by kernel_rfl
theorem F313.c1 (n : Nat) (K : Conts) (p0 : List Int) (p1 : Int) (p2 : List Int) (p3 : Int) (p4 : List (List Int)) (p5 p6 : Int) (p7 : List Int) (p8 p9 p10 p11 p12 p13 : Int) (p14 : List (List Int)) (p15 p16 : List Int) : (F313.k_n1_1_1_1_0_1_0_0_1 n K [1,0,0,1,1,0,1]).nrm ⟨slots 134 [(3, .v (.sl (.int .i64)) p0), (5, .pb 0 0), (6, .own 1), (7, .v (.int .i64) p1), (8, .v (.sl (.int .i64)) p2), (9, .v (.int .i64) p3), (35, .v (.sl (.sl (.int .i64))) p4), (36, .v (.int .i64) p5), (37, .v (.int .i64) p6), (45, .v .bool true), (46, .v (.sl (.int .i64)) p7), (47, .v (.int .i64) p8), (48, .rp [.v (.int .i64) p9]), (49, .v (.int .i64) p10), (50, .v (.int .i64) p11)], [.box [.v (.int .i64) p12, .own 2, .nl, .own 3, .nl, .nl, .v (.int .i64) p13, .nl], .row 30 (.sl (.int .i64)) p14, .row 3 (.int .i64) p15, .row 3 (.int .i64) p16, .hole]⟩ =
 F313.n1_1_1_1_0_1_0_0_1_1_0_0_1_1_1_1_0_1 n (F313.k_n1_1_1_1_0_1_0_0_1 n K [1,0,0,1,1,1,1,0,1]) p0 p1 p2 p3 p3 p4 p5 p6 (decide ((p2.length : Int) > 0)) p12 p13 p14 p15 p16 := by kernel_rfl
theorem F313.c2 (n : Nat) (K : Conts) (p0 : List Int) (p1 : Int) (p2 : List Int) (p3 : Int) (p4 : List (List Int)) (p5 p6 p7 p8 : Int) (p9 : List (List Int)) (p10 p11 : List Int) : (F313.k_n1_1_1_1_0_1_0_0_1 n K [1,0,0,1,1,0,1]).nrm ⟨slots 134 [(3, .v (.sl (.int .i64)) p0), (5, .pb 0 0), (6, .own 1), (7, .v (.int .i64) p1), (8, .v (.sl (.int .i64)) p2), (9, .v (.int .i64) p3), (35, .v (.sl (.sl (.int .i64))) p4), (36, .v (.int .i64) p5), (37, .v (.int .i64) p6), (45, .v .bool false)], [.box [.v (.int .i64) p7, .own 2, .nl, .own 3, .nl, .nl, .v (.int .i64) p8, .nl], .row 30 (.sl (.int .i64)) p9, .row 3 (.int .i64) p10, .row 3 (.int .i64) p11]⟩ =
 F313.n1_1_1_1_0_1_0_0_1_1_0_0_1_1_1_1_0_1 n (F313.k_n1_1_1_1_0_1_0_0_1 n K [1,0,0,1,1,1,1,0,1]) p0 p1 p2 p3 p3 p4 p5 p6 (decide ((p2.length : Int) > 0)) p7 p8 p9 p10 p11 := by kernel_rfl
theorem F313.n1_1_1_1_0_1_0_0_1_1_0_0_1_1_1_1_0_1_eqT (n : Nat) (K : Conts) (p0 : List Int) (p1 : Int) (p2 : List Int) (p3 p4 : Int) (p5 : List (List Int)) (p6 p7 p9 p10 : Int) (p11 : List (List Int)) (p12 p13 : List Int) : F313.n1_1_1_1_0_1_0_0_1_1_0_0_1_1_1_1_0_1 n K p0 p1 p2 p3 p4 p5 p6 p7 true p9 p10 p11 p12 p13 =
 bif decide ((0 : Int) < p2.length) then
 K.nrm ⟨slots 134 [(3, .v (.sl (.int .i64)) p0), (5, .pb 0 0), (6, .own 1), (7, .v (.int .i64) p1), (8, .v (.sl (.int .i64)) p2), (9, .v (.int .i64) p3), (10, .v (.int .i64) ((p2.getD 0 (0 : Int)).tmod 999991)), (35, .v (.sl (.sl (.int .i64))) p5), (36, .v (.int .i64) p6), (37, .v (.int .i64) p7), (54, .v .bool true), (55, .v (.sl (.int .i64)) p2), (56, .rp [.v (.int .i64) (p2.getD 0 (0 : Int))]), (57, .v (.int .i64) (p2.getD 0 (0 : Int))), (58, .v (.int .i64) ((p2.getD 0 (0 : Int)).tmod 999991))], [.box [.v (.int .i64) p9, .own 2, .nl, .own 3, .nl, .nl, .v (.int .i64) p10, .nl], .row 30 (.sl (.int .i64)) p11, .row 3 (.int .i64) p12, .row 3 (.int .i64) p13, .hole]⟩
 else
 none := by kernel_rfl
theorem F313.n1_1_1_1_0_1_0_0_1_1_0_0_1_1_1_1_0_1_eqF (n : Nat) (K : Conts) (p0 : List Int) (p1 : Int) (p2 : List Int) (p3 p4 : Int) (p5 : List (List Int)) (p6 p7 p9 p10 : Int) (p11 : List (List Int)) (p12 p13 : List Int) : F313.n1_1_1_1_0_1_0_0_1_1_0_0_1_1_1_1_0_1 n K p0 p1 p2 p3 p4 p5 p6 p7 false p9 p10 p11 p12 p13 =
 K.nrm ⟨slots 134 [(3, .v (.sl (.int .i64)) p0), (5, .pb 0 0), (6, .own 1), (7, .v (.int .i64) p1), (8, .v (.sl (.int .i64)) p2), (9, .v (.int .i64) p3), (10, .v (.int .i64) p4), (35, .v (.sl (.sl (.int .i64))) p5), (36, .v (.int .i64) p6), (37, .v (.int .i64) p7), (54, .v .bool false)], [.box [.v (.int .i64) p9, .own 2, .nl, .own 3, .nl, .nl, .v (.int .i64) p10, .nl], .row 30 (.sl (.int .i64)) p11, .row 3 (.int .i64) p12, .row 3 (.int .i64) p13]⟩ := by kernel_rfl
theorem F313.n1_1_1_1_0_1_0_0_1_1_0_0_1_1_1_1_0_1_eq (n : Nat) (K : Conts) (p0 : List Int) (p1 : Int) (p2 : List Int) (p3 p4 : Int) (p5 : List (List Int)) (p6 p7 : Int) (p8 : Bool) (p9 p10 : Int) (p11 : List (List Int)) (p12 p13 : List Int) : F313.n1_1_1_1_0_1_0_0_1_1_0_0_1_1_1_1_0_1 n K p0 p1 p2 p3 p4 p5 p6 p7 p8 p9 p10 p11 p12 p13 =
  bif p8 then
   bif decide ((0 : Int) < p2.length) then
    K.nrm ⟨slots 134 [(3, .v (.sl (.int .i64)) p0), (5, .pb 0 0), (6, .own 1), (7, .v (.int .i64) p1), (8, .v (.sl (.int .i64)) p2), (9, .v (.int .i64) p3), (10, .v (.int .i64) ((p2.getD 0 (0 : Int)).tmod 999991)), (35, .v (.sl (.sl (.int .i64))) p5), (36, .v (.int .i64) p6), (37, .v (.int .i64) p7), (54, .v .bool true), (55, .v (.sl (.int .i64)) p2), (56, .rp [.v (.int .i64) (p2.getD 0 (0 : Int))]), (57, .v (.int .i64) (p2.getD 0 (0 : Int))), (58, .v (.int .i64) ((p2.getD 0 (0 : Int)).tmod 999991))], [.box [.v (.int .i64) p9, .own 2, .nl, .own 3, .nl, .nl, .v (.int .i64) p10, .nl], .row 30 (.sl (.int .i64)) p11, .row 3 (.int .i64) p12, .row 3 (.int .i64) p13, .hole]⟩
   else
    none
  else
   K.nrm ⟨slots 134 [(3, .v (.sl (.int .i64)) p0), (5, .pb 0 0), (6, .own 1), (7, .v (.int .i64) p1), (8, .v (.sl (.int .i64)) p2), (9, .v (.int .i64) p3), (10, .v (.int .i64) p4), (35, .v (.sl (.sl (.int .i64))) p5), (36, .v (.int .i64) p6), (37, .v (.int .i64) p7), (54, .v .bool false)], [.box [.v (.int .i64) p9, .own 2, .nl, .own 3, .nl, .nl, .v (.int .i64) p10, .nl], .row 30 (.sl (.int .i64)) p11, .row 3 (.int .i64) p12, .row 3 (.int .i64) p13]⟩ := by
 cases p8 with
 | true => exact F313.n1_1_1_1_0_1_0_0_1_1_0_0_1_1_1_1_0_1_eqT n K p0 p1 p2 p3 p4 p5 p6 p7 p9 p10 p11 p12 p13
 | false => exact F313.n1_1_1_1_0_1_0_0_1_1_0_0_1_1_1_1_0_1_eqF n K p0 p1 p2 p3 p4 p5 p6 p7 p9 p10 p11 p12 p13
theorem F313.c3 (k : Nat) (p0 p1 : Int) (p2 : List (List Int)) (p3 p4 : List Int) : exitK (F313.kt k [1,1,1,1,0,1,0]) 0 ⟨slots 134 [(5, .pb 0 0), (6, .own 1)], [.box [.v (.int .i64) p0, .own 2, .nl, .own 3, .nl, .nl, .v (.int .i64) p1, .nl], .row 30 (.sl (.int .i64)) p2, .row 3 (.int .i64) p3, .row 3 (.int .i64) p4]⟩ =
 F313.n1_1_1_1_1_0 k (F313.kt k [1,1,1,1,1,0]) p0 p1 p2 p3 p4 := by kernel_rfl
theorem F313.c4 (n : Nat) (K : Conts) (p0 : List Int) (p1 : Int) (p2 : List Int) (p3 p4 : Int) (p5 : List (List Int)) (p6 p7 : Int) (p8 : List Int) (p9 p10 p11 p12 p13 : Int) (p14 : List (List Int)) (p15 p16 : List Int) : (F313.k_n1_1_1_1_0_1_0_0_1 n K [1,0,0,1,1,1,1,0,1]).nrm ⟨slots 134 [(3, .v (.sl (.int .i64)) p0), (5, .pb 0 0), (6, .own 1), (7, .v (.int .i64) p1), (8, .v (.sl (.int .i64)) p2), (9, .v (.int .i64) p3), (10, .v (.int .i64) p4), (35, .v (.sl (.sl (.int .i64))) p5), (36, .v (.int .i64) p6), (37, .v (.int .i64) p7), (54, .v .bool true), (55, .v (.sl (.int .i64)) p8), (56, .rp [.v (.int .i64) p9]), (57, .v (.int .i64) p10), (58, .v (.int .i64) p11)], [.box [.v (.int .i64) p12, .own 2, .nl, .own 3, .nl, .nl, .v (.int .i64) p13, .nl], .row 30 (.sl (.int .i64)) p14, .row 3 (.int .i64) p15, .row 3 (.int .i64) p16, .hole]⟩ =
 bif decide (0 ≤ (if 4 < (p2.length : Int) then 4 else (p2.length : Int))) && decide ((if 4 < (p2.length : Int) then 4 else (p2.length : Int)) ≤ p2.length) then
 F313.l1_1_1_1_0_1_0_0_1_1_0_0_1_1_1_1_1_1_0_1_0 n (F313.k_n1_1_1_1_0_1_0_0_1 n K [1,0,0,1,1,1,1,1,1,0,1,0]) p0 p1 p3 p4 p5 p6 p7 (p2.take ((if 4 < (p2.length : Int) then 4 else (p2.length : Int)).toNat)) ((p2.take ((if 4 < (p2.length : Int) then 4 else (p2.length : Int)).toNat)).length : Int) 0 p12 p13 p14 [p4] p15 p16
 else
 none := by kernel_rfl
theorem F313.c5 (n : Nat) (K : Conts) (p0 : List Int) (p1 : Int) (p2 : List Int) (p3 p4 : Int) (p5 : List (List Int)) (p6 p7 p8 p9 : Int) (p10 : List (List Int)) (p11 p12 : List Int) : (F313.k_n1_1_1_1_0_1_0_0_1 n K [1,0,0,1,1,1,1,0,1]).nrm ⟨slots 134 [(3, .v (.sl (.int .i64)) p0), (5, .pb 0 0), (6, .own 1), (7, .v (.int .i64) p1), (8, .v (.sl (.int .i64)) p2), (9, .v (.int .i64) p3), (10, .v (.int .i64) p4), (35, .v (.sl (.sl (.int .i64))) p5), (36, .v (.int .i64) p6), (37, .v (.int .i64) p7), (54, .v .bool false)], [.box [.v (.int .i64) p8, .own 2, .nl, .own 3, .nl, .nl, .v (.int .i64) p9, .nl], .row 30 (.sl (.int .i64)) p10, .row 3 (.int .i64) p11, .row 3 (.int .i64) p12]⟩ =
 bif decide (0 ≤ (if 4 < (p2.length : Int) then 4 else (p2.length : Int))) && decide ((if 4 < (p2.length : Int) then 4 else (p2.length : Int)) ≤ p2.length) then
 F313.l1_1_1_1_0_1_0_0_1_1_0_0_1_1_1_1_1_1_0_1_0 n (F313.k_n1_1_1_1_0_1_0_0_1 n K [1,0,0,1,1,1,1,1,1,0,1,0]) p0 p1 p3 p4 p5 p6 p7 (p2.take ((if 4 < (p2.length : Int) then 4 else (p2.length : Int)).toNat)) ((p2.take ((if 4 < (p2.length : Int) then 4 else (p2.length : Int)).toNat)).length : Int) 0 p8 p9 p10 [p4] p11 p12
 else
 none := by kernel_rfl
theorem F313.n1_1_1_1_1_0_eq (n : Nat) (K : Conts) (p0 p1 : Int) (p2 : List (List Int)) (p3 p4 : List Int) : F313.n1_1_1_1_1_0 n K p0 p1 p2 p3 p4 =
  F313.n1_1_1_1_1_0_0 n (F313.k_n1_1_1_1_1_0 n K [0]) p0 p1 p2 p3 p4 :=
 seq_cut (E := F313.E) (n := n) (c := subC [1, 1, 1, 1, 1, 0] F313.body) (a := subC [1, 1, 1, 1, 1, 0, 0] F313.body) (b := subC [1, 1, 1, 1, 1, 0, 1] F313.body) (by kernel_rfl)
theorem F313.l1_1_1_1_0_1_0_0_1_1_0_0_1_1_1_1_1_1_0_1_0_eq (n : Nat) (K : Conts) (p0 : List Int) (p1 p2 p3 : Int) (p4 : List (List Int)) (p5 p6 : Int) (p7 : List Int) (p8 p9 p10 p11 : Int) (p12 : List (List Int)) (p13 p14 p15 : List Int) : F313.l1_1_1_1_0_1_0_0_1_1_0_0_1_1_1_1_1_1_0_1_0 (n + 1) K p0 p1 p2 p3 p4 p5 p6 p7 p8 p9 p10 p11 p12 p13 p14 p15 =
 F313.n1_1_1_1_0_1_0_0_1_1_0_0_1_1_1_1_1_1_0_1_0_0_1 n (F313.k_l1_1_1_1_0_1_0_0_1_1_0_0_1_1_1_1_1_1_0_1_0 n K [1]) p0 p1 p2 p3 p4 p5 p6 p7 p8 p9 (decide (p9 < p8)) p10 p11 p12 p13 p14 p15 := by kernel_rfl
theorem F313.n1_1_1_1_1_0_0_eq (n : Nat) (K : Conts) (p0 p1 : Int) (p2 : List (List Int)) (p3 p4 : List Int) : F313.n1_1_1_1_1_0_0 n K p0 p1 p2 p3 p4 =
 K.nrm ⟨slots 134 [(5, .pb 0 0), (6, .own 1), (100, .pb 0 0), (101, .v (.int .i64) p0), (102, .v .bool (decide (p0 = 4)))], [.box [.v (.int .i64) p0, .own 2, .nl, .own 3, .nl, .nl, .v (.int .i64) p1, .nl], .row 30 (.sl (.int .i64)) p2, .row 3 (.int .i64) p3, .row 3 (.int .i64) p4, .hole]⟩ := by kernel_rfl
theorem F313.n1_1_1_1_0_1_0_0_1_1_0_0_1_1_1_1_1_1_0_1_0_0_1_eqT (n : Nat) (K : Conts) (p0 : List Int) (p1 p2 p3 : Int) (p4 : List (List Int)) (p5 p6 : Int) (p7 : List Int) (p8 p9 p11 p12 : Int) (p13 : List (List Int)) (p14 p15 p16 : List Int) : F313.n1_1_1_1_0_1_0_0_1_1_0_0_1_1_1_1_1_1_0_1_0_0_1 n K p0 p1 p2 p3 p4 p5 p6 p7 p8 p9 true p11 p12 p13 p14 p15 p16 =
 bif decide (0 ≤ p9) && decide (p9 < p7.length) then
 bif decide ((p14.length + [IntKind.i64.wrap (p3 + ((if p7.getD p9.toNat (0 : Int) > 0 then p7.getD p9.toNat (0 : Int) else 0).tmod 10))].length) * 8 ≤ LIM) then
 K.nrm ⟨slots 134 [(3, .v (.sl (.int .i64)) p0), (5, .pb 0 0), (6, .own 1), (7, .v (.int .i64) p1), (9, .v (.int .i64) p2), (10, .v (.int .i64) p3), (11, .own 2), (35, .v (.sl (.sl (.int .i64))) p4), (36, .v (.int .i64) p5), (37, .v (.int .i64) p6), (65, .v (.sl (.int .i64)) p7), (66, .v (.int .i64) p8), (67, .v (.int .i64) (IntKind.i64.wrap (p9 + 1))), (79, .v (.int .i64) (IntKind.i64.wrap (p9 + 1)))], [.box [.v (.int .i64) p11, .own 3, .nl, .own 4, .nl, .nl, .v (.int .i64) p12, .nl], .row 30 (.sl (.int .i64)) p13, .row 3 (.int .i64) (p14 ++ [IntKind.i64.wrap (p3 + ((if p7.getD p9.toNat (0 : Int) > 0 then p7.getD p9.toNat (0 : Int) else 0).tmod 10))]), .row 3 (.int .i64) p15, .row 3 (.int .i64) p16]⟩
 else
 none
 else
 none := by kernel_rfl
theorem F313.n1_1_1_1_0_1_0_0_1_1_0_0_1_1_1_1_1_1_0_1_0_0_1_eqF (n : Nat) (K : Conts) (p0 : List Int) (p1 p2 p3 : Int) (p4 : List (List Int)) (p5 p6 : Int) (p7 : List Int) (p8 p9 p11 p12 : Int) (p13 : List (List Int)) (p14 p15 p16 : List Int) : F313.n1_1_1_1_0_1_0_0_1_1_0_0_1_1_1_1_1_1_0_1_0_0_1 n K p0 p1 p2 p3 p4 p5 p6 p7 p8 p9 false p11 p12 p13 p14 p15 p16 =
 exitK K 2 ⟨slots 134 [(3, .v (.sl (.int .i64)) p0), (5, .pb 0 0), (6, .own 1), (7, .v (.int .i64) p1), (9, .v (.int .i64) p2), (11, .own 2), (35, .v (.sl (.sl (.int .i64))) p4), (36, .v (.int .i64) p5), (37, .v (.int .i64) p6)], [.box [.v (.int .i64) p11, .own 3, .nl, .own 4, .nl, .nl, .v (.int .i64) p12, .nl], .row 30 (.sl (.int .i64)) p13, .row 3 (.int .i64) p14, .row 3 (.int .i64) p15, .row 3 (.int .i64) p16]⟩ := by kernel_rfl
theorem F313.n1_1_1_1_0_1_0_0_1_1_0_0_1_1_1_1_1_1_0_1_0_0_1_eq (n : Nat) (K : Conts) (p0 : List Int) (p1 p2 p3 : Int) (p4 : List (List Int)) (p5 p6 : Int) (p7 : List Int) (p8 p9 : Int) (p10 : Bool) (p11 p12 : Int) (p13 : List (List Int)) (p14 p15 p16 : List Int) : F313.n1_1_1_1_0_1_0_0_1_1_0_0_1_1_1_1_1_1_0_1_0_0_1 n K p0 p1 p2 p3 p4 p5 p6 p7 p8 p9 p10 p11 p12 p13 p14 p15 p16 =
  bif p10 then
   bif decide (0 ≤ p9) && decide (p9 < p7.length) then
    bif decide ((p14.length + [IntKind.i64.wrap (p3 + ((if p7.getD p9.toNat (0 : Int) > 0 then p7.getD p9.toNat (0 : Int) else 0).tmod 10))].length) * 8 ≤ LIM) then
     K.nrm ⟨slots 134 [(3, .v (.sl (.int .i64)) p0), (5, .pb 0 0), (6, .own 1), (7, .v (.int .i64) p1), (9, .v (.int .i64) p2), (10, .v (.int .i64) p3), (11, .own 2), (35, .v (.sl (.sl (.int .i64))) p4), (36, .v (.int .i64) p5), (37, .v (.int .i64) p6), (65, .v (.sl (.int .i64)) p7), (66, .v (.int .i64) p8), (67, .v (.int .i64) (IntKind.i64.wrap (p9 + 1))), (79, .v (.int .i64) (IntKind.i64.wrap (p9 + 1)))], [.box [.v (.int .i64) p11, .own 3, .nl, .own 4, .nl, .nl, .v (.int .i64) p12, .nl], .row 30 (.sl (.int .i64)) p13, .row 3 (.int .i64) (p14 ++ [IntKind.i64.wrap (p3 + ((if p7.getD p9.toNat (0 : Int) > 0 then p7.getD p9.toNat (0 : Int) else 0).tmod 10))]), .row 3 (.int .i64) p15, .row 3 (.int .i64) p16]⟩
    else
     none
   else
    none
  else
   exitK K 2 ⟨slots 134 [(3, .v (.sl (.int .i64)) p0), (5, .pb 0 0), (6, .own 1), (7, .v (.int .i64) p1), (9, .v (.int .i64) p2), (11, .own 2), (35, .v (.sl (.sl (.int .i64))) p4), (36, .v (.int .i64) p5), (37, .v (.int .i64) p6)], [.box [.v (.int .i64) p11, .own 3, .nl, .own 4, .nl, .nl, .v (.int .i64) p12, .nl], .row 30 (.sl (.int .i64)) p13, .row 3 (.int .i64) p14, .row 3 (.int .i64) p15, .row 3 (.int .i64) p16]⟩ := by
 cases p10 with
 | true => exact F313.n1_1_1_1_0_1_0_0_1_1_0_0_1_1_1_1_1_1_0_1_0_0_1_eqT n K p0 p1 p2 p3 p4 p5 p6 p7 p8 p9 p11 p12 p13 p14 p15 p16
 | false => exact F313.n1_1_1_1_0_1_0_0_1_1_0_0_1_1_1_1_1_1_0_1_0_0_1_eqF n K p0 p1 p2 p3 p4 p5 p6 p7 p8 p9 p11 p12 p13 p14 p15 p16
theorem F313.c6 (n : Nat) (K : Conts) (p0 : Int) (p1 : Bool) (p2 p3 : Int) (p4 : List (List Int)) (p5 p6 : List Int) : (F313.k_n1_1_1_1_1_0 n K [0]).nrm ⟨slots 134 [(5, .pb 0 0), (6, .own 1), (100, .pb 0 0), (101, .v (.int .i64) p0), (102, .v .bool p1)], [.box [.v (.int .i64) p2, .own 2, .nl, .own 3, .nl, .nl, .v (.int .i64) p3, .nl], .row 30 (.sl (.int .i64)) p4, .row 3 (.int .i64) p5, .row 3 (.int .i64) p6, .hole]⟩ =
  F313.n1_1_1_1_1_0_1 n (F313.k_n1_1_1_1_1_0 n K [1]) p1 p2 p3 p4 p5 p6 := 
 nrm_cut (E := F313.E) (lp := loopF F313.E n) (b := subC [1, 1, 1, 1, 1, 0, 1] F313.body) (Kb := (F313.k_n1_1_1_1_1_0 n K [1])) (g := (F313.k_n1_1_1_1_1_0 n K [0]).nrm) (σ2 := ⟨slots 134 [(5, .pb 0 0), (6, .own 1), (102, .v .bool p1)], [.box [.v (.int .i64) p2, .own 2, .nl, .own 3, .nl, .nl, .v (.int .i64) p3, .nl], .row 30 (.sl (.int .i64)) p4, .row 3 (.int .i64) p5, .row 3 (.int .i64) p6]⟩) (fun σ => by kernel_rfl) (by kernel_rfl)
theorem F313.c7 (n : Nat) (K : Conts) (p0 : List Int) (p1 p2 p3 : Int) (p4 : List (List Int)) (p5 p6 : Int) (p7 : List Int) (p8 p9 p10 p11 p12 : Int) (p13 : List (List Int)) (p14 p15 p16 : List Int) : (F313.k_l1_1_1_1_0_1_0_0_1_1_0_0_1_1_1_1_1_1_0_1_0 n K [1]).nrm ⟨slots 134 [(3, .v (.sl (.int .i64)) p0), (5, .pb 0 0), (6, .own 1), (7, .v (.int .i64) p1), (9, .v (.int .i64) p2), (10, .v (.int .i64) p3), (11, .own 2), (35, .v (.sl (.sl (.int .i64))) p4), (36, .v (.int .i64) p5), (37, .v (.int .i64) p6), (65, .v (.sl (.int .i64)) p7), (66, .v (.int .i64) p8), (67, .v (.int .i64) p9), (79, .v (.int .i64) p10)], [.box [.v (.int .i64) p11, .own 3, .nl, .own 4, .nl, .nl, .v (.int .i64) p12, .nl], .row 30 (.sl (.int .i64)) p13, .row 3 (.int .i64) p14, .row 3 (.int .i64) p15, .row 3 (.int .i64) p16]⟩ =
 F313.l1_1_1_1_0_1_0_0_1_1_0_0_1_1_1_1_1_1_0_1_0 n K p0 p1 p2 p3 p4 p5 p6 p7 p8 p9 p11 p12 p13 p14 p15 p16 := by kernel_rfl
theorem F313.c8 (n : Nat) (K : Conts) (p0 : List Int) (p1 p2 : Int) (p3 : List (List Int)) (p4 p5 p6 p7 : Int) (p8 : List (List Int)) (p9 p10 p11 : List Int) : exitK (F313.k_l1_1_1_1_0_1_0_0_1_1_0_0_1_1_1_1_1_1_0_1_0 n K [1]) 2 ⟨slots 134 [(3, .v (.sl (.int .i64)) p0), (5, .pb 0 0), (6, .own 1), (7, .v (.int .i64) p1), (9, .v (.int .i64) p2), (11, .own 2), (35, .v (.sl (.sl (.int .i64))) p3), (36, .v (.int .i64) p4), (37, .v (.int .i64) p5)], [.box [.v (.int .i64) p6, .own 3, .nl, .own 4, .nl, .nl, .v (.int .i64) p7, .nl], .row 30 (.sl (.int .i64)) p8, .row 3 (.int .i64) p9, .row 3 (.int .i64) p10, .row 3 (.int .i64) p11]⟩ =
 exitK K 2 ⟨slots 134 [(3, .v (.sl (.int .i64)) p0), (5, .pb 0 0), (6, .own 1), (7, .v (.int .i64) p1), (9, .v (.int .i64) p2), (11, .own 2), (35, .v (.sl (.sl (.int .i64))) p3), (36, .v (.int .i64) p4), (37, .v (.int .i64) p5)], [.box [.v (.int .i64) p6, .own 3, .nl, .own 4, .nl, .nl, .v (.int .i64) p7, .nl], .row 30 (.sl (.int .i64)) p8, .row 3 (.int .i64) p9, .row 3 (.int .i64) p10, .row 3 (.int .i64) p11]⟩ := by kernel_rfl
theorem F313.n1_1_1_1_1_0_1_eqT (n : Nat) (K : Conts) (p1 p2 : Int) (p3 : List (List Int)) (p4 p5 : List Int) : F313.n1_1_1_1_1_0_1 n K true p1 p2 p3 p4 p5 =
 bif decide ((p3.length + [[0,1]].length) * 24 ≤ LIM) then
 K.nrm ⟨slots 134 [(5, .pb 0 0), (6, .own 7), (102, .v .bool true), (103, .own 4), (104, .own 1), (105, .own 5), (106, .own 6), (107, .own 7), (108, .pb 0 2)], [.box [.v (.int .i64) p1, .own 2, .own 4, .own 3, .nl, .nl, .v (.int .i64) p2, .nl], .dead, .row 3 (.int .i64) p4, .row 3 (.int .i64) p5, .row 3 (.int .i64) ([0] : (List Int)), .frz (.int .i64) ([0,1] : (List Int)), .row 30 (.sl (.int .i64)) ([[0,1]] : (List (List Int))), .row 30 (.sl (.int .i64)) (p3 ++ [[0,1]] : (List (List Int)))]⟩
 else
 none := by kernel_rfl
theorem F313.n1_1_1_1_1_0_1_eqF (n : Nat) (K : Conts) (p1 p2 : Int) (p3 : List (List Int)) (p4 p5 : List Int) : F313.n1_1_1_1_1_0_1 n K false p1 p2 p3 p4 p5 =
 K.nrm ⟨slots 134 [(5, .pb 0 0), (6, .own 1), (102, .v .bool false)], [.box [.v (.int .i64) p1, .own 2, .nl, .own 3, .nl, .nl, .v (.int .i64) p2, .nl], .row 30 (.sl (.int .i64)) p3, .row 3 (.int .i64) p4, .row 3 (.int .i64) p5]⟩ := by kernel_rfl
theorem F313.n1_1_1_1_1_0_1_eq (n : Nat) (K : Conts) (p0 : Bool) (p1 p2 : Int) (p3 : List (List Int)) (p4 p5 : List Int) : F313.n1_1_1_1_1_0_1 n K p0 p1 p2 p3 p4 p5 =
  bif p0 then
   bif decide ((p3.length + [[0, 1]].length) * 24 ≤ LIM) then
    K.nrm ⟨slots 134 [(5, .pb 0 0), (6, .own 7), (102, .v .bool true), (103, .own 4), (104, .own 1), (105, .own 5), (106, .own 6), (107, .own 7), (108, .pb 0 2)], [.box [.v (.int .i64) p1, .own 2, .own 4, .own 3, .nl, .nl, .v (.int .i64) p2, .nl], .dead, .row 3 (.int .i64) p4, .row 3 (.int .i64) p5, .row 3 (.int .i64) ([0] : (List Int)), .frz (.int .i64) ([0, 1] : (List Int)), .row 30 (.sl (.int .i64)) ([[0, 1]] : (List (List Int))), .row 30 (.sl (.int .i64)) (p3 ++ [[0, 1]] : (List (List Int)))]⟩
   else
    none
  else
   K.nrm ⟨slots 134 [(5, .pb 0 0), (6, .own 1), (102, .v .bool false)], [.box [.v (.int .i64) p1, .own 2, .nl, .own 3, .nl, .nl, .v (.int .i64) p2, .nl], .row 30 (.sl (.int .i64)) p3, .row 3 (.int .i64) p4, .row 3 (.int .i64) p5]⟩ := by
 cases p0 with
 | true => exact F313.n1_1_1_1_1_0_1_eqT n K p1 p2 p3 p4 p5
 | false => exact F313.n1_1_1_1_1_0_1_eqF n K p1 p2 p3 p4 p5
theorem F313.c9 (n : Nat) (K : Conts) (p0 : List Int) (p1 p2 : Int) (p3 : List (List Int)) (p4 p5 p6 p7 : Int) (p8 : List (List Int)) (p9 p10 p11 : List Int) : exitK (F313.k_n1_1_1_1_0_1_0_0_1 n K [1,0,0,1,1,1,1,1,1,0,1,0]) 2 ⟨slots 134 [(3, .v (.sl (.int .i64)) p0), (5, .pb 0 0), (6, .own 1), (7, .v (.int .i64) p1), (9, .v (.int .i64) p2), (11, .own 2), (35, .v (.sl (.sl (.int .i64))) p3), (36, .v (.int .i64) p4), (37, .v (.int .i64) p5)], [.box [.v (.int .i64) p6, .own 3, .nl, .own 4, .nl, .nl, .v (.int .i64) p7, .nl], .row 30 (.sl (.int .i64)) p8, .row 3 (.int .i64) p9, .row 3 (.int .i64) p10, .row 3 (.int .i64) p11]⟩ =
 F313.n1_1_1_1_0_1_0_0_1_1_0_0_1_1_1_1_1_1_1_0 n (F313.k_n1_1_1_1_0_1_0_0_1 n K [1,0,0,1,1,1,1,1,1,1,0]) p0 p1 p2 p3 p4 p5 p6 p7 p8 p9 p10 p11 := by kernel_rfl
theorem F313.c10 (n : Nat) (K : Conts) (p0 p1 : Int) (p2 p3 p4 p5 : List Int) (p6 p7 : List (List Int)) : (F313.k_n1_1_1_1_1_0 n K [1]).nrm ⟨slots 134 [(5, .pb 0 0), (6, .own 7), (102, .v .bool true), (103, .own 4), (104, .own 1), (105, .own 5), (106, .own 6), (107, .own 7), (108, .pb 0 2)], [.box [.v (.int .i64) p0, .own 2, .own 4, .own 3, .nl, .nl, .v (.int .i64) p1, .nl], .dead, .row 3 (.int .i64) p2, .row 3 (.int .i64) p3, .row 3 (.int .i64) p4, .frz (.int .i64) p5, .row 30 (.sl (.int .i64)) p6, .row 30 (.sl (.int .i64)) p7]⟩ =
 K.nrm ⟨slots 134 [(5, .pb 0 0), (6, .own 7), (102, .v .bool true), (103, .own 4), (104, .own 1), (105, .own 5), (106, .own 6), (107, .own 7), (108, .pb 0 2)], [.box [.v (.int .i64) p0, .own 2, .own 4, .own 3, .nl, .nl, .v (.int .i64) p1, .nl], .dead, .row 3 (.int .i64) p2, .row 3 (.int .i64) p3, .row 3 (.int .i64) p4, .frz (.int .i64) p5, .row 30 (.sl (.int .i64)) p6, .row 30 (.sl (.int .i64)) p7]⟩ := by kernel_rfl
theorem F313.c11 (n : Nat) (K : Conts) (p0 p1 : Int) (p2 : List (List Int)) (p3 p4 : List Int) : (F313.k_n1_1_1_1_1_0 n K [1]).nrm ⟨slots 134 [(5, .pb 0 0), (6, .own 1), (102, .v .bool false)], [.box [.v (.int .i64) p0, .own 2, .nl, .own 3, .nl, .nl, .v (.int .i64) p1, .nl], .row 30 (.sl (.int .i64)) p2, .row 3 (.int .i64) p3, .row 3 (.int .i64) p4]⟩ =
 K.nrm ⟨slots 134 [(5, .pb 0 0), (6, .own 1), (102, .v .bool false)], [.box [.v (.int .i64) p0, .own 2, .nl, .own 3, .nl, .nl, .v (.int .i64) p1, .nl], .row 30 (.sl (.int .i64)) p2, .row 3 (.int .i64) p3, .row 3 (.int .i64) p4]⟩ := by kernel_rfl
theorem F313.n1_1_1_1_0_1_0_0_1_1_0_0_1_1_1_1_1_1_1_0_eq (n : Nat) (K : Conts) (p0 : List Int) (p1 p2 : Int) (p3 : List (List Int)) (p4 p5 p6 p7 : Int) (p8 : List (List Int)) (p9 p10 p11 : List Int) : F313.n1_1_1_1_0_1_0_0_1_1_0_0_1_1_1_1_1_1_1_0 n K p0 p1 p2 p3 p4 p5 p6 p7 p8 p9 p10 p11 =
 bif !(List.isEmpty p9) && Nat.ble (List.length p9) 1000 then
 K.nrm ⟨slots 134 [(3, .v (.sl (.int .i64)) p0), (5, .pb 0 0), (6, .own 1), (7, .v (.int .i64) p1), (9, .v (.int .i64) p2), (11, .own 2), (35, .v (.sl (.sl (.int .i64))) p3), (36, .v (.int .i64) p4), (37, .v (.int .i64) p5), (80, .own 2), (81, .tup [])], [.box [.v (.int .i64) p6, .own 3, .nl, .own 4, .nl, .nl, .v (.int .i64) p7, .nl], .row 30 (.sl (.int .i64)) p8, .row 3 (.int .i64) (sortL p9), .row 3 (.int .i64) p10, .row 3 (.int .i64) p11, .hole, .hole, .hole]⟩
 else
 none := by kernel_rfl
theorem F313.c12 (k : Nat) (p0 p1 : Int) (p2 p3 p4 p5 : List Int) (p6 p7 : List (List Int)) : (F313.kt k [1, 1, 1, 1, 1, 0]).nrm ⟨slots 134 [(5, .pb 0 0), (6, .own 7), (102, .v .bool true), (103, .own 4), (104, .own 1), (105, .own 5), (106, .own 6), (107, .own 7), (108, .pb 0 2)], [.box [.v (.int .i64) p0, .own 2, .own 4, .own 3, .nl, .nl, .v (.int .i64) p1, .nl], .dead, .row 3 (.int .i64) p2, .row 3 (.int .i64) p3, .row 3 (.int .i64) p4, .frz (.int .i64) p5, .row 30 (.sl (.int .i64)) p6, .row 30 (.sl (.int .i64)) p7]⟩ =
  F313.n1_1_1_1_1_1 k (F313.kt k [1, 1, 1, 1, 1, 1]) p0 p1 p7 p2 p4 p3 := 
 nrm_cut (E := F313.E) (lp := loopF F313.E k) (b := subC [1, 1, 1, 1, 1, 1] F313.body) (Kb := (F313.kt k [1, 1, 1, 1, 1, 1])) (g := (F313.kt k [1, 1, 1, 1, 1, 0]).nrm) (σ2 := ⟨slots 134 [(5, .pb 0 0), (6, .own 1)], [.box [.v (.int .i64) p0, .own 2, .own 3, .own 4, .nl, .nl, .v (.int .i64) p1, .nl], .row 30 (.sl (.int .i64)) p7, .row 3 (.int .i64) p2, .row 3 (.int .i64) p4, .row 3 (.int .i64) p3]⟩) (fun σ => by kernel_rfl) (by kernel_rfl)
theorem F313.c13 (k : Nat) (p0 p1 : Int) (p2 : List (List Int)) (p3 p4 : List Int) : (F313.kt k [1, 1, 1, 1, 1, 0]).nrm ⟨slots 134 [(5, .pb 0 0), (6, .own 1), (102, .v .bool false)], [.box [.v (.int .i64) p0, .own 2, .nl, .own 3, .nl, .nl, .v (.int .i64) p1, .nl], .row 30 (.sl (.int .i64)) p2, .row 3 (.int .i64) p3, .row 3 (.int .i64) p4]⟩ =
  F313.n1_1_1_1_1_1b k (F313.kt k [1, 1, 1, 1, 1, 1]) p0 p1 p2 p3 p4 := 
 nrm_cut (E := F313.E) (lp := loopF F313.E k) (b := subC [1, 1, 1, 1, 1, 1] F313.body) (Kb := (F313.kt k [1, 1, 1, 1, 1, 1])) (g := (F313.kt k [1, 1, 1, 1, 1, 0]).nrm) (σ2 := ⟨slots 134 [(5, .pb 0 0), (6, .own 1)], [.box [.v (.int .i64) p0, .own 2, .nl, .own 3, .nl, .nl, .v (.int .i64) p1, .nl], .row 30 (.sl (.int .i64)) p2, .row 3 (.int .i64) p3, .row 3 (.int .i64) p4]⟩) (fun σ => by kernel_rfl) (by kernel_rfl)
theorem F313.c14 (n : Nat) (K : Conts) (p0 : List Int) (p1 p2 : Int) (p3 : List (List Int)) (p4 p5 p6 p7 : Int) (p8 : List (List Int)) (p9 p10 p11 : List Int) : (F313.k_n1_1_1_1_0_1_0_0_1 n K [1, 0, 0, 1, 1, 1, 1, 1, 1, 1, 0]).nrm ⟨slots 134 [(3, .v (.sl (.int .i64)) p0), (5, .pb 0 0), (6, .own 1), (7, .v (.int .i64) p1), (9, .v (.int .i64) p2), (11, .own 2), (35, .v (.sl (.sl (.int .i64))) p3), (36, .v (.int .i64) p4), (37, .v (.int .i64) p5), (80, .own 2), (81, .tup [])], [.box [.v (.int .i64) p6, .own 3, .nl, .own 4, .nl, .nl, .v (.int .i64) p7, .nl], .row 30 (.sl (.int .i64)) p8, .row 3 (.int .i64) p9, .row 3 (.int .i64) p10, .row 3 (.int .i64) p11, .hole, .hole, .hole]⟩ =
  F313.n1_1_1_1_0_1_0_0_1_1_0_0_1_1_1_1_1_1_1_1 n (F313.k_n1_1_1_1_0_1_0_0_1 n K [1, 0, 0, 1, 1, 1, 1, 1, 1, 1, 1]) p0 p1 p2 p3 p4 p5 p6 p7 p8 p9 p10 p11 := 
 nrm_cut (E := F313.E) (lp := loopF F313.E n) (b := subC [1, 1, 1, 1, 0, 1, 0, 0, 1, 1, 0, 0, 1, 1, 1, 1, 1, 1, 1, 1] F313.body) (Kb := (F313.k_n1_1_1_1_0_1_0_0_1 n K [1, 0, 0, 1, 1, 1, 1, 1, 1, 1, 1])) (g := (F313.k_n1_1_1_1_0_1_0_0_1 n K [1, 0, 0, 1, 1, 1, 1, 1, 1, 1, 0]).nrm) (σ2 := ⟨slots 134 [(3, .v (.sl (.int .i64)) p0), (5, .pb 0 0), (6, .own 1), (7, .v (.int .i64) p1), (9, .v (.int .i64) p2), (11, .own 2), (35, .v (.sl (.sl (.int .i64))) p3), (36, .v (.int .i64) p4), (37, .v (.int .i64) p5)], [.box [.v (.int .i64) p6, .own 3, .nl, .own 4, .nl, .nl, .v (.int .i64) p7, .nl], .row 30 (.sl (.int .i64)) p8, .row 3 (.int .i64) p9, .row 3 (.int .i64) p10, .row 3 (.int .i64) p11]⟩) (fun σ => by kernel_rfl) (by kernel_rfl)
theorem F313.n1_1_1_1_1_1_eq (n : Nat) (K : Conts) (p0 p1 : Int) (p2 : List (List Int)) (p3 p4 p5 : List Int) : F313.n1_1_1_1_1_1 n K p0 p1 p2 p3 p4 p5 =
 bif Nat.ble p2.length 1000 then
 bif linFB (p0, (p3, (p4, (p5, ([], ([], (p1, []))))))) (domsL p2) then
 bif linRB (p0, (p3, (p4, (p5, ([], ([], (p1, []))))))) p2 then
 bif ((linF (p0, (p3, (p4, (p5, ([], ([], (p1, []))))))) (domsL p2)).2) == ((linR (p0, (p3, (p4, (p5, ([], ([], (p1, []))))))) p2).2) then
 bif Nat.ble ((linF (p0, (p3, (p4, (p5, ([], ([], (p1, []))))))) (domsL p2)).1).length 1000 && ((linF (p0, (p3, (p4, (p5, ([], ([], (p1, []))))))) (domsL p2)).1).all listB then
 bif Nat.ble (listsL ((linF (p0, (p3, (p4, (p5, ([], ([], (p1, []))))))) (domsL p2)).1)).length 1000 && lensB (listsL ((linF (p0, (p3, (p4, (p5, ([], ([], (p1, []))))))) (domsL p2)).1)) then
 K.ret ⟨slots 134 [(2, .v .bool (sameL (listsL ((linF (p0, (p3, (p4, (p5, ([], ([], (p1, []))))))) (domsL p2)).1)) ((linR (p0, (p3, (p4, (p5, ([], ([], (p1, []))))))) p2).1)))], []⟩
 else
 none
 else
 none
 else
 K.ret ⟨slots 134 [(2, .v .bool false)], []⟩
 else
 none
 else
 none
 else
 none := by kernel_rfl
theorem F313.n1_1_1_1_1_1b_eq (n : Nat) (K : Conts) (p0 p1 : Int) (p2 : List (List Int)) (p3 p4 : List Int) : F313.n1_1_1_1_1_1b n K p0 p1 p2 p3 p4 =
 bif Nat.ble p2.length 1000 then
 bif linFB (p0, (p3, ([], (p4, ([], ([], (p1, []))))))) (domsL p2) then
 bif linRB (p0, (p3, ([], (p4, ([], ([], (p1, []))))))) p2 then
 bif ((linF (p0, (p3, ([], (p4, ([], ([], (p1, []))))))) (domsL p2)).2) == ((linR (p0, (p3, ([], (p4, ([], ([], (p1, []))))))) p2).2) then
 bif Nat.ble ((linF (p0, (p3, ([], (p4, ([], ([], (p1, []))))))) (domsL p2)).1).length 1000 && ((linF (p0, (p3, ([], (p4, ([], ([], (p1, []))))))) (domsL p2)).1).all listB then
 bif Nat.ble (listsL ((linF (p0, (p3, ([], (p4, ([], ([], (p1, []))))))) (domsL p2)).1)).length 1000 && lensB (listsL ((linF (p0, (p3, ([], (p4, ([], ([], (p1, []))))))) (domsL p2)).1)) then
 K.ret ⟨slots 134 [(2, .v .bool (sameL (listsL ((linF (p0, (p3, ([], (p4, ([], ([], (p1, []))))))) (domsL p2)).1)) ((linR (p0, (p3, ([], (p4, ([], ([], (p1, []))))))) p2).1)))], []⟩
 else
 none
 else
 none
 else
 K.ret ⟨slots 134 [(2, .v .bool false)], []⟩
 else
 none
 else
 none
 else
 none := by kernel_rfl
theorem F313.n1_1_1_1_0_1_0_0_1_1_0_0_1_1_1_1_1_1_1_1_eq (n : Nat) (K : Conts) (p0 : List Int) (p1 p2 : Int) (p3 : List (List Int)) (p4 p5 p6 p7 : Int) (p8 : List (List Int)) (p9 p10 p11 : List Int) : F313.n1_1_1_1_0_1_0_0_1_1_0_0_1_1_1_1_1_1_1_1 n K p0 p1 p2 p3 p4 p5 p6 p7 p8 p9 p10 p11 =
 bif decide ((p10.length + [p1].length) * 8 ≤ LIM) then
 bif decide ((p11.length + [p2].length) * 8 ≤ LIM) then
 bif !(List.isEmpty p9) && Nat.ble (List.length p9) 1000 then
 bif decide ((p8.length + [compL p9].length) * 24 ≤ LIM) then
 K.nrm ⟨slots 134 [(3, .v (.sl (.int .i64)) p0), (5, .pb 0 0), (6, .own 15), (7, .v (.int .i64) p1), (9, .v (.int .i64) p2), (11, .own 2), (35, .v (.sl (.sl (.int .i64))) p3), (36, .v (.int .i64) p4), (37, .v (.int .i64) p5), (82, .pb 0 1), (83, .own 3), (84, .v (.int .i64) p1), (85, .own 6), (86, .own 7), (87, .pb 0 3), (88, .own 4), (89, .v (.int .i64) p2), (90, .own 9), (91, .own 10), (92, .own 1), (93, .own 2), (94, .own 11), (95, .own 14), (96, .own 15), (97, .pb 0 1), (98, .pb 0 3)], [.box [.v (.int .i64) p6, .own 7, .nl, .own 10, .nl, .nl, .v (.int .i64) p7, .nl], .dead, .dead, .dead, .dead, .hole, .row 3 (.int .i64) [p1], .row 3 (.int .i64) (p10 ++ [p1]), .hole, .row 3 (.int .i64) [p2], .row 3 (.int .i64) (p11 ++ [p2]), .frz (.int .i64) (compL p9), .hole, .hole, .row 30 (.sl (.int .i64)) [compL p9], .row 30 (.sl (.int .i64)) (p8 ++ [compL p9])]⟩
 else
 none
 else
 none
 else
 none
 else
 none := by kernel_rfl
theorem F313.c15 (k : Nat) (p0 : Bool) : (F313.kt k [1,1,1,1,1,1]).ret ⟨slots 134 [(2, .v .bool p0)], []⟩ =
 some (.v .bool p0) := by kernel_rfl
theorem F313.c17 (k : Nat) (p0 : Bool) : (F313.kt k [1,1,1,1,1,1]).ret ⟨slots 134 [(2, .v .bool p0)], []⟩ =
 some (.v .bool p0) := by kernel_rfl
theorem F313.c19 (n : Nat) (K : Conts) (p0 : List Int) (p1 p2 : Int) (p3 : List (List Int)) (p4 p5 p6 p7 p8 p9 : Int) (p10 p11 p12 p13 p14 : List Int) (p15 p16 : List (List Int)) : (F313.k_n1_1_1_1_0_1_0_0_1 n K [1,0,0,1,1,1,1,1,1,1,1]).nrm ⟨slots 134 [(3, .v (.sl (.int .i64)) p0), (5, .pb 0 0), (6, .own 15), (7, .v (.int .i64) p1), (9, .v (.int .i64) p2), (11, .own 2), (35, .v (.sl (.sl (.int .i64))) p3), (36, .v (.int .i64) p4), (37, .v (.int .i64) p5), (82, .pb 0 1), (83, .own 3), (84, .v (.int .i64) p6), (85, .own 6), (86, .own 7), (87, .pb 0 3), (88, .own 4), (89, .v (.int .i64) p7), (90, .own 9), (91, .own 10), (92, .own 1), (93, .own 2), (94, .own 11), (95, .own 14), (96, .own 15), (97, .pb 0 1), (98, .pb 0 3)], [.box [.v (.int .i64) p8, .own 7, .nl, .own 10, .nl, .nl, .v (.int .i64) p9, .nl], .dead, .dead, .dead, .dead, .hole, .row 3 (.int .i64) p10, .row 3 (.int .i64) p11, .hole, .row 3 (.int .i64) p12, .row 3 (.int .i64) p13, .frz (.int .i64) p14, .hole, .hole, .row 30 (.sl (.int .i64)) p15, .row 30 (.sl (.int .i64)) p16]⟩ =
 K.nrm ⟨slots 134 [(3, .v (.sl (.int .i64)) p0), (5, .pb 0 0), (6, .own 1), (35, .v (.sl (.sl (.int .i64))) p3), (36, .v (.int .i64) p4), (37, .v (.int .i64) (IntKind.i64.wrap (p5 + 1))), (99, .v (.int .i64) (IntKind.i64.wrap (p5 + 1)))], [.box [.v (.int .i64) p8, .own 2, .nl, .own 3, .nl, .nl, .v (.int .i64) p9, .nl], .row 30 (.sl (.int .i64)) p16, .row 3 (.int .i64) p11, .row 3 (.int .i64) p13]⟩ := by kernel_rfl
theorem F313.c20 (n : Nat) (K : Conts) (p0 : List Int) (p1 : List (List Int)) (p2 p3 p4 p5 p6 : Int) (p7 : List (List Int)) (p8 p9 : List Int) : (F313.k_l1_1_1_1_0_1_0 n K [1]).nrm ⟨slots 134 [(3, .v (.sl (.int .i64)) p0), (5, .pb 0 0), (6, .own 1), (35, .v (.sl (.sl (.int .i64))) p1), (36, .v (.int .i64) p2), (37, .v (.int .i64) p3), (99, .v (.int .i64) p4)], [.box [.v (.int .i64) p5, .own 2, .nl, .own 3, .nl, .nl, .v (.int .i64) p6, .nl], .row 30 (.sl (.int .i64)) p7, .row 3 (.int .i64) p8, .row 3 (.int .i64) p9]⟩ =
 F313.l1_1_1_1_0_1_0 n K p0 p1 p2 p3 p5 p6 p7 p8 p9 := by kernel_rfl
end Go.Proofs.YtnojoaghcbljfaaGreatDoor.Ev
