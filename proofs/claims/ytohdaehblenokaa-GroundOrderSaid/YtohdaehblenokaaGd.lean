/-
The functions as the evaluator runs them: printed by a program of mine, each equation by kernel_rfl.
Conditions: none.
-/
import Derived.Test.YtohdaehblenokaaGh
import Derived.Test.YtohdaehblenokaaYd
set_option linter.unusedVariables false
set_option linter.unusedSimpArgs false
set_option maxRecDepth 100000
namespace Go.Proofs.Ytohdaehblenokaa.Ev
open Go
noncomputable def F616.fn : Func := Go.Proofs.Try.f25
noncomputable def F616.body : Code := bodyOf F616.fn
noncomputable def F616.E : Env := ⟨tt, [], [(1, [0, 1]), (2, [0, 1, 5]), (3, [1, 5, 8, 9, 10, 30005]), (4, [1, 5, 8, 9, 10, 11]), (5, [1, 5, 7, 8, 9, 10]), (6, [1, 5, 8, 9, 10]), (7, [5])], [(0, [5]), (1, [1, 5, 8, 9, 10])], some [4], inv, []⟩
noncomputable def F616.K0 : Conts := { nrm := endW F616.E false F616.fn.results.toList, ret := endW F616.E false F616.fn.results.toList, ex := [] }
noncomputable def F616.kt (k : Nat) (q : List Nat) : Conts := contAt F616.E k F616.body F616.K0 q
noncomputable def F616.l1_1_0_1_0 (n : Nat) (K : Conts) (p0 p1 : List Int) (p2 p3 : Int) (p4 : List Int) : Option AV := loopF F616.E n (inLoop (subC [1,1,0,1,0] F616.body)) K ⟨slots 23 [(1, .v (.sl (.int .i64)) p0), (5, .own 0), (8, .v (.sl (.int .i64)) p1), (9, .v (.int .i64) p2), (10, .v (.int .i64) p3)], [.row 3 (.int .i64) p4]⟩
theorem F616.start_eq (k : Nat) (a0 a1 : List Int) : callW F616.E false F616.fn k [.v (.sl (.int .i64)) a0, .v (.sl (.int .i64)) a1] =
 F616.l1_1_0_1_0 k (F616.kt k [1,1,0,1,0]) a1 a0 (a0.length : Int) 0 [] := by kernel_rfl
theorem F616.l1_1_0_1_0_eq (n : Nat) (K : Conts) (p0 p1 : List Int) (p2 p3 : Int) (p4 : List Int) : F616.l1_1_0_1_0 (n + 1) K p0 p1 p2 p3 p4 =
 bif decide (p3 < p2) then
 bif decide (0 ≤ p3) && decide (p3 < p1.length) then
 bif decide (0 ≤ (p1.getD p3.toNat (0 : Int))) && decide ((p1.getD p3.toNat (0 : Int)) < p0.length) then
 bif decide ((p4.length + [p0.getD ((p1.getD p3.toNat (0 : Int)).toNat) (0 : Int)].length) * 8 ≤ LIM) then
 F616.l1_1_0_1_0 n K p0 p1 p2 (IntKind.i64.wrap (p3 + 1)) (p4 ++ [p0.getD ((p1.getD p3.toNat (0 : Int)).toNat) (0 : Int)])
 else
 none
 else
 none
 else
 none
 else
 exitK K 0 ⟨slots 23 [(5, .own 0)], [.row 3 (.int .i64) p4]⟩ := by kernel_rfl
theorem F616.c0 (k : Nat) (p0 : List Int) : exitK (F616.kt k [1,1,0,1,0]) 0 ⟨slots 23 [(5, .own 0)], [.row 3 (.int .i64) p0]⟩ =
 some (.v (.sl (.int .i64)) p0) := by kernel_rfl
noncomputable def F617.fn : Func := Go.Proofs.Try.f26
noncomputable def F617.body : Code := bodyOf F617.fn
noncomputable def F617.E : Env := ⟨tt, [], [(1, [1, 2]), (2, [1, 2, 5]), (3, [1, 5, 9, 10, 11]), (4, [1, 5, 9, 10, 11, 12]), (5, [1, 5, 6, 7, 9, 10, 11]), (6, [1, 5, 9, 10, 11]), (7, [5])], [(0, [5]), (1, [1, 5, 9, 10, 11])], some [4], inv, []⟩
noncomputable def F617.K0 : Conts := { nrm := endW F617.E false F617.fn.results.toList, ret := endW F617.E false F617.fn.results.toList, ex := [] }
noncomputable def F617.kt (k : Nat) (q : List Nat) : Conts := contAt F617.E k F617.body F617.K0 q
noncomputable def F617.l1_1_0_1_0 (n : Nat) (K : Conts) (p0 : List Int) (p1 : Int) (p2 : List Int) (p3 p4 : Int) : Option AV := loopF F617.E n (inLoop (subC [1,1,0,1,0] F617.body)) K ⟨slots 26 [(1, .v (.sl (.int .i64)) p0), (5, .v (.int .i64) p1), (9, .v (.sl (.int .i64)) p2), (10, .v (.int .i64) p3), (11, .v (.int .i64) p4)], []⟩
theorem F617.start_eq (k : Nat) (kk : Int) (c : (List Int) × ((List Int) × ((List Int) × ((List Int) × ((List Int) × (Int × (List (List Int)))))))) (a1 : List Int) : callW F617.E false F617.fn k [.agg (bC kk c.1 c.2.1 c.2.2.1 c.2.2.2.1 c.2.2.2.2.1 c.2.2.2.2.2.1 c.2.2.2.2.2.2), .v (.sl (.int .i64)) a1] =
 F617.l1_1_0_1_0 k (F617.kt k [1,1,0,1,0]) a1 0 c.2.2.1 (c.2.2.1.length : Int) 0 := by kernel_rfl
theorem F617.l1_1_0_1_0_eq (n : Nat) (K : Conts) (p0 : List Int) (p1 : Int) (p2 : List Int) (p3 p4 : Int) : F617.l1_1_0_1_0 (n + 1) K p0 p1 p2 p3 p4 =
 bif decide (p4 < p3) then
 bif decide (0 ≤ p4) && decide (p4 < p2.length) then
 bif decide (0 ≤ p4) && decide (p4 < p0.length) then
 F617.l1_1_0_1_0 n K p0 (IntKind.i64.wrap (p1 + (IntKind.i64.wrap ((p2.getD p4.toNat (0 : Int)) * (p0.getD p4.toNat (0 : Int)))))) p2 p3 (IntKind.i64.wrap (p4 + 1))
 else
 none
 else
 none
 else
 exitK K 0 ⟨slots 26 [(5, .v (.int .i64) p1)], []⟩ := by kernel_rfl
theorem F617.c0 (k : Nat) (p0 : Int) : exitK (F617.kt k [1,1,0,1,0]) 0 ⟨slots 26 [(5, .v (.int .i64) p0)], []⟩ =
 some (.v (.int .i64) p0) := by kernel_rfl
noncomputable def F666.fn : Func := Go.Proofs.Try.f50
noncomputable def F666.E : Env := ⟨tt, [], [(1, [0, 1])], [], some [4], inv, []⟩
theorem F666.start_eq (k : Nat) (a0 : Int) (a1 : Bool) : callW F666.E false F666.fn k [.v (.int .i64) a0, .v .bool a1] =
 bif decide (a0 = 0) then
 bif !a1 then
 some (.v .bool true)
 else
 bif decide (a0 = 1) then some (.v .bool a1) else some (.v .bool false)
 else
 bif decide (a0 = 1) then some (.v .bool a1) else some (.v .bool false) := by kernel_rfl
noncomputable def F667.fn : Func := Go.Proofs.Try.f51
noncomputable def F667.E : Env := ⟨tt, [], [(1, [0, 1])], [], some [4], inv, []⟩
theorem F667.start_eq (k : Nat) (a0 : Int) (a1 : Bool) : callW F667.E false F667.fn k [.v (.int .i64) a0, .v .bool a1] =
 bif decide (a0 = 0) then
 some (.v .bool true)
 else
 bif decide (a0 = 1) then some (.v .bool a1) else some (.v .bool false) := by kernel_rfl
noncomputable def F618.fn : Func := Go.Proofs.Try.f27
noncomputable def F618.E : Env := ⟨tt, [(26, h_sumX), (50, h_truthB), (51, h_impliedB), (52, h_containsL)], [(1, [1, 2, 3]), (2, [1, 2, 3, 8]), (3, [1, 2, 3, 8, 9]), (5, [1, 2, 3, 8, 21]), (7, [1, 2, 3, 8, 33]), (9, [1, 2, 3, 8, 45]), (11, [1, 2, 3, 57]), (12, [1, 2])], [(0, [1, 2])], some [6], inv, []⟩
theorem F618.start_eq (k : Nat) (kk : Int) (c : (List Int) × ((List Int) × ((List Int) × ((List Int) × ((List Int) × (Int × (List (List Int)))))))) (a1 a2 : List Int) : callW F618.E false F618.fn k [.agg (bC kk c.1 c.2.1 c.2.2.1 c.2.2.2.1 c.2.2.2.2.1 c.2.2.2.2.2.1 c.2.2.2.2.2.2), .v (.sl (.int .i64)) a1, .v (.sl (.int .i64)) a2] =
 bif decide (kk = 4) then
 bif decide ((0 : Int) < a2.length) then
 bif sumXB (kk, c) a1 then some (.v .bool (truthB (a2.getD 0 (0 : Int)) (decide ((sumX (kk, c) a1) ≤ c.2.2.2.2.2.1)))) else none
 else
 none
 else
 bif decide (kk = 13) then
 bif decide ((0 : Int) < a2.length) then
 bif decide ((0 : Int) < a1.length) then some (.v .bool (truthB (a2.getD 0 (0 : Int)) (decide ((a1.getD 0 (0 : Int)) = c.2.2.2.2.2.1)))) else none
 else
 none
 else
 bif decide (kk = 14) then
 bif decide ((0 : Int) < a2.length) then
 bif decide ((0 : Int) < a1.length) then some (.v .bool (truthB (a2.getD 0 (0 : Int)) (decide ((a1.getD 0 (0 : Int)) ≤ c.2.2.2.2.2.1)))) else none
 else
 none
 else
 bif decide (kk = 15) then
 bif decide ((0 : Int) < a2.length) then
 bif decide ((0 : Int) < a1.length) then some (.v .bool (impliedB (a2.getD 0 (0 : Int)) (decide ((a1.getD 0 (0 : Int)) = c.2.2.2.2.2.1)))) else none
 else
 none
 else
 bif decide (kk = 16) then
 bif decide ((0 : Int) < a2.length) then
 bif decide ((0 : Int) < a1.length) then some (.v .bool (impliedB (a2.getD 0 (0 : Int)) (decide ((a1.getD 0 (0 : Int)) ≤ c.2.2.2.2.2.1)))) else none
 else
 none
 else
 bif containsL a1 1 then some (.v .bool true) else some (.v .bool (containsL a2 0)) := by kernel_rfl
noncomputable def F619.fn : Func := Go.Proofs.Try.f28
noncomputable def F619.E : Env := ⟨tt, [(10, h_sorted), (11, h_values)], [(1, [0]), (2, [0, 3])], [], some [2], inv, [(9, h_comp)]⟩
theorem F619.start_eq (k : Nat) (a0 : List Int) : callW F619.E false F619.fn k [.v (.sl (.int .i64)) a0] =
 bif sortB a0 then
 bif !(List.isEmpty (sortL a0)) && Nat.ble (List.length (sortL a0)) 1000 then
 some (.v .bool (decide (((compL (sortL a0)).length : Int) = (a0.length : Int))))
 else
 none
 else
 none := by kernel_rfl
noncomputable def F622.fn : Func := Go.Proofs.Try.f32
noncomputable def F622.body : Code := bodyOf F622.fn
noncomputable def F622.E : Env := ⟨tt, [], [(1, [1, 2]), (2, [1, 2, 10, 11, 12]), (3, [1, 2, 10, 11, 12, 13]), (4, [1, 2, 6, 10, 11, 12]), (5, [1, 2, 6, 7, 10, 11, 12]), (6, [1, 2, 6, 7, 10, 11, 12, 16, 17, 18]), (7, [1, 2, 6, 7, 10, 11, 12, 16, 17, 18, 19]), (8, [1, 2, 6, 7, 8, 9, 10, 11, 12, 16, 17, 18]), (9, [1, 2, 6, 7, 8, 10, 11, 12, 16, 17, 18, 36]), (10, [1, 2, 6, 7, 10, 11, 12, 16, 17, 18]), (11, [1, 2, 7, 10, 11, 12]), (12, [1, 2, 10, 11, 12, 48]), (13, [1, 2, 10, 11, 12]), (14, [])], [(0, []), (1, [1, 2, 10, 11, 12]), (2, [1, 2, 7, 10, 11, 12]), (3, [1, 2, 6, 7, 10, 11, 12, 16, 17, 18])], some [4], inv, []⟩
noncomputable def F622.K0 : Conts := { nrm := endW F622.E false F622.fn.results.toList, ret := endW F622.E false F622.fn.results.toList, ex := [] }
noncomputable def F622.kt (k : Nat) (q : List Nat) : Conts := contAt F622.E k F622.body F622.K0 q
noncomputable def F622.l1_0_1_0 (n : Nat) (K : Conts) (p0 p1 : List Int) (p2 p3 p4 : Int) (p5 p6 p7 p8 p9 : List Int) (p10 : Int) (p11 : List (List Int)) : Option AV := loopF F622.E n (inLoop (subC [1,0,1,0] F622.body)) K ⟨slots 50 [(1, .v (.sl (.int .i64)) p0), (2, .pb 0 0), (10, .v (.sl (.int .i64)) p1), (11, .v (.int .i64) p2), (12, .v (.int .i64) p3)], [.box (bC p4 p5 p6 p7 p8 p9 p10 p11)]⟩
noncomputable def F622.k_l1_0_1_0 (n : Nat) (K : Conts) (q : List Nat) : Conts := contAt F622.E n (inLoop (subC [1, 0, 1, 0] F622.body)) (loopK F622.E n (inLoop (subC [1, 0, 1, 0] F622.body)) K) q
noncomputable def F622.l1_0_1_0_0_1_1_0_0_1_1_0_1_0 (n : Nat) (K : Conts) (p0 : List Int) (p1 p2 : Int) (p3 : List Int) (p4 p5 : Int) (p6 : List Int) (p7 p8 p9 : Int) (p10 p11 p12 p13 p14 : List Int) (p15 : Int) (p16 : List (List Int)) : Option AV := loopF F622.E n (inLoop (subC [1,0,1,0,0,1,1,0,0,1,1,0,1,0] F622.body)) K ⟨slots 50 [(1, .v (.sl (.int .i64)) p0), (2, .pb 0 0), (6, .v (.int .i64) p1), (7, .v (.int .i64) p2), (10, .v (.sl (.int .i64)) p3), (11, .v (.int .i64) p4), (12, .v (.int .i64) p5), (16, .v (.sl (.int .i64)) p6), (17, .v (.int .i64) p7), (18, .v (.int .i64) p8)], [.box (bC p9 p10 p11 p12 p13 p14 p15 p16)]⟩
theorem F622.start_eq (k : Nat) (kk : Int) (c : (List Int) × ((List Int) × ((List Int) × ((List Int) × ((List Int) × (Int × (List (List Int)))))))) (a1 : List Int) : callW F622.E false F622.fn k [.agg (bC kk c.1 c.2.1 c.2.2.1 c.2.2.2.1 c.2.2.2.2.1 c.2.2.2.2.2.1 c.2.2.2.2.2.2), .v (.sl (.int .i64)) a1] =
 F622.l1_0_1_0 k (F622.kt k [1,0,1,0]) a1 a1 (a1.length : Int) 0 kk c.1 c.2.1 c.2.2.1 c.2.2.2.1 c.2.2.2.2.1 c.2.2.2.2.2.1 c.2.2.2.2.2.2 := by kernel_rfl
theorem F622.l1_0_1_0_eq (n : Nat) (K : Conts) (p0 p1 : List Int) (p2 p3 p4 : Int) (p5 p6 p7 p8 p9 : List Int) (p10 : Int) (p11 : List (List Int)) : F622.l1_0_1_0 (n + 1) K p0 p1 p2 p3 p4 p5 p6 p7 p8 p9 p10 p11 =
 bif decide (p3 < p2) then
 bif decide (0 ≤ p3) && decide (p3 < p1.length) then
 F622.l1_0_1_0_0_1_1_0_0_1_1_0_1_0 n (F622.k_l1_0_1_0 n K [1,1,0,0,1,1,0,1,0]) p0 (p1.getD p3.toNat (0 : Int)) 0 p1 p2 p3 p0 (p0.length : Int) 0 p4 p5 p6 p7 p8 p9 p10 p11
 else
 none
 else
 exitK K 0 ⟨slots 50 [], []⟩ := by kernel_rfl
theorem F622.l1_0_1_0_0_1_1_0_0_1_1_0_1_0_eq (n : Nat) (K : Conts) (p0 : List Int) (p1 p2 : Int) (p3 : List Int) (p4 p5 : Int) (p6 : List Int) (p7 p8 p9 : Int) (p10 p11 p12 p13 p14 : List Int) (p15 : Int) (p16 : List (List Int)) : F622.l1_0_1_0_0_1_1_0_0_1_1_0_1_0 (n + 1) K p0 p1 p2 p3 p4 p5 p6 p7 p8 p9 p10 p11 p12 p13 p14 p15 p16 =
 bif decide (p8 < p7) then
 bif decide (0 ≤ p8) && decide (p8 < p6.length) then
 bif decide ((p6.getD p8.toNat (0 : Int)) ≤ p1) then
 bif decide (0 ≤ p8) && decide (p8 < p12.length) then
 bif decide (p1 < (IntKind.i64.wrap ((p6.getD p8.toNat (0 : Int)) + (p12.getD p8.toNat (0 : Int))))) then
 bif decide (0 ≤ p8) && decide (p8 < p13.length) then
 F622.l1_0_1_0_0_1_1_0_0_1_1_0_1_0 n K p0 p1 (IntKind.i64.wrap (p2 + (p13.getD p8.toNat (0 : Int)))) p3 p4 p5 p6 p7 (IntKind.i64.wrap (p8 + 1)) p9 p10 p11 p12 p13 p14 p15 p16
 else
 none
 else
 F622.l1_0_1_0_0_1_1_0_0_1_1_0_1_0 n K p0 p1 p2 p3 p4 p5 p6 p7 (IntKind.i64.wrap (p8 + 1)) p9 p10 p11 p12 p13 p14 p15 p16
 else
 none
 else
 F622.l1_0_1_0_0_1_1_0_0_1_1_0_1_0 n K p0 p1 p2 p3 p4 p5 p6 p7 (IntKind.i64.wrap (p8 + 1)) p9 p10 p11 p12 p13 p14 p15 p16
 else
 none
 else
 exitK K 2 ⟨slots 50 [(1, .v (.sl (.int .i64)) p0), (2, .pb 0 0), (7, .v (.int .i64) p2), (10, .v (.sl (.int .i64)) p3), (11, .v (.int .i64) p4), (12, .v (.int .i64) p5)], [.box (bC p9 p10 p11 p12 p13 p14 p15 p16)]⟩ := by kernel_rfl
theorem F622.c0 (k : Nat) : exitK (F622.kt k [1,0,1,0]) 0 ⟨slots 50 [], []⟩ =
 some (.v .bool true) := by kernel_rfl
theorem F622.c1 (n : Nat) (K : Conts) (p0 : List Int) (p1 : Int) (p2 : List Int) (p3 p4 p5 : Int) (p6 p7 p8 p9 p10 : List Int) (p11 : Int) (p12 : List (List Int)) : exitK (F622.k_l1_0_1_0 n K [1,1,0,0,1,1,0,1,0]) 2 ⟨slots 50 [(1, .v (.sl (.int .i64)) p0), (2, .pb 0 0), (7, .v (.int .i64) p1), (10, .v (.sl (.int .i64)) p2), (11, .v (.int .i64) p3), (12, .v (.int .i64) p4)], [.box (bC p5 p6 p7 p8 p9 p10 p11 p12)]⟩ =
 bif decide (p1 > p11) then K.ret ⟨slots 50 [(4, .v .bool false)], []⟩ else F622.l1_0_1_0 n K p0 p2 p3 (IntKind.i64.wrap (p4 + 1)) p5 p6 p7 p8 p9 p10 p11 p12 := by kernel_rfl
theorem F622.c2 (k : Nat) : (F622.kt k [1,0,1,0]).ret ⟨slots 50 [(4, .v .bool false)], []⟩ =
 some (.v .bool false) := by kernel_rfl
noncomputable def F623.fn : Func := Go.Proofs.Try.f33
noncomputable def F623.body : Code := bodyOf F623.fn
noncomputable def F623.E : Env := ⟨tt, [], [(1, [0]), (2, [0, 3]), (3, [0, 3, 4]), (4, [0, 3, 4]), (5, [0, 3, 4]), (6, [0, 3, 4, 26]), (7, [0, 3, 4]), (8, [0, 3, 4]), (9, [0, 3, 4, 33]), (10, [])], [(0, []), (1, [0, 3, 4])], some [2], inv, []⟩
noncomputable def F623.K0 : Conts := { nrm := endW F623.E false F623.fn.results.toList, ret := endW F623.E false F623.fn.results.toList, ex := [] }
noncomputable def F623.kt (k : Nat) (q : List Nat) : Conts := contAt F623.E k F623.body F623.K0 q
noncomputable def F623.l1_1_0_1_0 (n : Nat) (K : Conts) (p0 : List Int) (p1 p2 : Int) : Option AV := loopF F623.E n (inLoop (subC [1,1,0,1,0] F623.body)) K ⟨slots 38 [(0, .v (.sl (.int .i64)) p0), (3, .v (.int .i64) p1), (4, .v (.int .i64) p2)], []⟩
theorem F623.start_eq (k : Nat) (a0 : List Int) : callW F623.E false F623.fn k [.v (.sl (.int .i64)) a0] =
 F623.l1_1_0_1_0 k (F623.kt k [1,1,0,1,0]) a0 1 1 := by kernel_rfl
theorem F623.l1_1_0_1_0_eq (n : Nat) (K : Conts) (p0 : List Int) (p1 p2 : Int) : F623.l1_1_0_1_0 (n + 1) K p0 p1 p2 =
 bif decide (p2 ≤ (p0.length : Int)) then
 bif decide (0 ≤ (IntKind.i64.wrap (p1 - 1))) && decide ((IntKind.i64.wrap (p1 - 1)) < p0.length) then
 bif decide ((p0.getD ((IntKind.i64.wrap (p1 - 1)).toNat) (0 : Int)) < 1) then
 K.ret ⟨slots 38 [(2, .v .bool false)], []⟩
 else
 bif decide (0 ≤ (IntKind.i64.wrap (p1 - 1))) && decide ((IntKind.i64.wrap (p1 - 1)) < p0.length) then
 bif decide ((p0.getD ((IntKind.i64.wrap (p1 - 1)).toNat) (0 : Int)) > (p0.length : Int)) then
 K.ret ⟨slots 38 [(2, .v .bool false)], []⟩
 else
 bif decide (0 ≤ (IntKind.i64.wrap (p1 - 1))) && decide ((IntKind.i64.wrap (p1 - 1)) < p0.length) then
 bif decide ((p0.getD ((IntKind.i64.wrap (p1 - 1)).toNat) (0 : Int)) = 1) then
 K.ret ⟨slots 38 [(2, .v .bool (decide (p2 = (p0.length : Int))))], []⟩
 else
 F623.l1_1_0_1_0 n K p0 (p0.getD ((IntKind.i64.wrap (p1 - 1)).toNat) (0 : Int)) (IntKind.i64.wrap (p2 + 1))
 else
 none
 else
 none
 else
 none
 else
 exitK K 0 ⟨slots 38 [], []⟩ := by kernel_rfl
theorem F623.c0 (k : Nat) : (F623.kt k [1,1,0,1,0]).ret ⟨slots 38 [(2, .v .bool false)], []⟩ =
 some (.v .bool false) := by kernel_rfl
theorem F623.c1 (k : Nat) (p0 : Bool) : (F623.kt k [1,1,0,1,0]).ret ⟨slots 38 [(2, .v .bool p0)], []⟩ =
 some (.v .bool p0) := by kernel_rfl
theorem F623.c2 (k : Nat) : exitK (F623.kt k [1,1,0,1,0]) 0 ⟨slots 38 [], []⟩ =
 some (.v .bool false) := by kernel_rfl
noncomputable def F624.fn : Func := Go.Proofs.Try.f34
noncomputable def F624.body : Code := bodyOf F624.fn
noncomputable def F624.E : Env := ⟨tt, [], [(1, [1, 2]), (2, [1, 2, 11, 12, 13]), (3, [1, 2, 11, 12, 13, 14]), (4, [1, 2, 5, 6, 11, 12, 13]), (5, [1, 2, 5, 6, 7, 11, 12, 13]), (6, [1, 2, 5, 6, 7, 11, 12, 13, 18, 19, 20]), (7, [1, 2, 5, 6, 7, 11, 12, 13, 18, 19, 20, 21]), (8, [1, 2, 5, 6, 7, 9, 11, 12, 13, 18, 19, 20]), (9, [1, 2, 5, 6, 7, 11, 12, 13, 18, 19, 20, 26]), (10, [1, 2, 5, 6, 7, 11, 12, 13, 18, 19, 20]), (11, [1, 2, 5, 7, 11, 12, 13]), (12, [1, 2, 11, 12, 13, 45]), (13, [1, 2, 11, 12, 13]), (14, [])], [(0, []), (1, [1, 2, 11, 12, 13]), (2, [1, 2, 5, 7, 11, 12, 13]), (3, [1, 2, 5, 6, 7, 11, 12, 13, 18, 19, 20])], some [4], inv, []⟩
noncomputable def F624.K0 : Conts := { nrm := endW F624.E false F624.fn.results.toList, ret := endW F624.E false F624.fn.results.toList, ex := [] }
noncomputable def F624.kt (k : Nat) (q : List Nat) : Conts := contAt F624.E k F624.body F624.K0 q
noncomputable def F624.l1_0_1_0 (n : Nat) (K : Conts) (p0 p1 : List Int) (p2 p3 p4 : Int) (p5 p6 p7 p8 p9 : List Int) (p10 : Int) (p11 : List (List Int)) : Option AV := loopF F624.E n (inLoop (subC [1,0,1,0] F624.body)) K ⟨slots 47 [(1, .v (.sl (.int .i64)) p0), (2, .pb 0 0), (11, .v (.sl (.int .i64)) p1), (12, .v (.int .i64) p2), (13, .v (.int .i64) p3)], [.box (bC p4 p5 p6 p7 p8 p9 p10 p11)]⟩
noncomputable def F624.k_l1_0_1_0 (n : Nat) (K : Conts) (q : List Nat) : Conts := contAt F624.E n (inLoop (subC [1, 0, 1, 0] F624.body)) (loopK F624.E n (inLoop (subC [1, 0, 1, 0] F624.body)) K) q
noncomputable def F624.l1_0_1_0_0_1_1_0_0_1_1_0_1_0 (n : Nat) (K : Conts) (p0 : List Int) (p1 p2 p3 : Int) (p4 : List Int) (p5 p6 : Int) (p7 : List Int) (p8 p9 p10 : Int) (p11 p12 p13 p14 p15 : List Int) (p16 : Int) (p17 : List (List Int)) : Option AV := loopF F624.E n (inLoop (subC [1,0,1,0,0,1,1,0,0,1,1,0,1,0] F624.body)) K ⟨slots 47 [(1, .v (.sl (.int .i64)) p0), (2, .pb 0 0), (5, .v (.int .i64) p1), (6, .v (.int .i64) p2), (7, .v (.int .i64) p3), (11, .v (.sl (.int .i64)) p4), (12, .v (.int .i64) p5), (13, .v (.int .i64) p6), (18, .v (.sl (.int .i64)) p7), (19, .v (.int .i64) p8), (20, .v (.int .i64) p9)], [.box (bC p10 p11 p12 p13 p14 p15 p16 p17)]⟩
theorem F624.start_eq (k : Nat) (kk : Int) (c : (List Int) × ((List Int) × ((List Int) × ((List Int) × ((List Int) × (Int × (List (List Int)))))))) (a1 : List Int) : callW F624.E false F624.fn k [.agg (bC kk c.1 c.2.1 c.2.2.1 c.2.2.2.1 c.2.2.2.2.1 c.2.2.2.2.2.1 c.2.2.2.2.2.2), .v (.sl (.int .i64)) a1] =
 F624.l1_0_1_0 k (F624.kt k [1,0,1,0]) a1 c.2.2.1 (c.2.2.1.length : Int) 0 kk c.1 c.2.1 c.2.2.1 c.2.2.2.1 c.2.2.2.2.1 c.2.2.2.2.2.1 c.2.2.2.2.2.2 := by kernel_rfl
theorem F624.l1_0_1_0_eq (n : Nat) (K : Conts) (p0 p1 : List Int) (p2 p3 p4 : Int) (p5 p6 p7 p8 p9 : List Int) (p10 : Int) (p11 : List (List Int)) : F624.l1_0_1_0 (n + 1) K p0 p1 p2 p3 p4 p5 p6 p7 p8 p9 p10 p11 =
 bif decide (p3 < p2) then
 bif decide (0 ≤ p3) && decide (p3 < p1.length) then
 F624.l1_0_1_0_0_1_1_0_0_1_1_0_1_0 n (F624.k_l1_0_1_0 n K [1,1,0,0,1,1,0,1,0]) p0 p3 (p1.getD p3.toNat (0 : Int)) 0 p1 p2 p3 p0 (p0.length : Int) 0 p4 p5 p6 p7 p8 p9 p10 p11
 else
 none
 else
 exitK K 0 ⟨slots 47 [], []⟩ := by kernel_rfl
theorem F624.l1_0_1_0_0_1_1_0_0_1_1_0_1_0_eq (n : Nat) (K : Conts) (p0 : List Int) (p1 p2 p3 : Int) (p4 : List Int) (p5 p6 : Int) (p7 : List Int) (p8 p9 p10 : Int) (p11 p12 p13 p14 p15 : List Int) (p16 : Int) (p17 : List (List Int)) : F624.l1_0_1_0_0_1_1_0_0_1_1_0_1_0 (n + 1) K p0 p1 p2 p3 p4 p5 p6 p7 p8 p9 p10 p11 p12 p13 p14 p15 p16 p17 =
 bif decide (p9 < p8) then
 bif decide (0 ≤ p9) && decide (p9 < p7.length) then
 bif decide ((p7.getD p9.toNat (0 : Int)) = p2) then
 F624.l1_0_1_0_0_1_1_0_0_1_1_0_1_0 n K p0 p1 p2 (IntKind.i64.wrap (p3 + 1)) p4 p5 p6 p7 p8 (IntKind.i64.wrap (p9 + 1)) p10 p11 p12 p13 p14 p15 p16 p17
 else
 F624.l1_0_1_0_0_1_1_0_0_1_1_0_1_0 n K p0 p1 p2 p3 p4 p5 p6 p7 p8 (IntKind.i64.wrap (p9 + 1)) p10 p11 p12 p13 p14 p15 p16 p17
 else
 none
 else
 exitK K 2 ⟨slots 47 [(1, .v (.sl (.int .i64)) p0), (2, .pb 0 0), (5, .v (.int .i64) p1), (7, .v (.int .i64) p3), (11, .v (.sl (.int .i64)) p4), (12, .v (.int .i64) p5), (13, .v (.int .i64) p6)], [.box (bC p10 p11 p12 p13 p14 p15 p16 p17)]⟩ := by kernel_rfl
theorem F624.c0 (k : Nat) : exitK (F624.kt k [1,0,1,0]) 0 ⟨slots 47 [], []⟩ =
 some (.v .bool true) := by kernel_rfl
theorem F624.c1 (n : Nat) (K : Conts) (p0 : List Int) (p1 p2 : Int) (p3 : List Int) (p4 p5 p6 : Int) (p7 p8 p9 p10 p11 : List Int) (p12 : Int) (p13 : List (List Int)) : exitK (F624.k_l1_0_1_0 n K [1,1,0,0,1,1,0,1,0]) 2 ⟨slots 47 [(1, .v (.sl (.int .i64)) p0), (2, .pb 0 0), (5, .v (.int .i64) p1), (7, .v (.int .i64) p2), (11, .v (.sl (.int .i64)) p3), (12, .v (.int .i64) p4), (13, .v (.int .i64) p5)], [.box (bC p6 p7 p8 p9 p10 p11 p12 p13)]⟩ =
 bif decide (0 ≤ p1) && decide (p1 < p10.length) then
 bif decide (p2 < (p10.getD p1.toNat (0 : Int))) then
 K.ret ⟨slots 47 [(4, .v .bool false)], []⟩
 else
 bif decide (0 ≤ p1) && decide (p1 < p11.length) then
 bif decide (p2 > (p11.getD p1.toNat (0 : Int))) then
 K.ret ⟨slots 47 [(4, .v .bool false)], []⟩
 else
 F624.l1_0_1_0 n K p0 p3 p4 (IntKind.i64.wrap (p5 + 1)) p6 p7 p8 p9 p10 p11 p12 p13
 else
 none
 else
 none := by kernel_rfl
theorem F624.c2 (k : Nat) : (F624.kt k [1,0,1,0]).ret ⟨slots 47 [(4, .v .bool false)], []⟩ =
 some (.v .bool false) := by kernel_rfl
noncomputable def F625.fn : Func := Go.Proofs.Try.f35
noncomputable def F625.body : Code := bodyOf F625.fn
noncomputable def F625.E : Env := ⟨tt, [(54, h_cmpI)], [(1, [0, 1]), (2, [0, 1, 9, 10, 11]), (3, [0, 1, 9, 10, 11, 12]), (4, [0, 1, 5, 6, 9, 10, 11]), (5, [0, 1, 5, 6, 9, 10, 11, 19]), (6, [0, 1, 5, 6, 9, 10, 11]), (7, [0, 1, 6, 7, 9, 10, 11]), (8, [0, 1, 8, 9, 10, 11]), (9, [0, 1, 8, 9, 10, 11, 28]), (10, [0, 1, 9, 10, 11]), (11, [0, 1]), (12, [35]), (13, [])], [(0, [0, 1]), (1, [0, 1, 9, 10, 11])], some [4], inv, []⟩
noncomputable def F625.K0 : Conts := { nrm := endW F625.E false F625.fn.results.toList, ret := endW F625.E false F625.fn.results.toList, ex := [] }
noncomputable def F625.kt (k : Nat) (q : List Nat) : Conts := contAt F625.E k F625.body F625.K0 q
noncomputable def F625.l1_0_1_0 (n : Nat) (K : Conts) (p0 p1 p2 : List Int) (p3 p4 : Int) : Option AV := loopF F625.E n (inLoop (subC [1,0,1,0] F625.body)) K ⟨slots 36 [(0, .v (.sl (.int .i64)) p0), (1, .v (.sl (.int .i64)) p1), (9, .v (.sl (.int .i64)) p2), (10, .v (.int .i64) p3), (11, .v (.int .i64) p4)], []⟩
theorem F625.start_eq (k : Nat) (a0 a1 : List Int) : callW F625.E false F625.fn k [.v (.sl (.int .i64)) a0, .v (.sl (.int .i64)) a1] =
 F625.l1_0_1_0 k (F625.kt k [1,0,1,0]) a0 a1 a0 (a0.length : Int) 0 := by kernel_rfl
theorem F625.l1_0_1_0_eq (n : Nat) (K : Conts) (p0 p1 p2 : List Int) (p3 p4 : Int) : F625.l1_0_1_0 (n + 1) K p0 p1 p2 p3 p4 =
 bif decide (p4 < p3) then
 bif decide (0 ≤ p4) && decide (p4 < p2.length) then
 bif decide (p4 ≥ (p1.length : Int)) then
 K.ret ⟨slots 36 [(4, .v (.int .i64) (1 : Int))], []⟩
 else
 bif decide (0 ≤ p4) && decide (p4 < p1.length) then
 bif !(decide ((cmpI (p2.getD p4.toNat (0 : Int)) (p1.getD p4.toNat (0 : Int))) = 0)) then
 K.ret ⟨slots 36 [(4, .v (.int .i64) (cmpI (p2.getD p4.toNat (0 : Int)) (p1.getD p4.toNat (0 : Int))))], []⟩
 else
 F625.l1_0_1_0 n K p0 p1 p2 p3 (IntKind.i64.wrap (p4 + 1))
 else
 none
 else
 none
 else
 exitK K 0 ⟨slots 36 [(0, .v (.sl (.int .i64)) p0), (1, .v (.sl (.int .i64)) p1)], []⟩ := by kernel_rfl
theorem F625.c0 (k : Nat) (p0 : Int) : (F625.kt k [1,0,1,0]).ret ⟨slots 36 [(4, .v (.int .i64) p0)], []⟩ =
 some (.v (.int .i64) p0) := by kernel_rfl
theorem F625.c1 (k : Nat) (p0 p1 : List Int) : exitK (F625.kt k [1,0,1,0]) 0 ⟨slots 36 [(0, .v (.sl (.int .i64)) p0), (1, .v (.sl (.int .i64)) p1)], []⟩ =
 bif decide ((p0.length : Int) < (p1.length : Int)) then some (.v (.int .i64) (-1 : Int)) else some (.v (.int .i64) (0 : Int)) := by kernel_rfl
noncomputable def F626.fn : Func := Go.Proofs.Try.f36
noncomputable def F626.body : Code := bodyOf F626.fn
noncomputable def F626.E : Env := ⟨tt, [], [(1, [0, 1]), (2, [1, 7, 8, 9]), (3, [1, 7, 8, 9, 10]), (4, [1, 5, 6, 7, 8, 9]), (5, [1, 7, 8, 9, 31]), (6, [1, 7, 8, 9]), (7, [])], [(0, []), (1, [1, 7, 8, 9])], some [4], inv, []⟩
noncomputable def F626.K0 : Conts := { nrm := endW F626.E false F626.fn.results.toList, ret := endW F626.E false F626.fn.results.toList, ex := [] }
noncomputable def F626.kt (k : Nat) (q : List Nat) : Conts := contAt F626.E k F626.body F626.K0 q
noncomputable def F626.l1_0_1_0 (n : Nat) (K : Conts) (p0 p1 : List Int) (p2 p3 : Int) : Option AV := loopF F626.E n (inLoop (subC [1,0,1,0] F626.body)) K ⟨slots 33 [(1, .v (.sl (.int .i64)) p0), (7, .v (.sl (.int .i64)) p1), (8, .v (.int .i64) p2), (9, .v (.int .i64) p3)], []⟩
theorem F626.start_eq (k : Nat) (a0 a1 : List Int) : callW F626.E false F626.fn k [.v (.sl (.int .i64)) a0, .v (.sl (.int .i64)) a1] =
 F626.l1_0_1_0 k (F626.kt k [1,0,1,0]) a1 a0 (a0.length : Int) 0 := by kernel_rfl
theorem F626.l1_0_1_0_eq (n : Nat) (K : Conts) (p0 p1 : List Int) (p2 p3 : Int) : F626.l1_0_1_0 (n + 1) K p0 p1 p2 p3 =
 bif decide (p3 < p2) then
 bif decide (0 ≤ p3) && decide (p3 < p1.length) then
 bif decide ((p1.getD p3.toNat (0 : Int)) < 1) then
 K.ret ⟨slots 33 [(4, .v .bool false)], []⟩
 else
 bif decide ((p1.getD p3.toNat (0 : Int)) > (p0.length : Int)) then
 K.ret ⟨slots 33 [(4, .v .bool false)], []⟩
 else
 bif decide (0 ≤ (IntKind.i64.wrap ((p1.getD p3.toNat (0 : Int)) - 1))) && decide ((IntKind.i64.wrap ((p1.getD p3.toNat (0 : Int)) - 1)) < p0.length) then
 bif !(decide ((p0.getD ((IntKind.i64.wrap ((p1.getD p3.toNat (0 : Int)) - 1)).toNat) (0 : Int)) = (IntKind.i64.wrap (p3 + 1)))) then
 K.ret ⟨slots 33 [(4, .v .bool false)], []⟩
 else
 F626.l1_0_1_0 n K p0 p1 p2 (IntKind.i64.wrap (p3 + 1))
 else
 none
 else
 none
 else
 exitK K 0 ⟨slots 33 [], []⟩ := by kernel_rfl
theorem F626.c0 (k : Nat) : (F626.kt k [1,0,1,0]).ret ⟨slots 33 [(4, .v .bool false)], []⟩ =
 some (.v .bool false) := by kernel_rfl
theorem F626.c1 (k : Nat) : exitK (F626.kt k [1,0,1,0]) 0 ⟨slots 33 [], []⟩ =
 some (.v .bool true) := by kernel_rfl
noncomputable def F627.fn : Func := Go.Proofs.Try.f37
noncomputable def F627.E : Env := ⟨tt, [], [(1, [1, 2]), (2, [1, 2, 6]), (3, [1, 2, 6, 7]), (5, [1, 2, 6, 20]), (7, [1, 2, 6, 39]), (9, [1, 2, 6, 58]), (11, [1, 2, 6, 72]), (13, [1, 2, 85]), (14, [1, 2])], [(0, [1, 2])], some [4], inv, []⟩
theorem F627.start_eq (k : Nat) (kk : Int) (c : (List Int) × ((List Int) × ((List Int) × ((List Int) × ((List Int) × (Int × (List (List Int)))))))) (a1 : List Int) : callW F627.E false F627.fn k [.agg (bC kk c.1 c.2.1 c.2.2.1 c.2.2.2.1 c.2.2.2.2.1 c.2.2.2.2.2.1 c.2.2.2.2.2.2), .v (.sl (.int .i64)) a1] =
 bif decide (kk = 5) then
 bif decide ((0 : Int) < a1.length) then
 bif decide ((1 : Int) < a1.length) then
 bif decide ((2 : Int) < a1.length) then
 some (.v .bool (decide ((IntKind.i64.wrap ((a1.getD 0 (0 : Int)) * (a1.getD 1 (0 : Int)))) = (a1.getD 2 (0 : Int)))))
 else
 none
 else
 none
 else
 none
 else
 bif decide (kk = 6) then
 bif decide ((1 : Int) < a1.length) then
 bif !(decide ((a1.getD 1 (0 : Int)) = 0)) then
 bif decide ((0 : Int) < a1.length) then
 bif decide ((1 : Int) < a1.length) then
 bif !decide (a1.getD 1 (0 : Int) = 0) then
 bif decide ((2 : Int) < a1.length) then
 some (.v .bool (decide ((IntKind.i64.wrap ((a1.getD 0 (0 : Int)).tdiv (a1.getD 1 (0 : Int)))) = (a1.getD 2 (0 : Int)))))
 else
 none
 else
 none
 else
 none
 else
 none
 else
 some (.v .bool false)
 else
 none
 else
 bif decide (kk = 7) then
 bif decide ((1 : Int) < a1.length) then
 bif !(decide ((a1.getD 1 (0 : Int)) = 0)) then
 bif decide ((0 : Int) < a1.length) then
 bif decide ((1 : Int) < a1.length) then
 bif !decide (a1.getD 1 (0 : Int) = 0) then
 bif decide ((2 : Int) < a1.length) then some (.v .bool (decide (((a1.getD 0 (0 : Int)).tmod (a1.getD 1 (0 : Int))) = (a1.getD 2 (0 : Int))))) else none
 else
 none
 else
 none
 else
 none
 else
 some (.v .bool false)
 else
 none
 else
 bif decide (kk = 8) then
 bif decide ((0 : Int) < a1.length) then
 bif decide ((0 : Int) < a1.length) then
 bif decide ((1 : Int) < a1.length) then
 some (.v .bool (decide ((if IntKind.i64.wrap (0 - (a1.getD 0 (0 : Int))) > a1.getD 0 (0 : Int) then IntKind.i64.wrap (0 - (a1.getD 0 (0 : Int))) else a1.getD 0 (0 : Int)) = (a1.getD 1 (0 : Int)))))
 else
 none
 else
 none
 else
 none
 else
 bif decide (kk = 9) then
 bif decide ((0 : Int) < a1.length) then
 bif decide ((1 : Int) < a1.length) then
 bif decide ((2 : Int) < a1.length) then
 some (.v .bool (decide ((if a1.getD 1 (0 : Int) < a1.getD 0 (0 : Int) then a1.getD 1 (0 : Int) else a1.getD 0 (0 : Int)) = (a1.getD 2 (0 : Int)))))
 else
 none
 else
 none
 else
 none
 else
 bif decide (kk = 10) then
 bif decide ((0 : Int) < a1.length) then
 bif decide ((1 : Int) < a1.length) then
 bif decide ((2 : Int) < a1.length) then
 some (.v .bool (decide ((if a1.getD 1 (0 : Int) > a1.getD 0 (0 : Int) then a1.getD 1 (0 : Int) else a1.getD 0 (0 : Int)) = (a1.getD 2 (0 : Int)))))
 else
 none
 else
 none
 else
 none
 else
 bif decide ((0 : Int) < a1.length) then
 bif decide ((a1.getD 0 (0 : Int)) ≥ 1) then
 bif decide ((0 : Int) < a1.length) then
 bif decide ((a1.getD 0 (0 : Int)) ≤ (c.2.2.1.length : Int)) then
 bif decide ((0 : Int) < a1.length) then
 bif decide (0 ≤ (IntKind.i64.wrap ((a1.getD 0 (0 : Int)) - 1))) && decide ((IntKind.i64.wrap ((a1.getD 0 (0 : Int)) - 1)) < c.2.2.1.length) then
 bif decide ((1 : Int) < a1.length) then
 some (.v .bool (decide ((c.2.2.1.getD ((IntKind.i64.wrap ((a1.getD 0 (0 : Int)) - 1)).toNat) (0 : Int)) = (a1.getD 1 (0 : Int)))))
 else
 none
 else
 none
 else
 none
 else
 some (.v .bool false)
 else
 none
 else
 some (.v .bool false)
 else
 none := by kernel_rfl
noncomputable def F47.fn : Func := Go.Proofs.Try.f31
noncomputable def F47.body : Code := bodyOf F47.fn
noncomputable def F47.E : Env := ⟨tt, [], [(1, [0, 1]), (2, [0, 1, 10]), (3, [0, 1]), (4, [0, 1, 12, 13]), (5, [0, 1, 12, 13, 14]), (6, [0, 1, 5, 12, 13]), (7, [0, 1, 12, 13, 24]), (8, [0, 1, 12, 13]), (9, [])], [(0, []), (1, [0, 1, 12, 13])], some [4], inv, []⟩
noncomputable def F47.K0 : Conts := { nrm := endW F47.E false F47.fn.results.toList, ret := endW F47.E false F47.fn.results.toList, ex := [] }
noncomputable def F47.kt (k : Nat) (q : List Nat) : Conts := contAt F47.E k F47.body F47.K0 q
noncomputable def F47.l1_1_0_1_0 (n : Nat) (K : Conts) (p0 p1 : List Int) (p2 p3 : Int) : Option AV := loopF F47.E n (inLoop (subC [1,1,0,1,0] F47.body)) K ⟨slots 26 [(0, .v (.sl (.int .i64)) p0), (1, .v (.sl (.int .i64)) p1), (12, .v (.int .i64) p2), (13, .v (.int .i64) p3)], []⟩
theorem F47.start_eq (k : Nat) (a0 a1 : List Int) : callW F47.E false F47.fn k [.v (.sl (.int .i64)) a0, .v (.sl (.int .i64)) a1] =
 bif !(decide ((a0.length : Int) = (a1.length : Int))) then some (.v .bool false) else F47.l1_1_0_1_0 k (F47.kt k [1,1,0,1,0]) a0 a1 (a0.length : Int) 0 := by kernel_rfl
theorem F47.l1_1_0_1_0_eq (n : Nat) (K : Conts) (p0 p1 : List Int) (p2 p3 : Int) : F47.l1_1_0_1_0 (n + 1) K p0 p1 p2 p3 =
 bif decide (p3 < p2) then
 bif decide (0 ≤ p3) && decide (p3 < p0.length) then
 bif decide (0 ≤ p3) && decide (p3 < p1.length) then
 bif !(decide ((p0.getD p3.toNat (0 : Int)) = (p1.getD p3.toNat (0 : Int)))) then
 K.ret ⟨slots 26 [(4, .v .bool false)], []⟩
 else
 F47.l1_1_0_1_0 n K p0 p1 p2 (IntKind.i64.wrap (p3 + 1))
 else
 none
 else
 none
 else
 exitK K 0 ⟨slots 26 [], []⟩ := by kernel_rfl
theorem F47.c0 (k : Nat) : (F47.kt k [1,1,0,1,0]).ret ⟨slots 26 [(4, .v .bool false)], []⟩ =
 some (.v .bool false) := by kernel_rfl
theorem F47.c1 (k : Nat) : exitK (F47.kt k [1,1,0,1,0]) 0 ⟨slots 26 [], []⟩ =
 some (.v .bool true) := by kernel_rfl
end Go.Proofs.Ytohdaehblenokaa.Ev
