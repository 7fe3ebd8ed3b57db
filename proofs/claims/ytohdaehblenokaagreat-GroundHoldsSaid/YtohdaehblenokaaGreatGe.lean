/-
The functions as the evaluator runs them: printed by a program of mine, each equation by kernel_rfl.
Conditions: none.
-/
import Derived.Test.YtohdaehblenokaaGreatGh
set_option linter.unusedVariables false
set_option linter.unusedSimpArgs false
set_option maxRecDepth 100000
namespace Go.Proofs.YtohdaehblenokaaGreat.Ev
open Go
noncomputable def F84.fn : Func := Go.Proofs.Tryz.f74
noncomputable def F84.body : Code := bodyOf F84.fn
noncomputable def F84.E : Env := ⟨tt, [], [(1, [1, 2]), (2, [1, 2, 5]), (3, [1, 2, 5, 6]), (4, [1, 2, 5, 6]), (5, [1, 2, 5, 6]), (6, [5])], [(0, [5]), (1, [1, 2, 5, 6])], some [4], inv, []⟩
noncomputable def F84.K0 : Conts := { nrm := endW F84.E false F84.fn.results.toList, ret := endW F84.E false F84.fn.results.toList, ex := [] }
noncomputable def F84.kt (k : Nat) (q : List Nat) : Conts := contAt F84.E k F84.body F84.K0 q
noncomputable def F84.l1_1_0_1_0 (n : Nat) (K : Conts) (p0 : List Int) (p1 p2 p3 : Int) (p4 p5 p6 p7 p8 : List Int) (p9 : Int) (p10 : List (List Int)) : Option AV := loopF F84.E n (inLoop (subC [1,1,0,1,0] F84.body)) K ⟨slots 31 [(1, .v (.sl (.int .i64)) p0), (2, .pb 0 0), (5, .v (.int .i64) p1), (6, .v (.int .i64) p2)], [.box (bC p3 p4 p5 p6 p7 p8 p9 p10)]⟩
theorem F84.start_eq (k : Nat) (kk : Int) (c : (List Int) × ((List Int) × ((List Int) × ((List Int) × ((List Int) × (Int × (List (List Int)))))))) (a1 : List Int) : callW F84.E false F84.fn k [.agg (bC kk c.1 c.2.1 c.2.2.1 c.2.2.2.1 c.2.2.2.2.1 c.2.2.2.2.2.1 c.2.2.2.2.2.2), .v (.sl (.int .i64)) a1] =
 F84.l1_1_0_1_0 k (F84.kt k [1,1,0,1,0]) a1 0 0 kk c.1 c.2.1 c.2.2.1 c.2.2.2.1 c.2.2.2.2.1 c.2.2.2.2.2.1 c.2.2.2.2.2.2 := by kernel_rfl
theorem F84.l1_1_0_1_0_eq (n : Nat) (K : Conts) (p0 : List Int) (p1 p2 p3 : Int) (p4 p5 p6 p7 p8 : List Int) (p9 : Int) (p10 : List (List Int)) : F84.l1_1_0_1_0 (n + 1) K p0 p1 p2 p3 p4 p5 p6 p7 p8 p9 p10 =
 bif decide (p2 < (p4.length : Int)) then
 bif decide (0 ≤ p2) && decide (p2 < p6.length) then
 bif decide (0 ≤ p2) && decide (p2 < p4.length) then
 bif decide (0 ≤ (p4.getD p2.toNat (0 : Int))) && decide ((p4.getD p2.toNat (0 : Int)) < p0.length) then
 F84.l1_1_0_1_0 n K p0 (IntKind.i64.wrap (p1 + (IntKind.i64.wrap ((p6.getD p2.toNat (0 : Int)) * (p0.getD ((p4.getD p2.toNat (0 : Int)).toNat) (0 : Int)))))) (IntKind.i64.wrap (p2 + 1)) p3 p4 p5 p6 p7 p8 p9 p10
 else
 none
 else
 none
 else
 none
 else
 exitK K 0 ⟨slots 31 [(5, .v (.int .i64) p1)], []⟩ := by kernel_rfl
theorem F84.c0 (k : Nat) (p0 : Int) : exitK (F84.kt k [1,1,0,1,0]) 0 ⟨slots 31 [(5, .v (.int .i64) p0)], []⟩ =
 some (.v (.int .i64) p0) := by kernel_rfl
noncomputable def F56.fn : Func := Go.Proofs.Tryz.f52
noncomputable def F56.E : Env := ⟨tt, [(74, h_sumY)], [(1, [1, 2]), (2, [1, 2, 5]), (3, [1, 2, 5, 12]), (4, [1, 2, 5]), (5, [1, 2, 5, 19]), (6, [1, 2, 5]), (7, [1, 2, 5, 26]), (8, [1, 2, 5]), (9, [2, 5, 6])], [], some [4], inv, []⟩
theorem F56.start_eq (k : Nat) (kk : Int) (c : (List Int) × ((List Int) × ((List Int) × ((List Int) × ((List Int) × (Int × (List (List Int)))))))) (a1 : List Int) : callW F56.E false F56.fn k [.agg (bC kk c.1 c.2.1 c.2.2.1 c.2.2.2.1 c.2.2.2.2.1 c.2.2.2.2.2.1 c.2.2.2.2.2.2), .v (.sl (.int .i64)) a1] =
 bif sumYB (kk, c) a1 then
 bif decide (kk = 1) then
 some (.v .bool (decide ((sumY (kk, c) a1) = c.2.2.2.2.2.1)))
 else
 bif decide (kk = 2) then
 some (.v .bool (decide ((sumY (kk, c) a1) ≤ c.2.2.2.2.2.1)))
 else
 bif decide (kk = 3) then
 some (.v .bool (!(decide ((sumY (kk, c) a1) = c.2.2.2.2.2.1))))
 else
 bif decide ((0 : Int) < c.2.1.length) then
 bif decide (0 ≤ (c.2.1.getD 0 (0 : Int))) && decide ((c.2.1.getD 0 (0 : Int)) < a1.length) then
 bif decide ((a1.getD ((c.2.1.getD 0 (0 : Int)).toNat) (0 : Int)) = 1) then
 bif decide ((sumY (kk, c) a1) ≤ c.2.2.2.2.2.1) then
 some (.v .bool true)
 else
 bif decide ((a1.getD ((c.2.1.getD 0 (0 : Int)).toNat) (0 : Int)) = 0) then some (.v .bool (decide ((sumY (kk, c) a1) > c.2.2.2.2.2.1))) else some (.v .bool false)
 else
 bif decide ((a1.getD ((c.2.1.getD 0 (0 : Int)).toNat) (0 : Int)) = 0) then some (.v .bool (decide ((sumY (kk, c) a1) > c.2.2.2.2.2.1))) else some (.v .bool false)
 else
 none
 else
 none
 else
 none := by kernel_rfl
noncomputable def F85.fn : Func := Go.Proofs.Tryz.f75
noncomputable def F85.body : Code := bodyOf F85.fn
noncomputable def F85.E : Env := ⟨tt, [(84, h_absI)], [(1, [0, 1]), (2, [0, 1, 16]), (3, [0, 1]), (4, [0, 1, 6]), (5, [6, 27]), (6, [6])], [], some [4, 5], inv, []⟩
noncomputable def F85.K0 : Conts := { nrm := endW F85.E false F85.fn.results.toList, ret := endW F85.E false F85.fn.results.toList, ex := [] }
noncomputable def F85.kt (k : Nat) (q : List Nat) : Conts := contAt F85.E k F85.body F85.K0 q
noncomputable def F85.n1_1_1_1 (n : Nat) (K : Conts) (p0 : Int) : Option AV := runC F85.E (loopF F85.E n) (subC [1,1,1,1] F85.body) K ⟨slots 31 [(6, .v (.int .i64) p0)], []⟩
theorem F85.start_eq (k : Nat) (a0 a1 : Int) : callW F85.E false F85.fn k [.v (.int .i64) a0, .v (.int .i64) a1] =
 bif decide (a1 = 0) then
 some (.tup [.v (.int .i64) (0 : Int), .v .bool false])
 else
 bif decide (a1 = (-1 : Int)) then
 bif decide (a0 = (-9223372036854775808 : Int)) then
 some (.tup [.v (.int .i64) (0 : Int), .v .bool false])
 else
 bif millB a0 then
 bif millB a1 then
 bif !decide (absI a1 = 0) then
 bif !((decide (a0 < 0)) == (decide (a1 < 0))) then
 F85.n1_1_1_1 k (F85.kt k [1,1,1,1]) (IntKind.i64.wrap (0 - (IntKind.i64.wrap (IntKind.u64.wrap ((absI a0).tdiv (absI a1))))))
 else
 F85.n1_1_1_1 k (F85.kt k [1,1,1,1]) (IntKind.i64.wrap (IntKind.u64.wrap ((absI a0).tdiv (absI a1))))
 else
 none
 else
 none
 else
 none
 else
 bif millB a0 then
 bif millB a1 then
 bif !decide (absI a1 = 0) then
 bif !((decide (a0 < 0)) == (decide (a1 < 0))) then
 F85.n1_1_1_1 k (F85.kt k [1,1,1,1]) (IntKind.i64.wrap (0 - (IntKind.i64.wrap (IntKind.u64.wrap ((absI a0).tdiv (absI a1))))))
 else
 F85.n1_1_1_1 k (F85.kt k [1,1,1,1]) (IntKind.i64.wrap (IntKind.u64.wrap ((absI a0).tdiv (absI a1))))
 else
 none
 else
 none
 else
 none := by kernel_rfl
theorem F85.n1_1_1_1_eq (n : Nat) (K : Conts) (p0 : Int) : F85.n1_1_1_1 n K p0 =
 K.ret ⟨slots 31 [(4, .v (.int .i64) p0), (5, .v .bool true)], []⟩ := by kernel_rfl
theorem F85.c0 (k : Nat) (p0 : Int) : (F85.kt k [1,1,1,1]).ret ⟨slots 31 [(4, .v (.int .i64) p0), (5, .v .bool true)], []⟩ =
 some (.tup [.v (.int .i64) p0, .v .bool true]) := by kernel_rfl
noncomputable def F101.fn : Func := Go.Proofs.Tryz.f84
noncomputable def F101.E : Env := ⟨tt, [], [(1, [0]), (2, [0, 4]), (3, [0])], [], some [2], inv, []⟩
theorem F101.start_eq (k : Nat) (a0 : Int) : callW F101.E false F101.fn k [.v (.int .i64) a0] =
 bif decide (a0 < 0) then
 some (.v (.int .u64) (IntKind.u64.wrap ((IntKind.u64.wrap (IntKind.i64.wrap (0 - (IntKind.i64.wrap (a0 + 1))))) + 1)))
 else
 some (.v (.int .u64) (IntKind.u64.wrap a0)) := by kernel_rfl
noncomputable def F57.fn : Func := Go.Proofs.Tryz.f53
noncomputable def F57.E : Env := ⟨tt, [(75, h_quoY)], [(1, [1, 2]), (2, [1, 2, 5]), (3, [1, 2, 5, 6]), (4, [1, 2, 5, 6, 26]), (5, [1, 2, 5, 6]), (6, [1, 2, 5, 6, 46]), (7, [1, 2, 5, 6]), (8, [2, 5, 6, 7]), (9, [2, 5, 6, 7, 80]), (10, [2, 5, 6, 7]), (11, [2, 5, 6, 7, 88]), (12, [2, 5, 6, 7]), (13, [2, 5, 6, 7, 109]), (14, [2, 5, 6, 7]), (15, [2, 5, 6, 7, 8, 9]), (16, [5, 6, 7, 8, 9, 136]), (17, [5, 6, 7, 8, 9])], [], some [4], inv, []⟩
theorem F57.start_eq (k : Nat) (kk : Int) (c : (List Int) × ((List Int) × ((List Int) × ((List Int) × ((List Int) × (Int × (List (List Int)))))))) (a1 : List Int) : callW F57.E false F57.fn k [.agg (bC kk c.1 c.2.1 c.2.2.1 c.2.2.2.1 c.2.2.2.2.1 c.2.2.2.2.2.1 c.2.2.2.2.2.2), .v (.sl (.int .i64)) a1] =
 bif decide ((0 : Int) < c.1.length) then
 bif decide (0 ≤ (c.1.getD 0 (0 : Int))) && decide ((c.1.getD 0 (0 : Int)) < a1.length) then
 bif decide ((1 : Int) < c.1.length) then
 bif decide (0 ≤ (c.1.getD 1 (0 : Int))) && decide ((c.1.getD 1 (0 : Int)) < a1.length) then
 bif decide (kk = 8) then
 bif decide ((a1.getD ((c.1.getD 0 (0 : Int)).toNat) (0 : Int)) ≥ 0) then
 bif decide ((a1.getD ((c.1.getD 1 (0 : Int)).toNat) (0 : Int)) = (a1.getD ((c.1.getD 0 (0 : Int)).toNat) (0 : Int))) then
 some (.v .bool true)
 else
 bif decide ((a1.getD ((c.1.getD 0 (0 : Int)).toNat) (0 : Int)) < 0) then
 some (.v .bool (decide ((a1.getD ((c.1.getD 1 (0 : Int)).toNat) (0 : Int)) = (IntKind.i64.wrap (0 - (a1.getD ((c.1.getD 0 (0 : Int)).toNat) (0 : Int)))))))
 else
 some (.v .bool false)
 else
 bif decide ((a1.getD ((c.1.getD 0 (0 : Int)).toNat) (0 : Int)) < 0) then
 some (.v .bool (decide ((a1.getD ((c.1.getD 1 (0 : Int)).toNat) (0 : Int)) = (IntKind.i64.wrap (0 - (a1.getD ((c.1.getD 0 (0 : Int)).toNat) (0 : Int)))))))
 else
 some (.v .bool false)
 else
 bif decide (kk = 11) then
 bif decide ((a1.getD ((c.1.getD 0 (0 : Int)).toNat) (0 : Int)) ≥ 1) then
 bif decide ((a1.getD ((c.1.getD 0 (0 : Int)).toNat) (0 : Int)) ≤ (c.2.2.1.length : Int)) then
 bif !decide ((c.2.2.1.length : Int) = 0) then
 bif decide (0 ≤ ((if 0 > IntKind.i64.wrap ((a1.getD ((c.1.getD 0 (0 : Int)).toNat) (0 : Int)) - 1) then 0 else IntKind.i64.wrap ((a1.getD ((c.1.getD 0 (0 : Int)).toNat) (0 : Int)) - 1)).tmod (c.2.2.1.length : Int))) && decide (((if 0 > IntKind.i64.wrap ((a1.getD ((c.1.getD 0 (0 : Int)).toNat) (0 : Int)) - 1) then 0 else IntKind.i64.wrap ((a1.getD ((c.1.getD 0 (0 : Int)).toNat) (0 : Int)) - 1)).tmod (c.2.2.1.length : Int)) < c.2.2.1.length) then
 some (.v .bool (decide ((c.2.2.1.getD (((if 0 > IntKind.i64.wrap ((a1.getD ((c.1.getD 0 (0 : Int)).toNat) (0 : Int)) - 1) then 0 else IntKind.i64.wrap ((a1.getD ((c.1.getD 0 (0 : Int)).toNat) (0 : Int)) - 1)).tmod (c.2.2.1.length : Int)).toNat) (0 : Int)) = (a1.getD ((c.1.getD 1 (0 : Int)).toNat) (0 : Int)))))
 else
 none
 else
 none
 else
 some (.v .bool false)
 else
 some (.v .bool false)
 else
 bif decide ((2 : Int) < c.1.length) then
 bif decide (0 ≤ (c.1.getD 2 (0 : Int))) && decide ((c.1.getD 2 (0 : Int)) < a1.length) then
 bif decide (kk = 5) then
 some (.v .bool (decide ((IntKind.i64.wrap ((a1.getD ((c.1.getD 0 (0 : Int)).toNat) (0 : Int)) * (a1.getD ((c.1.getD 1 (0 : Int)).toNat) (0 : Int)))) = (a1.getD ((c.1.getD 2 (0 : Int)).toNat) (0 : Int)))))
 else
 bif decide (kk = 9) then
 bif decide ((a1.getD ((c.1.getD 2 (0 : Int)).toNat) (0 : Int)) ≤ (a1.getD ((c.1.getD 0 (0 : Int)).toNat) (0 : Int))) then
 bif decide ((a1.getD ((c.1.getD 2 (0 : Int)).toNat) (0 : Int)) ≤ (a1.getD ((c.1.getD 1 (0 : Int)).toNat) (0 : Int))) then
 bif decide ((a1.getD ((c.1.getD 2 (0 : Int)).toNat) (0 : Int)) = (a1.getD ((c.1.getD 0 (0 : Int)).toNat) (0 : Int))) then
 some (.v .bool true)
 else
 some (.v .bool (decide ((a1.getD ((c.1.getD 2 (0 : Int)).toNat) (0 : Int)) = (a1.getD ((c.1.getD 1 (0 : Int)).toNat) (0 : Int)))))
 else
 some (.v .bool false)
 else
 some (.v .bool false)
 else
 bif decide (kk = 10) then
 bif decide ((a1.getD ((c.1.getD 2 (0 : Int)).toNat) (0 : Int)) ≥ (a1.getD ((c.1.getD 0 (0 : Int)).toNat) (0 : Int))) then
 bif decide ((a1.getD ((c.1.getD 2 (0 : Int)).toNat) (0 : Int)) ≥ (a1.getD ((c.1.getD 1 (0 : Int)).toNat) (0 : Int))) then
 bif decide ((a1.getD ((c.1.getD 2 (0 : Int)).toNat) (0 : Int)) = (a1.getD ((c.1.getD 0 (0 : Int)).toNat) (0 : Int))) then
 some (.v .bool true)
 else
 some (.v .bool (decide ((a1.getD ((c.1.getD 2 (0 : Int)).toNat) (0 : Int)) = (a1.getD ((c.1.getD 1 (0 : Int)).toNat) (0 : Int)))))
 else
 some (.v .bool false)
 else
 some (.v .bool false)
 else
 bif millB (a1.getD ((c.1.getD 0 (0 : Int)).toNat) (0 : Int)) && millB (a1.getD ((c.1.getD 1 (0 : Int)).toNat) (0 : Int)) then
 bif decide (kk = 6) then
 bif unZ (a1.getD ((c.1.getD 1 (0 : Int)).toNat) (0 : Int)) then
 some (.v .bool (decide ((quoY (a1.getD ((c.1.getD 0 (0 : Int)).toNat) (0 : Int)) (a1.getD ((c.1.getD 1 (0 : Int)).toNat) (0 : Int))) = (a1.getD ((c.1.getD 2 (0 : Int)).toNat) (0 : Int)))))
 else
 some (.v .bool false)
 else
 bif unZ (a1.getD ((c.1.getD 1 (0 : Int)).toNat) (0 : Int)) then
 some (.v .bool (decide ((IntKind.i64.wrap ((a1.getD ((c.1.getD 0 (0 : Int)).toNat) (0 : Int)) - (IntKind.i64.wrap ((a1.getD ((c.1.getD 1 (0 : Int)).toNat) (0 : Int)) * (quoY (a1.getD ((c.1.getD 0 (0 : Int)).toNat) (0 : Int)) (a1.getD ((c.1.getD 1 (0 : Int)).toNat) (0 : Int))))))) = (a1.getD ((c.1.getD 2 (0 : Int)).toNat) (0 : Int)))))
 else
 some (.v .bool false)
 else
 none
 else
 none
 else
 none
 else
 none
 else
 none
 else
 none
 else
 none := by kernel_rfl
noncomputable def F58.fn : Func := Go.Proofs.Tryz.f54
noncomputable def F58.body : Code := bodyOf F58.fn
noncomputable def F58.E : Env := ⟨tt, [], [(1, [1, 2]), (2, [1, 2, 11]), (3, [1, 2, 5]), (4, [1, 2, 5]), (5, [1, 2, 5]), (6, [1, 2, 5, 27]), (7, [1, 2]), (8, [1, 2, 6]), (9, [1, 2, 6]), (10, [1, 2, 6]), (11, [1, 2, 6, 43]), (12, []), (13, [1, 2]), (14, [1, 2, 7]), (15, [1, 2, 7, 8]), (16, [1, 2, 7, 8, 68]), (17, [2, 7, 8]), (18, [2, 7, 8, 80]), (19, [2, 7, 8])], [(0, [1, 2]), (1, [1, 2, 5]), (2, []), (3, [1, 2, 6])], some [4], inv, []⟩
noncomputable def F58.K0 : Conts := { nrm := endW F58.E false F58.fn.results.toList, ret := endW F58.E false F58.fn.results.toList, ex := [] }
noncomputable def F58.kt (k : Nat) (q : List Nat) : Conts := contAt F58.E k F58.body F58.K0 q
noncomputable def F58.l1_0_1_0_0_1_0 (n : Nat) (K : Conts) (p0 : List Int) (p1 p2 : Int) (p3 p4 p5 p6 p7 : List Int) (p8 : Int) (p9 : List (List Int)) : Option AV := loopF F58.E n (inLoop (subC [1,0,1,0,0,1,0] F58.body)) K ⟨slots 93 [(1, .v (.sl (.int .i64)) p0), (2, .pb 0 0), (5, .v (.int .i64) p1)], [.box (bC p2 p3 p4 p5 p6 p7 p8 p9)]⟩
noncomputable def F58.l1_0_1_0_1_0_1_0 (n : Nat) (K : Conts) (p0 : List Int) (p1 p2 : Int) (p3 p4 p5 p6 p7 : List Int) (p8 : Int) (p9 : List (List Int)) : Option AV := loopF F58.E n (inLoop (subC [1,0,1,0,1,0,1,0] F58.body)) K ⟨slots 93 [(1, .v (.sl (.int .i64)) p0), (2, .pb 0 0), (6, .v (.int .i64) p1)], [.box (bC p2 p3 p4 p5 p6 p7 p8 p9)]⟩
theorem F58.start_eq (k : Nat) (kk : Int) (c : (List Int) × ((List Int) × ((List Int) × ((List Int) × ((List Int) × (Int × (List (List Int)))))))) (a1 : List Int) : callW F58.E false F58.fn k [.agg (bC kk c.1 c.2.1 c.2.2.1 c.2.2.2.1 c.2.2.2.2.1 c.2.2.2.2.2.1 c.2.2.2.2.2.2), .v (.sl (.int .i64)) a1] =
 bif decide (kk = 12) then
 F58.l1_0_1_0_0_1_0 k (F58.kt k [1,0,1,0,0,1,0]) a1 0 kk c.1 c.2.1 c.2.2.1 c.2.2.2.1 c.2.2.2.2.1 c.2.2.2.2.2.1 c.2.2.2.2.2.2
 else
 bif decide ((0 : Int) < c.2.1.length) then
 bif decide (0 ≤ (c.2.1.getD 0 (0 : Int))) && decide ((c.2.1.getD 0 (0 : Int)) < a1.length) then
 bif decide ((0 : Int) < c.1.length) then
 bif decide (0 ≤ (c.1.getD 0 (0 : Int))) && decide ((c.1.getD 0 (0 : Int)) < a1.length) then
 bif decide (kk = 14) then
 bif decide ((0 : Int) < c.1.length) then
 bif decide (0 ≤ (c.1.getD 0 (0 : Int))) && decide ((c.1.getD 0 (0 : Int)) < a1.length) then
 bif decide ((a1.getD ((c.2.1.getD 0 (0 : Int)).toNat) (0 : Int)) = 1) then
 some (.v .bool (decide ((a1.getD ((c.1.getD 0 (0 : Int)).toNat) (0 : Int)) ≤ c.2.2.2.2.2.1)))
 else
 bif decide ((a1.getD ((c.2.1.getD 0 (0 : Int)).toNat) (0 : Int)) = 0) then
 bif !(decide ((a1.getD ((c.1.getD 0 (0 : Int)).toNat) (0 : Int)) ≤ c.2.2.2.2.2.1)) then some (.v .bool true) else some (.v .bool (decide (kk ≥ 15)))
 else
 some (.v .bool false)
 else
 none
 else
 none
 else
 bif decide (kk = 16) then
 bif decide ((0 : Int) < c.1.length) then
 bif decide (0 ≤ (c.1.getD 0 (0 : Int))) && decide ((c.1.getD 0 (0 : Int)) < a1.length) then
 bif decide ((a1.getD ((c.2.1.getD 0 (0 : Int)).toNat) (0 : Int)) = 1) then
 some (.v .bool (decide ((a1.getD ((c.1.getD 0 (0 : Int)).toNat) (0 : Int)) ≤ c.2.2.2.2.2.1)))
 else
 bif decide ((a1.getD ((c.2.1.getD 0 (0 : Int)).toNat) (0 : Int)) = 0) then
 bif !(decide ((a1.getD ((c.1.getD 0 (0 : Int)).toNat) (0 : Int)) ≤ c.2.2.2.2.2.1)) then some (.v .bool true) else some (.v .bool (decide (kk ≥ 15)))
 else
 some (.v .bool false)
 else
 none
 else
 none
 else
 bif decide ((a1.getD ((c.2.1.getD 0 (0 : Int)).toNat) (0 : Int)) = 1) then
 some (.v .bool (decide ((a1.getD ((c.1.getD 0 (0 : Int)).toNat) (0 : Int)) = c.2.2.2.2.2.1)))
 else
 bif decide ((a1.getD ((c.2.1.getD 0 (0 : Int)).toNat) (0 : Int)) = 0) then
 bif !(decide ((a1.getD ((c.1.getD 0 (0 : Int)).toNat) (0 : Int)) = c.2.2.2.2.2.1)) then some (.v .bool true) else some (.v .bool (decide (kk ≥ 15)))
 else
 some (.v .bool false)
 else
 none
 else
 none
 else
 none
 else
 none := by kernel_rfl
theorem F58.l1_0_1_0_0_1_0_eq (n : Nat) (K : Conts) (p0 : List Int) (p1 p2 : Int) (p3 p4 p5 p6 p7 : List Int) (p8 : Int) (p9 : List (List Int)) : F58.l1_0_1_0_0_1_0 (n + 1) K p0 p1 p2 p3 p4 p5 p6 p7 p8 p9 =
 bif decide (p1 < (p3.length : Int)) then
 bif decide (0 ≤ p1) && decide (p1 < p3.length) then
 bif decide (0 ≤ (p3.getD p1.toNat (0 : Int))) && decide ((p3.getD p1.toNat (0 : Int)) < p0.length) then
 bif decide ((p0.getD ((p3.getD p1.toNat (0 : Int)).toNat) (0 : Int)) = 1) then
 K.ret ⟨slots 93 [(4, .v .bool true)], []⟩
 else
 F58.l1_0_1_0_0_1_0 n K p0 (IntKind.i64.wrap (p1 + 1)) p2 p3 p4 p5 p6 p7 p8 p9
 else
 none
 else
 none
 else
 exitK K 0 ⟨slots 93 [(1, .v (.sl (.int .i64)) p0), (2, .pb 0 0)], [.box (bC p2 p3 p4 p5 p6 p7 p8 p9)]⟩ := by kernel_rfl
theorem F58.c0 (k : Nat) : (F58.kt k [1,0,1,0,0,1,0]).ret ⟨slots 93 [(4, .v .bool true)], []⟩ =
 some (.v .bool true) := by kernel_rfl
theorem F58.c1 (k : Nat) (p0 : List Int) (p1 : Int) (p2 p3 p4 p5 p6 : List Int) (p7 : Int) (p8 : List (List Int)) : exitK (F58.kt k [1,0,1,0,0,1,0]) 0 ⟨slots 93 [(1, .v (.sl (.int .i64)) p0), (2, .pb 0 0)], [.box (bC p1 p2 p3 p4 p5 p6 p7 p8)]⟩ =
 F58.l1_0_1_0_1_0_1_0 k (F58.kt k [1,0,1,0,1,0,1,0]) p0 0 p1 p2 p3 p4 p5 p6 p7 p8 := by kernel_rfl
theorem F58.l1_0_1_0_1_0_1_0_eq (n : Nat) (K : Conts) (p0 : List Int) (p1 p2 : Int) (p3 p4 p5 p6 p7 : List Int) (p8 : Int) (p9 : List (List Int)) : F58.l1_0_1_0_1_0_1_0 (n + 1) K p0 p1 p2 p3 p4 p5 p6 p7 p8 p9 =
 bif decide (p1 < (p4.length : Int)) then
 bif decide (0 ≤ p1) && decide (p1 < p4.length) then
 bif decide (0 ≤ (p4.getD p1.toNat (0 : Int))) && decide ((p4.getD p1.toNat (0 : Int)) < p0.length) then
 bif decide ((p0.getD ((p4.getD p1.toNat (0 : Int)).toNat) (0 : Int)) = 0) then
 K.ret ⟨slots 93 [(4, .v .bool true)], []⟩
 else
 F58.l1_0_1_0_1_0_1_0 n K p0 (IntKind.i64.wrap (p1 + 1)) p2 p3 p4 p5 p6 p7 p8 p9
 else
 none
 else
 none
 else
 exitK K 2 ⟨slots 93 [], []⟩ := by kernel_rfl
theorem F58.c2 (k : Nat) : (F58.kt k [1,0,1,0,1,0,1,0]).ret ⟨slots 93 [(4, .v .bool true)], []⟩ =
 some (.v .bool true) := by kernel_rfl
theorem F58.c3 (k : Nat) : exitK (F58.kt k [1,0,1,0,1,0,1,0]) 2 ⟨slots 93 [], []⟩ =
 some (.v .bool false) := by kernel_rfl
noncomputable def F59.fn : Func := Go.Proofs.Tryz.f55
noncomputable def F59.body : Code := bodyOf F59.fn
noncomputable def F59.E : Env := ⟨tt, [], [(1, [1, 2]), (2, [1, 2, 5]), (3, [1, 2, 5]), (4, [1, 2, 5]), (5, [1, 2, 5, 6]), (6, [1, 2, 5, 6, 7]), (7, [1, 2, 5, 6, 7]), (8, [1, 2, 5, 6, 7]), (9, [1, 2, 5, 6]), (10, [1, 2, 5, 42]), (11, [])], [(0, []), (1, [1, 2, 5]), (2, [1, 2, 5, 6]), (3, [1, 2, 5, 6, 7])], some [4], inv, []⟩
noncomputable def F59.K0 : Conts := { nrm := endW F59.E false F59.fn.results.toList, ret := endW F59.E false F59.fn.results.toList, ex := [] }
noncomputable def F59.kt (k : Nat) (q : List Nat) : Conts := contAt F59.E k F59.body F59.K0 q
noncomputable def F59.l1_0_1_0 (n : Nat) (K : Conts) (p0 : List Int) (p1 p2 : Int) (p3 p4 p5 p6 p7 : List Int) (p8 : Int) (p9 : List (List Int)) : Option AV := loopF F59.E n (inLoop (subC [1,0,1,0] F59.body)) K ⟨slots 43 [(1, .v (.sl (.int .i64)) p0), (2, .pb 0 0), (5, .v (.int .i64) p1)], [.box (bC p2 p3 p4 p5 p6 p7 p8 p9)]⟩
noncomputable def F59.k_l1_0_1_0 (n : Nat) (K : Conts) (q : List Nat) : Conts := contAt F59.E n (inLoop (subC [1, 0, 1, 0] F59.body)) (loopK F59.E n (inLoop (subC [1, 0, 1, 0] F59.body)) K) q
noncomputable def F59.l1_0_1_0_0_1_0_0_1_0_1_0 (n : Nat) (K : Conts) (p0 : List Int) (p1 : Int) (p2 : Bool) (p3 p4 : Int) (p5 p6 p7 p8 p9 : List Int) (p10 : Int) (p11 : List (List Int)) : Option AV := loopF F59.E n (inLoop (subC [1,0,1,0,0,1,0,0,1,0,1,0] F59.body)) K ⟨slots 43 [(1, .v (.sl (.int .i64)) p0), (2, .pb 0 0), (5, .v (.int .i64) p1), (6, .v .bool p2), (7, .v (.int .i64) p3)], [.box (bC p4 p5 p6 p7 p8 p9 p10 p11)]⟩
theorem F59.start_eq (k : Nat) (kk : Int) (c : (List Int) × ((List Int) × ((List Int) × ((List Int) × ((List Int) × (Int × (List (List Int)))))))) (a1 : List Int) : callW F59.E false F59.fn k [.agg (bC kk c.1 c.2.1 c.2.2.1 c.2.2.2.1 c.2.2.2.2.1 c.2.2.2.2.2.1 c.2.2.2.2.2.2), .v (.sl (.int .i64)) a1] =
 F59.l1_0_1_0 k (F59.kt k [1,0,1,0]) a1 0 kk c.1 c.2.1 c.2.2.1 c.2.2.2.1 c.2.2.2.2.1 c.2.2.2.2.2.1 c.2.2.2.2.2.2 := by kernel_rfl
theorem F59.l1_0_1_0_eq (n : Nat) (K : Conts) (p0 : List Int) (p1 p2 : Int) (p3 p4 p5 p6 p7 : List Int) (p8 : Int) (p9 : List (List Int)) : F59.l1_0_1_0 (n + 1) K p0 p1 p2 p3 p4 p5 p6 p7 p8 p9 =
 bif decide (p1 < (p9.length : Int)) then
 F59.l1_0_1_0_0_1_0_0_1_0_1_0 n (F59.k_l1_0_1_0 n K [1,0,0,1,0,1,0]) p0 p1 true 0 p2 p3 p4 p5 p6 p7 p8 p9
 else
 exitK K 0 ⟨slots 43 [], []⟩ := by kernel_rfl
theorem F59.l1_0_1_0_0_1_0_0_1_0_1_0_eq (n : Nat) (K : Conts) (p0 : List Int) (p1 : Int) (p2 : Bool) (p3 p4 : Int) (p5 p6 p7 p8 p9 : List Int) (p10 : Int) (p11 : List (List Int)) : F59.l1_0_1_0_0_1_0_0_1_0_1_0 (n + 1) K p0 p1 p2 p3 p4 p5 p6 p7 p8 p9 p10 p11 =
 bif decide (p3 < (p5.length : Int)) then
 bif p2 then
 bif decide (0 ≤ p1) && decide (p1 < p11.length) then
 bif decide (0 ≤ p3) && decide (p3 < (p11.getD p1.toNat []).length) then
 bif decide (0 ≤ p3) && decide (p3 < p5.length) then
 bif decide (0 ≤ (p5.getD p3.toNat (0 : Int))) && decide ((p5.getD p3.toNat (0 : Int)) < p0.length) then
 F59.l1_0_1_0_0_1_0_0_1_0_1_0 n K p0 p1 (decide (((p11.getD p1.toNat []).getD p3.toNat (0 : Int)) = (p0.getD ((p5.getD p3.toNat (0 : Int)).toNat) (0 : Int)))) (IntKind.i64.wrap (p3 + 1)) p4 p5 p6 p7 p8 p9 p10 p11
 else
 none
 else
 none
 else
 none
 else
 none
 else
 F59.l1_0_1_0_0_1_0_0_1_0_1_0 n K p0 p1 false (IntKind.i64.wrap (p3 + 1)) p4 p5 p6 p7 p8 p9 p10 p11
 else
 exitK K 2 ⟨slots 43 [(1, .v (.sl (.int .i64)) p0), (2, .pb 0 0), (5, .v (.int .i64) p1), (6, .v .bool p2)], [.box (bC p4 p5 p6 p7 p8 p9 p10 p11)]⟩ := by kernel_rfl
theorem F59.c0 (k : Nat) : exitK (F59.kt k [1,0,1,0]) 0 ⟨slots 43 [], []⟩ =
 some (.v .bool false) := by kernel_rfl
theorem F59.c1 (n : Nat) (K : Conts) (p0 : List Int) (p1 : Int) (p2 : Bool) (p3 : Int) (p4 p5 p6 p7 p8 : List Int) (p9 : Int) (p10 : List (List Int)) : exitK (F59.k_l1_0_1_0 n K [1,0,0,1,0,1,0]) 2 ⟨slots 43 [(1, .v (.sl (.int .i64)) p0), (2, .pb 0 0), (5, .v (.int .i64) p1), (6, .v .bool p2)], [.box (bC p3 p4 p5 p6 p7 p8 p9 p10)]⟩ =
 bif p2 then K.ret ⟨slots 43 [(4, .v .bool true)], []⟩ else F59.l1_0_1_0 n K p0 (IntKind.i64.wrap (p1 + 1)) p3 p4 p5 p6 p7 p8 p9 p10 := by kernel_rfl
theorem F59.c2 (k : Nat) : (F59.kt k [1,0,1,0]).ret ⟨slots 43 [(4, .v .bool true)], []⟩ =
 some (.v .bool true) := by kernel_rfl
noncomputable def F86.fn : Func := Go.Proofs.Tryz.f76
noncomputable def F86.body : Code := bodyOf F86.fn
noncomputable def F86.E : Env := ⟨tt, [], [(1, [1, 2, 3]), (2, [1, 2, 3, 7]), (3, [1, 2, 3, 7, 8]), (4, [1, 2, 3, 7, 8]), (5, [1, 2, 3, 7, 8]), (6, [1, 2, 3, 7, 8, 9]), (7, [1, 2, 3, 7, 8, 38]), (8, [7])], [(0, [7]), (1, [1, 2, 3, 7, 8])], some [6], inv, []⟩
noncomputable def F86.K0 : Conts := { nrm := endW F86.E false F86.fn.results.toList, ret := endW F86.E false F86.fn.results.toList, ex := [] }
noncomputable def F86.kt (k : Nat) (q : List Nat) : Conts := contAt F86.E k F86.body F86.K0 q
noncomputable def F86.l1_1_0_1_0 (n : Nat) (K : Conts) (p0 : List Int) (p1 p2 p3 p4 : Int) (p5 p6 p7 p8 p9 : List Int) (p10 : Int) (p11 : List (List Int)) : Option AV := loopF F86.E n (inLoop (subC [1,1,0,1,0] F86.body)) K ⟨slots 47 [(1, .v (.sl (.int .i64)) p0), (2, .v (.int .i64) p1), (3, .pb 0 0), (7, .v (.int .i64) p2), (8, .v (.int .i64) p3)], [.box (bC p4 p5 p6 p7 p8 p9 p10 p11)]⟩
theorem F86.start_eq (k : Nat) (kk : Int) (c : (List Int) × ((List Int) × ((List Int) × ((List Int) × ((List Int) × (Int × (List (List Int)))))))) (a1 : List Int) (a2 : Int) : callW F86.E false F86.fn k [.agg (bC kk c.1 c.2.1 c.2.2.1 c.2.2.2.1 c.2.2.2.2.1 c.2.2.2.2.2.1 c.2.2.2.2.2.2), .v (.sl (.int .i64)) a1, .v (.int .i64) a2] =
 F86.l1_1_0_1_0 k (F86.kt k [1,1,0,1,0]) a1 a2 0 0 kk c.1 c.2.1 c.2.2.1 c.2.2.2.1 c.2.2.2.2.1 c.2.2.2.2.2.1 c.2.2.2.2.2.2 := by kernel_rfl
theorem F86.l1_1_0_1_0_eq (n : Nat) (K : Conts) (p0 : List Int) (p1 p2 p3 p4 : Int) (p5 p6 p7 p8 p9 : List Int) (p10 : Int) (p11 : List (List Int)) : F86.l1_1_0_1_0 (n + 1) K p0 p1 p2 p3 p4 p5 p6 p7 p8 p9 p10 p11 =
 bif decide (p3 < (p5.length : Int)) then
 bif decide (0 ≤ p3) && decide (p3 < p5.length) then
 bif decide (0 ≤ (p5.getD p3.toNat (0 : Int))) && decide ((p5.getD p3.toNat (0 : Int)) < p0.length) then
 bif decide ((p0.getD ((p5.getD p3.toNat (0 : Int)).toNat) (0 : Int)) ≤ p1) then
 bif decide (0 ≤ p3) && decide (p3 < p7.length) then
 bif decide ((IntKind.i64.wrap (p1 - (p0.getD ((p5.getD p3.toNat (0 : Int)).toNat) (0 : Int)))) < (p7.getD p3.toNat (0 : Int))) then
 bif decide (0 ≤ p3) && decide (p3 < p8.length) then
 F86.l1_1_0_1_0 n K p0 p1 (IntKind.i64.wrap (p2 + (p8.getD p3.toNat (0 : Int)))) (IntKind.i64.wrap (p3 + 1)) p4 p5 p6 p7 p8 p9 p10 p11
 else
 none
 else
 F86.l1_1_0_1_0 n K p0 p1 p2 (IntKind.i64.wrap (p3 + 1)) p4 p5 p6 p7 p8 p9 p10 p11
 else
 none
 else
 F86.l1_1_0_1_0 n K p0 p1 p2 (IntKind.i64.wrap (p3 + 1)) p4 p5 p6 p7 p8 p9 p10 p11
 else
 none
 else
 none
 else
 exitK K 0 ⟨slots 47 [(7, .v (.int .i64) p2)], []⟩ := by kernel_rfl
theorem F86.c0 (k : Nat) (p0 : Int) : exitK (F86.kt k [1,1,0,1,0]) 0 ⟨slots 47 [(7, .v (.int .i64) p0)], []⟩ =
 some (.v (.int .i64) p0) := by kernel_rfl
noncomputable def F60.fn : Func := Go.Proofs.Tryz.f56
noncomputable def F60.body : Code := bodyOf F60.fn
noncomputable def F60.E : Env := ⟨tt, [(76, h_runsY)], [(1, [1, 2]), (2, [1, 2, 5]), (3, [1, 2, 5]), (4, [1, 2, 5]), (5, [1, 2, 5, 6]), (6, [1, 2, 5, 28]), (7, [])], [(0, []), (1, [1, 2, 5])], some [4], inv, []⟩
noncomputable def F60.K0 : Conts := { nrm := endW F60.E false F60.fn.results.toList, ret := endW F60.E false F60.fn.results.toList, ex := [] }
noncomputable def F60.kt (k : Nat) (q : List Nat) : Conts := contAt F60.E k F60.body F60.K0 q
noncomputable def F60.l1_0_1_0 (n : Nat) (K : Conts) (p0 : List Int) (p1 p2 : Int) (p3 p4 p5 p6 p7 : List Int) (p8 : Int) (p9 : List (List Int)) : Option AV := loopF F60.E n (inLoop (subC [1,0,1,0] F60.body)) K ⟨slots 29 [(1, .v (.sl (.int .i64)) p0), (2, .pb 0 0), (5, .v (.int .i64) p1)], [.box (bC p2 p3 p4 p5 p6 p7 p8 p9)]⟩
theorem F60.start_eq (k : Nat) (kk : Int) (c : (List Int) × ((List Int) × ((List Int) × ((List Int) × ((List Int) × (Int × (List (List Int)))))))) (a1 : List Int) : callW F60.E false F60.fn k [.agg (bC kk c.1 c.2.1 c.2.2.1 c.2.2.2.1 c.2.2.2.2.1 c.2.2.2.2.2.1 c.2.2.2.2.2.2), .v (.sl (.int .i64)) a1] =
 F60.l1_0_1_0 k (F60.kt k [1,0,1,0]) a1 0 kk c.1 c.2.1 c.2.2.1 c.2.2.2.1 c.2.2.2.2.1 c.2.2.2.2.2.1 c.2.2.2.2.2.2 := by kernel_rfl
theorem F60.l1_0_1_0_eq (n : Nat) (K : Conts) (p0 : List Int) (p1 p2 : Int) (p3 p4 p5 p6 p7 : List Int) (p8 : Int) (p9 : List (List Int)) : F60.l1_0_1_0 (n + 1) K p0 p1 p2 p3 p4 p5 p6 p7 p8 p9 =
 bif decide (p1 < (p3.length : Int)) then
 bif decide (0 ≤ p1) && decide (p1 < p3.length) then
 bif decide (0 ≤ (p3.getD p1.toNat (0 : Int))) && decide ((p3.getD p1.toNat (0 : Int)) < p0.length) then
 bif runsYB (p2, (p3, (p4, (p5, (p6, (p7, (p8, p9))))))) p0 (p0.getD ((p3.getD p1.toNat (0 : Int)).toNat) (0 : Int)) then
 bif decide ((runsY (p2, (p3, (p4, (p5, (p6, (p7, (p8, p9))))))) p0 (p0.getD ((p3.getD p1.toNat (0 : Int)).toNat) (0 : Int))) > p8) then
 K.ret ⟨slots 29 [(4, .v .bool false)], []⟩
 else
 F60.l1_0_1_0 n K p0 (IntKind.i64.wrap (p1 + 1)) p2 p3 p4 p5 p6 p7 p8 p9
 else
 none
 else
 none
 else
 none
 else
 exitK K 0 ⟨slots 29 [], []⟩ := by kernel_rfl
theorem F60.c0 (k : Nat) : (F60.kt k [1,0,1,0]).ret ⟨slots 29 [(4, .v .bool false)], []⟩ =
 some (.v .bool false) := by kernel_rfl
theorem F60.c1 (k : Nat) : exitK (F60.kt k [1,0,1,0]) 0 ⟨slots 29 [], []⟩ =
 some (.v .bool true) := by kernel_rfl
noncomputable def F61.fn : Func := Go.Proofs.Tryz.f57
noncomputable def F61.body : Code := bodyOf F61.fn
noncomputable def F61.E : Env := ⟨tt, [], [(1, [1, 2]), (2, [1, 2, 5]), (3, [1, 2, 5, 6]), (4, [1, 2, 5, 6, 7]), (5, [1, 2, 5, 6, 7, 8]), (6, [1, 2, 5, 6, 7, 8]), (7, [1, 2, 5, 6, 7, 8]), (8, [1, 2, 5, 6, 8, 9]), (9, [1, 2, 5, 6, 8, 9, 41]), (10, [1, 2, 5, 6, 8, 9]), (11, [1, 2, 5, 6, 7, 8]), (12, [7])], [(0, [7]), (1, [1, 2, 5, 6, 7, 8])], some [4], inv, []⟩
noncomputable def F61.K0 : Conts := { nrm := endW F61.E false F61.fn.results.toList, ret := endW F61.E false F61.fn.results.toList, ex := [] }
noncomputable def F61.kt (k : Nat) (q : List Nat) : Conts := contAt F61.E k F61.body F61.K0 q
noncomputable def F61.l1_1_1_1_0_1_0 (n : Nat) (K : Conts) (p0 : List Int) (p1 p2 p3 p4 : Int) (p5 p6 p7 p8 p9 : List Int) (p10 : Int) (p11 : List (List Int)) (p12 : List Bool) : Option AV := loopF F61.E n (inLoop (subC [1,1,1,1,0,1,0] F61.body)) K ⟨slots 49 [(1, .v (.sl (.int .i64)) p0), (2, .pb 0 0), (5, .v (.int .i64) p1), (6, .own 1), (7, .v (.int .i64) p2), (8, .v (.int .i64) p3)], [.box (bC p4 p5 p6 p7 p8 p9 p10 p11), .row 4 .bool p12]⟩
theorem F61.start_eq (k : Nat) (kk : Int) (c : (List Int) × ((List Int) × ((List Int) × ((List Int) × ((List Int) × (Int × (List (List Int)))))))) (a1 : List Int) : callW F61.E false F61.fn k [.agg (bC kk c.1 c.2.1 c.2.2.1 c.2.2.2.1 c.2.2.2.2.1 c.2.2.2.2.2.1 c.2.2.2.2.2.2), .v (.sl (.int .i64)) a1] =
 bif decide (0 ≤ (c.1.length : Int)) && decide ((c.1.length : Int).toNat * 1 ≤ LIM) then
 F61.l1_1_1_1_0_1_0 k (F61.kt k [1,1,1,1,0,1,0]) a1 (c.1.length : Int) 0 0 kk c.1 c.2.1 c.2.2.1 c.2.2.2.1 c.2.2.2.2.1 c.2.2.2.2.2.1 c.2.2.2.2.2.2 (List.replicate ((c.1.length : Int).toNat) false)
 else
 none := by kernel_rfl
theorem F61.l1_1_1_1_0_1_0_eq (n : Nat) (K : Conts) (p0 : List Int) (p1 p2 p3 p4 : Int) (p5 p6 p7 p8 p9 : List Int) (p10 : Int) (p11 : List (List Int)) (p12 : List Bool) : F61.l1_1_1_1_0_1_0 (n + 1) K p0 p1 p2 p3 p4 p5 p6 p7 p8 p9 p10 p11 p12 =
 bif decide (p3 < p1) then
 bif decide (0 ≤ p2) && decide (p2 < p5.length) then
 bif decide (0 ≤ (p5.getD p2.toNat (0 : Int))) && decide ((p5.getD p2.toNat (0 : Int)) < p0.length) then
 bif decide ((p0.getD ((p5.getD p2.toNat (0 : Int)).toNat) (0 : Int)) < 1) then
 K.ret ⟨slots 49 [(4, .v .bool false)], []⟩
 else
 bif decide ((p0.getD ((p5.getD p2.toNat (0 : Int)).toNat) (0 : Int)) > p1) then
 K.ret ⟨slots 49 [(4, .v .bool false)], []⟩
 else
 bif decide (0 ≤ (IntKind.i64.wrap ((p0.getD ((p5.getD p2.toNat (0 : Int)).toNat) (0 : Int)) - 1))) && decide ((IntKind.i64.wrap ((p0.getD ((p5.getD p2.toNat (0 : Int)).toNat) (0 : Int)) - 1)) < p12.length) then
 bif p12.getD ((IntKind.i64.wrap ((p0.getD ((p5.getD p2.toNat (0 : Int)).toNat) (0 : Int)) - 1)).toNat) false then
 K.ret ⟨slots 49 [(4, .v .bool false)], []⟩
 else
 bif decide (0 ≤ (IntKind.i64.wrap ((p0.getD ((p5.getD p2.toNat (0 : Int)).toNat) (0 : Int)) - 1))) && decide ((IntKind.i64.wrap ((p0.getD ((p5.getD p2.toNat (0 : Int)).toNat) (0 : Int)) - 1)) < p12.length) then
 F61.l1_1_1_1_0_1_0 n K p0 p1 (IntKind.i64.wrap ((p0.getD ((p5.getD p2.toNat (0 : Int)).toNat) (0 : Int)) - 1)) (IntKind.i64.wrap (p3 + 1)) p4 p5 p6 p7 p8 p9 p10 p11 (p12.set ((IntKind.i64.wrap ((p0.getD ((p5.getD p2.toNat (0 : Int)).toNat) (0 : Int)) - 1)).toNat) true)
 else
 none
 else
 none
 else
 none
 else
 none
 else
 exitK K 0 ⟨slots 49 [(7, .v (.int .i64) p2)], []⟩ := by kernel_rfl
theorem F61.c0 (k : Nat) : (F61.kt k [1,1,1,1,0,1,0]).ret ⟨slots 49 [(4, .v .bool false)], []⟩ =
 some (.v .bool false) := by kernel_rfl
theorem F61.c1 (k : Nat) (p0 : Int) : exitK (F61.kt k [1,1,1,1,0,1,0]) 0 ⟨slots 49 [(7, .v (.int .i64) p0)], []⟩ =
 some (.v .bool (decide (p0 = 0))) := by kernel_rfl
noncomputable def F62.fn : Func := Go.Proofs.Tryz.f58
noncomputable def F62.body : Code := bodyOf F62.fn
noncomputable def F62.E : Env := ⟨tt, [], [(1, [1, 2]), (2, [1, 2, 5]), (3, [1, 2, 5]), (4, [1, 2, 5]), (5, [1, 2, 5, 6]), (6, [1, 2, 5, 6, 7]), (7, [1, 2, 5, 6, 7]), (8, [1, 2, 5, 6, 7]), (9, [1, 2, 5, 6, 7, 35]), (10, [1, 2, 5, 6]), (11, [1, 2, 5, 53]), (12, [])], [(0, []), (1, [1, 2, 5]), (2, [1, 2, 5, 6]), (3, [1, 2, 5, 6, 7])], some [4], inv, []⟩
noncomputable def F62.K0 : Conts := { nrm := endW F62.E false F62.fn.results.toList, ret := endW F62.E false F62.fn.results.toList, ex := [] }
noncomputable def F62.kt (k : Nat) (q : List Nat) : Conts := contAt F62.E k F62.body F62.K0 q
noncomputable def F62.l1_0_1_0 (n : Nat) (K : Conts) (p0 : List Int) (p1 p2 : Int) (p3 p4 p5 p6 p7 : List Int) (p8 : Int) (p9 : List (List Int)) : Option AV := loopF F62.E n (inLoop (subC [1,0,1,0] F62.body)) K ⟨slots 54 [(1, .v (.sl (.int .i64)) p0), (2, .pb 0 0), (5, .v (.int .i64) p1)], [.box (bC p2 p3 p4 p5 p6 p7 p8 p9)]⟩
noncomputable def F62.k_l1_0_1_0 (n : Nat) (K : Conts) (q : List Nat) : Conts := contAt F62.E n (inLoop (subC [1, 0, 1, 0] F62.body)) (loopK F62.E n (inLoop (subC [1, 0, 1, 0] F62.body)) K) q
noncomputable def F62.l1_0_1_0_0_1_0_0_1_0_1_0 (n : Nat) (K : Conts) (p0 : List Int) (p1 p2 p3 p4 : Int) (p5 p6 p7 p8 p9 : List Int) (p10 : Int) (p11 : List (List Int)) : Option AV := loopF F62.E n (inLoop (subC [1,0,1,0,0,1,0,0,1,0,1,0] F62.body)) K ⟨slots 54 [(1, .v (.sl (.int .i64)) p0), (2, .pb 0 0), (5, .v (.int .i64) p1), (6, .v (.int .i64) p2), (7, .v (.int .i64) p3)], [.box (bC p4 p5 p6 p7 p8 p9 p10 p11)]⟩
theorem F62.start_eq (k : Nat) (kk : Int) (c : (List Int) × ((List Int) × ((List Int) × ((List Int) × ((List Int) × (Int × (List (List Int)))))))) (a1 : List Int) : callW F62.E false F62.fn k [.agg (bC kk c.1 c.2.1 c.2.2.1 c.2.2.2.1 c.2.2.2.2.1 c.2.2.2.2.2.1 c.2.2.2.2.2.2), .v (.sl (.int .i64)) a1] =
 F62.l1_0_1_0 k (F62.kt k [1,0,1,0]) a1 0 kk c.1 c.2.1 c.2.2.1 c.2.2.2.1 c.2.2.2.2.1 c.2.2.2.2.2.1 c.2.2.2.2.2.2 := by kernel_rfl
theorem F62.l1_0_1_0_eq (n : Nat) (K : Conts) (p0 : List Int) (p1 p2 : Int) (p3 p4 p5 p6 p7 : List Int) (p8 : Int) (p9 : List (List Int)) : F62.l1_0_1_0 (n + 1) K p0 p1 p2 p3 p4 p5 p6 p7 p8 p9 =
 bif decide (p1 < (p5.length : Int)) then
 F62.l1_0_1_0_0_1_0_0_1_0_1_0 n (F62.k_l1_0_1_0 n K [1,0,0,1,0,1,0]) p0 p1 0 0 p2 p3 p4 p5 p6 p7 p8 p9
 else
 exitK K 0 ⟨slots 54 [], []⟩ := by kernel_rfl
theorem F62.l1_0_1_0_0_1_0_0_1_0_1_0_eq (n : Nat) (K : Conts) (p0 : List Int) (p1 p2 p3 p4 : Int) (p5 p6 p7 p8 p9 : List Int) (p10 : Int) (p11 : List (List Int)) : F62.l1_0_1_0_0_1_0_0_1_0_1_0 (n + 1) K p0 p1 p2 p3 p4 p5 p6 p7 p8 p9 p10 p11 =
 bif decide (p3 < (p5.length : Int)) then
 bif decide (0 ≤ p3) && decide (p3 < p5.length) then
 bif decide (0 ≤ (p5.getD p3.toNat (0 : Int))) && decide ((p5.getD p3.toNat (0 : Int)) < p0.length) then
 bif decide (0 ≤ p1) && decide (p1 < p7.length) then
 bif decide ((p0.getD ((p5.getD p3.toNat (0 : Int)).toNat) (0 : Int)) = (p7.getD p1.toNat (0 : Int))) then
 F62.l1_0_1_0_0_1_0_0_1_0_1_0 n K p0 p1 (IntKind.i64.wrap (p2 + 1)) (IntKind.i64.wrap (p3 + 1)) p4 p5 p6 p7 p8 p9 p10 p11
 else
 F62.l1_0_1_0_0_1_0_0_1_0_1_0 n K p0 p1 p2 (IntKind.i64.wrap (p3 + 1)) p4 p5 p6 p7 p8 p9 p10 p11
 else
 none
 else
 none
 else
 none
 else
 exitK K 2 ⟨slots 54 [(1, .v (.sl (.int .i64)) p0), (2, .pb 0 0), (5, .v (.int .i64) p1), (6, .v (.int .i64) p2)], [.box (bC p4 p5 p6 p7 p8 p9 p10 p11)]⟩ := by kernel_rfl
theorem F62.c0 (k : Nat) : exitK (F62.kt k [1,0,1,0]) 0 ⟨slots 54 [], []⟩ =
 some (.v .bool true) := by kernel_rfl
theorem F62.c1 (n : Nat) (K : Conts) (p0 : List Int) (p1 p2 p3 : Int) (p4 p5 p6 p7 p8 : List Int) (p9 : Int) (p10 : List (List Int)) : exitK (F62.k_l1_0_1_0 n K [1,0,0,1,0,1,0]) 2 ⟨slots 54 [(1, .v (.sl (.int .i64)) p0), (2, .pb 0 0), (5, .v (.int .i64) p1), (6, .v (.int .i64) p2)], [.box (bC p3 p4 p5 p6 p7 p8 p9 p10)]⟩ =
 bif decide (0 ≤ p1) && decide (p1 < p7.length) then
 bif decide (p2 < (p7.getD p1.toNat (0 : Int))) then
 K.ret ⟨slots 54 [(4, .v .bool false)], []⟩
 else
 bif decide (0 ≤ p1) && decide (p1 < p8.length) then
 bif decide (p2 > (p8.getD p1.toNat (0 : Int))) then
 K.ret ⟨slots 54 [(4, .v .bool false)], []⟩
 else
 F62.l1_0_1_0 n K p0 (IntKind.i64.wrap (p1 + 1)) p3 p4 p5 p6 p7 p8 p9 p10
 else
 none
 else
 none := by kernel_rfl
theorem F62.c2 (k : Nat) : (F62.kt k [1,0,1,0]).ret ⟨slots 54 [(4, .v .bool false)], []⟩ =
 some (.v .bool false) := by kernel_rfl
noncomputable def F63.fn : Func := Go.Proofs.Tryz.f59
noncomputable def F63.body : Code := bodyOf F63.fn
noncomputable def F63.E : Env := ⟨tt, [], [(1, [1, 2]), (2, [1, 2, 5]), (3, [1, 2, 5, 18]), (4, [1, 2, 5, 6]), (5, [1, 2, 5, 6]), (6, [1, 2, 5, 6]), (7, [1, 2, 5, 6, 7]), (8, [1, 2, 5, 6, 7, 8]), (9, [1, 2, 5, 6, 7, 8, 42]), (10, []), (11, [1, 2, 5]), (12, [1, 2, 5, 9]), (13, [1, 2, 5, 9]), (14, [1, 2, 5, 9]), (15, [1, 2, 5, 9, 10]), (16, [1, 2, 5, 9, 10]), (17, [1, 2, 5, 9, 10]), (18, [1, 2, 5, 9, 10, 11]), (19, [1, 2, 5, 9, 10, 11, 12]), (20, [1, 2, 5, 9, 10, 98]), (21, [])], [(0, []), (1, [1, 2, 5, 6]), (2, []), (3, [1, 2, 5, 9]), (4, [1, 2, 5, 9]), (5, [1, 2, 5, 9, 10])], some [4], inv, []⟩
noncomputable def F63.K0 : Conts := { nrm := endW F63.E false F63.fn.results.toList, ret := endW F63.E false F63.fn.results.toList, ex := [] }
noncomputable def F63.kt (k : Nat) (q : List Nat) : Conts := contAt F63.E k F63.body F63.K0 q
noncomputable def F63.l1_1_0_1_0_0_1_0 (n : Nat) (K : Conts) (p0 : List Int) (p1 p2 p3 : Int) (p4 p5 p6 p7 p8 : List Int) (p9 : Int) (p10 : List (List Int)) : Option AV := loopF F63.E n (inLoop (subC [1,1,0,1,0,0,1,0] F63.body)) K ⟨slots 99 [(1, .v (.sl (.int .i64)) p0), (2, .pb 0 0), (5, .v (.int .i64) p1), (6, .v (.int .i64) p2)], [.box (bC p3 p4 p5 p6 p7 p8 p9 p10)]⟩
noncomputable def F63.l1_1_1_0_1_0 (n : Nat) (K : Conts) (p0 : List Int) (p1 p2 p3 : Int) (p4 p5 p6 p7 p8 : List Int) (p9 : Int) (p10 : List (List Int)) : Option AV := loopF F63.E n (inLoop (subC [1,1,1,0,1,0] F63.body)) K ⟨slots 99 [(1, .v (.sl (.int .i64)) p0), (2, .pb 0 0), (5, .v (.int .i64) p1), (9, .v (.int .i64) p2)], [.box (bC p3 p4 p5 p6 p7 p8 p9 p10)]⟩
noncomputable def F63.k_l1_1_1_0_1_0 (n : Nat) (K : Conts) (q : List Nat) : Conts := contAt F63.E n (inLoop (subC [1, 1, 1, 0, 1, 0] F63.body)) (loopK F63.E n (inLoop (subC [1, 1, 1, 0, 1, 0] F63.body)) K) q
noncomputable def F63.l1_1_1_0_1_0_0_1_0_0_1_0 (n : Nat) (K : Conts) (p0 : List Int) (p1 p2 p3 p4 : Int) (p5 p6 p7 p8 p9 : List Int) (p10 : Int) (p11 : List (List Int)) : Option AV := loopF F63.E n (inLoop (subC [1,1,1,0,1,0,0,1,0,0,1,0] F63.body)) K ⟨slots 99 [(1, .v (.sl (.int .i64)) p0), (2, .pb 0 0), (5, .v (.int .i64) p1), (9, .v (.int .i64) p2), (10, .v (.int .i64) p3)], [.box (bC p4 p5 p6 p7 p8 p9 p10 p11)]⟩
theorem F63.start_eq (k : Nat) (kk : Int) (c : (List Int) × ((List Int) × ((List Int) × ((List Int) × ((List Int) × (Int × (List (List Int)))))))) (a1 : List Int) : callW F63.E false F63.fn k [.agg (bC kk c.1 c.2.1 c.2.2.1 c.2.2.2.1 c.2.2.2.2.1 c.2.2.2.2.2.1 c.2.2.2.2.2.2), .v (.sl (.int .i64)) a1] =
 bif decide (kk = 22) then
 F63.l1_1_0_1_0_0_1_0 k (F63.kt k [1,1,0,1,0,0,1,0]) a1 (c.1.length : Int) 0 kk c.1 c.2.1 c.2.2.1 c.2.2.2.1 c.2.2.2.2.1 c.2.2.2.2.2.1 c.2.2.2.2.2.2
 else
 F63.l1_1_1_0_1_0 k (F63.kt k [1,1,1,0,1,0]) a1 (c.1.length : Int) 0 kk c.1 c.2.1 c.2.2.1 c.2.2.2.1 c.2.2.2.2.1 c.2.2.2.2.2.1 c.2.2.2.2.2.2 := by kernel_rfl
theorem F63.l1_1_0_1_0_0_1_0_eq (n : Nat) (K : Conts) (p0 : List Int) (p1 p2 p3 : Int) (p4 p5 p6 p7 p8 : List Int) (p9 : Int) (p10 : List (List Int)) : F63.l1_1_0_1_0_0_1_0 (n + 1) K p0 p1 p2 p3 p4 p5 p6 p7 p8 p9 p10 =
 bif decide (p2 < p1) then
 bif decide (0 ≤ p2) && decide (p2 < p4.length) then
 bif decide (0 ≤ (p4.getD p2.toNat (0 : Int))) && decide ((p4.getD p2.toNat (0 : Int)) < p0.length) then
 bif decide (0 ≤ p2) && decide (p2 < p5.length) then
 bif decide (0 ≤ (p5.getD p2.toNat (0 : Int))) && decide ((p5.getD p2.toNat (0 : Int)) < p0.length) then
 bif !(decide ((p0.getD ((p4.getD p2.toNat (0 : Int)).toNat) (0 : Int)) = (p0.getD ((p5.getD p2.toNat (0 : Int)).toNat) (0 : Int)))) then
 K.ret ⟨slots 99 [(4, .v .bool (decide ((p0.getD ((p4.getD p2.toNat (0 : Int)).toNat) (0 : Int)) < (p0.getD ((p5.getD p2.toNat (0 : Int)).toNat) (0 : Int)))))], []⟩
 else
 F63.l1_1_0_1_0_0_1_0 n K p0 p1 (IntKind.i64.wrap (p2 + 1)) p3 p4 p5 p6 p7 p8 p9 p10
 else
 none
 else
 none
 else
 none
 else
 none
 else
 exitK K 0 ⟨slots 99 [], []⟩ := by kernel_rfl
theorem F63.l1_1_1_0_1_0_eq (n : Nat) (K : Conts) (p0 : List Int) (p1 p2 p3 : Int) (p4 p5 p6 p7 p8 : List Int) (p9 : Int) (p10 : List (List Int)) : F63.l1_1_1_0_1_0 (n + 1) K p0 p1 p2 p3 p4 p5 p6 p7 p8 p9 p10 =
 bif decide (p2 < p1) then
 F63.l1_1_1_0_1_0_0_1_0_0_1_0 n (F63.k_l1_1_1_0_1_0 n K [1,0,0,1,0]) p0 p1 p2 0 p3 p4 p5 p6 p7 p8 p9 p10
 else
 exitK K 2 ⟨slots 99 [], []⟩ := by kernel_rfl
theorem F63.l1_1_1_0_1_0_0_1_0_0_1_0_eq (n : Nat) (K : Conts) (p0 : List Int) (p1 p2 p3 p4 : Int) (p5 p6 p7 p8 p9 : List Int) (p10 : Int) (p11 : List (List Int)) : F63.l1_1_1_0_1_0_0_1_0_0_1_0 (n + 1) K p0 p1 p2 p3 p4 p5 p6 p7 p8 p9 p10 p11 =
 bif decide (p3 < p1) then
 bif decide (0 ≤ p2) && decide (p2 < p5.length) then
 bif decide (0 ≤ (p5.getD p2.toNat (0 : Int))) && decide ((p5.getD p2.toNat (0 : Int)) < p0.length) then
 bif decide (0 ≤ p3) && decide (p3 < p6.length) then
 bif decide (0 ≤ (p6.getD p3.toNat (0 : Int))) && decide ((p6.getD p3.toNat (0 : Int)) < p0.length) then
 bif decide ((p0.getD ((p5.getD p2.toNat (0 : Int)).toNat) (0 : Int)) < 1) then
 K.ret ⟨slots 99 [(4, .v .bool false)], []⟩
 else
 bif decide ((p0.getD ((p5.getD p2.toNat (0 : Int)).toNat) (0 : Int)) > p1) then
 K.ret ⟨slots 99 [(4, .v .bool false)], []⟩
 else
 bif decide ((p0.getD ((p6.getD p3.toNat (0 : Int)).toNat) (0 : Int)) < 1) then
 K.ret ⟨slots 99 [(4, .v .bool false)], []⟩
 else
 bif decide ((p0.getD ((p6.getD p3.toNat (0 : Int)).toNat) (0 : Int)) > p1) then
 K.ret ⟨slots 99 [(4, .v .bool false)], []⟩
 else
 bif !((decide ((p0.getD ((p5.getD p2.toNat (0 : Int)).toNat) (0 : Int)) = (IntKind.i64.wrap (p3 + 1)))) == (decide ((p0.getD ((p6.getD p3.toNat (0 : Int)).toNat) (0 : Int)) = (IntKind.i64.wrap (p2 + 1))))) then
 K.ret ⟨slots 99 [(4, .v .bool false)], []⟩
 else
 F63.l1_1_1_0_1_0_0_1_0_0_1_0 n K p0 p1 p2 (IntKind.i64.wrap (p3 + 1)) p4 p5 p6 p7 p8 p9 p10 p11
 else
 none
 else
 none
 else
 none
 else
 none
 else
 exitK K 4 ⟨slots 99 [(1, .v (.sl (.int .i64)) p0), (2, .pb 0 0), (5, .v (.int .i64) p1), (9, .v (.int .i64) p2)], [.box (bC p4 p5 p6 p7 p8 p9 p10 p11)]⟩ := by kernel_rfl
theorem F63.c0 (k : Nat) (p0 : Bool) : (F63.kt k [1,1,0,1,0,0,1,0]).ret ⟨slots 99 [(4, .v .bool p0)], []⟩ =
 some (.v .bool p0) := by kernel_rfl
theorem F63.c1 (k : Nat) : exitK (F63.kt k [1,1,0,1,0,0,1,0]) 0 ⟨slots 99 [], []⟩ =
 some (.v .bool true) := by kernel_rfl
theorem F63.c2 (k : Nat) : exitK (F63.kt k [1,1,1,0,1,0]) 2 ⟨slots 99 [], []⟩ =
 some (.v .bool true) := by kernel_rfl
theorem F63.c3 (n : Nat) (K : Conts) : (F63.k_l1_1_1_0_1_0 n K [1,0,0,1,0]).ret ⟨slots 99 [(4, .v .bool false)], []⟩ =
 K.ret ⟨slots 99 [(4, .v .bool false)], []⟩ := by kernel_rfl
theorem F63.c4 (n : Nat) (K : Conts) (p0 : List Int) (p1 p2 p3 : Int) (p4 p5 p6 p7 p8 : List Int) (p9 : Int) (p10 : List (List Int)) : exitK (F63.k_l1_1_1_0_1_0 n K [1,0,0,1,0]) 4 ⟨slots 99 [(1, .v (.sl (.int .i64)) p0), (2, .pb 0 0), (5, .v (.int .i64) p1), (9, .v (.int .i64) p2)], [.box (bC p3 p4 p5 p6 p7 p8 p9 p10)]⟩ =
 F63.l1_1_1_0_1_0 n K p0 p1 (IntKind.i64.wrap (p2 + 1)) p3 p4 p5 p6 p7 p8 p9 p10 := by kernel_rfl
theorem F63.c5 (k : Nat) : (F63.kt k [1,1,1,0,1,0]).ret ⟨slots 99 [(4, .v .bool false)], []⟩ =
 some (.v .bool false) := by kernel_rfl
end Go.Proofs.YtohdaehblenokaaGreat.Ev
