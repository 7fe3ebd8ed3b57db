/-
The functions as the evaluator runs them: printed by a program of mine, each equation by kernel_rfl.
Conditions: none.
-/
import Derived.Test.YtnojoaghcbljfaaGreatDoorAa
set_option linter.unusedVariables false
set_option linter.unusedSimpArgs false
set_option maxRecDepth 100000
namespace Go.Proofs.YtnojoaghcbljfaaGreatDoor.Ev
open Go
noncomputable def F51k1.fn : Func := Go.Proofs.Tryz.f64
noncomputable def F51k1.E : Env := ⟨tt, [(65, h_shapes), (101, h_arityD), (102, h_inL), (103, h_coefsD)], [(1, [1, 2]), (2, [1, 2, 17]), (3, [1, 2]), (4, [1, 2, 5]), (5, [1, 2, 6]), (6, [1, 2, 27]), (7, [1, 2]), (8, [1, 2, 7]), (9, [1, 2, 7, 29]), (10, [2, 7]), (11, [2, 7, 8]), (12, [2, 8, 9]), (13, [2, 45]), (14, [2]), (15, [6]), (16, [49]), (17, [])], [], some [4], inv, []⟩
theorem F51k1.start_eq (k : Nat) (c : (List Int) × ((List Int) × ((List Int) × ((List Int) × ((List Int) × (Int × (List (List Int)))))))) (a1 : Int) : callW F51k1.E false F51k1.fn k [.agg (bC (1 : Int) c.1 c.2.1 c.2.2.1 c.2.2.2.1 c.2.2.2.2.1 c.2.2.2.2.2.1 c.2.2.2.2.2.2), .v (.int .i64) a1] =
 bif decide ((1 : Int) < shapesL.length) then
 bif !(arityD (1, c) ⟨#[99, 86, 107]⟩) then
 some (.v (.int .i64) (10 : Int))
 else
 bif decide (a1 > 0) then
 bif !(inL c.1 0 (IntKind.i64.wrap (a1 - 1))) then
 some (.v (.int .i64) (7 : Int))
 else
 bif !(inL c.2.1 0 (IntKind.i64.wrap (a1 - 1))) then
 some (.v (.int .i64) (7 : Int))
 else
 bif !(coefsD (1, c)) then some (.v (.int .i64) (11 : Int)) else some (.v (.int .i64) (0 : Int))
 else
 bif !(inL c.1 0 (-1 : Int)) then
 some (.v (.int .i64) (7 : Int))
 else
 bif !(inL c.2.1 0 (-1 : Int)) then
 some (.v (.int .i64) (7 : Int))
 else
 bif !(coefsD (1, c)) then some (.v (.int .i64) (11 : Int)) else some (.v (.int .i64) (0 : Int))
 else
 none := by kernel_rfl
noncomputable def F51k2.fn : Func := Go.Proofs.Tryz.f64
noncomputable def F51k2.E : Env := ⟨tt, [(65, h_shapes), (101, h_arityD), (102, h_inL), (103, h_coefsD)], [(1, [1, 2]), (2, [1, 2, 17]), (3, [1, 2]), (4, [1, 2, 5]), (5, [1, 2, 6]), (6, [1, 2, 27]), (7, [1, 2]), (8, [1, 2, 7]), (9, [1, 2, 7, 29]), (10, [2, 7]), (11, [2, 7, 8]), (12, [2, 8, 9]), (13, [2, 45]), (14, [2]), (15, [6]), (16, [49]), (17, [])], [], some [4], inv, []⟩
theorem F51k2.start_eq (k : Nat) (c : (List Int) × ((List Int) × ((List Int) × ((List Int) × ((List Int) × (Int × (List (List Int)))))))) (a1 : Int) : callW F51k2.E false F51k2.fn k [.agg (bC (2 : Int) c.1 c.2.1 c.2.2.1 c.2.2.2.1 c.2.2.2.2.1 c.2.2.2.2.2.1 c.2.2.2.2.2.2), .v (.int .i64) a1] =
 bif decide ((2 : Int) < shapesL.length) then
 bif !(arityD (2, c) ⟨#[99, 86, 107]⟩) then
 some (.v (.int .i64) (10 : Int))
 else
 bif decide (a1 > 0) then
 bif !(inL c.1 0 (IntKind.i64.wrap (a1 - 1))) then
 some (.v (.int .i64) (7 : Int))
 else
 bif !(inL c.2.1 0 (IntKind.i64.wrap (a1 - 1))) then
 some (.v (.int .i64) (7 : Int))
 else
 bif !(coefsD (2, c)) then some (.v (.int .i64) (11 : Int)) else some (.v (.int .i64) (0 : Int))
 else
 bif !(inL c.1 0 (-1 : Int)) then
 some (.v (.int .i64) (7 : Int))
 else
 bif !(inL c.2.1 0 (-1 : Int)) then
 some (.v (.int .i64) (7 : Int))
 else
 bif !(coefsD (2, c)) then some (.v (.int .i64) (11 : Int)) else some (.v (.int .i64) (0 : Int))
 else
 none := by kernel_rfl
noncomputable def F51k3.fn : Func := Go.Proofs.Tryz.f64
noncomputable def F51k3.E : Env := ⟨tt, [(65, h_shapes), (101, h_arityD), (102, h_inL), (103, h_coefsD)], [(1, [1, 2]), (2, [1, 2, 17]), (3, [1, 2]), (4, [1, 2, 5]), (5, [1, 2, 6]), (6, [1, 2, 27]), (7, [1, 2]), (8, [1, 2, 7]), (9, [1, 2, 7, 29]), (10, [2, 7]), (11, [2, 7, 8]), (12, [2, 8, 9]), (13, [2, 45]), (14, [2]), (15, [6]), (16, [49]), (17, [])], [], some [4], inv, []⟩
theorem F51k3.start_eq (k : Nat) (c : (List Int) × ((List Int) × ((List Int) × ((List Int) × ((List Int) × (Int × (List (List Int)))))))) (a1 : Int) : callW F51k3.E false F51k3.fn k [.agg (bC (3 : Int) c.1 c.2.1 c.2.2.1 c.2.2.2.1 c.2.2.2.2.1 c.2.2.2.2.2.1 c.2.2.2.2.2.2), .v (.int .i64) a1] =
 bif decide ((3 : Int) < shapesL.length) then
 bif !(arityD (3, c) ⟨#[99, 86, 107]⟩) then
 some (.v (.int .i64) (10 : Int))
 else
 bif decide (a1 > 0) then
 bif !(inL c.1 0 (IntKind.i64.wrap (a1 - 1))) then
 some (.v (.int .i64) (7 : Int))
 else
 bif !(inL c.2.1 0 (IntKind.i64.wrap (a1 - 1))) then
 some (.v (.int .i64) (7 : Int))
 else
 bif !(coefsD (3, c)) then some (.v (.int .i64) (11 : Int)) else some (.v (.int .i64) (0 : Int))
 else
 bif !(inL c.1 0 (-1 : Int)) then
 some (.v (.int .i64) (7 : Int))
 else
 bif !(inL c.2.1 0 (-1 : Int)) then
 some (.v (.int .i64) (7 : Int))
 else
 bif !(coefsD (3, c)) then some (.v (.int .i64) (11 : Int)) else some (.v (.int .i64) (0 : Int))
 else
 none := by kernel_rfl
noncomputable def F51k4.fn : Func := Go.Proofs.Tryz.f64
noncomputable def F51k4.E : Env := ⟨tt, [(65, h_shapes), (101, h_arityD), (102, h_inL), (103, h_coefsD)], [(1, [1, 2]), (2, [1, 2, 17]), (3, [1, 2]), (4, [1, 2, 5]), (5, [1, 2, 6]), (6, [1, 2, 27]), (7, [1, 2]), (8, [1, 2, 7]), (9, [1, 2, 7, 29]), (10, [2, 7]), (11, [2, 7, 8]), (12, [2, 8, 9]), (13, [2, 45]), (14, [2]), (15, [6]), (16, [49]), (17, [])], [], some [4], inv, []⟩
theorem F51k4.start_eq (k : Nat) (c : (List Int) × ((List Int) × ((List Int) × ((List Int) × ((List Int) × (Int × (List (List Int)))))))) (a1 : Int) : callW F51k4.E false F51k4.fn k [.agg (bC (4 : Int) c.1 c.2.1 c.2.2.1 c.2.2.2.1 c.2.2.2.2.1 c.2.2.2.2.2.1 c.2.2.2.2.2.2), .v (.int .i64) a1] =
 bif decide ((4 : Int) < shapesL.length) then
 bif !(arityD (4, c) ⟨#[99, 86, 107, 119]⟩) then
 some (.v (.int .i64) (10 : Int))
 else
 bif decide (a1 > 0) then
 bif !(inL c.1 0 (IntKind.i64.wrap (a1 - 1))) then
 some (.v (.int .i64) (7 : Int))
 else
 bif !(inL c.2.1 0 (IntKind.i64.wrap (a1 - 1))) then
 some (.v (.int .i64) (7 : Int))
 else
 bif !(coefsD (4, c)) then some (.v (.int .i64) (11 : Int)) else some (.v (.int .i64) (0 : Int))
 else
 bif !(inL c.1 0 (-1 : Int)) then
 some (.v (.int .i64) (7 : Int))
 else
 bif !(inL c.2.1 0 (-1 : Int)) then
 some (.v (.int .i64) (7 : Int))
 else
 bif !(coefsD (4, c)) then some (.v (.int .i64) (11 : Int)) else some (.v (.int .i64) (0 : Int))
 else
 none := by kernel_rfl
noncomputable def F83k1.fn : Func := Go.Proofs.Tryz.f103
noncomputable def F83k1.body : Code := bodyOf F83k1.fn
noncomputable def F83k1.E : Env := ⟨tt, [(102, h_inL)], [(1, [1]), (2, [1, 3]), (3, [1, 3, 4]), (4, [1, 3, 4, 5]), (5, [1, 3, 4, 5, 15]), (6, [1, 3]), (7, [1, 3, 4]), (8, [1, 3, 4, 5]), (9, [1, 3, 4, 5, 18]), (10, [1, 3, 4, 5]), (11, [1, 4, 5, 6]), (12, [1, 4, 5, 6, 7]), (13, [1, 5, 6, 7, 8]), (14, [1, 51]), (15, [1]), (16, [1, 9]), (17, [1, 9]), (18, [1, 9]), (19, [1, 9, 10]), (20, [1, 9, 66]), (21, [1]), (22, [1, 11]), (23, [1, 11]), (24, [1, 11]), (25, [1, 11, 89]), (26, [1, 11]), (27, [1, 11, 12]), (28, [1, 11, 12]), (29, [1, 11, 12]), (30, [1, 11, 12, 105]), (31, [])], [(0, [1]), (1, [1, 9]), (2, []), (3, [1, 11]), (4, [1, 11]), (5, [1, 11, 12])], some [2], inv, []⟩
noncomputable def F83k1.K0 : Conts := { nrm := endW F83k1.E false F83k1.fn.results.toList, ret := endW F83k1.E false F83k1.fn.results.toList, ex := [] }
noncomputable def F83k1.kt (k : Nat) (q : List Nat) : Conts := contAt F83k1.E k F83k1.body F83k1.K0 q
noncomputable def F83k1.l1_1_1_1_1_1_1_1_1_1_0_1_0 (n : Nat) (K : Conts) (p0 p1 : Int) (p2 p3 p4 p5 p6 : List Int) (p7 : Int) (p8 : List (List Int)) : Option AV := loopF F83k1.E n (inLoop (subC [1,1,1,1,1,1,1,1,1,1,0,1,0] F83k1.body)) K ⟨slots 106 [(1, .pb 0 0), (9, .v (.int .i64) p0)], [.box (bC p1 p2 p3 p4 p5 p6 p7 p8)]⟩
noncomputable def F83k1.l1_1_1_1_1_1_1_1_1_1_1_0_1_0 (n : Nat) (K : Conts) (p0 p1 : Int) (p2 p3 p4 p5 p6 : List Int) (p7 : Int) (p8 : List (List Int)) : Option AV := loopF F83k1.E n (inLoop (subC [1,1,1,1,1,1,1,1,1,1,1,0,1,0] F83k1.body)) K ⟨slots 106 [(1, .pb 0 0), (11, .v (.int .i64) p0)], [.box (bC p1 p2 p3 p4 p5 p6 p7 p8)]⟩
noncomputable def F83k1.k_l1_1_1_1_1_1_1_1_1_1_1_0_1_0 (n : Nat) (K : Conts) (q : List Nat) : Conts := contAt F83k1.E n (inLoop (subC [1, 1, 1, 1, 1, 1, 1, 1, 1, 1, 1, 0, 1, 0] F83k1.body)) (loopK F83k1.E n (inLoop (subC [1, 1, 1, 1, 1, 1, 1, 1, 1, 1, 1, 0, 1, 0] F83k1.body)) K) q
noncomputable def F83k1.l1_1_1_1_1_1_1_1_1_1_1_0_1_0_0_1_0_0_1_1_0 (n : Nat) (K : Conts) (p0 p1 p2 : Int) (p3 p4 p5 p6 p7 : List Int) (p8 : Int) (p9 : List (List Int)) : Option AV := loopF F83k1.E n (inLoop (subC [1,1,1,1,1,1,1,1,1,1,1,0,1,0,0,1,0,0,1,1,0] F83k1.body)) K ⟨slots 106 [(1, .pb 0 0), (11, .v (.int .i64) p0), (12, .v (.int .i64) p1)], [.box (bC p2 p3 p4 p5 p6 p7 p8 p9)]⟩
theorem F83k1.start_eq (k : Nat) (c : (List Int) × ((List Int) × ((List Int) × ((List Int) × ((List Int) × (Int × (List (List Int)))))))) : callW F83k1.E false F83k1.fn k [.agg (bC (1 : Int) c.1 c.2.1 c.2.2.1 c.2.2.2.1 c.2.2.2.2.1 c.2.2.2.2.2.1 c.2.2.2.2.2.2)] =
 bif !(inL c.2.2.1 (-1000000 : Int) 1000000) then
 some (.v .bool false)
 else
 bif !(inL c.2.2.2.1 (-1000000 : Int) 1000000) then
 some (.v .bool false)
 else
 bif !(inL c.2.2.2.2.1 (-1000000 : Int) 1000000) then
 some (.v .bool false)
 else
 bif decide (c.2.2.2.2.2.1 < (-9999999999 : Int)) then
 some (.v .bool false)
 else
 bif decide (c.2.2.2.2.2.1 > 9999999999) then
 some (.v .bool false)
 else
 F83k1.l1_1_1_1_1_1_1_1_1_1_0_1_0 k (F83k1.kt k [1,1,1,1,1,1,1,1,1,1,0,1,0]) 0 1 c.1 c.2.1 c.2.2.1 c.2.2.2.1 c.2.2.2.2.1 c.2.2.2.2.2.1 c.2.2.2.2.2.2 := by kernel_rfl
theorem F83k1.l1_1_1_1_1_1_1_1_1_1_0_1_0_eq (n : Nat) (K : Conts) (p0 p1 : Int) (p2 p3 p4 p5 p6 : List Int) (p7 : Int) (p8 : List (List Int)) : F83k1.l1_1_1_1_1_1_1_1_1_1_0_1_0 (n + 1) K p0 p1 p2 p3 p4 p5 p6 p7 p8 =
 bif decide (p0 < (p8.length : Int)) then
 bif decide (0 ≤ p0) && decide (p0 < p8.length) then
 bif !(inL (p8.getD p0.toNat []) (-1000000 : Int) 1000000) then
 K.ret ⟨slots 106 [(2, .v .bool false)], []⟩
 else
 F83k1.l1_1_1_1_1_1_1_1_1_1_0_1_0 n K (IntKind.i64.wrap (p0 + 1)) p1 p2 p3 p4 p5 p6 p7 p8
 else
 none
 else
 exitK K 0 ⟨slots 106 [(1, .pb 0 0)], [.box (bC p1 p2 p3 p4 p5 p6 p7 p8)]⟩ := by kernel_rfl
theorem F83k1.c0 (k : Nat) : (F83k1.kt k [1,1,1,1,1,1,1,1,1,1,0,1,0]).ret ⟨slots 106 [(2, .v .bool false)], []⟩ =
 some (.v .bool false) := by kernel_rfl
theorem F83k1.c1 (k : Nat) (p0 : Int) (p1 p2 p3 p4 p5 : List Int) (p6 : Int) (p7 : List (List Int)) : exitK (F83k1.kt k [1,1,1,1,1,1,1,1,1,1,0,1,0]) 0 ⟨slots 106 [(1, .pb 0 0)], [.box (bC p0 p1 p2 p3 p4 p5 p6 p7)]⟩ =
 F83k1.l1_1_1_1_1_1_1_1_1_1_1_0_1_0 k (F83k1.kt k [1,1,1,1,1,1,1,1,1,1,1,0,1,0]) 0 p0 p1 p2 p3 p4 p5 p6 p7 := by kernel_rfl
theorem F83k1.l1_1_1_1_1_1_1_1_1_1_1_0_1_0_eq (n : Nat) (K : Conts) (p0 p1 : Int) (p2 p3 p4 p5 p6 : List Int) (p7 : Int) (p8 : List (List Int)) : F83k1.l1_1_1_1_1_1_1_1_1_1_1_0_1_0 (n + 1) K p0 p1 p2 p3 p4 p5 p6 p7 p8 =
 bif decide (p1 = 21) then
 bif decide (p0 < (p4.length : Int)) then
 bif decide (0 ≤ p0) && decide (p0 < p5.length) then
 bif decide (0 ≤ p0) && decide (p0 < p6.length) then
 bif decide ((p5.getD p0.toNat (0 : Int)) > (p6.getD p0.toNat (0 : Int))) then
 K.ret ⟨slots 106 [(2, .v .bool false)], []⟩
 else
 F83k1.l1_1_1_1_1_1_1_1_1_1_1_0_1_0_0_1_0_0_1_1_0 n (F83k1.k_l1_1_1_1_1_1_1_1_1_1_1_0_1_0 n K [1,0,0,1,1,0]) p0 0 p1 p2 p3 p4 p5 p6 p7 p8
 else
 none
 else
 none
 else
 exitK K 2 ⟨slots 106 [], []⟩
 else
 exitK K 2 ⟨slots 106 [], []⟩ := by kernel_rfl
theorem F83k1.c3 (k : Nat) : exitK (F83k1.kt k [1,1,1,1,1,1,1,1,1,1,1,0,1,0]) 2 ⟨slots 106 [], []⟩ =
 some (.v .bool true) := by kernel_rfl
noncomputable def F83k2.fn : Func := Go.Proofs.Tryz.f103
noncomputable def F83k2.body : Code := bodyOf F83k2.fn
noncomputable def F83k2.E : Env := ⟨tt, [(102, h_inL)], [(1, [1]), (2, [1, 3]), (3, [1, 3, 4]), (4, [1, 3, 4, 5]), (5, [1, 3, 4, 5, 15]), (6, [1, 3]), (7, [1, 3, 4]), (8, [1, 3, 4, 5]), (9, [1, 3, 4, 5, 18]), (10, [1, 3, 4, 5]), (11, [1, 4, 5, 6]), (12, [1, 4, 5, 6, 7]), (13, [1, 5, 6, 7, 8]), (14, [1, 51]), (15, [1]), (16, [1, 9]), (17, [1, 9]), (18, [1, 9]), (19, [1, 9, 10]), (20, [1, 9, 66]), (21, [1]), (22, [1, 11]), (23, [1, 11]), (24, [1, 11]), (25, [1, 11, 89]), (26, [1, 11]), (27, [1, 11, 12]), (28, [1, 11, 12]), (29, [1, 11, 12]), (30, [1, 11, 12, 105]), (31, [])], [(0, [1]), (1, [1, 9]), (2, []), (3, [1, 11]), (4, [1, 11]), (5, [1, 11, 12])], some [2], inv, []⟩
noncomputable def F83k2.K0 : Conts := { nrm := endW F83k2.E false F83k2.fn.results.toList, ret := endW F83k2.E false F83k2.fn.results.toList, ex := [] }
noncomputable def F83k2.kt (k : Nat) (q : List Nat) : Conts := contAt F83k2.E k F83k2.body F83k2.K0 q
noncomputable def F83k2.l1_1_1_1_1_1_1_1_1_1_0_1_0 (n : Nat) (K : Conts) (p0 p1 : Int) (p2 p3 p4 p5 p6 : List Int) (p7 : Int) (p8 : List (List Int)) : Option AV := loopF F83k2.E n (inLoop (subC [1,1,1,1,1,1,1,1,1,1,0,1,0] F83k2.body)) K ⟨slots 106 [(1, .pb 0 0), (9, .v (.int .i64) p0)], [.box (bC p1 p2 p3 p4 p5 p6 p7 p8)]⟩
noncomputable def F83k2.l1_1_1_1_1_1_1_1_1_1_1_0_1_0 (n : Nat) (K : Conts) (p0 p1 : Int) (p2 p3 p4 p5 p6 : List Int) (p7 : Int) (p8 : List (List Int)) : Option AV := loopF F83k2.E n (inLoop (subC [1,1,1,1,1,1,1,1,1,1,1,0,1,0] F83k2.body)) K ⟨slots 106 [(1, .pb 0 0), (11, .v (.int .i64) p0)], [.box (bC p1 p2 p3 p4 p5 p6 p7 p8)]⟩
noncomputable def F83k2.k_l1_1_1_1_1_1_1_1_1_1_1_0_1_0 (n : Nat) (K : Conts) (q : List Nat) : Conts := contAt F83k2.E n (inLoop (subC [1, 1, 1, 1, 1, 1, 1, 1, 1, 1, 1, 0, 1, 0] F83k2.body)) (loopK F83k2.E n (inLoop (subC [1, 1, 1, 1, 1, 1, 1, 1, 1, 1, 1, 0, 1, 0] F83k2.body)) K) q
noncomputable def F83k2.l1_1_1_1_1_1_1_1_1_1_1_0_1_0_0_1_0_0_1_1_0 (n : Nat) (K : Conts) (p0 p1 p2 : Int) (p3 p4 p5 p6 p7 : List Int) (p8 : Int) (p9 : List (List Int)) : Option AV := loopF F83k2.E n (inLoop (subC [1,1,1,1,1,1,1,1,1,1,1,0,1,0,0,1,0,0,1,1,0] F83k2.body)) K ⟨slots 106 [(1, .pb 0 0), (11, .v (.int .i64) p0), (12, .v (.int .i64) p1)], [.box (bC p2 p3 p4 p5 p6 p7 p8 p9)]⟩
theorem F83k2.start_eq (k : Nat) (c : (List Int) × ((List Int) × ((List Int) × ((List Int) × ((List Int) × (Int × (List (List Int)))))))) : callW F83k2.E false F83k2.fn k [.agg (bC (2 : Int) c.1 c.2.1 c.2.2.1 c.2.2.2.1 c.2.2.2.2.1 c.2.2.2.2.2.1 c.2.2.2.2.2.2)] =
 bif !(inL c.2.2.1 (-1000000 : Int) 1000000) then
 some (.v .bool false)
 else
 bif !(inL c.2.2.2.1 (-1000000 : Int) 1000000) then
 some (.v .bool false)
 else
 bif !(inL c.2.2.2.2.1 (-1000000 : Int) 1000000) then
 some (.v .bool false)
 else
 bif decide (c.2.2.2.2.2.1 < (-9999999999 : Int)) then
 some (.v .bool false)
 else
 bif decide (c.2.2.2.2.2.1 > 9999999999) then
 some (.v .bool false)
 else
 F83k2.l1_1_1_1_1_1_1_1_1_1_0_1_0 k (F83k2.kt k [1,1,1,1,1,1,1,1,1,1,0,1,0]) 0 2 c.1 c.2.1 c.2.2.1 c.2.2.2.1 c.2.2.2.2.1 c.2.2.2.2.2.1 c.2.2.2.2.2.2 := by kernel_rfl
theorem F83k2.l1_1_1_1_1_1_1_1_1_1_0_1_0_eq (n : Nat) (K : Conts) (p0 p1 : Int) (p2 p3 p4 p5 p6 : List Int) (p7 : Int) (p8 : List (List Int)) : F83k2.l1_1_1_1_1_1_1_1_1_1_0_1_0 (n + 1) K p0 p1 p2 p3 p4 p5 p6 p7 p8 =
 bif decide (p0 < (p8.length : Int)) then
 bif decide (0 ≤ p0) && decide (p0 < p8.length) then
 bif !(inL (p8.getD p0.toNat []) (-1000000 : Int) 1000000) then
 K.ret ⟨slots 106 [(2, .v .bool false)], []⟩
 else
 F83k2.l1_1_1_1_1_1_1_1_1_1_0_1_0 n K (IntKind.i64.wrap (p0 + 1)) p1 p2 p3 p4 p5 p6 p7 p8
 else
 none
 else
 exitK K 0 ⟨slots 106 [(1, .pb 0 0)], [.box (bC p1 p2 p3 p4 p5 p6 p7 p8)]⟩ := by kernel_rfl
theorem F83k2.c0 (k : Nat) : (F83k2.kt k [1,1,1,1,1,1,1,1,1,1,0,1,0]).ret ⟨slots 106 [(2, .v .bool false)], []⟩ =
 some (.v .bool false) := by kernel_rfl
theorem F83k2.c1 (k : Nat) (p0 : Int) (p1 p2 p3 p4 p5 : List Int) (p6 : Int) (p7 : List (List Int)) : exitK (F83k2.kt k [1,1,1,1,1,1,1,1,1,1,0,1,0]) 0 ⟨slots 106 [(1, .pb 0 0)], [.box (bC p0 p1 p2 p3 p4 p5 p6 p7)]⟩ =
 F83k2.l1_1_1_1_1_1_1_1_1_1_1_0_1_0 k (F83k2.kt k [1,1,1,1,1,1,1,1,1,1,1,0,1,0]) 0 p0 p1 p2 p3 p4 p5 p6 p7 := by kernel_rfl
theorem F83k2.l1_1_1_1_1_1_1_1_1_1_1_0_1_0_eq (n : Nat) (K : Conts) (p0 p1 : Int) (p2 p3 p4 p5 p6 : List Int) (p7 : Int) (p8 : List (List Int)) : F83k2.l1_1_1_1_1_1_1_1_1_1_1_0_1_0 (n + 1) K p0 p1 p2 p3 p4 p5 p6 p7 p8 =
 bif decide (p1 = 21) then
 bif decide (p0 < (p4.length : Int)) then
 bif decide (0 ≤ p0) && decide (p0 < p5.length) then
 bif decide (0 ≤ p0) && decide (p0 < p6.length) then
 bif decide ((p5.getD p0.toNat (0 : Int)) > (p6.getD p0.toNat (0 : Int))) then
 K.ret ⟨slots 106 [(2, .v .bool false)], []⟩
 else
 F83k2.l1_1_1_1_1_1_1_1_1_1_1_0_1_0_0_1_0_0_1_1_0 n (F83k2.k_l1_1_1_1_1_1_1_1_1_1_1_0_1_0 n K [1,0,0,1,1,0]) p0 0 p1 p2 p3 p4 p5 p6 p7 p8
 else
 none
 else
 none
 else
 exitK K 2 ⟨slots 106 [], []⟩
 else
 exitK K 2 ⟨slots 106 [], []⟩ := by kernel_rfl
theorem F83k2.c3 (k : Nat) : exitK (F83k2.kt k [1,1,1,1,1,1,1,1,1,1,1,0,1,0]) 2 ⟨slots 106 [], []⟩ =
 some (.v .bool true) := by kernel_rfl
noncomputable def F83k3.fn : Func := Go.Proofs.Tryz.f103
noncomputable def F83k3.body : Code := bodyOf F83k3.fn
noncomputable def F83k3.E : Env := ⟨tt, [(102, h_inL)], [(1, [1]), (2, [1, 3]), (3, [1, 3, 4]), (4, [1, 3, 4, 5]), (5, [1, 3, 4, 5, 15]), (6, [1, 3]), (7, [1, 3, 4]), (8, [1, 3, 4, 5]), (9, [1, 3, 4, 5, 18]), (10, [1, 3, 4, 5]), (11, [1, 4, 5, 6]), (12, [1, 4, 5, 6, 7]), (13, [1, 5, 6, 7, 8]), (14, [1, 51]), (15, [1]), (16, [1, 9]), (17, [1, 9]), (18, [1, 9]), (19, [1, 9, 10]), (20, [1, 9, 66]), (21, [1]), (22, [1, 11]), (23, [1, 11]), (24, [1, 11]), (25, [1, 11, 89]), (26, [1, 11]), (27, [1, 11, 12]), (28, [1, 11, 12]), (29, [1, 11, 12]), (30, [1, 11, 12, 105]), (31, [])], [(0, [1]), (1, [1, 9]), (2, []), (3, [1, 11]), (4, [1, 11]), (5, [1, 11, 12])], some [2], inv, []⟩
noncomputable def F83k3.K0 : Conts := { nrm := endW F83k3.E false F83k3.fn.results.toList, ret := endW F83k3.E false F83k3.fn.results.toList, ex := [] }
noncomputable def F83k3.kt (k : Nat) (q : List Nat) : Conts := contAt F83k3.E k F83k3.body F83k3.K0 q
noncomputable def F83k3.l1_1_1_1_1_1_1_1_1_1_0_1_0 (n : Nat) (K : Conts) (p0 p1 : Int) (p2 p3 p4 p5 p6 : List Int) (p7 : Int) (p8 : List (List Int)) : Option AV := loopF F83k3.E n (inLoop (subC [1,1,1,1,1,1,1,1,1,1,0,1,0] F83k3.body)) K ⟨slots 106 [(1, .pb 0 0), (9, .v (.int .i64) p0)], [.box (bC p1 p2 p3 p4 p5 p6 p7 p8)]⟩
noncomputable def F83k3.l1_1_1_1_1_1_1_1_1_1_1_0_1_0 (n : Nat) (K : Conts) (p0 p1 : Int) (p2 p3 p4 p5 p6 : List Int) (p7 : Int) (p8 : List (List Int)) : Option AV := loopF F83k3.E n (inLoop (subC [1,1,1,1,1,1,1,1,1,1,1,0,1,0] F83k3.body)) K ⟨slots 106 [(1, .pb 0 0), (11, .v (.int .i64) p0)], [.box (bC p1 p2 p3 p4 p5 p6 p7 p8)]⟩
noncomputable def F83k3.k_l1_1_1_1_1_1_1_1_1_1_1_0_1_0 (n : Nat) (K : Conts) (q : List Nat) : Conts := contAt F83k3.E n (inLoop (subC [1, 1, 1, 1, 1, 1, 1, 1, 1, 1, 1, 0, 1, 0] F83k3.body)) (loopK F83k3.E n (inLoop (subC [1, 1, 1, 1, 1, 1, 1, 1, 1, 1, 1, 0, 1, 0] F83k3.body)) K) q
noncomputable def F83k3.l1_1_1_1_1_1_1_1_1_1_1_0_1_0_0_1_0_0_1_1_0 (n : Nat) (K : Conts) (p0 p1 p2 : Int) (p3 p4 p5 p6 p7 : List Int) (p8 : Int) (p9 : List (List Int)) : Option AV := loopF F83k3.E n (inLoop (subC [1,1,1,1,1,1,1,1,1,1,1,0,1,0,0,1,0,0,1,1,0] F83k3.body)) K ⟨slots 106 [(1, .pb 0 0), (11, .v (.int .i64) p0), (12, .v (.int .i64) p1)], [.box (bC p2 p3 p4 p5 p6 p7 p8 p9)]⟩
theorem F83k3.start_eq (k : Nat) (c : (List Int) × ((List Int) × ((List Int) × ((List Int) × ((List Int) × (Int × (List (List Int)))))))) : callW F83k3.E false F83k3.fn k [.agg (bC (3 : Int) c.1 c.2.1 c.2.2.1 c.2.2.2.1 c.2.2.2.2.1 c.2.2.2.2.2.1 c.2.2.2.2.2.2)] =
 bif !(inL c.2.2.1 (-1000000 : Int) 1000000) then
 some (.v .bool false)
 else
 bif !(inL c.2.2.2.1 (-1000000 : Int) 1000000) then
 some (.v .bool false)
 else
 bif !(inL c.2.2.2.2.1 (-1000000 : Int) 1000000) then
 some (.v .bool false)
 else
 bif decide (c.2.2.2.2.2.1 < (-9999999999 : Int)) then
 some (.v .bool false)
 else
 bif decide (c.2.2.2.2.2.1 > 9999999999) then
 some (.v .bool false)
 else
 F83k3.l1_1_1_1_1_1_1_1_1_1_0_1_0 k (F83k3.kt k [1,1,1,1,1,1,1,1,1,1,0,1,0]) 0 3 c.1 c.2.1 c.2.2.1 c.2.2.2.1 c.2.2.2.2.1 c.2.2.2.2.2.1 c.2.2.2.2.2.2 := by kernel_rfl
theorem F83k3.l1_1_1_1_1_1_1_1_1_1_0_1_0_eq (n : Nat) (K : Conts) (p0 p1 : Int) (p2 p3 p4 p5 p6 : List Int) (p7 : Int) (p8 : List (List Int)) : F83k3.l1_1_1_1_1_1_1_1_1_1_0_1_0 (n + 1) K p0 p1 p2 p3 p4 p5 p6 p7 p8 =
 bif decide (p0 < (p8.length : Int)) then
 bif decide (0 ≤ p0) && decide (p0 < p8.length) then
 bif !(inL (p8.getD p0.toNat []) (-1000000 : Int) 1000000) then
 K.ret ⟨slots 106 [(2, .v .bool false)], []⟩
 else
 F83k3.l1_1_1_1_1_1_1_1_1_1_0_1_0 n K (IntKind.i64.wrap (p0 + 1)) p1 p2 p3 p4 p5 p6 p7 p8
 else
 none
 else
 exitK K 0 ⟨slots 106 [(1, .pb 0 0)], [.box (bC p1 p2 p3 p4 p5 p6 p7 p8)]⟩ := by kernel_rfl
theorem F83k3.c0 (k : Nat) : (F83k3.kt k [1,1,1,1,1,1,1,1,1,1,0,1,0]).ret ⟨slots 106 [(2, .v .bool false)], []⟩ =
 some (.v .bool false) := by kernel_rfl
theorem F83k3.c1 (k : Nat) (p0 : Int) (p1 p2 p3 p4 p5 : List Int) (p6 : Int) (p7 : List (List Int)) : exitK (F83k3.kt k [1,1,1,1,1,1,1,1,1,1,0,1,0]) 0 ⟨slots 106 [(1, .pb 0 0)], [.box (bC p0 p1 p2 p3 p4 p5 p6 p7)]⟩ =
 F83k3.l1_1_1_1_1_1_1_1_1_1_1_0_1_0 k (F83k3.kt k [1,1,1,1,1,1,1,1,1,1,1,0,1,0]) 0 p0 p1 p2 p3 p4 p5 p6 p7 := by kernel_rfl
theorem F83k3.l1_1_1_1_1_1_1_1_1_1_1_0_1_0_eq (n : Nat) (K : Conts) (p0 p1 : Int) (p2 p3 p4 p5 p6 : List Int) (p7 : Int) (p8 : List (List Int)) : F83k3.l1_1_1_1_1_1_1_1_1_1_1_0_1_0 (n + 1) K p0 p1 p2 p3 p4 p5 p6 p7 p8 =
 bif decide (p1 = 21) then
 bif decide (p0 < (p4.length : Int)) then
 bif decide (0 ≤ p0) && decide (p0 < p5.length) then
 bif decide (0 ≤ p0) && decide (p0 < p6.length) then
 bif decide ((p5.getD p0.toNat (0 : Int)) > (p6.getD p0.toNat (0 : Int))) then
 K.ret ⟨slots 106 [(2, .v .bool false)], []⟩
 else
 F83k3.l1_1_1_1_1_1_1_1_1_1_1_0_1_0_0_1_0_0_1_1_0 n (F83k3.k_l1_1_1_1_1_1_1_1_1_1_1_0_1_0 n K [1,0,0,1,1,0]) p0 0 p1 p2 p3 p4 p5 p6 p7 p8
 else
 none
 else
 none
 else
 exitK K 2 ⟨slots 106 [], []⟩
 else
 exitK K 2 ⟨slots 106 [], []⟩ := by kernel_rfl
theorem F83k3.c3 (k : Nat) : exitK (F83k3.kt k [1,1,1,1,1,1,1,1,1,1,1,0,1,0]) 2 ⟨slots 106 [], []⟩ =
 some (.v .bool true) := by kernel_rfl
noncomputable def F83k4.fn : Func := Go.Proofs.Tryz.f103
noncomputable def F83k4.body : Code := bodyOf F83k4.fn
noncomputable def F83k4.E : Env := ⟨tt, [(102, h_inL)], [(1, [1]), (2, [1, 3]), (3, [1, 3, 4]), (4, [1, 3, 4, 5]), (5, [1, 3, 4, 5, 15]), (6, [1, 3]), (7, [1, 3, 4]), (8, [1, 3, 4, 5]), (9, [1, 3, 4, 5, 18]), (10, [1, 3, 4, 5]), (11, [1, 4, 5, 6]), (12, [1, 4, 5, 6, 7]), (13, [1, 5, 6, 7, 8]), (14, [1, 51]), (15, [1]), (16, [1, 9]), (17, [1, 9]), (18, [1, 9]), (19, [1, 9, 10]), (20, [1, 9, 66]), (21, [1]), (22, [1, 11]), (23, [1, 11]), (24, [1, 11]), (25, [1, 11, 89]), (26, [1, 11]), (27, [1, 11, 12]), (28, [1, 11, 12]), (29, [1, 11, 12]), (30, [1, 11, 12, 105]), (31, [])], [(0, [1]), (1, [1, 9]), (2, []), (3, [1, 11]), (4, [1, 11]), (5, [1, 11, 12])], some [2], inv, []⟩
noncomputable def F83k4.K0 : Conts := { nrm := endW F83k4.E false F83k4.fn.results.toList, ret := endW F83k4.E false F83k4.fn.results.toList, ex := [] }
noncomputable def F83k4.kt (k : Nat) (q : List Nat) : Conts := contAt F83k4.E k F83k4.body F83k4.K0 q
noncomputable def F83k4.l1_1_1_1_1_1_1_1_1_1_0_1_0 (n : Nat) (K : Conts) (p0 p1 : Int) (p2 p3 p4 p5 p6 : List Int) (p7 : Int) (p8 : List (List Int)) : Option AV := loopF F83k4.E n (inLoop (subC [1,1,1,1,1,1,1,1,1,1,0,1,0] F83k4.body)) K ⟨slots 106 [(1, .pb 0 0), (9, .v (.int .i64) p0)], [.box (bC p1 p2 p3 p4 p5 p6 p7 p8)]⟩
noncomputable def F83k4.l1_1_1_1_1_1_1_1_1_1_1_0_1_0 (n : Nat) (K : Conts) (p0 p1 : Int) (p2 p3 p4 p5 p6 : List Int) (p7 : Int) (p8 : List (List Int)) : Option AV := loopF F83k4.E n (inLoop (subC [1,1,1,1,1,1,1,1,1,1,1,0,1,0] F83k4.body)) K ⟨slots 106 [(1, .pb 0 0), (11, .v (.int .i64) p0)], [.box (bC p1 p2 p3 p4 p5 p6 p7 p8)]⟩
noncomputable def F83k4.k_l1_1_1_1_1_1_1_1_1_1_1_0_1_0 (n : Nat) (K : Conts) (q : List Nat) : Conts := contAt F83k4.E n (inLoop (subC [1, 1, 1, 1, 1, 1, 1, 1, 1, 1, 1, 0, 1, 0] F83k4.body)) (loopK F83k4.E n (inLoop (subC [1, 1, 1, 1, 1, 1, 1, 1, 1, 1, 1, 0, 1, 0] F83k4.body)) K) q
noncomputable def F83k4.l1_1_1_1_1_1_1_1_1_1_1_0_1_0_0_1_0_0_1_1_0 (n : Nat) (K : Conts) (p0 p1 p2 : Int) (p3 p4 p5 p6 p7 : List Int) (p8 : Int) (p9 : List (List Int)) : Option AV := loopF F83k4.E n (inLoop (subC [1,1,1,1,1,1,1,1,1,1,1,0,1,0,0,1,0,0,1,1,0] F83k4.body)) K ⟨slots 106 [(1, .pb 0 0), (11, .v (.int .i64) p0), (12, .v (.int .i64) p1)], [.box (bC p2 p3 p4 p5 p6 p7 p8 p9)]⟩
theorem F83k4.start_eq (k : Nat) (c : (List Int) × ((List Int) × ((List Int) × ((List Int) × ((List Int) × (Int × (List (List Int)))))))) : callW F83k4.E false F83k4.fn k [.agg (bC (4 : Int) c.1 c.2.1 c.2.2.1 c.2.2.2.1 c.2.2.2.2.1 c.2.2.2.2.2.1 c.2.2.2.2.2.2)] =
 bif !(inL c.2.2.1 (-1000000 : Int) 1000000) then
 some (.v .bool false)
 else
 bif !(inL c.2.2.2.1 (-1000000 : Int) 1000000) then
 some (.v .bool false)
 else
 bif !(inL c.2.2.2.2.1 (-1000000 : Int) 1000000) then
 some (.v .bool false)
 else
 bif decide (c.2.2.2.2.2.1 < (-9999999999 : Int)) then
 some (.v .bool false)
 else
 bif decide (c.2.2.2.2.2.1 > 9999999999) then
 some (.v .bool false)
 else
 F83k4.l1_1_1_1_1_1_1_1_1_1_0_1_0 k (F83k4.kt k [1,1,1,1,1,1,1,1,1,1,0,1,0]) 0 4 c.1 c.2.1 c.2.2.1 c.2.2.2.1 c.2.2.2.2.1 c.2.2.2.2.2.1 c.2.2.2.2.2.2 := by kernel_rfl
theorem F83k4.l1_1_1_1_1_1_1_1_1_1_0_1_0_eq (n : Nat) (K : Conts) (p0 p1 : Int) (p2 p3 p4 p5 p6 : List Int) (p7 : Int) (p8 : List (List Int)) : F83k4.l1_1_1_1_1_1_1_1_1_1_0_1_0 (n + 1) K p0 p1 p2 p3 p4 p5 p6 p7 p8 =
 bif decide (p0 < (p8.length : Int)) then
 bif decide (0 ≤ p0) && decide (p0 < p8.length) then
 bif !(inL (p8.getD p0.toNat []) (-1000000 : Int) 1000000) then
 K.ret ⟨slots 106 [(2, .v .bool false)], []⟩
 else
 F83k4.l1_1_1_1_1_1_1_1_1_1_0_1_0 n K (IntKind.i64.wrap (p0 + 1)) p1 p2 p3 p4 p5 p6 p7 p8
 else
 none
 else
 exitK K 0 ⟨slots 106 [(1, .pb 0 0)], [.box (bC p1 p2 p3 p4 p5 p6 p7 p8)]⟩ := by kernel_rfl
theorem F83k4.c0 (k : Nat) : (F83k4.kt k [1,1,1,1,1,1,1,1,1,1,0,1,0]).ret ⟨slots 106 [(2, .v .bool false)], []⟩ =
 some (.v .bool false) := by kernel_rfl
theorem F83k4.c1 (k : Nat) (p0 : Int) (p1 p2 p3 p4 p5 : List Int) (p6 : Int) (p7 : List (List Int)) : exitK (F83k4.kt k [1,1,1,1,1,1,1,1,1,1,0,1,0]) 0 ⟨slots 106 [(1, .pb 0 0)], [.box (bC p0 p1 p2 p3 p4 p5 p6 p7)]⟩ =
 F83k4.l1_1_1_1_1_1_1_1_1_1_1_0_1_0 k (F83k4.kt k [1,1,1,1,1,1,1,1,1,1,1,0,1,0]) 0 p0 p1 p2 p3 p4 p5 p6 p7 := by kernel_rfl
theorem F83k4.l1_1_1_1_1_1_1_1_1_1_1_0_1_0_eq (n : Nat) (K : Conts) (p0 p1 : Int) (p2 p3 p4 p5 p6 : List Int) (p7 : Int) (p8 : List (List Int)) : F83k4.l1_1_1_1_1_1_1_1_1_1_1_0_1_0 (n + 1) K p0 p1 p2 p3 p4 p5 p6 p7 p8 =
 bif decide (p1 = 21) then
 bif decide (p0 < (p4.length : Int)) then
 bif decide (0 ≤ p0) && decide (p0 < p5.length) then
 bif decide (0 ≤ p0) && decide (p0 < p6.length) then
 bif decide ((p5.getD p0.toNat (0 : Int)) > (p6.getD p0.toNat (0 : Int))) then
 K.ret ⟨slots 106 [(2, .v .bool false)], []⟩
 else
 F83k4.l1_1_1_1_1_1_1_1_1_1_1_0_1_0_0_1_0_0_1_1_0 n (F83k4.k_l1_1_1_1_1_1_1_1_1_1_1_0_1_0 n K [1,0,0,1,1,0]) p0 0 p1 p2 p3 p4 p5 p6 p7 p8
 else
 none
 else
 none
 else
 exitK K 2 ⟨slots 106 [], []⟩
 else
 exitK K 2 ⟨slots 106 [], []⟩ := by kernel_rfl
theorem F83k4.c3 (k : Nat) : exitK (F83k4.kt k [1,1,1,1,1,1,1,1,1,1,1,0,1,0]) 2 ⟨slots 106 [], []⟩ =
 some (.v .bool true) := by kernel_rfl
end Go.Proofs.YtnojoaghcbljfaaGreatDoor.Ev
