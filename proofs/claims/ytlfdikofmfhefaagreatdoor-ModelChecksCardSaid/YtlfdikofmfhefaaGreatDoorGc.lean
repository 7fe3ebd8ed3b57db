/-
The functions as the evaluator runs them: printed by a program of mine, each equation by kernel_rfl.
Conditions: none.
-/
import Derived.Test.YtlfdikofmfhefaaGreatDoorGh
set_option linter.unusedVariables false
set_option linter.unusedSimpArgs false
set_option maxRecDepth 100000
namespace Go.Proofs.YtlfdikofmfhefaaGreatDoor.Ev
open Go
noncomputable def F83.fn : Func := Go.Proofs.Tryz.f65
noncomputable def F83.body : Code := bodyOf F83.fn
noncomputable def F83.E : Env := ⟨tt, [(64, h_inL)], [(1, [1]), (2, [1, 3]), (3, [1, 3, 4]), (4, [1, 3, 4, 5]), (5, [1, 3, 4, 5, 15]), (6, [1, 3]), (7, [1, 3, 4]), (8, [1, 3, 4, 5]), (9, [1, 3, 4, 5, 18]), (10, [1, 3, 4, 5]), (11, [1, 4, 5, 6]), (12, [1, 4, 5, 6, 7]), (13, [1, 5, 6, 7, 8]), (14, [1, 51]), (15, [1]), (16, [1, 9]), (17, [1, 9]), (18, [1, 9]), (19, [1, 9, 10]), (20, [1, 9, 66]), (21, [1]), (22, [1, 11]), (23, [1, 11]), (24, [1, 11]), (25, [1, 11, 89]), (26, [1, 11]), (27, [1, 11, 12]), (28, [1, 11, 12]), (29, [1, 11, 12]), (30, [1, 11, 12, 105]), (31, [])], [(0, [1]), (1, [1, 9]), (2, []), (3, [1, 11]), (4, [1, 11]), (5, [1, 11, 12])], some [2], inv, []⟩
noncomputable def F83.K0 : Conts := { nrm := endW F83.E false F83.fn.results.toList, ret := endW F83.E false F83.fn.results.toList, ex := [] }
noncomputable def F83.kt (k : Nat) (q : List Nat) : Conts := contAt F83.E k F83.body F83.K0 q
noncomputable def F83.l1_1_1_1_1_1_1_1_1_1_0_1_0 (n : Nat) (K : Conts) (p0 p1 : Int) (p2 p3 p4 p5 p6 : List Int) (p7 : Int) (p8 : List (List Int)) : Option AV := loopF F83.E n (inLoop (subC [1,1,1,1,1,1,1,1,1,1,0,1,0] F83.body)) K ⟨slots 106 [(1, .pb 0 0), (9, .v (.int .i64) p0)], [.box (bC p1 p2 p3 p4 p5 p6 p7 p8)]⟩
noncomputable def F83.l1_1_1_1_1_1_1_1_1_1_1_0_1_0 (n : Nat) (K : Conts) (p0 p1 : Int) (p2 p3 p4 p5 p6 : List Int) (p7 : Int) (p8 : List (List Int)) : Option AV := loopF F83.E n (inLoop (subC [1,1,1,1,1,1,1,1,1,1,1,0,1,0] F83.body)) K ⟨slots 106 [(1, .pb 0 0), (11, .v (.int .i64) p0)], [.box (bC p1 p2 p3 p4 p5 p6 p7 p8)]⟩
noncomputable def F83.k_l1_1_1_1_1_1_1_1_1_1_1_0_1_0 (n : Nat) (K : Conts) (q : List Nat) : Conts := contAt F83.E n (inLoop (subC [1, 1, 1, 1, 1, 1, 1, 1, 1, 1, 1, 0, 1, 0] F83.body)) (loopK F83.E n (inLoop (subC [1, 1, 1, 1, 1, 1, 1, 1, 1, 1, 1, 0, 1, 0] F83.body)) K) q
noncomputable def F83.l1_1_1_1_1_1_1_1_1_1_1_0_1_0_0_1_0_0_1_1_0 (n : Nat) (K : Conts) (p0 p1 p2 : Int) (p3 p4 p5 p6 p7 : List Int) (p8 : Int) (p9 : List (List Int)) : Option AV := loopF F83.E n (inLoop (subC [1,1,1,1,1,1,1,1,1,1,1,0,1,0,0,1,0,0,1,1,0] F83.body)) K ⟨slots 106 [(1, .pb 0 0), (11, .v (.int .i64) p0), (12, .v (.int .i64) p1)], [.box (bC p2 p3 p4 p5 p6 p7 p8 p9)]⟩
theorem F83.start_eq (k : Nat) (kk : Int) (c : (List Int) × ((List Int) × ((List Int) × ((List Int) × ((List Int) × (Int × (List (List Int)))))))) : callW F83.E false F83.fn k [.agg (bC kk c.1 c.2.1 c.2.2.1 c.2.2.2.1 c.2.2.2.2.1 c.2.2.2.2.2.1 c.2.2.2.2.2.2)] =
 bif decide (kk = 19) then
 bif decide (kk = 21) then
 bif !(inL c.2.2.1 0 1000000) then
 some (.v .bool false)
 else
 bif !(inL c.2.2.2.1 0 1000000) then
 some (.v .bool false)
 else
 bif !(inL c.2.2.2.2.1 0 1000000) then
 some (.v .bool false)
 else
 bif decide (c.2.2.2.2.2.1 < 0) then
 some (.v .bool false)
 else
 bif decide (c.2.2.2.2.2.1 > 9999999999) then
 some (.v .bool false)
 else
 F83.l1_1_1_1_1_1_1_1_1_1_0_1_0 k (F83.kt k [1,1,1,1,1,1,1,1,1,1,0,1,0]) 0 kk c.1 c.2.1 c.2.2.1 c.2.2.2.1 c.2.2.2.2.1 c.2.2.2.2.2.1 c.2.2.2.2.2.2
 else
 bif !(inL c.2.2.1 0 1000000) then
 some (.v .bool false)
 else
 bif !(inL c.2.2.2.1 0 1000000) then
 some (.v .bool false)
 else
 bif !(inL c.2.2.2.2.1 0 1000000) then
 some (.v .bool false)
 else
 bif decide (c.2.2.2.2.2.1 < 0) then
 some (.v .bool false)
 else
 bif decide (c.2.2.2.2.2.1 > 9999999999) then
 some (.v .bool false)
 else
 F83.l1_1_1_1_1_1_1_1_1_1_0_1_0 k (F83.kt k [1,1,1,1,1,1,1,1,1,1,0,1,0]) 0 kk c.1 c.2.1 c.2.2.1 c.2.2.2.1 c.2.2.2.2.1 c.2.2.2.2.2.1 c.2.2.2.2.2.2
 else
 bif decide (kk = 21) then
 bif !(inL c.2.2.1 (-1000000 : Int) 1000000) then
 some (.v .bool false)
 else
 bif !(inL c.2.2.2.1 0 1000000) then
 some (.v .bool false)
 else
 bif !(inL c.2.2.2.2.1 0 1000000) then
 some (.v .bool false)
 else
 bif decide (c.2.2.2.2.2.1 < (-9999999999 : Int)) then
 some (.v .bool false)
 else
 bif decide (c.2.2.2.2.2.1 > 9999999999) then
 some (.v .bool false)
 else
 F83.l1_1_1_1_1_1_1_1_1_1_0_1_0 k (F83.kt k [1,1,1,1,1,1,1,1,1,1,0,1,0]) 0 kk c.1 c.2.1 c.2.2.1 c.2.2.2.1 c.2.2.2.2.1 c.2.2.2.2.2.1 c.2.2.2.2.2.2
 else
 bif !(inL c.2.2.1 (-1000000 : Int) 1000000) then
 some (.v .bool false)
 else
 bif !(inL c.2.2.2.1 (-1000000 : Int) 1000000) then
 some (.v .bool false)
 else
 bif !(inL c.2.2.2.2.1 (-1000000 : Int) 1000000) then
 some (.v .bool false)
 else
 bif decide (c.2.2.2.2.2.1 < (-9999999999 : Int)) then
 some (.v .bool false)
 else
 bif decide (c.2.2.2.2.2.1 > 9999999999) then
 some (.v .bool false)
 else
 F83.l1_1_1_1_1_1_1_1_1_1_0_1_0 k (F83.kt k [1,1,1,1,1,1,1,1,1,1,0,1,0]) 0 kk c.1 c.2.1 c.2.2.1 c.2.2.2.1 c.2.2.2.2.1 c.2.2.2.2.2.1 c.2.2.2.2.2.2 := by kernel_rfl
theorem F83.l1_1_1_1_1_1_1_1_1_1_0_1_0_eq (n : Nat) (K : Conts) (p0 p1 : Int) (p2 p3 p4 p5 p6 : List Int) (p7 : Int) (p8 : List (List Int)) : F83.l1_1_1_1_1_1_1_1_1_1_0_1_0 (n + 1) K p0 p1 p2 p3 p4 p5 p6 p7 p8 =
 bif decide (p0 < (p8.length : Int)) then
 bif decide (0 ≤ p0) && decide (p0 < p8.length) then
 bif !(inL (p8.getD p0.toNat []) (-1000000 : Int) 1000000) then
 K.ret ⟨slots 106 [(2, .v .bool false)], []⟩
 else
 F83.l1_1_1_1_1_1_1_1_1_1_0_1_0 n K (IntKind.i64.wrap (p0 + 1)) p1 p2 p3 p4 p5 p6 p7 p8
 else
 none
 else
 exitK K 0 ⟨slots 106 [(1, .pb 0 0)], [.box (bC p1 p2 p3 p4 p5 p6 p7 p8)]⟩ := by kernel_rfl
theorem F83.c0 (k : Nat) : (F83.kt k [1,1,1,1,1,1,1,1,1,1,0,1,0]).ret ⟨slots 106 [(2, .v .bool false)], []⟩ =
 some (.v .bool false) := by kernel_rfl
theorem F83.c1 (k : Nat) (p0 : Int) (p1 p2 p3 p4 p5 : List Int) (p6 : Int) (p7 : List (List Int)) : exitK (F83.kt k [1,1,1,1,1,1,1,1,1,1,0,1,0]) 0 ⟨slots 106 [(1, .pb 0 0)], [.box (bC p0 p1 p2 p3 p4 p5 p6 p7)]⟩ =
 F83.l1_1_1_1_1_1_1_1_1_1_1_0_1_0 k (F83.kt k [1,1,1,1,1,1,1,1,1,1,1,0,1,0]) 0 p0 p1 p2 p3 p4 p5 p6 p7 := by kernel_rfl
theorem F83.l1_1_1_1_1_1_1_1_1_1_1_0_1_0_eq (n : Nat) (K : Conts) (p0 p1 : Int) (p2 p3 p4 p5 p6 : List Int) (p7 : Int) (p8 : List (List Int)) : F83.l1_1_1_1_1_1_1_1_1_1_1_0_1_0 (n + 1) K p0 p1 p2 p3 p4 p5 p6 p7 p8 =
 bif decide (p1 = 21) then
 bif decide (p0 < (p4.length : Int)) then
 bif decide (0 ≤ p0) && decide (p0 < p5.length) then
 bif decide (0 ≤ p0) && decide (p0 < p6.length) then
 bif decide ((p5.getD p0.toNat (0 : Int)) > (p6.getD p0.toNat (0 : Int))) then
 K.ret ⟨slots 106 [(2, .v .bool false)], []⟩
 else
 F83.l1_1_1_1_1_1_1_1_1_1_1_0_1_0_0_1_0_0_1_1_0 n (F83.k_l1_1_1_1_1_1_1_1_1_1_1_0_1_0 n K [1,0,0,1,1,0]) p0 0 p1 p2 p3 p4 p5 p6 p7 p8
 else
 none
 else
 none
 else
 exitK K 2 ⟨slots 106 [], []⟩
 else
 exitK K 2 ⟨slots 106 [], []⟩ := by kernel_rfl
theorem F83.l1_1_1_1_1_1_1_1_1_1_1_0_1_0_0_1_0_0_1_1_0_eq (n : Nat) (K : Conts) (p0 p1 p2 : Int) (p3 p4 p5 p6 p7 : List Int) (p8 : Int) (p9 : List (List Int)) : F83.l1_1_1_1_1_1_1_1_1_1_1_0_1_0_0_1_0_0_1_1_0 (n + 1) K p0 p1 p2 p3 p4 p5 p6 p7 p8 p9 =
 bif decide (p1 < p0) then
 bif decide (0 ≤ p0) && decide (p0 < p5.length) then
 bif decide (0 ≤ p1) && decide (p1 < p5.length) then
 bif decide ((p5.getD p0.toNat (0 : Int)) = (p5.getD p1.toNat (0 : Int))) then
 K.ret ⟨slots 106 [(2, .v .bool false)], []⟩
 else
 F83.l1_1_1_1_1_1_1_1_1_1_1_0_1_0_0_1_0_0_1_1_0 n K p0 (IntKind.i64.wrap (p1 + 1)) p2 p3 p4 p5 p6 p7 p8 p9
 else
 none
 else
 none
 else
 exitK K 4 ⟨slots 106 [(1, .pb 0 0), (11, .v (.int .i64) p0)], [.box (bC p2 p3 p4 p5 p6 p7 p8 p9)]⟩ := by kernel_rfl
theorem F83.c2 (k : Nat) : (F83.kt k [1,1,1,1,1,1,1,1,1,1,1,0,1,0]).ret ⟨slots 106 [(2, .v .bool false)], []⟩ =
 some (.v .bool false) := by kernel_rfl
theorem F83.c3 (k : Nat) : exitK (F83.kt k [1,1,1,1,1,1,1,1,1,1,1,0,1,0]) 2 ⟨slots 106 [], []⟩ =
 some (.v .bool true) := by kernel_rfl
theorem F83.c4 (n : Nat) (K : Conts) : (F83.k_l1_1_1_1_1_1_1_1_1_1_1_0_1_0 n K [1,0,0,1,1,0]).ret ⟨slots 106 [(2, .v .bool false)], []⟩ =
 K.ret ⟨slots 106 [(2, .v .bool false)], []⟩ := by kernel_rfl
theorem F83.c5 (n : Nat) (K : Conts) (p0 p1 : Int) (p2 p3 p4 p5 p6 : List Int) (p7 : Int) (p8 : List (List Int)) : exitK (F83.k_l1_1_1_1_1_1_1_1_1_1_1_0_1_0 n K [1,0,0,1,1,0]) 4 ⟨slots 106 [(1, .pb 0 0), (11, .v (.int .i64) p0)], [.box (bC p1 p2 p3 p4 p5 p6 p7 p8)]⟩ =
 F83.l1_1_1_1_1_1_1_1_1_1_1_0_1_0 n K (IntKind.i64.wrap (p0 + 1)) p1 p2 p3 p4 p5 p6 p7 p8 := by kernel_rfl
noncomputable def F51.fn : Func := Go.Proofs.Tryz.f28
noncomputable def F51.E : Env := ⟨tt, [(62, h_shapes), (63, h_arityG), (64, h_inL), (65, h_coefsG)], [(1, [1, 2]), (2, [1, 2, 17]), (3, [1, 2]), (4, [1, 2, 5]), (5, [1, 2, 6]), (6, [1, 2, 27]), (7, [1, 2]), (8, [1, 2, 7]), (9, [1, 2, 7, 29]), (10, [2, 7]), (11, [2, 7, 8]), (12, [2, 8, 9]), (13, [2, 45]), (14, [2]), (15, [6]), (16, [49]), (17, [])], [], some [4], inv, []⟩
theorem F51.start_eq (k : Nat) (kk : Int) (c : (List Int) × ((List Int) × ((List Int) × ((List Int) × ((List Int) × (Int × (List (List Int)))))))) (a1 : Int) : callW F51.E false F51.fn k [.agg (bC kk c.1 c.2.1 c.2.2.1 c.2.2.2.1 c.2.2.2.2.1 c.2.2.2.2.2.1 c.2.2.2.2.2.2), .v (.int .i64) a1] =
 bif decide (kk < 1) then
 some (.v (.int .i64) (9 : Int))
 else
 bif decide (kk > 23) then
 some (.v (.int .i64) (9 : Int))
 else
 bif decide (0 ≤ kk) && decide (kk < shapesL.length) then
 bif arityB (kk, c) (shapesL.getD kk.toNat ByteArray.empty) then
 bif !(arityG (kk, c) (shapesL.getD kk.toNat ByteArray.empty)) then
 some (.v (.int .i64) (10 : Int))
 else
 bif decide (a1 > 0) then
 bif !(inL c.1 0 (IntKind.i64.wrap (a1 - 1))) then
 some (.v (.int .i64) (7 : Int))
 else
 bif !(inL c.2.1 0 (IntKind.i64.wrap (a1 - 1))) then
 some (.v (.int .i64) (7 : Int))
 else
 bif smallC (kk, c) && coefsB (kk, c) then
 bif !(coefsG (kk, c)) then some (.v (.int .i64) (11 : Int)) else some (.v (.int .i64) (0 : Int))
 else
 none
 else
 bif !(inL c.1 0 (-1 : Int)) then
 some (.v (.int .i64) (7 : Int))
 else
 bif !(inL c.2.1 0 (-1 : Int)) then
 some (.v (.int .i64) (7 : Int))
 else
 bif smallC (kk, c) && coefsB (kk, c) then
 bif !(coefsG (kk, c)) then some (.v (.int .i64) (11 : Int)) else some (.v (.int .i64) (0 : Int))
 else
 none
 else
 none
 else
 none := by kernel_rfl
end Go.Proofs.YtlfdikofmfhefaaGreatDoor.Ev
