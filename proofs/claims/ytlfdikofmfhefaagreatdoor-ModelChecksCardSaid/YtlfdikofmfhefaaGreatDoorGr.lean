/-
The functions as the evaluator runs them: printed by a program of mine, each equation by kernel_rfl.
Conditions: none.
-/
import Derived.Test.YtlfdikofmfhefaaGreatDoorGh
set_option linter.unusedVariables false
set_option linter.unusedSimpArgs false
set_option maxRecDepth 100000
namespace Go.Proofs.YtlfdikofmfhefaaGreatDoor.Ev
open Go
noncomputable def F81k1.fn : Func := Go.Proofs.Tryz.f63
noncomputable def F81k1.body : Code := bodyOf F81k1.fn
noncomputable def F81k1.E : Env := ⟨tt, [(71, h_hasB), (112, h_listB1)], [(1, [1, 2]), (2, [1, 2, 5]), (3, [1, 2, 5, 6]), (4, [1, 2, 5, 6, 26]), (5, [1, 2, 5, 6]), (6, [1, 2, 5, 6, 29]), (7, [1, 2, 5, 6]), (8, [1, 2, 5, 6, 7]), (9, [1, 2, 5, 6, 7, 8]), (10, [1, 2, 5, 6, 7, 8, 9]), (11, [1, 2, 5, 6, 7, 8, 9, 10]), (12, [1, 2, 5, 6, 7, 8, 9, 10, 11]), (13, [1, 2, 5, 6, 113]), (14, [1, 2, 5, 6]), (15, [2, 5, 6, 139]), (16, [2, 5, 6]), (17, [2, 5, 6, 149]), (18, [2, 5, 6]), (19, [2, 5, 199]), (20, [2, 5]), (21, [2, 5, 12]), (22, [2, 5, 12]), (23, [2, 5, 12]), (24, [2, 5, 12, 214]), (25, [])], [(0, []), (1, [2, 5, 12])], some [4], inv, []⟩
noncomputable def F81k1.K0 : Conts := { nrm := endW F81k1.E false F81k1.fn.results.toList, ret := endW F81k1.E false F81k1.fn.results.toList, ex := [] }
noncomputable def F81k1.kt (k : Nat) (q : List Nat) : Conts := contAt F81k1.E k F81k1.body F81k1.K0 q
noncomputable def F81k1.l1_1_1_1_1_1_1_1_1_1_1_1_1_1_0_1_0 (n : Nat) (K : Conts) (p0 p1 p2 : Int) (p3 p4 p5 p6 p7 : List Int) (p8 : Int) (p9 : List (List Int)) : Option AV := loopF F81k1.E n (inLoop (subC [1,1,1,1,1,1,1,1,1,1,1,1,1,1,0,1,0] F81k1.body)) K ⟨slots 215 [(2, .pb 0 0), (5, .v (.int .i64) p0), (12, .v (.int .i64) p1)], [.box (bC p2 p3 p4 p5 p6 p7 p8 p9)]⟩
theorem F81k1.start_eq (k : Nat) (c : (List Int) × ((List Int) × ((List Int) × ((List Int) × ((List Int) × (Int × (List (List Int)))))))) : callW F81k1.E false F81k1.fn k [.agg (bC (1 : Int) c.1 c.2.1 c.2.2.1 c.2.2.2.1 c.2.2.2.2.1 c.2.2.2.2.2.1 c.2.2.2.2.2.2), .v .str ⟨#[99, 86, 107]⟩] =
 bif !(decide (c.2.2.2.2.2.1 = 0)) then
 bif !(listB1 (c.1.length : Int) 0 1) then
 some (.v .bool false)
 else
 bif !(listB1 (c.2.1.length : Int) 0 0) then
 some (.v .bool false)
 else
 bif !(listB1 (c.2.2.1.length : Int) 0 1) then
 some (.v .bool false)
 else
 bif !(listB1 (c.2.2.2.1.length : Int) 0 0) then
 some (.v .bool false)
 else
 bif !(listB1 (c.2.2.2.2.1.length : Int) 0 0) then
 some (.v .bool false)
 else
 bif decide ((c.2.2.2.2.2.2.length : Int) > 0) then
 some (.v .bool false)
 else
 bif !(decide ((c.2.2.1.length : Int) = (c.1.length : Int))) then
 some (.v .bool false)
 else
 F81k1.l1_1_1_1_1_1_1_1_1_1_1_1_1_1_0_1_0 k (F81k1.kt k [1,1,1,1,1,1,1,1,1,1,1,1,1,1,0,1,0]) (c.1.length : Int) 0 1 c.1 c.2.1 c.2.2.1 c.2.2.2.1 c.2.2.2.2.1 c.2.2.2.2.2.1 c.2.2.2.2.2.2
 else
 bif !(listB1 (c.1.length : Int) 0 1) then
 some (.v .bool false)
 else
 bif !(listB1 (c.2.1.length : Int) 0 0) then
 some (.v .bool false)
 else
 bif !(listB1 (c.2.2.1.length : Int) 0 1) then
 some (.v .bool false)
 else
 bif !(listB1 (c.2.2.2.1.length : Int) 0 0) then
 some (.v .bool false)
 else
 bif !(listB1 (c.2.2.2.2.1.length : Int) 0 0) then
 some (.v .bool false)
 else
 bif decide ((c.2.2.2.2.2.2.length : Int) > 0) then
 some (.v .bool false)
 else
 bif !(decide ((c.2.2.1.length : Int) = (c.1.length : Int))) then
 some (.v .bool false)
 else
 F81k1.l1_1_1_1_1_1_1_1_1_1_1_1_1_1_0_1_0 k (F81k1.kt k [1,1,1,1,1,1,1,1,1,1,1,1,1,1,0,1,0]) (c.1.length : Int) 0 1 c.1 c.2.1 c.2.2.1 c.2.2.2.1 c.2.2.2.2.1 c.2.2.2.2.2.1 c.2.2.2.2.2.2 := by kernel_rfl
theorem F81k1.l1_1_1_1_1_1_1_1_1_1_1_1_1_1_0_1_0_eq (n : Nat) (K : Conts) (p0 p1 p2 : Int) (p3 p4 p5 p6 p7 : List Int) (p8 : Int) (p9 : List (List Int)) : F81k1.l1_1_1_1_1_1_1_1_1_1_1_1_1_1_0_1_0 (n + 1) K p0 p1 p2 p3 p4 p5 p6 p7 p8 p9 =
 bif decide (p1 < (p9.length : Int)) then
 bif decide (0 ≤ p1) && decide (p1 < p9.length) then
 bif !(decide (((p9.getD p1.toNat []).length : Int) = p0)) then
 K.ret ⟨slots 215 [(4, .v .bool false)], []⟩
 else
 F81k1.l1_1_1_1_1_1_1_1_1_1_1_1_1_1_0_1_0 n K p0 (IntKind.i64.wrap (p1 + 1)) p2 p3 p4 p5 p6 p7 p8 p9
 else
 none
 else
 exitK K 0 ⟨slots 215 [], []⟩ := by kernel_rfl
theorem F81k1.c0 (k : Nat) : (F81k1.kt k [1,1,1,1,1,1,1,1,1,1,1,1,1,1,0,1,0]).ret ⟨slots 215 [(4, .v .bool false)], []⟩ =
 some (.v .bool false) := by kernel_rfl
theorem F81k1.c1 (k : Nat) : exitK (F81k1.kt k [1,1,1,1,1,1,1,1,1,1,1,1,1,1,0,1,0]) 0 ⟨slots 215 [], []⟩ =
 some (.v .bool true) := by kernel_rfl
noncomputable def F81k2.fn : Func := Go.Proofs.Tryz.f63
noncomputable def F81k2.body : Code := bodyOf F81k2.fn
noncomputable def F81k2.E : Env := ⟨tt, [(71, h_hasB), (112, h_listB1)], [(1, [1, 2]), (2, [1, 2, 5]), (3, [1, 2, 5, 6]), (4, [1, 2, 5, 6, 26]), (5, [1, 2, 5, 6]), (6, [1, 2, 5, 6, 29]), (7, [1, 2, 5, 6]), (8, [1, 2, 5, 6, 7]), (9, [1, 2, 5, 6, 7, 8]), (10, [1, 2, 5, 6, 7, 8, 9]), (11, [1, 2, 5, 6, 7, 8, 9, 10]), (12, [1, 2, 5, 6, 7, 8, 9, 10, 11]), (13, [1, 2, 5, 6, 113]), (14, [1, 2, 5, 6]), (15, [2, 5, 6, 139]), (16, [2, 5, 6]), (17, [2, 5, 6, 149]), (18, [2, 5, 6]), (19, [2, 5, 199]), (20, [2, 5]), (21, [2, 5, 12]), (22, [2, 5, 12]), (23, [2, 5, 12]), (24, [2, 5, 12, 214]), (25, [])], [(0, []), (1, [2, 5, 12])], some [4], inv, []⟩
noncomputable def F81k2.K0 : Conts := { nrm := endW F81k2.E false F81k2.fn.results.toList, ret := endW F81k2.E false F81k2.fn.results.toList, ex := [] }
noncomputable def F81k2.kt (k : Nat) (q : List Nat) : Conts := contAt F81k2.E k F81k2.body F81k2.K0 q
noncomputable def F81k2.l1_1_1_1_1_1_1_1_1_1_1_1_1_1_0_1_0 (n : Nat) (K : Conts) (p0 p1 p2 : Int) (p3 p4 p5 p6 p7 : List Int) (p8 : Int) (p9 : List (List Int)) : Option AV := loopF F81k2.E n (inLoop (subC [1,1,1,1,1,1,1,1,1,1,1,1,1,1,0,1,0] F81k2.body)) K ⟨slots 215 [(2, .pb 0 0), (5, .v (.int .i64) p0), (12, .v (.int .i64) p1)], [.box (bC p2 p3 p4 p5 p6 p7 p8 p9)]⟩
theorem F81k2.start_eq (k : Nat) (c : (List Int) × ((List Int) × ((List Int) × ((List Int) × ((List Int) × (Int × (List (List Int)))))))) : callW F81k2.E false F81k2.fn k [.agg (bC (2 : Int) c.1 c.2.1 c.2.2.1 c.2.2.2.1 c.2.2.2.2.1 c.2.2.2.2.2.1 c.2.2.2.2.2.2), .v .str ⟨#[99, 86, 107]⟩] =
 bif !(decide (c.2.2.2.2.2.1 = 0)) then
 bif !(listB1 (c.1.length : Int) 0 1) then
 some (.v .bool false)
 else
 bif !(listB1 (c.2.1.length : Int) 0 0) then
 some (.v .bool false)
 else
 bif !(listB1 (c.2.2.1.length : Int) 0 1) then
 some (.v .bool false)
 else
 bif !(listB1 (c.2.2.2.1.length : Int) 0 0) then
 some (.v .bool false)
 else
 bif !(listB1 (c.2.2.2.2.1.length : Int) 0 0) then
 some (.v .bool false)
 else
 bif decide ((c.2.2.2.2.2.2.length : Int) > 0) then
 some (.v .bool false)
 else
 bif !(decide ((c.2.2.1.length : Int) = (c.1.length : Int))) then
 some (.v .bool false)
 else
 F81k2.l1_1_1_1_1_1_1_1_1_1_1_1_1_1_0_1_0 k (F81k2.kt k [1,1,1,1,1,1,1,1,1,1,1,1,1,1,0,1,0]) (c.1.length : Int) 0 2 c.1 c.2.1 c.2.2.1 c.2.2.2.1 c.2.2.2.2.1 c.2.2.2.2.2.1 c.2.2.2.2.2.2
 else
 bif !(listB1 (c.1.length : Int) 0 1) then
 some (.v .bool false)
 else
 bif !(listB1 (c.2.1.length : Int) 0 0) then
 some (.v .bool false)
 else
 bif !(listB1 (c.2.2.1.length : Int) 0 1) then
 some (.v .bool false)
 else
 bif !(listB1 (c.2.2.2.1.length : Int) 0 0) then
 some (.v .bool false)
 else
 bif !(listB1 (c.2.2.2.2.1.length : Int) 0 0) then
 some (.v .bool false)
 else
 bif decide ((c.2.2.2.2.2.2.length : Int) > 0) then
 some (.v .bool false)
 else
 bif !(decide ((c.2.2.1.length : Int) = (c.1.length : Int))) then
 some (.v .bool false)
 else
 F81k2.l1_1_1_1_1_1_1_1_1_1_1_1_1_1_0_1_0 k (F81k2.kt k [1,1,1,1,1,1,1,1,1,1,1,1,1,1,0,1,0]) (c.1.length : Int) 0 2 c.1 c.2.1 c.2.2.1 c.2.2.2.1 c.2.2.2.2.1 c.2.2.2.2.2.1 c.2.2.2.2.2.2 := by kernel_rfl
theorem F81k2.l1_1_1_1_1_1_1_1_1_1_1_1_1_1_0_1_0_eq (n : Nat) (K : Conts) (p0 p1 p2 : Int) (p3 p4 p5 p6 p7 : List Int) (p8 : Int) (p9 : List (List Int)) : F81k2.l1_1_1_1_1_1_1_1_1_1_1_1_1_1_0_1_0 (n + 1) K p0 p1 p2 p3 p4 p5 p6 p7 p8 p9 =
 bif decide (p1 < (p9.length : Int)) then
 bif decide (0 ≤ p1) && decide (p1 < p9.length) then
 bif !(decide (((p9.getD p1.toNat []).length : Int) = p0)) then
 K.ret ⟨slots 215 [(4, .v .bool false)], []⟩
 else
 F81k2.l1_1_1_1_1_1_1_1_1_1_1_1_1_1_0_1_0 n K p0 (IntKind.i64.wrap (p1 + 1)) p2 p3 p4 p5 p6 p7 p8 p9
 else
 none
 else
 exitK K 0 ⟨slots 215 [], []⟩ := by kernel_rfl
theorem F81k2.c0 (k : Nat) : (F81k2.kt k [1,1,1,1,1,1,1,1,1,1,1,1,1,1,0,1,0]).ret ⟨slots 215 [(4, .v .bool false)], []⟩ =
 some (.v .bool false) := by kernel_rfl
theorem F81k2.c1 (k : Nat) : exitK (F81k2.kt k [1,1,1,1,1,1,1,1,1,1,1,1,1,1,0,1,0]) 0 ⟨slots 215 [], []⟩ =
 some (.v .bool true) := by kernel_rfl
noncomputable def F81k3.fn : Func := Go.Proofs.Tryz.f63
noncomputable def F81k3.body : Code := bodyOf F81k3.fn
noncomputable def F81k3.E : Env := ⟨tt, [(71, h_hasB), (112, h_listB1)], [(1, [1, 2]), (2, [1, 2, 5]), (3, [1, 2, 5, 6]), (4, [1, 2, 5, 6, 26]), (5, [1, 2, 5, 6]), (6, [1, 2, 5, 6, 29]), (7, [1, 2, 5, 6]), (8, [1, 2, 5, 6, 7]), (9, [1, 2, 5, 6, 7, 8]), (10, [1, 2, 5, 6, 7, 8, 9]), (11, [1, 2, 5, 6, 7, 8, 9, 10]), (12, [1, 2, 5, 6, 7, 8, 9, 10, 11]), (13, [1, 2, 5, 6, 113]), (14, [1, 2, 5, 6]), (15, [2, 5, 6, 139]), (16, [2, 5, 6]), (17, [2, 5, 6, 149]), (18, [2, 5, 6]), (19, [2, 5, 199]), (20, [2, 5]), (21, [2, 5, 12]), (22, [2, 5, 12]), (23, [2, 5, 12]), (24, [2, 5, 12, 214]), (25, [])], [(0, []), (1, [2, 5, 12])], some [4], inv, []⟩
noncomputable def F81k3.K0 : Conts := { nrm := endW F81k3.E false F81k3.fn.results.toList, ret := endW F81k3.E false F81k3.fn.results.toList, ex := [] }
noncomputable def F81k3.kt (k : Nat) (q : List Nat) : Conts := contAt F81k3.E k F81k3.body F81k3.K0 q
noncomputable def F81k3.l1_1_1_1_1_1_1_1_1_1_1_1_1_1_0_1_0 (n : Nat) (K : Conts) (p0 p1 p2 : Int) (p3 p4 p5 p6 p7 : List Int) (p8 : Int) (p9 : List (List Int)) : Option AV := loopF F81k3.E n (inLoop (subC [1,1,1,1,1,1,1,1,1,1,1,1,1,1,0,1,0] F81k3.body)) K ⟨slots 215 [(2, .pb 0 0), (5, .v (.int .i64) p0), (12, .v (.int .i64) p1)], [.box (bC p2 p3 p4 p5 p6 p7 p8 p9)]⟩
theorem F81k3.start_eq (k : Nat) (c : (List Int) × ((List Int) × ((List Int) × ((List Int) × ((List Int) × (Int × (List (List Int)))))))) : callW F81k3.E false F81k3.fn k [.agg (bC (3 : Int) c.1 c.2.1 c.2.2.1 c.2.2.2.1 c.2.2.2.2.1 c.2.2.2.2.2.1 c.2.2.2.2.2.2), .v .str ⟨#[99, 86, 107]⟩] =
 bif !(decide (c.2.2.2.2.2.1 = 0)) then
 bif !(listB1 (c.1.length : Int) 0 1) then
 some (.v .bool false)
 else
 bif !(listB1 (c.2.1.length : Int) 0 0) then
 some (.v .bool false)
 else
 bif !(listB1 (c.2.2.1.length : Int) 0 1) then
 some (.v .bool false)
 else
 bif !(listB1 (c.2.2.2.1.length : Int) 0 0) then
 some (.v .bool false)
 else
 bif !(listB1 (c.2.2.2.2.1.length : Int) 0 0) then
 some (.v .bool false)
 else
 bif decide ((c.2.2.2.2.2.2.length : Int) > 0) then
 some (.v .bool false)
 else
 bif !(decide ((c.2.2.1.length : Int) = (c.1.length : Int))) then
 some (.v .bool false)
 else
 F81k3.l1_1_1_1_1_1_1_1_1_1_1_1_1_1_0_1_0 k (F81k3.kt k [1,1,1,1,1,1,1,1,1,1,1,1,1,1,0,1,0]) (c.1.length : Int) 0 3 c.1 c.2.1 c.2.2.1 c.2.2.2.1 c.2.2.2.2.1 c.2.2.2.2.2.1 c.2.2.2.2.2.2
 else
 bif !(listB1 (c.1.length : Int) 0 1) then
 some (.v .bool false)
 else
 bif !(listB1 (c.2.1.length : Int) 0 0) then
 some (.v .bool false)
 else
 bif !(listB1 (c.2.2.1.length : Int) 0 1) then
 some (.v .bool false)
 else
 bif !(listB1 (c.2.2.2.1.length : Int) 0 0) then
 some (.v .bool false)
 else
 bif !(listB1 (c.2.2.2.2.1.length : Int) 0 0) then
 some (.v .bool false)
 else
 bif decide ((c.2.2.2.2.2.2.length : Int) > 0) then
 some (.v .bool false)
 else
 bif !(decide ((c.2.2.1.length : Int) = (c.1.length : Int))) then
 some (.v .bool false)
 else
 F81k3.l1_1_1_1_1_1_1_1_1_1_1_1_1_1_0_1_0 k (F81k3.kt k [1,1,1,1,1,1,1,1,1,1,1,1,1,1,0,1,0]) (c.1.length : Int) 0 3 c.1 c.2.1 c.2.2.1 c.2.2.2.1 c.2.2.2.2.1 c.2.2.2.2.2.1 c.2.2.2.2.2.2 := by kernel_rfl
theorem F81k3.l1_1_1_1_1_1_1_1_1_1_1_1_1_1_0_1_0_eq (n : Nat) (K : Conts) (p0 p1 p2 : Int) (p3 p4 p5 p6 p7 : List Int) (p8 : Int) (p9 : List (List Int)) : F81k3.l1_1_1_1_1_1_1_1_1_1_1_1_1_1_0_1_0 (n + 1) K p0 p1 p2 p3 p4 p5 p6 p7 p8 p9 =
 bif decide (p1 < (p9.length : Int)) then
 bif decide (0 ≤ p1) && decide (p1 < p9.length) then
 bif !(decide (((p9.getD p1.toNat []).length : Int) = p0)) then
 K.ret ⟨slots 215 [(4, .v .bool false)], []⟩
 else
 F81k3.l1_1_1_1_1_1_1_1_1_1_1_1_1_1_0_1_0 n K p0 (IntKind.i64.wrap (p1 + 1)) p2 p3 p4 p5 p6 p7 p8 p9
 else
 none
 else
 exitK K 0 ⟨slots 215 [], []⟩ := by kernel_rfl
theorem F81k3.c0 (k : Nat) : (F81k3.kt k [1,1,1,1,1,1,1,1,1,1,1,1,1,1,0,1,0]).ret ⟨slots 215 [(4, .v .bool false)], []⟩ =
 some (.v .bool false) := by kernel_rfl
theorem F81k3.c1 (k : Nat) : exitK (F81k3.kt k [1,1,1,1,1,1,1,1,1,1,1,1,1,1,0,1,0]) 0 ⟨slots 215 [], []⟩ =
 some (.v .bool true) := by kernel_rfl
noncomputable def F81k4.fn : Func := Go.Proofs.Tryz.f63
noncomputable def F81k4.body : Code := bodyOf F81k4.fn
noncomputable def F81k4.E : Env := ⟨tt, [(71, h_hasB), (112, h_listB1)], [(1, [1, 2]), (2, [1, 2, 5]), (3, [1, 2, 5, 6]), (4, [1, 2, 5, 6, 26]), (5, [1, 2, 5, 6]), (6, [1, 2, 5, 6, 29]), (7, [1, 2, 5, 6]), (8, [1, 2, 5, 6, 7]), (9, [1, 2, 5, 6, 7, 8]), (10, [1, 2, 5, 6, 7, 8, 9]), (11, [1, 2, 5, 6, 7, 8, 9, 10]), (12, [1, 2, 5, 6, 7, 8, 9, 10, 11]), (13, [1, 2, 5, 6, 113]), (14, [1, 2, 5, 6]), (15, [2, 5, 6, 139]), (16, [2, 5, 6]), (17, [2, 5, 6, 149]), (18, [2, 5, 6]), (19, [2, 5, 199]), (20, [2, 5]), (21, [2, 5, 12]), (22, [2, 5, 12]), (23, [2, 5, 12]), (24, [2, 5, 12, 214]), (25, [])], [(0, []), (1, [2, 5, 12])], some [4], inv, []⟩
noncomputable def F81k4.K0 : Conts := { nrm := endW F81k4.E false F81k4.fn.results.toList, ret := endW F81k4.E false F81k4.fn.results.toList, ex := [] }
noncomputable def F81k4.kt (k : Nat) (q : List Nat) : Conts := contAt F81k4.E k F81k4.body F81k4.K0 q
noncomputable def F81k4.l1_1_1_1_1_1_1_1_1_1_1_1_1_1_0_1_0 (n : Nat) (K : Conts) (p0 p1 p2 : Int) (p3 p4 p5 p6 p7 : List Int) (p8 : Int) (p9 : List (List Int)) : Option AV := loopF F81k4.E n (inLoop (subC [1,1,1,1,1,1,1,1,1,1,1,1,1,1,0,1,0] F81k4.body)) K ⟨slots 215 [(2, .pb 0 0), (5, .v (.int .i64) p0), (12, .v (.int .i64) p1)], [.box (bC p2 p3 p4 p5 p6 p7 p8 p9)]⟩
theorem F81k4.start_eq (k : Nat) (c : (List Int) × ((List Int) × ((List Int) × ((List Int) × ((List Int) × (Int × (List (List Int)))))))) : callW F81k4.E false F81k4.fn k [.agg (bC (4 : Int) c.1 c.2.1 c.2.2.1 c.2.2.2.1 c.2.2.2.2.1 c.2.2.2.2.2.1 c.2.2.2.2.2.2), .v .str ⟨#[99, 86, 107, 119]⟩] =
 bif !(decide (c.2.2.2.2.2.1 = 0)) then
 bif !(listB1 (c.1.length : Int) 0 1) then
 some (.v .bool false)
 else
 bif !(listB1 (c.2.1.length : Int) 1 0) then
 some (.v .bool false)
 else
 bif !(listB1 (c.2.2.1.length : Int) 0 1) then
 some (.v .bool false)
 else
 bif !(listB1 (c.2.2.2.1.length : Int) 0 0) then
 some (.v .bool false)
 else
 bif !(listB1 (c.2.2.2.2.1.length : Int) 0 0) then
 some (.v .bool false)
 else
 bif decide ((c.2.2.2.2.2.2.length : Int) > 0) then
 some (.v .bool false)
 else
 bif !(decide ((c.2.2.1.length : Int) = (c.1.length : Int))) then
 some (.v .bool false)
 else
 F81k4.l1_1_1_1_1_1_1_1_1_1_1_1_1_1_0_1_0 k (F81k4.kt k [1,1,1,1,1,1,1,1,1,1,1,1,1,1,0,1,0]) (c.1.length : Int) 0 4 c.1 c.2.1 c.2.2.1 c.2.2.2.1 c.2.2.2.2.1 c.2.2.2.2.2.1 c.2.2.2.2.2.2
 else
 bif !(listB1 (c.1.length : Int) 0 1) then
 some (.v .bool false)
 else
 bif !(listB1 (c.2.1.length : Int) 1 0) then
 some (.v .bool false)
 else
 bif !(listB1 (c.2.2.1.length : Int) 0 1) then
 some (.v .bool false)
 else
 bif !(listB1 (c.2.2.2.1.length : Int) 0 0) then
 some (.v .bool false)
 else
 bif !(listB1 (c.2.2.2.2.1.length : Int) 0 0) then
 some (.v .bool false)
 else
 bif decide ((c.2.2.2.2.2.2.length : Int) > 0) then
 some (.v .bool false)
 else
 bif !(decide ((c.2.2.1.length : Int) = (c.1.length : Int))) then
 some (.v .bool false)
 else
 F81k4.l1_1_1_1_1_1_1_1_1_1_1_1_1_1_0_1_0 k (F81k4.kt k [1,1,1,1,1,1,1,1,1,1,1,1,1,1,0,1,0]) (c.1.length : Int) 0 4 c.1 c.2.1 c.2.2.1 c.2.2.2.1 c.2.2.2.2.1 c.2.2.2.2.2.1 c.2.2.2.2.2.2 := by kernel_rfl
theorem F81k4.l1_1_1_1_1_1_1_1_1_1_1_1_1_1_0_1_0_eq (n : Nat) (K : Conts) (p0 p1 p2 : Int) (p3 p4 p5 p6 p7 : List Int) (p8 : Int) (p9 : List (List Int)) : F81k4.l1_1_1_1_1_1_1_1_1_1_1_1_1_1_0_1_0 (n + 1) K p0 p1 p2 p3 p4 p5 p6 p7 p8 p9 =
 bif decide (p1 < (p9.length : Int)) then
 bif decide (0 ≤ p1) && decide (p1 < p9.length) then
 bif !(decide (((p9.getD p1.toNat []).length : Int) = p0)) then
 K.ret ⟨slots 215 [(4, .v .bool false)], []⟩
 else
 F81k4.l1_1_1_1_1_1_1_1_1_1_1_1_1_1_0_1_0 n K p0 (IntKind.i64.wrap (p1 + 1)) p2 p3 p4 p5 p6 p7 p8 p9
 else
 none
 else
 exitK K 0 ⟨slots 215 [], []⟩ := by kernel_rfl
theorem F81k4.c0 (k : Nat) : (F81k4.kt k [1,1,1,1,1,1,1,1,1,1,1,1,1,1,0,1,0]).ret ⟨slots 215 [(4, .v .bool false)], []⟩ =
 some (.v .bool false) := by kernel_rfl
theorem F81k4.c1 (k : Nat) : exitK (F81k4.kt k [1,1,1,1,1,1,1,1,1,1,1,1,1,1,0,1,0]) 0 ⟨slots 215 [], []⟩ =
 some (.v .bool true) := by kernel_rfl
noncomputable def F81k5.fn : Func := Go.Proofs.Tryz.f63
noncomputable def F81k5.body : Code := bodyOf F81k5.fn
noncomputable def F81k5.E : Env := ⟨tt, [(71, h_hasB), (112, h_listB1)], [(1, [1, 2]), (2, [1, 2, 5]), (3, [1, 2, 5, 6]), (4, [1, 2, 5, 6, 26]), (5, [1, 2, 5, 6]), (6, [1, 2, 5, 6, 29]), (7, [1, 2, 5, 6]), (8, [1, 2, 5, 6, 7]), (9, [1, 2, 5, 6, 7, 8]), (10, [1, 2, 5, 6, 7, 8, 9]), (11, [1, 2, 5, 6, 7, 8, 9, 10]), (12, [1, 2, 5, 6, 7, 8, 9, 10, 11]), (13, [1, 2, 5, 6, 113]), (14, [1, 2, 5, 6]), (15, [2, 5, 6, 139]), (16, [2, 5, 6]), (17, [2, 5, 6, 149]), (18, [2, 5, 6]), (19, [2, 5, 199]), (20, [2, 5]), (21, [2, 5, 12]), (22, [2, 5, 12]), (23, [2, 5, 12]), (24, [2, 5, 12, 214]), (25, [])], [(0, []), (1, [2, 5, 12])], some [4], inv, []⟩
noncomputable def F81k5.K0 : Conts := { nrm := endW F81k5.E false F81k5.fn.results.toList, ret := endW F81k5.E false F81k5.fn.results.toList, ex := [] }
noncomputable def F81k5.kt (k : Nat) (q : List Nat) : Conts := contAt F81k5.E k F81k5.body F81k5.K0 q
noncomputable def F81k5.l1_1_1_1_1_1_1_1_1_1_1_1_1_1_0_1_0 (n : Nat) (K : Conts) (p0 p1 p2 : Int) (p3 p4 p5 p6 p7 : List Int) (p8 : Int) (p9 : List (List Int)) : Option AV := loopF F81k5.E n (inLoop (subC [1,1,1,1,1,1,1,1,1,1,1,1,1,1,0,1,0] F81k5.body)) K ⟨slots 215 [(2, .pb 0 0), (5, .v (.int .i64) p0), (12, .v (.int .i64) p1)], [.box (bC p2 p3 p4 p5 p6 p7 p8 p9)]⟩
theorem F81k5.start_eq (k : Nat) (c : (List Int) × ((List Int) × ((List Int) × ((List Int) × ((List Int) × (Int × (List (List Int)))))))) : callW F81k5.E false F81k5.fn k [.agg (bC (5 : Int) c.1 c.2.1 c.2.2.1 c.2.2.2.1 c.2.2.2.2.1 c.2.2.2.2.2.1 c.2.2.2.2.2.2), .v .str ⟨#[118, 118, 118]⟩] =
 bif !(decide (c.2.2.2.2.2.1 = 0)) then
 some (.v .bool false)
 else
 bif !(listB1 (c.1.length : Int) 3 0) then
 some (.v .bool false)
 else
 bif !(listB1 (c.2.1.length : Int) 0 0) then
 some (.v .bool false)
 else
 bif !(listB1 (c.2.2.1.length : Int) 0 0) then
 some (.v .bool false)
 else
 bif !(listB1 (c.2.2.2.1.length : Int) 0 0) then
 some (.v .bool false)
 else
 bif !(listB1 (c.2.2.2.2.1.length : Int) 0 0) then
 some (.v .bool false)
 else
 bif decide ((c.2.2.2.2.2.2.length : Int) > 0) then
 some (.v .bool false)
 else
 F81k5.l1_1_1_1_1_1_1_1_1_1_1_1_1_1_0_1_0 k (F81k5.kt k [1,1,1,1,1,1,1,1,1,1,1,1,1,1,0,1,0]) (c.1.length : Int) 0 5 c.1 c.2.1 c.2.2.1 c.2.2.2.1 c.2.2.2.2.1 c.2.2.2.2.2.1 c.2.2.2.2.2.2 := by kernel_rfl
theorem F81k5.l1_1_1_1_1_1_1_1_1_1_1_1_1_1_0_1_0_eq (n : Nat) (K : Conts) (p0 p1 p2 : Int) (p3 p4 p5 p6 p7 : List Int) (p8 : Int) (p9 : List (List Int)) : F81k5.l1_1_1_1_1_1_1_1_1_1_1_1_1_1_0_1_0 (n + 1) K p0 p1 p2 p3 p4 p5 p6 p7 p8 p9 =
 bif decide (p1 < (p9.length : Int)) then
 bif decide (0 ≤ p1) && decide (p1 < p9.length) then
 bif !(decide (((p9.getD p1.toNat []).length : Int) = p0)) then
 K.ret ⟨slots 215 [(4, .v .bool false)], []⟩
 else
 F81k5.l1_1_1_1_1_1_1_1_1_1_1_1_1_1_0_1_0 n K p0 (IntKind.i64.wrap (p1 + 1)) p2 p3 p4 p5 p6 p7 p8 p9
 else
 none
 else
 exitK K 0 ⟨slots 215 [], []⟩ := by kernel_rfl
theorem F81k5.c0 (k : Nat) : (F81k5.kt k [1,1,1,1,1,1,1,1,1,1,1,1,1,1,0,1,0]).ret ⟨slots 215 [(4, .v .bool false)], []⟩ =
 some (.v .bool false) := by kernel_rfl
theorem F81k5.c1 (k : Nat) : exitK (F81k5.kt k [1,1,1,1,1,1,1,1,1,1,1,1,1,1,0,1,0]) 0 ⟨slots 215 [], []⟩ =
 some (.v .bool true) := by kernel_rfl
noncomputable def F81k6.fn : Func := Go.Proofs.Tryz.f63
noncomputable def F81k6.body : Code := bodyOf F81k6.fn
noncomputable def F81k6.E : Env := ⟨tt, [(71, h_hasB), (112, h_listB1)], [(1, [1, 2]), (2, [1, 2, 5]), (3, [1, 2, 5, 6]), (4, [1, 2, 5, 6, 26]), (5, [1, 2, 5, 6]), (6, [1, 2, 5, 6, 29]), (7, [1, 2, 5, 6]), (8, [1, 2, 5, 6, 7]), (9, [1, 2, 5, 6, 7, 8]), (10, [1, 2, 5, 6, 7, 8, 9]), (11, [1, 2, 5, 6, 7, 8, 9, 10]), (12, [1, 2, 5, 6, 7, 8, 9, 10, 11]), (13, [1, 2, 5, 6, 113]), (14, [1, 2, 5, 6]), (15, [2, 5, 6, 139]), (16, [2, 5, 6]), (17, [2, 5, 6, 149]), (18, [2, 5, 6]), (19, [2, 5, 199]), (20, [2, 5]), (21, [2, 5, 12]), (22, [2, 5, 12]), (23, [2, 5, 12]), (24, [2, 5, 12, 214]), (25, [])], [(0, []), (1, [2, 5, 12])], some [4], inv, []⟩
noncomputable def F81k6.K0 : Conts := { nrm := endW F81k6.E false F81k6.fn.results.toList, ret := endW F81k6.E false F81k6.fn.results.toList, ex := [] }
noncomputable def F81k6.kt (k : Nat) (q : List Nat) : Conts := contAt F81k6.E k F81k6.body F81k6.K0 q
noncomputable def F81k6.l1_1_1_1_1_1_1_1_1_1_1_1_1_1_0_1_0 (n : Nat) (K : Conts) (p0 p1 p2 : Int) (p3 p4 p5 p6 p7 : List Int) (p8 : Int) (p9 : List (List Int)) : Option AV := loopF F81k6.E n (inLoop (subC [1,1,1,1,1,1,1,1,1,1,1,1,1,1,0,1,0] F81k6.body)) K ⟨slots 215 [(2, .pb 0 0), (5, .v (.int .i64) p0), (12, .v (.int .i64) p1)], [.box (bC p2 p3 p4 p5 p6 p7 p8 p9)]⟩
theorem F81k6.start_eq (k : Nat) (c : (List Int) × ((List Int) × ((List Int) × ((List Int) × ((List Int) × (Int × (List (List Int)))))))) : callW F81k6.E false F81k6.fn k [.agg (bC (6 : Int) c.1 c.2.1 c.2.2.1 c.2.2.2.1 c.2.2.2.2.1 c.2.2.2.2.2.1 c.2.2.2.2.2.2), .v .str ⟨#[118, 118, 118]⟩] =
 bif !(decide (c.2.2.2.2.2.1 = 0)) then
 some (.v .bool false)
 else
 bif !(listB1 (c.1.length : Int) 3 0) then
 some (.v .bool false)
 else
 bif !(listB1 (c.2.1.length : Int) 0 0) then
 some (.v .bool false)
 else
 bif !(listB1 (c.2.2.1.length : Int) 0 0) then
 some (.v .bool false)
 else
 bif !(listB1 (c.2.2.2.1.length : Int) 0 0) then
 some (.v .bool false)
 else
 bif !(listB1 (c.2.2.2.2.1.length : Int) 0 0) then
 some (.v .bool false)
 else
 bif decide ((c.2.2.2.2.2.2.length : Int) > 0) then
 some (.v .bool false)
 else
 F81k6.l1_1_1_1_1_1_1_1_1_1_1_1_1_1_0_1_0 k (F81k6.kt k [1,1,1,1,1,1,1,1,1,1,1,1,1,1,0,1,0]) (c.1.length : Int) 0 6 c.1 c.2.1 c.2.2.1 c.2.2.2.1 c.2.2.2.2.1 c.2.2.2.2.2.1 c.2.2.2.2.2.2 := by kernel_rfl
theorem F81k6.l1_1_1_1_1_1_1_1_1_1_1_1_1_1_0_1_0_eq (n : Nat) (K : Conts) (p0 p1 p2 : Int) (p3 p4 p5 p6 p7 : List Int) (p8 : Int) (p9 : List (List Int)) : F81k6.l1_1_1_1_1_1_1_1_1_1_1_1_1_1_0_1_0 (n + 1) K p0 p1 p2 p3 p4 p5 p6 p7 p8 p9 =
 bif decide (p1 < (p9.length : Int)) then
 bif decide (0 ≤ p1) && decide (p1 < p9.length) then
 bif !(decide (((p9.getD p1.toNat []).length : Int) = p0)) then
 K.ret ⟨slots 215 [(4, .v .bool false)], []⟩
 else
 F81k6.l1_1_1_1_1_1_1_1_1_1_1_1_1_1_0_1_0 n K p0 (IntKind.i64.wrap (p1 + 1)) p2 p3 p4 p5 p6 p7 p8 p9
 else
 none
 else
 exitK K 0 ⟨slots 215 [], []⟩ := by kernel_rfl
theorem F81k6.c0 (k : Nat) : (F81k6.kt k [1,1,1,1,1,1,1,1,1,1,1,1,1,1,0,1,0]).ret ⟨slots 215 [(4, .v .bool false)], []⟩ =
 some (.v .bool false) := by kernel_rfl
theorem F81k6.c1 (k : Nat) : exitK (F81k6.kt k [1,1,1,1,1,1,1,1,1,1,1,1,1,1,0,1,0]) 0 ⟨slots 215 [], []⟩ =
 some (.v .bool true) := by kernel_rfl
end Go.Proofs.YtlfdikofmfhefaaGreatDoor.Ev
