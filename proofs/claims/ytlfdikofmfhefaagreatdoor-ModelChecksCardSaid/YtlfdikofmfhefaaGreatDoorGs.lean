/-
The functions as the evaluator runs them: printed by a program of mine, each equation by kernel_rfl.
Conditions: none.
-/
import Derived.Test.YtlfdikofmfhefaaGreatDoorGh
set_option linter.unusedVariables false
set_option linter.unusedSimpArgs false
set_option maxRecDepth 100000
namespace Go.Proofs.YtlfdikofmfhefaaGreatDoor.Ev
open Go
noncomputable def F81k7.fn : Func := Go.Proofs.Tryz.f63
noncomputable def F81k7.body : Code := bodyOf F81k7.fn
noncomputable def F81k7.E : Env := ⟨tt, [(71, h_hasB), (112, h_listB1)], [(1, [1, 2]), (2, [1, 2, 5]), (3, [1, 2, 5, 6]), (4, [1, 2, 5, 6, 26]), (5, [1, 2, 5, 6]), (6, [1, 2, 5, 6, 29]), (7, [1, 2, 5, 6]), (8, [1, 2, 5, 6, 7]), (9, [1, 2, 5, 6, 7, 8]), (10, [1, 2, 5, 6, 7, 8, 9]), (11, [1, 2, 5, 6, 7, 8, 9, 10]), (12, [1, 2, 5, 6, 7, 8, 9, 10, 11]), (13, [1, 2, 5, 6, 113]), (14, [1, 2, 5, 6]), (15, [2, 5, 6, 139]), (16, [2, 5, 6]), (17, [2, 5, 6, 149]), (18, [2, 5, 6]), (19, [2, 5, 199]), (20, [2, 5]), (21, [2, 5, 12]), (22, [2, 5, 12]), (23, [2, 5, 12]), (24, [2, 5, 12, 214]), (25, [])], [(0, []), (1, [2, 5, 12])], some [4], inv, []⟩
noncomputable def F81k7.K0 : Conts := { nrm := endW F81k7.E false F81k7.fn.results.toList, ret := endW F81k7.E false F81k7.fn.results.toList, ex := [] }
noncomputable def F81k7.kt (k : Nat) (q : List Nat) : Conts := contAt F81k7.E k F81k7.body F81k7.K0 q
noncomputable def F81k7.l1_1_1_1_1_1_1_1_1_1_1_1_1_1_0_1_0 (n : Nat) (K : Conts) (p0 p1 p2 : Int) (p3 p4 p5 p6 p7 : List Int) (p8 : Int) (p9 : List (List Int)) : Option AV := loopF F81k7.E n (inLoop (subC [1,1,1,1,1,1,1,1,1,1,1,1,1,1,0,1,0] F81k7.body)) K ⟨slots 215 [(2, .pb 0 0), (5, .v (.int .i64) p0), (12, .v (.int .i64) p1)], [.box (bC p2 p3 p4 p5 p6 p7 p8 p9)]⟩
theorem F81k7.start_eq (k : Nat) (c : (List Int) × ((List Int) × ((List Int) × ((List Int) × ((List Int) × (Int × (List (List Int)))))))) : callW F81k7.E false F81k7.fn k [.agg (bC (7 : Int) c.1 c.2.1 c.2.2.1 c.2.2.2.1 c.2.2.2.2.1 c.2.2.2.2.2.1 c.2.2.2.2.2.2), .v .str ⟨#[118, 118, 118]⟩] =
 bif !(decide (c.2.2.2.2.2.1 = 0)) then
 some (.v .bool false)
 else
 bif !(listB1 (c.1.length : Int) 3 0) then
 some (.v .bool false)
 else
 bif !(listB1 (c.2.1.length : Int) 0 0) then
 some (.v .bool false)
 else
 bif !(listB1 (c.2.2.1.length : Int) 0 0) then
 some (.v .bool false)
 else
 bif !(listB1 (c.2.2.2.1.length : Int) 0 0) then
 some (.v .bool false)
 else
 bif !(listB1 (c.2.2.2.2.1.length : Int) 0 0) then
 some (.v .bool false)
 else
 bif decide ((c.2.2.2.2.2.2.length : Int) > 0) then
 some (.v .bool false)
 else
 F81k7.l1_1_1_1_1_1_1_1_1_1_1_1_1_1_0_1_0 k (F81k7.kt k [1,1,1,1,1,1,1,1,1,1,1,1,1,1,0,1,0]) (c.1.length : Int) 0 7 c.1 c.2.1 c.2.2.1 c.2.2.2.1 c.2.2.2.2.1 c.2.2.2.2.2.1 c.2.2.2.2.2.2 := by kernel_rfl
theorem F81k7.l1_1_1_1_1_1_1_1_1_1_1_1_1_1_0_1_0_eq (n : Nat) (K : Conts) (p0 p1 p2 : Int) (p3 p4 p5 p6 p7 : List Int) (p8 : Int) (p9 : List (List Int)) : F81k7.l1_1_1_1_1_1_1_1_1_1_1_1_1_1_0_1_0 (n + 1) K p0 p1 p2 p3 p4 p5 p6 p7 p8 p9 =
 bif decide (p1 < (p9.length : Int)) then
 bif decide (0 ≤ p1) && decide (p1 < p9.length) then
 bif !(decide (((p9.getD p1.toNat []).length : Int) = p0)) then
 K.ret ⟨slots 215 [(4, .v .bool false)], []⟩
 else
 F81k7.l1_1_1_1_1_1_1_1_1_1_1_1_1_1_0_1_0 n K p0 (IntKind.i64.wrap (p1 + 1)) p2 p3 p4 p5 p6 p7 p8 p9
 else
 none
 else
 exitK K 0 ⟨slots 215 [], []⟩ := by kernel_rfl
theorem F81k7.c0 (k : Nat) : (F81k7.kt k [1,1,1,1,1,1,1,1,1,1,1,1,1,1,0,1,0]).ret ⟨slots 215 [(4, .v .bool false)], []⟩ =
 some (.v .bool false) := by kernel_rfl
theorem F81k7.c1 (k : Nat) : exitK (F81k7.kt k [1,1,1,1,1,1,1,1,1,1,1,1,1,1,0,1,0]) 0 ⟨slots 215 [], []⟩ =
 some (.v .bool true) := by kernel_rfl
noncomputable def F81k8.fn : Func := Go.Proofs.Tryz.f63
noncomputable def F81k8.body : Code := bodyOf F81k8.fn
noncomputable def F81k8.E : Env := ⟨tt, [(71, h_hasB), (112, h_listB1)], [(1, [1, 2]), (2, [1, 2, 5]), (3, [1, 2, 5, 6]), (4, [1, 2, 5, 6, 26]), (5, [1, 2, 5, 6]), (6, [1, 2, 5, 6, 29]), (7, [1, 2, 5, 6]), (8, [1, 2, 5, 6, 7]), (9, [1, 2, 5, 6, 7, 8]), (10, [1, 2, 5, 6, 7, 8, 9]), (11, [1, 2, 5, 6, 7, 8, 9, 10]), (12, [1, 2, 5, 6, 7, 8, 9, 10, 11]), (13, [1, 2, 5, 6, 113]), (14, [1, 2, 5, 6]), (15, [2, 5, 6, 139]), (16, [2, 5, 6]), (17, [2, 5, 6, 149]), (18, [2, 5, 6]), (19, [2, 5, 199]), (20, [2, 5]), (21, [2, 5, 12]), (22, [2, 5, 12]), (23, [2, 5, 12]), (24, [2, 5, 12, 214]), (25, [])], [(0, []), (1, [2, 5, 12])], some [4], inv, []⟩
noncomputable def F81k8.K0 : Conts := { nrm := endW F81k8.E false F81k8.fn.results.toList, ret := endW F81k8.E false F81k8.fn.results.toList, ex := [] }
noncomputable def F81k8.kt (k : Nat) (q : List Nat) : Conts := contAt F81k8.E k F81k8.body F81k8.K0 q
noncomputable def F81k8.l1_1_1_1_1_1_1_1_1_1_1_1_1_1_0_1_0 (n : Nat) (K : Conts) (p0 p1 p2 : Int) (p3 p4 p5 p6 p7 : List Int) (p8 : Int) (p9 : List (List Int)) : Option AV := loopF F81k8.E n (inLoop (subC [1,1,1,1,1,1,1,1,1,1,1,1,1,1,0,1,0] F81k8.body)) K ⟨slots 215 [(2, .pb 0 0), (5, .v (.int .i64) p0), (12, .v (.int .i64) p1)], [.box (bC p2 p3 p4 p5 p6 p7 p8 p9)]⟩
theorem F81k8.start_eq (k : Nat) (c : (List Int) × ((List Int) × ((List Int) × ((List Int) × ((List Int) × (Int × (List (List Int)))))))) : callW F81k8.E false F81k8.fn k [.agg (bC (8 : Int) c.1 c.2.1 c.2.2.1 c.2.2.2.1 c.2.2.2.2.1 c.2.2.2.2.2.1 c.2.2.2.2.2.2), .v .str ⟨#[118, 118]⟩] =
 bif !(decide (c.2.2.2.2.2.1 = 0)) then
 some (.v .bool false)
 else
 bif !(listB1 (c.1.length : Int) 2 0) then
 some (.v .bool false)
 else
 bif !(listB1 (c.2.1.length : Int) 0 0) then
 some (.v .bool false)
 else
 bif !(listB1 (c.2.2.1.length : Int) 0 0) then
 some (.v .bool false)
 else
 bif !(listB1 (c.2.2.2.1.length : Int) 0 0) then
 some (.v .bool false)
 else
 bif !(listB1 (c.2.2.2.2.1.length : Int) 0 0) then
 some (.v .bool false)
 else
 bif decide ((c.2.2.2.2.2.2.length : Int) > 0) then
 some (.v .bool false)
 else
 F81k8.l1_1_1_1_1_1_1_1_1_1_1_1_1_1_0_1_0 k (F81k8.kt k [1,1,1,1,1,1,1,1,1,1,1,1,1,1,0,1,0]) (c.1.length : Int) 0 8 c.1 c.2.1 c.2.2.1 c.2.2.2.1 c.2.2.2.2.1 c.2.2.2.2.2.1 c.2.2.2.2.2.2 := by kernel_rfl
theorem F81k8.l1_1_1_1_1_1_1_1_1_1_1_1_1_1_0_1_0_eq (n : Nat) (K : Conts) (p0 p1 p2 : Int) (p3 p4 p5 p6 p7 : List Int) (p8 : Int) (p9 : List (List Int)) : F81k8.l1_1_1_1_1_1_1_1_1_1_1_1_1_1_0_1_0 (n + 1) K p0 p1 p2 p3 p4 p5 p6 p7 p8 p9 =
 bif decide (p1 < (p9.length : Int)) then
 bif decide (0 ≤ p1) && decide (p1 < p9.length) then
 bif !(decide (((p9.getD p1.toNat []).length : Int) = p0)) then
 K.ret ⟨slots 215 [(4, .v .bool false)], []⟩
 else
 F81k8.l1_1_1_1_1_1_1_1_1_1_1_1_1_1_0_1_0 n K p0 (IntKind.i64.wrap (p1 + 1)) p2 p3 p4 p5 p6 p7 p8 p9
 else
 none
 else
 exitK K 0 ⟨slots 215 [], []⟩ := by kernel_rfl
theorem F81k8.c0 (k : Nat) : (F81k8.kt k [1,1,1,1,1,1,1,1,1,1,1,1,1,1,0,1,0]).ret ⟨slots 215 [(4, .v .bool false)], []⟩ =
 some (.v .bool false) := by kernel_rfl
theorem F81k8.c1 (k : Nat) : exitK (F81k8.kt k [1,1,1,1,1,1,1,1,1,1,1,1,1,1,0,1,0]) 0 ⟨slots 215 [], []⟩ =
 some (.v .bool true) := by kernel_rfl
noncomputable def F81k9.fn : Func := Go.Proofs.Tryz.f63
noncomputable def F81k9.body : Code := bodyOf F81k9.fn
noncomputable def F81k9.E : Env := ⟨tt, [(71, h_hasB), (112, h_listB1)], [(1, [1, 2]), (2, [1, 2, 5]), (3, [1, 2, 5, 6]), (4, [1, 2, 5, 6, 26]), (5, [1, 2, 5, 6]), (6, [1, 2, 5, 6, 29]), (7, [1, 2, 5, 6]), (8, [1, 2, 5, 6, 7]), (9, [1, 2, 5, 6, 7, 8]), (10, [1, 2, 5, 6, 7, 8, 9]), (11, [1, 2, 5, 6, 7, 8, 9, 10]), (12, [1, 2, 5, 6, 7, 8, 9, 10, 11]), (13, [1, 2, 5, 6, 113]), (14, [1, 2, 5, 6]), (15, [2, 5, 6, 139]), (16, [2, 5, 6]), (17, [2, 5, 6, 149]), (18, [2, 5, 6]), (19, [2, 5, 199]), (20, [2, 5]), (21, [2, 5, 12]), (22, [2, 5, 12]), (23, [2, 5, 12]), (24, [2, 5, 12, 214]), (25, [])], [(0, []), (1, [2, 5, 12])], some [4], inv, []⟩
noncomputable def F81k9.K0 : Conts := { nrm := endW F81k9.E false F81k9.fn.results.toList, ret := endW F81k9.E false F81k9.fn.results.toList, ex := [] }
noncomputable def F81k9.kt (k : Nat) (q : List Nat) : Conts := contAt F81k9.E k F81k9.body F81k9.K0 q
noncomputable def F81k9.l1_1_1_1_1_1_1_1_1_1_1_1_1_1_0_1_0 (n : Nat) (K : Conts) (p0 p1 p2 : Int) (p3 p4 p5 p6 p7 : List Int) (p8 : Int) (p9 : List (List Int)) : Option AV := loopF F81k9.E n (inLoop (subC [1,1,1,1,1,1,1,1,1,1,1,1,1,1,0,1,0] F81k9.body)) K ⟨slots 215 [(2, .pb 0 0), (5, .v (.int .i64) p0), (12, .v (.int .i64) p1)], [.box (bC p2 p3 p4 p5 p6 p7 p8 p9)]⟩
theorem F81k9.start_eq (k : Nat) (c : (List Int) × ((List Int) × ((List Int) × ((List Int) × ((List Int) × (Int × (List (List Int)))))))) : callW F81k9.E false F81k9.fn k [.agg (bC (9 : Int) c.1 c.2.1 c.2.2.1 c.2.2.2.1 c.2.2.2.2.1 c.2.2.2.2.2.1 c.2.2.2.2.2.2), .v .str ⟨#[118, 118, 118]⟩] =
 bif !(decide (c.2.2.2.2.2.1 = 0)) then
 some (.v .bool false)
 else
 bif !(listB1 (c.1.length : Int) 3 0) then
 some (.v .bool false)
 else
 bif !(listB1 (c.2.1.length : Int) 0 0) then
 some (.v .bool false)
 else
 bif !(listB1 (c.2.2.1.length : Int) 0 0) then
 some (.v .bool false)
 else
 bif !(listB1 (c.2.2.2.1.length : Int) 0 0) then
 some (.v .bool false)
 else
 bif !(listB1 (c.2.2.2.2.1.length : Int) 0 0) then
 some (.v .bool false)
 else
 bif decide ((c.2.2.2.2.2.2.length : Int) > 0) then
 some (.v .bool false)
 else
 F81k9.l1_1_1_1_1_1_1_1_1_1_1_1_1_1_0_1_0 k (F81k9.kt k [1,1,1,1,1,1,1,1,1,1,1,1,1,1,0,1,0]) (c.1.length : Int) 0 9 c.1 c.2.1 c.2.2.1 c.2.2.2.1 c.2.2.2.2.1 c.2.2.2.2.2.1 c.2.2.2.2.2.2 := by kernel_rfl
theorem F81k9.l1_1_1_1_1_1_1_1_1_1_1_1_1_1_0_1_0_eq (n : Nat) (K : Conts) (p0 p1 p2 : Int) (p3 p4 p5 p6 p7 : List Int) (p8 : Int) (p9 : List (List Int)) : F81k9.l1_1_1_1_1_1_1_1_1_1_1_1_1_1_0_1_0 (n + 1) K p0 p1 p2 p3 p4 p5 p6 p7 p8 p9 =
 bif decide (p1 < (p9.length : Int)) then
 bif decide (0 ≤ p1) && decide (p1 < p9.length) then
 bif !(decide (((p9.getD p1.toNat []).length : Int) = p0)) then
 K.ret ⟨slots 215 [(4, .v .bool false)], []⟩
 else
 F81k9.l1_1_1_1_1_1_1_1_1_1_1_1_1_1_0_1_0 n K p0 (IntKind.i64.wrap (p1 + 1)) p2 p3 p4 p5 p6 p7 p8 p9
 else
 none
 else
 exitK K 0 ⟨slots 215 [], []⟩ := by kernel_rfl
theorem F81k9.c0 (k : Nat) : (F81k9.kt k [1,1,1,1,1,1,1,1,1,1,1,1,1,1,0,1,0]).ret ⟨slots 215 [(4, .v .bool false)], []⟩ =
 some (.v .bool false) := by kernel_rfl
theorem F81k9.c1 (k : Nat) : exitK (F81k9.kt k [1,1,1,1,1,1,1,1,1,1,1,1,1,1,0,1,0]) 0 ⟨slots 215 [], []⟩ =
 some (.v .bool true) := by kernel_rfl
noncomputable def F81k10.fn : Func := Go.Proofs.Tryz.f63
noncomputable def F81k10.body : Code := bodyOf F81k10.fn
noncomputable def F81k10.E : Env := ⟨tt, [(71, h_hasB), (112, h_listB1)], [(1, [1, 2]), (2, [1, 2, 5]), (3, [1, 2, 5, 6]), (4, [1, 2, 5, 6, 26]), (5, [1, 2, 5, 6]), (6, [1, 2, 5, 6, 29]), (7, [1, 2, 5, 6]), (8, [1, 2, 5, 6, 7]), (9, [1, 2, 5, 6, 7, 8]), (10, [1, 2, 5, 6, 7, 8, 9]), (11, [1, 2, 5, 6, 7, 8, 9, 10]), (12, [1, 2, 5, 6, 7, 8, 9, 10, 11]), (13, [1, 2, 5, 6, 113]), (14, [1, 2, 5, 6]), (15, [2, 5, 6, 139]), (16, [2, 5, 6]), (17, [2, 5, 6, 149]), (18, [2, 5, 6]), (19, [2, 5, 199]), (20, [2, 5]), (21, [2, 5, 12]), (22, [2, 5, 12]), (23, [2, 5, 12]), (24, [2, 5, 12, 214]), (25, [])], [(0, []), (1, [2, 5, 12])], some [4], inv, []⟩
noncomputable def F81k10.K0 : Conts := { nrm := endW F81k10.E false F81k10.fn.results.toList, ret := endW F81k10.E false F81k10.fn.results.toList, ex := [] }
noncomputable def F81k10.kt (k : Nat) (q : List Nat) : Conts := contAt F81k10.E k F81k10.body F81k10.K0 q
noncomputable def F81k10.l1_1_1_1_1_1_1_1_1_1_1_1_1_1_0_1_0 (n : Nat) (K : Conts) (p0 p1 p2 : Int) (p3 p4 p5 p6 p7 : List Int) (p8 : Int) (p9 : List (List Int)) : Option AV := loopF F81k10.E n (inLoop (subC [1,1,1,1,1,1,1,1,1,1,1,1,1,1,0,1,0] F81k10.body)) K ⟨slots 215 [(2, .pb 0 0), (5, .v (.int .i64) p0), (12, .v (.int .i64) p1)], [.box (bC p2 p3 p4 p5 p6 p7 p8 p9)]⟩
theorem F81k10.start_eq (k : Nat) (c : (List Int) × ((List Int) × ((List Int) × ((List Int) × ((List Int) × (Int × (List (List Int)))))))) : callW F81k10.E false F81k10.fn k [.agg (bC (10 : Int) c.1 c.2.1 c.2.2.1 c.2.2.2.1 c.2.2.2.2.1 c.2.2.2.2.2.1 c.2.2.2.2.2.2), .v .str ⟨#[118, 118, 118]⟩] =
 bif !(decide (c.2.2.2.2.2.1 = 0)) then
 some (.v .bool false)
 else
 bif !(listB1 (c.1.length : Int) 3 0) then
 some (.v .bool false)
 else
 bif !(listB1 (c.2.1.length : Int) 0 0) then
 some (.v .bool false)
 else
 bif !(listB1 (c.2.2.1.length : Int) 0 0) then
 some (.v .bool false)
 else
 bif !(listB1 (c.2.2.2.1.length : Int) 0 0) then
 some (.v .bool false)
 else
 bif !(listB1 (c.2.2.2.2.1.length : Int) 0 0) then
 some (.v .bool false)
 else
 bif decide ((c.2.2.2.2.2.2.length : Int) > 0) then
 some (.v .bool false)
 else
 F81k10.l1_1_1_1_1_1_1_1_1_1_1_1_1_1_0_1_0 k (F81k10.kt k [1,1,1,1,1,1,1,1,1,1,1,1,1,1,0,1,0]) (c.1.length : Int) 0 10 c.1 c.2.1 c.2.2.1 c.2.2.2.1 c.2.2.2.2.1 c.2.2.2.2.2.1 c.2.2.2.2.2.2 := by kernel_rfl
theorem F81k10.l1_1_1_1_1_1_1_1_1_1_1_1_1_1_0_1_0_eq (n : Nat) (K : Conts) (p0 p1 p2 : Int) (p3 p4 p5 p6 p7 : List Int) (p8 : Int) (p9 : List (List Int)) : F81k10.l1_1_1_1_1_1_1_1_1_1_1_1_1_1_0_1_0 (n + 1) K p0 p1 p2 p3 p4 p5 p6 p7 p8 p9 =
 bif decide (p1 < (p9.length : Int)) then
 bif decide (0 ≤ p1) && decide (p1 < p9.length) then
 bif !(decide (((p9.getD p1.toNat []).length : Int) = p0)) then
 K.ret ⟨slots 215 [(4, .v .bool false)], []⟩
 else
 F81k10.l1_1_1_1_1_1_1_1_1_1_1_1_1_1_0_1_0 n K p0 (IntKind.i64.wrap (p1 + 1)) p2 p3 p4 p5 p6 p7 p8 p9
 else
 none
 else
 exitK K 0 ⟨slots 215 [], []⟩ := by kernel_rfl
theorem F81k10.c0 (k : Nat) : (F81k10.kt k [1,1,1,1,1,1,1,1,1,1,1,1,1,1,0,1,0]).ret ⟨slots 215 [(4, .v .bool false)], []⟩ =
 some (.v .bool false) := by kernel_rfl
theorem F81k10.c1 (k : Nat) : exitK (F81k10.kt k [1,1,1,1,1,1,1,1,1,1,1,1,1,1,0,1,0]) 0 ⟨slots 215 [], []⟩ =
 some (.v .bool true) := by kernel_rfl
noncomputable def F81k11.fn : Func := Go.Proofs.Tryz.f63
noncomputable def F81k11.body : Code := bodyOf F81k11.fn
noncomputable def F81k11.E : Env := ⟨tt, [(71, h_hasB), (112, h_listB1)], [(1, [1, 2]), (2, [1, 2, 5]), (3, [1, 2, 5, 6]), (4, [1, 2, 5, 6, 26]), (5, [1, 2, 5, 6]), (6, [1, 2, 5, 6, 29]), (7, [1, 2, 5, 6]), (8, [1, 2, 5, 6, 7]), (9, [1, 2, 5, 6, 7, 8]), (10, [1, 2, 5, 6, 7, 8, 9]), (11, [1, 2, 5, 6, 7, 8, 9, 10]), (12, [1, 2, 5, 6, 7, 8, 9, 10, 11]), (13, [1, 2, 5, 6, 113]), (14, [1, 2, 5, 6]), (15, [2, 5, 6, 139]), (16, [2, 5, 6]), (17, [2, 5, 6, 149]), (18, [2, 5, 6]), (19, [2, 5, 199]), (20, [2, 5]), (21, [2, 5, 12]), (22, [2, 5, 12]), (23, [2, 5, 12]), (24, [2, 5, 12, 214]), (25, [])], [(0, []), (1, [2, 5, 12])], some [4], inv, []⟩
noncomputable def F81k11.K0 : Conts := { nrm := endW F81k11.E false F81k11.fn.results.toList, ret := endW F81k11.E false F81k11.fn.results.toList, ex := [] }
noncomputable def F81k11.kt (k : Nat) (q : List Nat) : Conts := contAt F81k11.E k F81k11.body F81k11.K0 q
noncomputable def F81k11.l1_1_1_1_1_1_1_1_1_1_1_1_1_1_0_1_0 (n : Nat) (K : Conts) (p0 p1 p2 : Int) (p3 p4 p5 p6 p7 : List Int) (p8 : Int) (p9 : List (List Int)) : Option AV := loopF F81k11.E n (inLoop (subC [1,1,1,1,1,1,1,1,1,1,1,1,1,1,0,1,0] F81k11.body)) K ⟨slots 215 [(2, .pb 0 0), (5, .v (.int .i64) p0), (12, .v (.int .i64) p1)], [.box (bC p2 p3 p4 p5 p6 p7 p8 p9)]⟩
theorem F81k11.start_eq (k : Nat) (c : (List Int) × ((List Int) × ((List Int) × ((List Int) × ((List Int) × (Int × (List (List Int)))))))) : callW F81k11.E false F81k11.fn k [.agg (bC (11 : Int) c.1 c.2.1 c.2.2.1 c.2.2.2.1 c.2.2.2.2.1 c.2.2.2.2.2.1 c.2.2.2.2.2.2), .v .str ⟨#[118, 99, 118]⟩] =
 bif !(decide (c.2.2.2.2.2.1 = 0)) then
 some (.v .bool false)
 else
 bif !(listB1 (c.1.length : Int) 2 0) then
 some (.v .bool false)
 else
 bif !(listB1 (c.2.1.length : Int) 0 0) then
 some (.v .bool false)
 else
 bif !(listB1 (c.2.2.1.length : Int) 0 1) then
 some (.v .bool false)
 else
 bif !(listB1 (c.2.2.2.1.length : Int) 0 0) then
 some (.v .bool false)
 else
 bif !(listB1 (c.2.2.2.2.1.length : Int) 0 0) then
 some (.v .bool false)
 else
 bif decide ((c.2.2.2.2.2.2.length : Int) > 0) then
 some (.v .bool false)
 else
 F81k11.l1_1_1_1_1_1_1_1_1_1_1_1_1_1_0_1_0 k (F81k11.kt k [1,1,1,1,1,1,1,1,1,1,1,1,1,1,0,1,0]) (c.1.length : Int) 0 11 c.1 c.2.1 c.2.2.1 c.2.2.2.1 c.2.2.2.2.1 c.2.2.2.2.2.1 c.2.2.2.2.2.2 := by kernel_rfl
theorem F81k11.l1_1_1_1_1_1_1_1_1_1_1_1_1_1_0_1_0_eq (n : Nat) (K : Conts) (p0 p1 p2 : Int) (p3 p4 p5 p6 p7 : List Int) (p8 : Int) (p9 : List (List Int)) : F81k11.l1_1_1_1_1_1_1_1_1_1_1_1_1_1_0_1_0 (n + 1) K p0 p1 p2 p3 p4 p5 p6 p7 p8 p9 =
 bif decide (p1 < (p9.length : Int)) then
 bif decide (0 ≤ p1) && decide (p1 < p9.length) then
 bif !(decide (((p9.getD p1.toNat []).length : Int) = p0)) then
 K.ret ⟨slots 215 [(4, .v .bool false)], []⟩
 else
 F81k11.l1_1_1_1_1_1_1_1_1_1_1_1_1_1_0_1_0 n K p0 (IntKind.i64.wrap (p1 + 1)) p2 p3 p4 p5 p6 p7 p8 p9
 else
 none
 else
 exitK K 0 ⟨slots 215 [], []⟩ := by kernel_rfl
theorem F81k11.c0 (k : Nat) : (F81k11.kt k [1,1,1,1,1,1,1,1,1,1,1,1,1,1,0,1,0]).ret ⟨slots 215 [(4, .v .bool false)], []⟩ =
 some (.v .bool false) := by kernel_rfl
theorem F81k11.c1 (k : Nat) : exitK (F81k11.kt k [1,1,1,1,1,1,1,1,1,1,1,1,1,1,0,1,0]) 0 ⟨slots 215 [], []⟩ =
 some (.v .bool true) := by kernel_rfl
noncomputable def F81k12.fn : Func := Go.Proofs.Tryz.f63
noncomputable def F81k12.E : Env := ⟨tt, [(71, h_hasB)], [(1, [1, 2]), (2, [1, 2, 5]), (3, [1, 2, 5, 6]), (4, [1, 2, 5, 6, 26]), (5, [1, 2, 5, 6]), (6, [1, 2, 5, 6, 29]), (7, [1, 2, 5, 6]), (8, [1, 2, 5, 6, 7]), (9, [1, 2, 5, 6, 7, 8]), (10, [1, 2, 5, 6, 7, 8, 9]), (11, [1, 2, 5, 6, 7, 8, 9, 10]), (12, [1, 2, 5, 6, 7, 8, 9, 10, 11]), (13, [1, 2, 5, 6, 113]), (14, [1, 2, 5, 6]), (15, [2, 5, 6, 139]), (16, [2, 5, 6]), (17, [2, 5, 6, 149]), (18, [2, 5, 6]), (19, [2, 5, 199]), (20, [2, 5]), (21, [2, 5, 12]), (22, [2, 5, 12]), (23, [2, 5, 12]), (24, [2, 5, 12, 214]), (25, [])], [(0, []), (1, [2, 5, 12])], some [4], inv, []⟩
theorem F81k12.start_eq (k : Nat) (c : (List Int) × ((List Int) × ((List Int) × ((List Int) × ((List Int) × (Int × (List (List Int)))))))) : callW F81k12.E false F81k12.fn k [.agg (bC (12 : Int) c.1 c.2.1 c.2.2.1 c.2.2.2.1 c.2.2.2.2.1 c.2.2.2.2.2.1 c.2.2.2.2.2.2), .v .str ⟨#[86, 87]⟩] =
 bif !(decide (c.2.2.2.2.2.1 = 0)) then
 some (.v .bool false)
 else
 bif decide ((IntKind.i64.wrap ((c.1.length : Int) + (c.2.1.length : Int))) ≥ 1) then
 bif decide ((c.1.length : Int) ≤ 64) then
 bif decide ((c.2.1.length : Int) ≤ 64) then
 bif decide ((c.2.2.1.length : Int) = 0) then
 bif decide ((c.2.2.2.1.length : Int) = 0) then
 bif decide ((c.2.2.2.2.1.length : Int) = 0) then some (.v .bool (decide ((c.2.2.2.2.2.2.length : Int) = 0))) else some (.v .bool false)
 else
 some (.v .bool false)
 else
 some (.v .bool false)
 else
 some (.v .bool false)
 else
 some (.v .bool false)
 else
 some (.v .bool false) := by kernel_rfl
end Go.Proofs.YtlfdikofmfhefaaGreatDoor.Ev
