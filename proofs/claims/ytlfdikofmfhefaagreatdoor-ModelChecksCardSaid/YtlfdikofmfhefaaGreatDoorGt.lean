/-
The functions as the evaluator runs them: printed by a program of mine, each equation by kernel_rfl.
Conditions: none.
-/
import Derived.Test.YtlfdikofmfhefaaGreatDoorGh
set_option linter.unusedVariables false
set_option linter.unusedSimpArgs false
set_option maxRecDepth 100000
namespace Go.Proofs.YtlfdikofmfhefaaGreatDoor.Ev
open Go
noncomputable def F81k13.fn : Func := Go.Proofs.Tryz.f63
noncomputable def F81k13.body : Code := bodyOf F81k13.fn
noncomputable def F81k13.E : Env := ⟨tt, [(71, h_hasB), (112, h_listB1)], [(1, [1, 2]), (2, [1, 2, 5]), (3, [1, 2, 5, 6]), (4, [1, 2, 5, 6, 26]), (5, [1, 2, 5, 6]), (6, [1, 2, 5, 6, 29]), (7, [1, 2, 5, 6]), (8, [1, 2, 5, 6, 7]), (9, [1, 2, 5, 6, 7, 8]), (10, [1, 2, 5, 6, 7, 8, 9]), (11, [1, 2, 5, 6, 7, 8, 9, 10]), (12, [1, 2, 5, 6, 7, 8, 9, 10, 11]), (13, [1, 2, 5, 6, 113]), (14, [1, 2, 5, 6]), (15, [2, 5, 6, 139]), (16, [2, 5, 6]), (17, [2, 5, 6, 149]), (18, [2, 5, 6]), (19, [2, 5, 199]), (20, [2, 5]), (21, [2, 5, 12]), (22, [2, 5, 12]), (23, [2, 5, 12]), (24, [2, 5, 12, 214]), (25, [])], [(0, []), (1, [2, 5, 12])], some [4], inv, []⟩
noncomputable def F81k13.K0 : Conts := { nrm := endW F81k13.E false F81k13.fn.results.toList, ret := endW F81k13.E false F81k13.fn.results.toList, ex := [] }
noncomputable def F81k13.kt (k : Nat) (q : List Nat) : Conts := contAt F81k13.E k F81k13.body F81k13.K0 q
noncomputable def F81k13.l1_1_1_1_1_1_1_1_1_1_1_1_1_1_0_1_0 (n : Nat) (K : Conts) (p0 p1 p2 : Int) (p3 p4 p5 p6 p7 : List Int) (p8 : Int) (p9 : List (List Int)) : Option AV := loopF F81k13.E n (inLoop (subC [1,1,1,1,1,1,1,1,1,1,1,1,1,1,0,1,0] F81k13.body)) K ⟨slots 215 [(2, .pb 0 0), (5, .v (.int .i64) p0), (12, .v (.int .i64) p1)], [.box (bC p2 p3 p4 p5 p6 p7 p8 p9)]⟩
theorem F81k13.start_eq (k : Nat) (c : (List Int) × ((List Int) × ((List Int) × ((List Int) × ((List Int) × (Int × (List (List Int)))))))) : callW F81k13.E false F81k13.fn k [.agg (bC (13 : Int) c.1 c.2.1 c.2.2.1 c.2.2.2.1 c.2.2.2.2.1 c.2.2.2.2.2.1 c.2.2.2.2.2.2), .v .str ⟨#[118, 107, 119]⟩] =
 bif !(decide (c.2.2.2.2.2.1 = 0)) then
 bif !(listB1 (c.1.length : Int) 1 0) then
 some (.v .bool false)
 else
 bif !(listB1 (c.2.1.length : Int) 1 0) then
 some (.v .bool false)
 else
 bif !(listB1 (c.2.2.1.length : Int) 0 0) then
 some (.v .bool false)
 else
 bif !(listB1 (c.2.2.2.1.length : Int) 0 0) then
 some (.v .bool false)
 else
 bif !(listB1 (c.2.2.2.2.1.length : Int) 0 0) then
 some (.v .bool false)
 else
 bif decide ((c.2.2.2.2.2.2.length : Int) > 0) then
 some (.v .bool false)
 else
 F81k13.l1_1_1_1_1_1_1_1_1_1_1_1_1_1_0_1_0 k (F81k13.kt k [1,1,1,1,1,1,1,1,1,1,1,1,1,1,0,1,0]) (c.1.length : Int) 0 13 c.1 c.2.1 c.2.2.1 c.2.2.2.1 c.2.2.2.2.1 c.2.2.2.2.2.1 c.2.2.2.2.2.2
 else
 bif !(listB1 (c.1.length : Int) 1 0) then
 some (.v .bool false)
 else
 bif !(listB1 (c.2.1.length : Int) 1 0) then
 some (.v .bool false)
 else
 bif !(listB1 (c.2.2.1.length : Int) 0 0) then
 some (.v .bool false)
 else
 bif !(listB1 (c.2.2.2.1.length : Int) 0 0) then
 some (.v .bool false)
 else
 bif !(listB1 (c.2.2.2.2.1.length : Int) 0 0) then
 some (.v .bool false)
 else
 bif decide ((c.2.2.2.2.2.2.length : Int) > 0) then
 some (.v .bool false)
 else
 F81k13.l1_1_1_1_1_1_1_1_1_1_1_1_1_1_0_1_0 k (F81k13.kt k [1,1,1,1,1,1,1,1,1,1,1,1,1,1,0,1,0]) (c.1.length : Int) 0 13 c.1 c.2.1 c.2.2.1 c.2.2.2.1 c.2.2.2.2.1 c.2.2.2.2.2.1 c.2.2.2.2.2.2 := by kernel_rfl
theorem F81k13.l1_1_1_1_1_1_1_1_1_1_1_1_1_1_0_1_0_eq (n : Nat) (K : Conts) (p0 p1 p2 : Int) (p3 p4 p5 p6 p7 : List Int) (p8 : Int) (p9 : List (List Int)) : F81k13.l1_1_1_1_1_1_1_1_1_1_1_1_1_1_0_1_0 (n + 1) K p0 p1 p2 p3 p4 p5 p6 p7 p8 p9 =
 bif decide (p1 < (p9.length : Int)) then
 bif decide (0 ≤ p1) && decide (p1 < p9.length) then
 bif !(decide (((p9.getD p1.toNat []).length : Int) = p0)) then
 K.ret ⟨slots 215 [(4, .v .bool false)], []⟩
 else
 F81k13.l1_1_1_1_1_1_1_1_1_1_1_1_1_1_0_1_0 n K p0 (IntKind.i64.wrap (p1 + 1)) p2 p3 p4 p5 p6 p7 p8 p9
 else
 none
 else
 exitK K 0 ⟨slots 215 [], []⟩ := by kernel_rfl
theorem F81k13.c0 (k : Nat) : (F81k13.kt k [1,1,1,1,1,1,1,1,1,1,1,1,1,1,0,1,0]).ret ⟨slots 215 [(4, .v .bool false)], []⟩ =
 some (.v .bool false) := by kernel_rfl
theorem F81k13.c1 (k : Nat) : exitK (F81k13.kt k [1,1,1,1,1,1,1,1,1,1,1,1,1,1,0,1,0]) 0 ⟨slots 215 [], []⟩ =
 some (.v .bool true) := by kernel_rfl
noncomputable def F81k14.fn : Func := Go.Proofs.Tryz.f63
noncomputable def F81k14.body : Code := bodyOf F81k14.fn
noncomputable def F81k14.E : Env := ⟨tt, [(71, h_hasB), (112, h_listB1)], [(1, [1, 2]), (2, [1, 2, 5]), (3, [1, 2, 5, 6]), (4, [1, 2, 5, 6, 26]), (5, [1, 2, 5, 6]), (6, [1, 2, 5, 6, 29]), (7, [1, 2, 5, 6]), (8, [1, 2, 5, 6, 7]), (9, [1, 2, 5, 6, 7, 8]), (10, [1, 2, 5, 6, 7, 8, 9]), (11, [1, 2, 5, 6, 7, 8, 9, 10]), (12, [1, 2, 5, 6, 7, 8, 9, 10, 11]), (13, [1, 2, 5, 6, 113]), (14, [1, 2, 5, 6]), (15, [2, 5, 6, 139]), (16, [2, 5, 6]), (17, [2, 5, 6, 149]), (18, [2, 5, 6]), (19, [2, 5, 199]), (20, [2, 5]), (21, [2, 5, 12]), (22, [2, 5, 12]), (23, [2, 5, 12]), (24, [2, 5, 12, 214]), (25, [])], [(0, []), (1, [2, 5, 12])], some [4], inv, []⟩
noncomputable def F81k14.K0 : Conts := { nrm := endW F81k14.E false F81k14.fn.results.toList, ret := endW F81k14.E false F81k14.fn.results.toList, ex := [] }
noncomputable def F81k14.kt (k : Nat) (q : List Nat) : Conts := contAt F81k14.E k F81k14.body F81k14.K0 q
noncomputable def F81k14.l1_1_1_1_1_1_1_1_1_1_1_1_1_1_0_1_0 (n : Nat) (K : Conts) (p0 p1 p2 : Int) (p3 p4 p5 p6 p7 : List Int) (p8 : Int) (p9 : List (List Int)) : Option AV := loopF F81k14.E n (inLoop (subC [1,1,1,1,1,1,1,1,1,1,1,1,1,1,0,1,0] F81k14.body)) K ⟨slots 215 [(2, .pb 0 0), (5, .v (.int .i64) p0), (12, .v (.int .i64) p1)], [.box (bC p2 p3 p4 p5 p6 p7 p8 p9)]⟩
theorem F81k14.start_eq (k : Nat) (c : (List Int) × ((List Int) × ((List Int) × ((List Int) × ((List Int) × (Int × (List (List Int)))))))) : callW F81k14.E false F81k14.fn k [.agg (bC (14 : Int) c.1 c.2.1 c.2.2.1 c.2.2.2.1 c.2.2.2.2.1 c.2.2.2.2.2.1 c.2.2.2.2.2.2), .v .str ⟨#[118, 107, 119]⟩] =
 bif !(decide (c.2.2.2.2.2.1 = 0)) then
 bif !(listB1 (c.1.length : Int) 1 0) then
 some (.v .bool false)
 else
 bif !(listB1 (c.2.1.length : Int) 1 0) then
 some (.v .bool false)
 else
 bif !(listB1 (c.2.2.1.length : Int) 0 0) then
 some (.v .bool false)
 else
 bif !(listB1 (c.2.2.2.1.length : Int) 0 0) then
 some (.v .bool false)
 else
 bif !(listB1 (c.2.2.2.2.1.length : Int) 0 0) then
 some (.v .bool false)
 else
 bif decide ((c.2.2.2.2.2.2.length : Int) > 0) then
 some (.v .bool false)
 else
 F81k14.l1_1_1_1_1_1_1_1_1_1_1_1_1_1_0_1_0 k (F81k14.kt k [1,1,1,1,1,1,1,1,1,1,1,1,1,1,0,1,0]) (c.1.length : Int) 0 14 c.1 c.2.1 c.2.2.1 c.2.2.2.1 c.2.2.2.2.1 c.2.2.2.2.2.1 c.2.2.2.2.2.2
 else
 bif !(listB1 (c.1.length : Int) 1 0) then
 some (.v .bool false)
 else
 bif !(listB1 (c.2.1.length : Int) 1 0) then
 some (.v .bool false)
 else
 bif !(listB1 (c.2.2.1.length : Int) 0 0) then
 some (.v .bool false)
 else
 bif !(listB1 (c.2.2.2.1.length : Int) 0 0) then
 some (.v .bool false)
 else
 bif !(listB1 (c.2.2.2.2.1.length : Int) 0 0) then
 some (.v .bool false)
 else
 bif decide ((c.2.2.2.2.2.2.length : Int) > 0) then
 some (.v .bool false)
 else
 F81k14.l1_1_1_1_1_1_1_1_1_1_1_1_1_1_0_1_0 k (F81k14.kt k [1,1,1,1,1,1,1,1,1,1,1,1,1,1,0,1,0]) (c.1.length : Int) 0 14 c.1 c.2.1 c.2.2.1 c.2.2.2.1 c.2.2.2.2.1 c.2.2.2.2.2.1 c.2.2.2.2.2.2 := by kernel_rfl
theorem F81k14.l1_1_1_1_1_1_1_1_1_1_1_1_1_1_0_1_0_eq (n : Nat) (K : Conts) (p0 p1 p2 : Int) (p3 p4 p5 p6 p7 : List Int) (p8 : Int) (p9 : List (List Int)) : F81k14.l1_1_1_1_1_1_1_1_1_1_1_1_1_1_0_1_0 (n + 1) K p0 p1 p2 p3 p4 p5 p6 p7 p8 p9 =
 bif decide (p1 < (p9.length : Int)) then
 bif decide (0 ≤ p1) && decide (p1 < p9.length) then
 bif !(decide (((p9.getD p1.toNat []).length : Int) = p0)) then
 K.ret ⟨slots 215 [(4, .v .bool false)], []⟩
 else
 F81k14.l1_1_1_1_1_1_1_1_1_1_1_1_1_1_0_1_0 n K p0 (IntKind.i64.wrap (p1 + 1)) p2 p3 p4 p5 p6 p7 p8 p9
 else
 none
 else
 exitK K 0 ⟨slots 215 [], []⟩ := by kernel_rfl
theorem F81k14.c0 (k : Nat) : (F81k14.kt k [1,1,1,1,1,1,1,1,1,1,1,1,1,1,0,1,0]).ret ⟨slots 215 [(4, .v .bool false)], []⟩ =
 some (.v .bool false) := by kernel_rfl
theorem F81k14.c1 (k : Nat) : exitK (F81k14.kt k [1,1,1,1,1,1,1,1,1,1,1,1,1,1,0,1,0]) 0 ⟨slots 215 [], []⟩ =
 some (.v .bool true) := by kernel_rfl
noncomputable def F81k15.fn : Func := Go.Proofs.Tryz.f63
noncomputable def F81k15.body : Code := bodyOf F81k15.fn
noncomputable def F81k15.E : Env := ⟨tt, [(71, h_hasB), (112, h_listB1)], [(1, [1, 2]), (2, [1, 2, 5]), (3, [1, 2, 5, 6]), (4, [1, 2, 5, 6, 26]), (5, [1, 2, 5, 6]), (6, [1, 2, 5, 6, 29]), (7, [1, 2, 5, 6]), (8, [1, 2, 5, 6, 7]), (9, [1, 2, 5, 6, 7, 8]), (10, [1, 2, 5, 6, 7, 8, 9]), (11, [1, 2, 5, 6, 7, 8, 9, 10]), (12, [1, 2, 5, 6, 7, 8, 9, 10, 11]), (13, [1, 2, 5, 6, 113]), (14, [1, 2, 5, 6]), (15, [2, 5, 6, 139]), (16, [2, 5, 6]), (17, [2, 5, 6, 149]), (18, [2, 5, 6]), (19, [2, 5, 199]), (20, [2, 5]), (21, [2, 5, 12]), (22, [2, 5, 12]), (23, [2, 5, 12]), (24, [2, 5, 12, 214]), (25, [])], [(0, []), (1, [2, 5, 12])], some [4], inv, []⟩
noncomputable def F81k15.K0 : Conts := { nrm := endW F81k15.E false F81k15.fn.results.toList, ret := endW F81k15.E false F81k15.fn.results.toList, ex := [] }
noncomputable def F81k15.kt (k : Nat) (q : List Nat) : Conts := contAt F81k15.E k F81k15.body F81k15.K0 q
noncomputable def F81k15.l1_1_1_1_1_1_1_1_1_1_1_1_1_1_0_1_0 (n : Nat) (K : Conts) (p0 p1 p2 : Int) (p3 p4 p5 p6 p7 : List Int) (p8 : Int) (p9 : List (List Int)) : Option AV := loopF F81k15.E n (inLoop (subC [1,1,1,1,1,1,1,1,1,1,1,1,1,1,0,1,0] F81k15.body)) K ⟨slots 215 [(2, .pb 0 0), (5, .v (.int .i64) p0), (12, .v (.int .i64) p1)], [.box (bC p2 p3 p4 p5 p6 p7 p8 p9)]⟩
theorem F81k15.start_eq (k : Nat) (c : (List Int) × ((List Int) × ((List Int) × ((List Int) × ((List Int) × (Int × (List (List Int)))))))) : callW F81k15.E false F81k15.fn k [.agg (bC (15 : Int) c.1 c.2.1 c.2.2.1 c.2.2.2.1 c.2.2.2.2.1 c.2.2.2.2.2.1 c.2.2.2.2.2.2), .v .str ⟨#[118, 107, 119]⟩] =
 bif !(decide (c.2.2.2.2.2.1 = 0)) then
 bif !(listB1 (c.1.length : Int) 1 0) then
 some (.v .bool false)
 else
 bif !(listB1 (c.2.1.length : Int) 1 0) then
 some (.v .bool false)
 else
 bif !(listB1 (c.2.2.1.length : Int) 0 0) then
 some (.v .bool false)
 else
 bif !(listB1 (c.2.2.2.1.length : Int) 0 0) then
 some (.v .bool false)
 else
 bif !(listB1 (c.2.2.2.2.1.length : Int) 0 0) then
 some (.v .bool false)
 else
 bif decide ((c.2.2.2.2.2.2.length : Int) > 0) then
 some (.v .bool false)
 else
 F81k15.l1_1_1_1_1_1_1_1_1_1_1_1_1_1_0_1_0 k (F81k15.kt k [1,1,1,1,1,1,1,1,1,1,1,1,1,1,0,1,0]) (c.1.length : Int) 0 15 c.1 c.2.1 c.2.2.1 c.2.2.2.1 c.2.2.2.2.1 c.2.2.2.2.2.1 c.2.2.2.2.2.2
 else
 bif !(listB1 (c.1.length : Int) 1 0) then
 some (.v .bool false)
 else
 bif !(listB1 (c.2.1.length : Int) 1 0) then
 some (.v .bool false)
 else
 bif !(listB1 (c.2.2.1.length : Int) 0 0) then
 some (.v .bool false)
 else
 bif !(listB1 (c.2.2.2.1.length : Int) 0 0) then
 some (.v .bool false)
 else
 bif !(listB1 (c.2.2.2.2.1.length : Int) 0 0) then
 some (.v .bool false)
 else
 bif decide ((c.2.2.2.2.2.2.length : Int) > 0) then
 some (.v .bool false)
 else
 F81k15.l1_1_1_1_1_1_1_1_1_1_1_1_1_1_0_1_0 k (F81k15.kt k [1,1,1,1,1,1,1,1,1,1,1,1,1,1,0,1,0]) (c.1.length : Int) 0 15 c.1 c.2.1 c.2.2.1 c.2.2.2.1 c.2.2.2.2.1 c.2.2.2.2.2.1 c.2.2.2.2.2.2 := by kernel_rfl
theorem F81k15.l1_1_1_1_1_1_1_1_1_1_1_1_1_1_0_1_0_eq (n : Nat) (K : Conts) (p0 p1 p2 : Int) (p3 p4 p5 p6 p7 : List Int) (p8 : Int) (p9 : List (List Int)) : F81k15.l1_1_1_1_1_1_1_1_1_1_1_1_1_1_0_1_0 (n + 1) K p0 p1 p2 p3 p4 p5 p6 p7 p8 p9 =
 bif decide (p1 < (p9.length : Int)) then
 bif decide (0 ≤ p1) && decide (p1 < p9.length) then
 bif !(decide (((p9.getD p1.toNat []).length : Int) = p0)) then
 K.ret ⟨slots 215 [(4, .v .bool false)], []⟩
 else
 F81k15.l1_1_1_1_1_1_1_1_1_1_1_1_1_1_0_1_0 n K p0 (IntKind.i64.wrap (p1 + 1)) p2 p3 p4 p5 p6 p7 p8 p9
 else
 none
 else
 exitK K 0 ⟨slots 215 [], []⟩ := by kernel_rfl
theorem F81k15.c0 (k : Nat) : (F81k15.kt k [1,1,1,1,1,1,1,1,1,1,1,1,1,1,0,1,0]).ret ⟨slots 215 [(4, .v .bool false)], []⟩ =
 some (.v .bool false) := by kernel_rfl
theorem F81k15.c1 (k : Nat) : exitK (F81k15.kt k [1,1,1,1,1,1,1,1,1,1,1,1,1,1,0,1,0]) 0 ⟨slots 215 [], []⟩ =
 some (.v .bool true) := by kernel_rfl
noncomputable def F81k16.fn : Func := Go.Proofs.Tryz.f63
noncomputable def F81k16.body : Code := bodyOf F81k16.fn
noncomputable def F81k16.E : Env := ⟨tt, [(71, h_hasB), (112, h_listB1)], [(1, [1, 2]), (2, [1, 2, 5]), (3, [1, 2, 5, 6]), (4, [1, 2, 5, 6, 26]), (5, [1, 2, 5, 6]), (6, [1, 2, 5, 6, 29]), (7, [1, 2, 5, 6]), (8, [1, 2, 5, 6, 7]), (9, [1, 2, 5, 6, 7, 8]), (10, [1, 2, 5, 6, 7, 8, 9]), (11, [1, 2, 5, 6, 7, 8, 9, 10]), (12, [1, 2, 5, 6, 7, 8, 9, 10, 11]), (13, [1, 2, 5, 6, 113]), (14, [1, 2, 5, 6]), (15, [2, 5, 6, 139]), (16, [2, 5, 6]), (17, [2, 5, 6, 149]), (18, [2, 5, 6]), (19, [2, 5, 199]), (20, [2, 5]), (21, [2, 5, 12]), (22, [2, 5, 12]), (23, [2, 5, 12]), (24, [2, 5, 12, 214]), (25, [])], [(0, []), (1, [2, 5, 12])], some [4], inv, []⟩
noncomputable def F81k16.K0 : Conts := { nrm := endW F81k16.E false F81k16.fn.results.toList, ret := endW F81k16.E false F81k16.fn.results.toList, ex := [] }
noncomputable def F81k16.kt (k : Nat) (q : List Nat) : Conts := contAt F81k16.E k F81k16.body F81k16.K0 q
noncomputable def F81k16.l1_1_1_1_1_1_1_1_1_1_1_1_1_1_0_1_0 (n : Nat) (K : Conts) (p0 p1 p2 : Int) (p3 p4 p5 p6 p7 : List Int) (p8 : Int) (p9 : List (List Int)) : Option AV := loopF F81k16.E n (inLoop (subC [1,1,1,1,1,1,1,1,1,1,1,1,1,1,0,1,0] F81k16.body)) K ⟨slots 215 [(2, .pb 0 0), (5, .v (.int .i64) p0), (12, .v (.int .i64) p1)], [.box (bC p2 p3 p4 p5 p6 p7 p8 p9)]⟩
theorem F81k16.start_eq (k : Nat) (c : (List Int) × ((List Int) × ((List Int) × ((List Int) × ((List Int) × (Int × (List (List Int)))))))) : callW F81k16.E false F81k16.fn k [.agg (bC (16 : Int) c.1 c.2.1 c.2.2.1 c.2.2.2.1 c.2.2.2.2.1 c.2.2.2.2.2.1 c.2.2.2.2.2.2), .v .str ⟨#[118, 107, 119]⟩] =
 bif !(decide (c.2.2.2.2.2.1 = 0)) then
 bif !(listB1 (c.1.length : Int) 1 0) then
 some (.v .bool false)
 else
 bif !(listB1 (c.2.1.length : Int) 1 0) then
 some (.v .bool false)
 else
 bif !(listB1 (c.2.2.1.length : Int) 0 0) then
 some (.v .bool false)
 else
 bif !(listB1 (c.2.2.2.1.length : Int) 0 0) then
 some (.v .bool false)
 else
 bif !(listB1 (c.2.2.2.2.1.length : Int) 0 0) then
 some (.v .bool false)
 else
 bif decide ((c.2.2.2.2.2.2.length : Int) > 0) then
 some (.v .bool false)
 else
 F81k16.l1_1_1_1_1_1_1_1_1_1_1_1_1_1_0_1_0 k (F81k16.kt k [1,1,1,1,1,1,1,1,1,1,1,1,1,1,0,1,0]) (c.1.length : Int) 0 16 c.1 c.2.1 c.2.2.1 c.2.2.2.1 c.2.2.2.2.1 c.2.2.2.2.2.1 c.2.2.2.2.2.2
 else
 bif !(listB1 (c.1.length : Int) 1 0) then
 some (.v .bool false)
 else
 bif !(listB1 (c.2.1.length : Int) 1 0) then
 some (.v .bool false)
 else
 bif !(listB1 (c.2.2.1.length : Int) 0 0) then
 some (.v .bool false)
 else
 bif !(listB1 (c.2.2.2.1.length : Int) 0 0) then
 some (.v .bool false)
 else
 bif !(listB1 (c.2.2.2.2.1.length : Int) 0 0) then
 some (.v .bool false)
 else
 bif decide ((c.2.2.2.2.2.2.length : Int) > 0) then
 some (.v .bool false)
 else
 F81k16.l1_1_1_1_1_1_1_1_1_1_1_1_1_1_0_1_0 k (F81k16.kt k [1,1,1,1,1,1,1,1,1,1,1,1,1,1,0,1,0]) (c.1.length : Int) 0 16 c.1 c.2.1 c.2.2.1 c.2.2.2.1 c.2.2.2.2.1 c.2.2.2.2.2.1 c.2.2.2.2.2.2 := by kernel_rfl
theorem F81k16.l1_1_1_1_1_1_1_1_1_1_1_1_1_1_0_1_0_eq (n : Nat) (K : Conts) (p0 p1 p2 : Int) (p3 p4 p5 p6 p7 : List Int) (p8 : Int) (p9 : List (List Int)) : F81k16.l1_1_1_1_1_1_1_1_1_1_1_1_1_1_0_1_0 (n + 1) K p0 p1 p2 p3 p4 p5 p6 p7 p8 p9 =
 bif decide (p1 < (p9.length : Int)) then
 bif decide (0 ≤ p1) && decide (p1 < p9.length) then
 bif !(decide (((p9.getD p1.toNat []).length : Int) = p0)) then
 K.ret ⟨slots 215 [(4, .v .bool false)], []⟩
 else
 F81k16.l1_1_1_1_1_1_1_1_1_1_1_1_1_1_0_1_0 n K p0 (IntKind.i64.wrap (p1 + 1)) p2 p3 p4 p5 p6 p7 p8 p9
 else
 none
 else
 exitK K 0 ⟨slots 215 [], []⟩ := by kernel_rfl
theorem F81k16.c0 (k : Nat) : (F81k16.kt k [1,1,1,1,1,1,1,1,1,1,1,1,1,1,0,1,0]).ret ⟨slots 215 [(4, .v .bool false)], []⟩ =
 some (.v .bool false) := by kernel_rfl
theorem F81k16.c1 (k : Nat) : exitK (F81k16.kt k [1,1,1,1,1,1,1,1,1,1,1,1,1,1,0,1,0]) 0 ⟨slots 215 [], []⟩ =
 some (.v .bool true) := by kernel_rfl
noncomputable def F81k17.fn : Func := Go.Proofs.Tryz.f63
noncomputable def F81k17.body : Code := bodyOf F81k17.fn
noncomputable def F81k17.E : Env := ⟨tt, [(71, h_hasB), (112, h_listB1)], [(1, [1, 2]), (2, [1, 2, 5]), (3, [1, 2, 5, 6]), (4, [1, 2, 5, 6, 26]), (5, [1, 2, 5, 6]), (6, [1, 2, 5, 6, 29]), (7, [1, 2, 5, 6]), (8, [1, 2, 5, 6, 7]), (9, [1, 2, 5, 6, 7, 8]), (10, [1, 2, 5, 6, 7, 8, 9]), (11, [1, 2, 5, 6, 7, 8, 9, 10]), (12, [1, 2, 5, 6, 7, 8, 9, 10, 11]), (13, [1, 2, 5, 6, 113]), (14, [1, 2, 5, 6]), (15, [2, 5, 6, 139]), (16, [2, 5, 6]), (17, [2, 5, 6, 149]), (18, [2, 5, 6]), (19, [2, 5, 199]), (20, [2, 5]), (21, [2, 5, 12]), (22, [2, 5, 12]), (23, [2, 5, 12]), (24, [2, 5, 12, 214]), (25, [])], [(0, []), (1, [2, 5, 12])], some [4], inv, []⟩
noncomputable def F81k17.K0 : Conts := { nrm := endW F81k17.E false F81k17.fn.results.toList, ret := endW F81k17.E false F81k17.fn.results.toList, ex := [] }
noncomputable def F81k17.kt (k : Nat) (q : List Nat) : Conts := contAt F81k17.E k F81k17.body F81k17.K0 q
noncomputable def F81k17.l1_1_1_1_1_1_1_1_1_1_1_1_1_1_0_1_0 (n : Nat) (K : Conts) (p0 p1 p2 : Int) (p3 p4 p5 p6 p7 : List Int) (p8 : Int) (p9 : List (List Int)) : Option AV := loopF F81k17.E n (inLoop (subC [1,1,1,1,1,1,1,1,1,1,1,1,1,1,0,1,0] F81k17.body)) K ⟨slots 215 [(2, .pb 0 0), (5, .v (.int .i64) p0), (12, .v (.int .i64) p1)], [.box (bC p2 p3 p4 p5 p6 p7 p8 p9)]⟩
theorem F81k17.start_eq (k : Nat) (c : (List Int) × ((List Int) × ((List Int) × ((List Int) × ((List Int) × (Int × (List (List Int)))))))) : callW F81k17.E false F81k17.fn k [.agg (bC (17 : Int) c.1 c.2.1 c.2.2.1 c.2.2.2.1 c.2.2.2.2.1 c.2.2.2.2.2.1 c.2.2.2.2.2.2), .v .str ⟨#[86]⟩] =
 bif !(decide (c.2.2.2.2.2.1 = 0)) then
 some (.v .bool false)
 else
 bif !(listB1 (c.1.length : Int) 0 1) then
 some (.v .bool false)
 else
 bif !(listB1 (c.2.1.length : Int) 0 0) then
 some (.v .bool false)
 else
 bif !(listB1 (c.2.2.1.length : Int) 0 0) then
 some (.v .bool false)
 else
 bif !(listB1 (c.2.2.2.1.length : Int) 0 0) then
 some (.v .bool false)
 else
 bif !(listB1 (c.2.2.2.2.1.length : Int) 0 0) then
 some (.v .bool false)
 else
 bif decide ((c.2.2.2.2.2.2.length : Int) > 0) then
 some (.v .bool false)
 else
 F81k17.l1_1_1_1_1_1_1_1_1_1_1_1_1_1_0_1_0 k (F81k17.kt k [1,1,1,1,1,1,1,1,1,1,1,1,1,1,0,1,0]) (c.1.length : Int) 0 17 c.1 c.2.1 c.2.2.1 c.2.2.2.1 c.2.2.2.2.1 c.2.2.2.2.2.1 c.2.2.2.2.2.2 := by kernel_rfl
theorem F81k17.l1_1_1_1_1_1_1_1_1_1_1_1_1_1_0_1_0_eq (n : Nat) (K : Conts) (p0 p1 p2 : Int) (p3 p4 p5 p6 p7 : List Int) (p8 : Int) (p9 : List (List Int)) : F81k17.l1_1_1_1_1_1_1_1_1_1_1_1_1_1_0_1_0 (n + 1) K p0 p1 p2 p3 p4 p5 p6 p7 p8 p9 =
 bif decide (p1 < (p9.length : Int)) then
 bif decide (0 ≤ p1) && decide (p1 < p9.length) then
 bif !(decide (((p9.getD p1.toNat []).length : Int) = p0)) then
 K.ret ⟨slots 215 [(4, .v .bool false)], []⟩
 else
 F81k17.l1_1_1_1_1_1_1_1_1_1_1_1_1_1_0_1_0 n K p0 (IntKind.i64.wrap (p1 + 1)) p2 p3 p4 p5 p6 p7 p8 p9
 else
 none
 else
 exitK K 0 ⟨slots 215 [], []⟩ := by kernel_rfl
theorem F81k17.c0 (k : Nat) : (F81k17.kt k [1,1,1,1,1,1,1,1,1,1,1,1,1,1,0,1,0]).ret ⟨slots 215 [(4, .v .bool false)], []⟩ =
 some (.v .bool false) := by kernel_rfl
theorem F81k17.c1 (k : Nat) : exitK (F81k17.kt k [1,1,1,1,1,1,1,1,1,1,1,1,1,1,0,1,0]) 0 ⟨slots 215 [], []⟩ =
 some (.v .bool true) := by kernel_rfl
noncomputable def F81k18.fn : Func := Go.Proofs.Tryz.f63
noncomputable def F81k18.body : Code := bodyOf F81k18.fn
noncomputable def F81k18.E : Env := ⟨tt, [(71, h_hasB), (112, h_listB1)], [(1, [1, 2]), (2, [1, 2, 5]), (3, [1, 2, 5, 6]), (4, [1, 2, 5, 6, 26]), (5, [1, 2, 5, 6]), (6, [1, 2, 5, 6, 29]), (7, [1, 2, 5, 6]), (8, [1, 2, 5, 6, 7]), (9, [1, 2, 5, 6, 7, 8]), (10, [1, 2, 5, 6, 7, 8, 9]), (11, [1, 2, 5, 6, 7, 8, 9, 10]), (12, [1, 2, 5, 6, 7, 8, 9, 10, 11]), (13, [1, 2, 5, 6, 113]), (14, [1, 2, 5, 6]), (15, [2, 5, 6, 139]), (16, [2, 5, 6]), (17, [2, 5, 6, 149]), (18, [2, 5, 6]), (19, [2, 5, 199]), (20, [2, 5]), (21, [2, 5, 12]), (22, [2, 5, 12]), (23, [2, 5, 12]), (24, [2, 5, 12, 214]), (25, [])], [(0, []), (1, [2, 5, 12])], some [4], inv, []⟩
noncomputable def F81k18.K0 : Conts := { nrm := endW F81k18.E false F81k18.fn.results.toList, ret := endW F81k18.E false F81k18.fn.results.toList, ex := [] }
noncomputable def F81k18.kt (k : Nat) (q : List Nat) : Conts := contAt F81k18.E k F81k18.body F81k18.K0 q
noncomputable def F81k18.l1_1_1_1_1_1_1_1_1_1_1_1_1_1_0_1_0 (n : Nat) (K : Conts) (p0 p1 p2 : Int) (p3 p4 p5 p6 p7 : List Int) (p8 : Int) (p9 : List (List Int)) : Option AV := loopF F81k18.E n (inLoop (subC [1,1,1,1,1,1,1,1,1,1,1,1,1,1,0,1,0] F81k18.body)) K ⟨slots 215 [(2, .pb 0 0), (5, .v (.int .i64) p0), (12, .v (.int .i64) p1)], [.box (bC p2 p3 p4 p5 p6 p7 p8 p9)]⟩
theorem F81k18.start_eq (k : Nat) (c : (List Int) × ((List Int) × ((List Int) × ((List Int) × ((List Int) × (Int × (List (List Int)))))))) : callW F81k18.E false F81k18.fn k [.agg (bC (18 : Int) c.1 c.2.1 c.2.2.1 c.2.2.2.1 c.2.2.2.2.1 c.2.2.2.2.2.1 c.2.2.2.2.2.2), .v .str ⟨#[86, 114]⟩] =
 bif !(decide (c.2.2.2.2.2.1 = 0)) then
 some (.v .bool false)
 else
 bif !(listB1 (c.1.length : Int) 0 1) then
 some (.v .bool false)
 else
 bif !(listB1 (c.2.1.length : Int) 0 0) then
 some (.v .bool false)
 else
 bif !(listB1 (c.2.2.1.length : Int) 0 0) then
 some (.v .bool false)
 else
 bif !(listB1 (c.2.2.2.1.length : Int) 0 0) then
 some (.v .bool false)
 else
 bif !(listB1 (c.2.2.2.2.1.length : Int) 0 0) then
 some (.v .bool false)
 else
 bif decide ((c.2.2.2.2.2.2.length : Int) < 1) then
 some (.v .bool false)
 else
 bif decide ((c.2.2.2.2.2.2.length : Int) > 1024) then
 some (.v .bool false)
 else
 F81k18.l1_1_1_1_1_1_1_1_1_1_1_1_1_1_0_1_0 k (F81k18.kt k [1,1,1,1,1,1,1,1,1,1,1,1,1,1,0,1,0]) (c.1.length : Int) 0 18 c.1 c.2.1 c.2.2.1 c.2.2.2.1 c.2.2.2.2.1 c.2.2.2.2.2.1 c.2.2.2.2.2.2 := by kernel_rfl
theorem F81k18.l1_1_1_1_1_1_1_1_1_1_1_1_1_1_0_1_0_eq (n : Nat) (K : Conts) (p0 p1 p2 : Int) (p3 p4 p5 p6 p7 : List Int) (p8 : Int) (p9 : List (List Int)) : F81k18.l1_1_1_1_1_1_1_1_1_1_1_1_1_1_0_1_0 (n + 1) K p0 p1 p2 p3 p4 p5 p6 p7 p8 p9 =
 bif decide (p1 < (p9.length : Int)) then
 bif decide (0 ≤ p1) && decide (p1 < p9.length) then
 bif !(decide (((p9.getD p1.toNat []).length : Int) = p0)) then
 K.ret ⟨slots 215 [(4, .v .bool false)], []⟩
 else
 F81k18.l1_1_1_1_1_1_1_1_1_1_1_1_1_1_0_1_0 n K p0 (IntKind.i64.wrap (p1 + 1)) p2 p3 p4 p5 p6 p7 p8 p9
 else
 none
 else
 exitK K 0 ⟨slots 215 [], []⟩ := by kernel_rfl
theorem F81k18.c0 (k : Nat) : (F81k18.kt k [1,1,1,1,1,1,1,1,1,1,1,1,1,1,0,1,0]).ret ⟨slots 215 [(4, .v .bool false)], []⟩ =
 some (.v .bool false) := by kernel_rfl
theorem F81k18.c1 (k : Nat) : exitK (F81k18.kt k [1,1,1,1,1,1,1,1,1,1,1,1,1,1,0,1,0]) 0 ⟨slots 215 [], []⟩ =
 some (.v .bool true) := by kernel_rfl
end Go.Proofs.YtlfdikofmfhefaaGreatDoor.Ev
