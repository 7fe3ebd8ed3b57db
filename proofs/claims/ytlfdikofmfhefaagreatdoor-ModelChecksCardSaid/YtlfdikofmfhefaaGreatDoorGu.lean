/-
The functions as the evaluator runs them: printed by a program of mine, each equation by kernel_rfl.
Conditions: none.
-/
import Derived.Test.YtlfdikofmfhefaaGreatDoorGh
set_option linter.unusedVariables false
set_option linter.unusedSimpArgs false
set_option maxRecDepth 100000
namespace Go.Proofs.YtlfdikofmfhefaaGreatDoor.Ev
open Go
noncomputable def F81k19.fn : Func := Go.Proofs.Tryz.f63
noncomputable def F81k19.body : Code := bodyOf F81k19.fn
noncomputable def F81k19.E : Env := ⟨tt, [(71, h_hasB), (112, h_listB1)], [(1, [1, 2]), (2, [1, 2, 5]), (3, [1, 2, 5, 6]), (4, [1, 2, 5, 6, 26]), (5, [1, 2, 5, 6]), (6, [1, 2, 5, 6, 29]), (7, [1, 2, 5, 6]), (8, [1, 2, 5, 6, 7]), (9, [1, 2, 5, 6, 7, 8]), (10, [1, 2, 5, 6, 7, 8, 9]), (11, [1, 2, 5, 6, 7, 8, 9, 10]), (12, [1, 2, 5, 6, 7, 8, 9, 10, 11]), (13, [1, 2, 5, 6, 113]), (14, [1, 2, 5, 6]), (15, [2, 5, 6, 139]), (16, [2, 5, 6]), (17, [2, 5, 6, 149]), (18, [2, 5, 6]), (19, [2, 5, 199]), (20, [2, 5]), (21, [2, 5, 12]), (22, [2, 5, 12]), (23, [2, 5, 12]), (24, [2, 5, 12, 214]), (25, [])], [(0, []), (1, [2, 5, 12])], some [4], inv, []⟩
noncomputable def F81k19.K0 : Conts := { nrm := endW F81k19.E false F81k19.fn.results.toList, ret := endW F81k19.E false F81k19.fn.results.toList, ex := [] }
noncomputable def F81k19.kt (k : Nat) (q : List Nat) : Conts := contAt F81k19.E k F81k19.body F81k19.K0 q
noncomputable def F81k19.l1_1_1_1_1_1_1_1_1_1_1_1_1_1_0_1_0 (n : Nat) (K : Conts) (p0 p1 p2 : Int) (p3 p4 p5 p6 p7 : List Int) (p8 : Int) (p9 : List (List Int)) : Option AV := loopF F81k19.E n (inLoop (subC [1,1,1,1,1,1,1,1,1,1,1,1,1,1,0,1,0] F81k19.body)) K ⟨slots 215 [(2, .pb 0 0), (5, .v (.int .i64) p0), (12, .v (.int .i64) p1)], [.box (bC p2 p3 p4 p5 p6 p7 p8 p9)]⟩
theorem F81k19.start_eq (k : Nat) (c : (List Int) × ((List Int) × ((List Int) × ((List Int) × ((List Int) × (Int × (List (List Int)))))))) : callW F81k19.E false F81k19.fn k [.agg (bC (19 : Int) c.1 c.2.1 c.2.2.1 c.2.2.2.1 c.2.2.2.2.1 c.2.2.2.2.2.1 c.2.2.2.2.2.2), .v .str ⟨#[86, 99, 100, 107]⟩] =
 bif !(decide (c.2.2.2.2.2.1 = 0)) then
 bif !(listB1 (c.1.length : Int) 0 1) then
 some (.v .bool false)
 else
 bif !(listB1 (c.2.1.length : Int) 0 0) then
 some (.v .bool false)
 else
 bif !(listB1 (c.2.2.1.length : Int) 0 1) then
 some (.v .bool false)
 else
 bif !(listB1 (c.2.2.2.1.length : Int) 0 1) then
 some (.v .bool false)
 else
 bif !(listB1 (c.2.2.2.2.1.length : Int) 0 0) then
 some (.v .bool false)
 else
 bif decide ((c.2.2.2.2.2.2.length : Int) > 0) then
 some (.v .bool false)
 else
 bif !(decide ((c.2.2.1.length : Int) = (c.1.length : Int))) then
 some (.v .bool false)
 else
 bif !(decide ((c.2.2.2.1.length : Int) = (c.1.length : Int))) then
 some (.v .bool false)
 else
 F81k19.l1_1_1_1_1_1_1_1_1_1_1_1_1_1_0_1_0 k (F81k19.kt k [1,1,1,1,1,1,1,1,1,1,1,1,1,1,0,1,0]) (c.1.length : Int) 0 19 c.1 c.2.1 c.2.2.1 c.2.2.2.1 c.2.2.2.2.1 c.2.2.2.2.2.1 c.2.2.2.2.2.2
 else
 bif !(listB1 (c.1.length : Int) 0 1) then
 some (.v .bool false)
 else
 bif !(listB1 (c.2.1.length : Int) 0 0) then
 some (.v .bool false)
 else
 bif !(listB1 (c.2.2.1.length : Int) 0 1) then
 some (.v .bool false)
 else
 bif !(listB1 (c.2.2.2.1.length : Int) 0 1) then
 some (.v .bool false)
 else
 bif !(listB1 (c.2.2.2.2.1.length : Int) 0 0) then
 some (.v .bool false)
 else
 bif decide ((c.2.2.2.2.2.2.length : Int) > 0) then
 some (.v .bool false)
 else
 bif !(decide ((c.2.2.1.length : Int) = (c.1.length : Int))) then
 some (.v .bool false)
 else
 bif !(decide ((c.2.2.2.1.length : Int) = (c.1.length : Int))) then
 some (.v .bool false)
 else
 F81k19.l1_1_1_1_1_1_1_1_1_1_1_1_1_1_0_1_0 k (F81k19.kt k [1,1,1,1,1,1,1,1,1,1,1,1,1,1,0,1,0]) (c.1.length : Int) 0 19 c.1 c.2.1 c.2.2.1 c.2.2.2.1 c.2.2.2.2.1 c.2.2.2.2.2.1 c.2.2.2.2.2.2 := by kernel_rfl
theorem F81k19.l1_1_1_1_1_1_1_1_1_1_1_1_1_1_0_1_0_eq (n : Nat) (K : Conts) (p0 p1 p2 : Int) (p3 p4 p5 p6 p7 : List Int) (p8 : Int) (p9 : List (List Int)) : F81k19.l1_1_1_1_1_1_1_1_1_1_1_1_1_1_0_1_0 (n + 1) K p0 p1 p2 p3 p4 p5 p6 p7 p8 p9 =
 bif decide (p1 < (p9.length : Int)) then
 bif decide (0 ≤ p1) && decide (p1 < p9.length) then
 bif !(decide (((p9.getD p1.toNat []).length : Int) = p0)) then
 K.ret ⟨slots 215 [(4, .v .bool false)], []⟩
 else
 F81k19.l1_1_1_1_1_1_1_1_1_1_1_1_1_1_0_1_0 n K p0 (IntKind.i64.wrap (p1 + 1)) p2 p3 p4 p5 p6 p7 p8 p9
 else
 none
 else
 exitK K 0 ⟨slots 215 [], []⟩ := by kernel_rfl
theorem F81k19.c0 (k : Nat) : (F81k19.kt k [1,1,1,1,1,1,1,1,1,1,1,1,1,1,0,1,0]).ret ⟨slots 215 [(4, .v .bool false)], []⟩ =
 some (.v .bool false) := by kernel_rfl
theorem F81k19.c1 (k : Nat) : exitK (F81k19.kt k [1,1,1,1,1,1,1,1,1,1,1,1,1,1,0,1,0]) 0 ⟨slots 215 [], []⟩ =
 some (.v .bool true) := by kernel_rfl
noncomputable def F81k20.fn : Func := Go.Proofs.Tryz.f63
noncomputable def F81k20.body : Code := bodyOf F81k20.fn
noncomputable def F81k20.E : Env := ⟨tt, [(71, h_hasB), (112, h_listB1)], [(1, [1, 2]), (2, [1, 2, 5]), (3, [1, 2, 5, 6]), (4, [1, 2, 5, 6, 26]), (5, [1, 2, 5, 6]), (6, [1, 2, 5, 6, 29]), (7, [1, 2, 5, 6]), (8, [1, 2, 5, 6, 7]), (9, [1, 2, 5, 6, 7, 8]), (10, [1, 2, 5, 6, 7, 8, 9]), (11, [1, 2, 5, 6, 7, 8, 9, 10]), (12, [1, 2, 5, 6, 7, 8, 9, 10, 11]), (13, [1, 2, 5, 6, 113]), (14, [1, 2, 5, 6]), (15, [2, 5, 6, 139]), (16, [2, 5, 6]), (17, [2, 5, 6, 149]), (18, [2, 5, 6]), (19, [2, 5, 199]), (20, [2, 5]), (21, [2, 5, 12]), (22, [2, 5, 12]), (23, [2, 5, 12]), (24, [2, 5, 12, 214]), (25, [])], [(0, []), (1, [2, 5, 12])], some [4], inv, []⟩
noncomputable def F81k20.K0 : Conts := { nrm := endW F81k20.E false F81k20.fn.results.toList, ret := endW F81k20.E false F81k20.fn.results.toList, ex := [] }
noncomputable def F81k20.kt (k : Nat) (q : List Nat) : Conts := contAt F81k20.E k F81k20.body F81k20.K0 q
noncomputable def F81k20.l1_1_1_1_1_1_1_1_1_1_1_1_1_1_0_1_0 (n : Nat) (K : Conts) (p0 p1 p2 : Int) (p3 p4 p5 p6 p7 : List Int) (p8 : Int) (p9 : List (List Int)) : Option AV := loopF F81k20.E n (inLoop (subC [1,1,1,1,1,1,1,1,1,1,1,1,1,1,0,1,0] F81k20.body)) K ⟨slots 215 [(2, .pb 0 0), (5, .v (.int .i64) p0), (12, .v (.int .i64) p1)], [.box (bC p2 p3 p4 p5 p6 p7 p8 p9)]⟩
theorem F81k20.start_eq (k : Nat) (c : (List Int) × ((List Int) × ((List Int) × ((List Int) × ((List Int) × (Int × (List (List Int)))))))) : callW F81k20.E false F81k20.fn k [.agg (bC (20 : Int) c.1 c.2.1 c.2.2.1 c.2.2.2.1 c.2.2.2.2.1 c.2.2.2.2.2.1 c.2.2.2.2.2.2), .v .str ⟨#[86]⟩] =
 bif !(decide (c.2.2.2.2.2.1 = 0)) then
 some (.v .bool false)
 else
 bif !(listB1 (c.1.length : Int) 0 1) then
 some (.v .bool false)
 else
 bif !(listB1 (c.2.1.length : Int) 0 0) then
 some (.v .bool false)
 else
 bif !(listB1 (c.2.2.1.length : Int) 0 0) then
 some (.v .bool false)
 else
 bif !(listB1 (c.2.2.2.1.length : Int) 0 0) then
 some (.v .bool false)
 else
 bif !(listB1 (c.2.2.2.2.1.length : Int) 0 0) then
 some (.v .bool false)
 else
 bif decide ((c.2.2.2.2.2.2.length : Int) > 0) then
 some (.v .bool false)
 else
 F81k20.l1_1_1_1_1_1_1_1_1_1_1_1_1_1_0_1_0 k (F81k20.kt k [1,1,1,1,1,1,1,1,1,1,1,1,1,1,0,1,0]) (c.1.length : Int) 0 20 c.1 c.2.1 c.2.2.1 c.2.2.2.1 c.2.2.2.2.1 c.2.2.2.2.2.1 c.2.2.2.2.2.2 := by kernel_rfl
theorem F81k20.l1_1_1_1_1_1_1_1_1_1_1_1_1_1_0_1_0_eq (n : Nat) (K : Conts) (p0 p1 p2 : Int) (p3 p4 p5 p6 p7 : List Int) (p8 : Int) (p9 : List (List Int)) : F81k20.l1_1_1_1_1_1_1_1_1_1_1_1_1_1_0_1_0 (n + 1) K p0 p1 p2 p3 p4 p5 p6 p7 p8 p9 =
 bif decide (p1 < (p9.length : Int)) then
 bif decide (0 ≤ p1) && decide (p1 < p9.length) then
 bif !(decide (((p9.getD p1.toNat []).length : Int) = p0)) then
 K.ret ⟨slots 215 [(4, .v .bool false)], []⟩
 else
 F81k20.l1_1_1_1_1_1_1_1_1_1_1_1_1_1_0_1_0 n K p0 (IntKind.i64.wrap (p1 + 1)) p2 p3 p4 p5 p6 p7 p8 p9
 else
 none
 else
 exitK K 0 ⟨slots 215 [], []⟩ := by kernel_rfl
theorem F81k20.c0 (k : Nat) : (F81k20.kt k [1,1,1,1,1,1,1,1,1,1,1,1,1,1,0,1,0]).ret ⟨slots 215 [(4, .v .bool false)], []⟩ =
 some (.v .bool false) := by kernel_rfl
theorem F81k20.c1 (k : Nat) : exitK (F81k20.kt k [1,1,1,1,1,1,1,1,1,1,1,1,1,1,0,1,0]) 0 ⟨slots 215 [], []⟩ =
 some (.v .bool true) := by kernel_rfl
noncomputable def F81k21.fn : Func := Go.Proofs.Tryz.f63
noncomputable def F81k21.body : Code := bodyOf F81k21.fn
noncomputable def F81k21.E : Env := ⟨tt, [(71, h_hasB), (112, h_listB1)], [(1, [1, 2]), (2, [1, 2, 5]), (3, [1, 2, 5, 6]), (4, [1, 2, 5, 6, 26]), (5, [1, 2, 5, 6]), (6, [1, 2, 5, 6, 29]), (7, [1, 2, 5, 6]), (8, [1, 2, 5, 6, 7]), (9, [1, 2, 5, 6, 7, 8]), (10, [1, 2, 5, 6, 7, 8, 9]), (11, [1, 2, 5, 6, 7, 8, 9, 10]), (12, [1, 2, 5, 6, 7, 8, 9, 10, 11]), (13, [1, 2, 5, 6, 113]), (14, [1, 2, 5, 6]), (15, [2, 5, 6, 139]), (16, [2, 5, 6]), (17, [2, 5, 6, 149]), (18, [2, 5, 6]), (19, [2, 5, 199]), (20, [2, 5]), (21, [2, 5, 12]), (22, [2, 5, 12]), (23, [2, 5, 12]), (24, [2, 5, 12, 214]), (25, [])], [(0, []), (1, [2, 5, 12])], some [4], inv, []⟩
noncomputable def F81k21.K0 : Conts := { nrm := endW F81k21.E false F81k21.fn.results.toList, ret := endW F81k21.E false F81k21.fn.results.toList, ex := [] }
noncomputable def F81k21.kt (k : Nat) (q : List Nat) : Conts := contAt F81k21.E k F81k21.body F81k21.K0 q
noncomputable def F81k21.l1_1_1_1_1_1_1_1_1_1_1_1_1_1_0_1_0 (n : Nat) (K : Conts) (p0 p1 p2 : Int) (p3 p4 p5 p6 p7 : List Int) (p8 : Int) (p9 : List (List Int)) : Option AV := loopF F81k21.E n (inLoop (subC [1,1,1,1,1,1,1,1,1,1,1,1,1,1,0,1,0] F81k21.body)) K ⟨slots 215 [(2, .pb 0 0), (5, .v (.int .i64) p0), (12, .v (.int .i64) p1)], [.box (bC p2 p3 p4 p5 p6 p7 p8 p9)]⟩
theorem F81k21.start_eq (k : Nat) (c : (List Int) × ((List Int) × ((List Int) × ((List Int) × ((List Int) × (Int × (List (List Int)))))))) : callW F81k21.E false F81k21.fn k [.agg (bC (21 : Int) c.1 c.2.1 c.2.2.1 c.2.2.2.1 c.2.2.2.2.1 c.2.2.2.2.2.1 c.2.2.2.2.2.2), .v .str ⟨#[86, 99, 100, 101]⟩] =
 bif !(decide (c.2.2.2.2.2.1 = 0)) then
 some (.v .bool false)
 else
 bif !(listB1 (c.1.length : Int) 0 1) then
 some (.v .bool false)
 else
 bif !(listB1 (c.2.1.length : Int) 0 0) then
 some (.v .bool false)
 else
 bif !(listB1 (c.2.2.1.length : Int) 0 1) then
 some (.v .bool false)
 else
 bif !(listB1 (c.2.2.2.1.length : Int) 0 1) then
 some (.v .bool false)
 else
 bif !(listB1 (c.2.2.2.2.1.length : Int) 0 1) then
 some (.v .bool false)
 else
 bif decide ((c.2.2.2.2.2.2.length : Int) > 0) then
 some (.v .bool false)
 else
 bif !(decide ((c.2.2.2.1.length : Int) = (c.2.2.1.length : Int))) then
 some (.v .bool false)
 else
 bif !(decide ((c.2.2.2.2.1.length : Int) = (c.2.2.1.length : Int))) then
 some (.v .bool false)
 else
 F81k21.l1_1_1_1_1_1_1_1_1_1_1_1_1_1_0_1_0 k (F81k21.kt k [1,1,1,1,1,1,1,1,1,1,1,1,1,1,0,1,0]) (c.1.length : Int) 0 21 c.1 c.2.1 c.2.2.1 c.2.2.2.1 c.2.2.2.2.1 c.2.2.2.2.2.1 c.2.2.2.2.2.2 := by kernel_rfl
theorem F81k21.l1_1_1_1_1_1_1_1_1_1_1_1_1_1_0_1_0_eq (n : Nat) (K : Conts) (p0 p1 p2 : Int) (p3 p4 p5 p6 p7 : List Int) (p8 : Int) (p9 : List (List Int)) : F81k21.l1_1_1_1_1_1_1_1_1_1_1_1_1_1_0_1_0 (n + 1) K p0 p1 p2 p3 p4 p5 p6 p7 p8 p9 =
 bif decide (p1 < (p9.length : Int)) then
 bif decide (0 ≤ p1) && decide (p1 < p9.length) then
 bif !(decide (((p9.getD p1.toNat []).length : Int) = p0)) then
 K.ret ⟨slots 215 [(4, .v .bool false)], []⟩
 else
 F81k21.l1_1_1_1_1_1_1_1_1_1_1_1_1_1_0_1_0 n K p0 (IntKind.i64.wrap (p1 + 1)) p2 p3 p4 p5 p6 p7 p8 p9
 else
 none
 else
 exitK K 0 ⟨slots 215 [], []⟩ := by kernel_rfl
theorem F81k21.c0 (k : Nat) : (F81k21.kt k [1,1,1,1,1,1,1,1,1,1,1,1,1,1,0,1,0]).ret ⟨slots 215 [(4, .v .bool false)], []⟩ =
 some (.v .bool false) := by kernel_rfl
theorem F81k21.c1 (k : Nat) : exitK (F81k21.kt k [1,1,1,1,1,1,1,1,1,1,1,1,1,1,0,1,0]) 0 ⟨slots 215 [], []⟩ =
 some (.v .bool true) := by kernel_rfl
noncomputable def F81k22.fn : Func := Go.Proofs.Tryz.f63
noncomputable def F81k22.body : Code := bodyOf F81k22.fn
noncomputable def F81k22.E : Env := ⟨tt, [(71, h_hasB), (112, h_listB1)], [(1, [1, 2]), (2, [1, 2, 5]), (3, [1, 2, 5, 6]), (4, [1, 2, 5, 6, 26]), (5, [1, 2, 5, 6]), (6, [1, 2, 5, 6, 29]), (7, [1, 2, 5, 6]), (8, [1, 2, 5, 6, 7]), (9, [1, 2, 5, 6, 7, 8]), (10, [1, 2, 5, 6, 7, 8, 9]), (11, [1, 2, 5, 6, 7, 8, 9, 10]), (12, [1, 2, 5, 6, 7, 8, 9, 10, 11]), (13, [1, 2, 5, 6, 113]), (14, [1, 2, 5, 6]), (15, [2, 5, 6, 139]), (16, [2, 5, 6]), (17, [2, 5, 6, 149]), (18, [2, 5, 6]), (19, [2, 5, 199]), (20, [2, 5]), (21, [2, 5, 12]), (22, [2, 5, 12]), (23, [2, 5, 12]), (24, [2, 5, 12, 214]), (25, [])], [(0, []), (1, [2, 5, 12])], some [4], inv, []⟩
noncomputable def F81k22.K0 : Conts := { nrm := endW F81k22.E false F81k22.fn.results.toList, ret := endW F81k22.E false F81k22.fn.results.toList, ex := [] }
noncomputable def F81k22.kt (k : Nat) (q : List Nat) : Conts := contAt F81k22.E k F81k22.body F81k22.K0 q
noncomputable def F81k22.l1_1_1_1_1_1_1_1_1_1_1_1_1_1_0_1_0 (n : Nat) (K : Conts) (p0 p1 p2 : Int) (p3 p4 p5 p6 p7 : List Int) (p8 : Int) (p9 : List (List Int)) : Option AV := loopF F81k22.E n (inLoop (subC [1,1,1,1,1,1,1,1,1,1,1,1,1,1,0,1,0] F81k22.body)) K ⟨slots 215 [(2, .pb 0 0), (5, .v (.int .i64) p0), (12, .v (.int .i64) p1)], [.box (bC p2 p3 p4 p5 p6 p7 p8 p9)]⟩
theorem F81k22.start_eq (k : Nat) (c : (List Int) × ((List Int) × ((List Int) × ((List Int) × ((List Int) × (Int × (List (List Int)))))))) : callW F81k22.E false F81k22.fn k [.agg (bC (22 : Int) c.1 c.2.1 c.2.2.1 c.2.2.2.1 c.2.2.2.2.1 c.2.2.2.2.2.1 c.2.2.2.2.2.2), .v .str ⟨#[86, 87]⟩] =
 bif !(decide (c.2.2.2.2.2.1 = 0)) then
 some (.v .bool false)
 else
 bif !(listB1 (c.1.length : Int) 0 1) then
 some (.v .bool false)
 else
 bif !(listB1 (c.2.1.length : Int) 0 1) then
 some (.v .bool false)
 else
 bif !(listB1 (c.2.2.1.length : Int) 0 0) then
 some (.v .bool false)
 else
 bif !(listB1 (c.2.2.2.1.length : Int) 0 0) then
 some (.v .bool false)
 else
 bif !(listB1 (c.2.2.2.2.1.length : Int) 0 0) then
 some (.v .bool false)
 else
 bif decide ((c.2.2.2.2.2.2.length : Int) > 0) then
 some (.v .bool false)
 else
 bif !(decide ((c.2.1.length : Int) = (c.1.length : Int))) then
 some (.v .bool false)
 else
 F81k22.l1_1_1_1_1_1_1_1_1_1_1_1_1_1_0_1_0 k (F81k22.kt k [1,1,1,1,1,1,1,1,1,1,1,1,1,1,0,1,0]) (c.1.length : Int) 0 22 c.1 c.2.1 c.2.2.1 c.2.2.2.1 c.2.2.2.2.1 c.2.2.2.2.2.1 c.2.2.2.2.2.2 := by kernel_rfl
theorem F81k22.l1_1_1_1_1_1_1_1_1_1_1_1_1_1_0_1_0_eq (n : Nat) (K : Conts) (p0 p1 p2 : Int) (p3 p4 p5 p6 p7 : List Int) (p8 : Int) (p9 : List (List Int)) : F81k22.l1_1_1_1_1_1_1_1_1_1_1_1_1_1_0_1_0 (n + 1) K p0 p1 p2 p3 p4 p5 p6 p7 p8 p9 =
 bif decide (p1 < (p9.length : Int)) then
 bif decide (0 ≤ p1) && decide (p1 < p9.length) then
 bif !(decide (((p9.getD p1.toNat []).length : Int) = p0)) then
 K.ret ⟨slots 215 [(4, .v .bool false)], []⟩
 else
 F81k22.l1_1_1_1_1_1_1_1_1_1_1_1_1_1_0_1_0 n K p0 (IntKind.i64.wrap (p1 + 1)) p2 p3 p4 p5 p6 p7 p8 p9
 else
 none
 else
 exitK K 0 ⟨slots 215 [], []⟩ := by kernel_rfl
theorem F81k22.c0 (k : Nat) : (F81k22.kt k [1,1,1,1,1,1,1,1,1,1,1,1,1,1,0,1,0]).ret ⟨slots 215 [(4, .v .bool false)], []⟩ =
 some (.v .bool false) := by kernel_rfl
theorem F81k22.c1 (k : Nat) : exitK (F81k22.kt k [1,1,1,1,1,1,1,1,1,1,1,1,1,1,0,1,0]) 0 ⟨slots 215 [], []⟩ =
 some (.v .bool true) := by kernel_rfl
noncomputable def F81k23.fn : Func := Go.Proofs.Tryz.f63
noncomputable def F81k23.body : Code := bodyOf F81k23.fn
noncomputable def F81k23.E : Env := ⟨tt, [(71, h_hasB), (112, h_listB1)], [(1, [1, 2]), (2, [1, 2, 5]), (3, [1, 2, 5, 6]), (4, [1, 2, 5, 6, 26]), (5, [1, 2, 5, 6]), (6, [1, 2, 5, 6, 29]), (7, [1, 2, 5, 6]), (8, [1, 2, 5, 6, 7]), (9, [1, 2, 5, 6, 7, 8]), (10, [1, 2, 5, 6, 7, 8, 9]), (11, [1, 2, 5, 6, 7, 8, 9, 10]), (12, [1, 2, 5, 6, 7, 8, 9, 10, 11]), (13, [1, 2, 5, 6, 113]), (14, [1, 2, 5, 6]), (15, [2, 5, 6, 139]), (16, [2, 5, 6]), (17, [2, 5, 6, 149]), (18, [2, 5, 6]), (19, [2, 5, 199]), (20, [2, 5]), (21, [2, 5, 12]), (22, [2, 5, 12]), (23, [2, 5, 12]), (24, [2, 5, 12, 214]), (25, [])], [(0, []), (1, [2, 5, 12])], some [4], inv, []⟩
noncomputable def F81k23.K0 : Conts := { nrm := endW F81k23.E false F81k23.fn.results.toList, ret := endW F81k23.E false F81k23.fn.results.toList, ex := [] }
noncomputable def F81k23.kt (k : Nat) (q : List Nat) : Conts := contAt F81k23.E k F81k23.body F81k23.K0 q
noncomputable def F81k23.l1_1_1_1_1_1_1_1_1_1_1_1_1_1_0_1_0 (n : Nat) (K : Conts) (p0 p1 p2 : Int) (p3 p4 p5 p6 p7 : List Int) (p8 : Int) (p9 : List (List Int)) : Option AV := loopF F81k23.E n (inLoop (subC [1,1,1,1,1,1,1,1,1,1,1,1,1,1,0,1,0] F81k23.body)) K ⟨slots 215 [(2, .pb 0 0), (5, .v (.int .i64) p0), (12, .v (.int .i64) p1)], [.box (bC p2 p3 p4 p5 p6 p7 p8 p9)]⟩
theorem F81k23.start_eq (k : Nat) (c : (List Int) × ((List Int) × ((List Int) × ((List Int) × ((List Int) × (Int × (List (List Int)))))))) : callW F81k23.E false F81k23.fn k [.agg (bC (23 : Int) c.1 c.2.1 c.2.2.1 c.2.2.2.1 c.2.2.2.2.1 c.2.2.2.2.2.1 c.2.2.2.2.2.2), .v .str ⟨#[86, 87]⟩] =
 bif !(decide (c.2.2.2.2.2.1 = 0)) then
 some (.v .bool false)
 else
 bif !(listB1 (c.1.length : Int) 0 1) then
 some (.v .bool false)
 else
 bif !(listB1 (c.2.1.length : Int) 0 1) then
 some (.v .bool false)
 else
 bif !(listB1 (c.2.2.1.length : Int) 0 0) then
 some (.v .bool false)
 else
 bif !(listB1 (c.2.2.2.1.length : Int) 0 0) then
 some (.v .bool false)
 else
 bif !(listB1 (c.2.2.2.2.1.length : Int) 0 0) then
 some (.v .bool false)
 else
 bif decide ((c.2.2.2.2.2.2.length : Int) > 0) then
 some (.v .bool false)
 else
 bif !(decide ((c.2.1.length : Int) = (c.1.length : Int))) then
 some (.v .bool false)
 else
 F81k23.l1_1_1_1_1_1_1_1_1_1_1_1_1_1_0_1_0 k (F81k23.kt k [1,1,1,1,1,1,1,1,1,1,1,1,1,1,0,1,0]) (c.1.length : Int) 0 23 c.1 c.2.1 c.2.2.1 c.2.2.2.1 c.2.2.2.2.1 c.2.2.2.2.2.1 c.2.2.2.2.2.2 := by kernel_rfl
theorem F81k23.l1_1_1_1_1_1_1_1_1_1_1_1_1_1_0_1_0_eq (n : Nat) (K : Conts) (p0 p1 p2 : Int) (p3 p4 p5 p6 p7 : List Int) (p8 : Int) (p9 : List (List Int)) : F81k23.l1_1_1_1_1_1_1_1_1_1_1_1_1_1_0_1_0 (n + 1) K p0 p1 p2 p3 p4 p5 p6 p7 p8 p9 =
 bif decide (p1 < (p9.length : Int)) then
 bif decide (0 ≤ p1) && decide (p1 < p9.length) then
 bif !(decide (((p9.getD p1.toNat []).length : Int) = p0)) then
 K.ret ⟨slots 215 [(4, .v .bool false)], []⟩
 else
 F81k23.l1_1_1_1_1_1_1_1_1_1_1_1_1_1_0_1_0 n K p0 (IntKind.i64.wrap (p1 + 1)) p2 p3 p4 p5 p6 p7 p8 p9
 else
 none
 else
 exitK K 0 ⟨slots 215 [], []⟩ := by kernel_rfl
theorem F81k23.c0 (k : Nat) : (F81k23.kt k [1,1,1,1,1,1,1,1,1,1,1,1,1,1,0,1,0]).ret ⟨slots 215 [(4, .v .bool false)], []⟩ =
 some (.v .bool false) := by kernel_rfl
theorem F81k23.c1 (k : Nat) : exitK (F81k23.kt k [1,1,1,1,1,1,1,1,1,1,1,1,1,1,0,1,0]) 0 ⟨slots 215 [], []⟩ =
 some (.v .bool true) := by kernel_rfl
end Go.Proofs.YtlfdikofmfhefaaGreatDoor.Ev
