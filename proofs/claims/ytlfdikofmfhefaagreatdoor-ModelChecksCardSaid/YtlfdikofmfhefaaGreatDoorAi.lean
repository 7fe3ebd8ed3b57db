/-
The functions as the evaluator runs them: printed by a program of mine, each equation by kernel_rfl.
Conditions: none.
The functions as the evaluator runs them: printed by a program of mine, each equation by kernel_rfl.
Conditions: none.
-/
import Derived.Test.YtlfdikofmfhefaaGreatDoorAa
set_option linter.unusedVariables false
set_option linter.unusedSimpArgs false
set_option maxRecDepth 100000
namespace Go.Proofs.YtlfdikofmfhefaaGreatDoor.Ev
open Go
noncomputable def F91.fn : Func := Go.Proofs.Tryz.f31
noncomputable def F91.E : Env := ⟨tt, [(29, h_word), (66, h_forms)], [(1, [0]), (2, [0, 4]), (3, [0, 11]), (4, [0])], [], some [2], inv, []⟩
theorem F91.start_eq (k : Nat) (a0 : Int) : callW F91.E false F91.fn k [.v (.int .i64) a0] =
 bif !(inS a0) then
 some (.v .str ⟨#[]⟩)
 else
 bif decide (0 ≤ (IntKind.i64.wrap (a0 - 1))) && decide ((IntKind.i64.wrap (a0 - 1)) < formsL.length) then
 some (.v .str ((formsL.getD ((IntKind.i64.wrap (a0 - 1)).toNat) (ByteArray.empty, ByteArray.empty)).2))
 else
 none := by kernel_rfl
noncomputable def F103.fn : Func := Go.Proofs.Tryz.f29
noncomputable def F103.E : Env := ⟨tt, [(66, h_forms)], [(1, [0]), (2, [0, 11]), (3, [0])], [], some [2, 3], inv, []⟩
theorem F103.start_eq (k : Nat) (a0 : Int) : callW F103.E false F103.fn k [.v (.int .i64) a0] =
 bif decide (a0 < 1) then
 some (.tup [.v .str ⟨#[]⟩, .v .bool false])
 else
 bif decide (a0 > (formsL.length : Int)) then
 some (.tup [.v .str ⟨#[]⟩, .v .bool false])
 else
 bif decide (0 ≤ (IntKind.i64.wrap (a0 - 1))) && decide ((IntKind.i64.wrap (a0 - 1)) < formsL.length) then
 some (.tup [.v .str ((formsL.getD ((IntKind.i64.wrap (a0 - 1)).toNat) (ByteArray.empty, ByteArray.empty)).1), .v .bool true])
 else
 none := by kernel_rfl
noncomputable def F95.fn : Func := Go.Proofs.Tryz.f56
noncomputable def F95.E : Env := ⟨tt, [(106, h_concatL)], [(1, [1])], [], some [2], inv, []⟩
theorem F95.start_eq (k : Nat) (a0 : Con) : callW F95.E false F95.fn k [.agg (bC a0.1 a0.2.1 a0.2.2.1 a0.2.2.2.1 a0.2.2.2.2.1 a0.2.2.2.2.2.1 a0.2.2.2.2.2.2.1 a0.2.2.2.2.2.2.2)] =
 bif concatB [a0.2.1, a0.2.2.1] then some (.v (.sl (.int .i64)) (concatL [a0.2.1, a0.2.2.1])) else none := by kernel_rfl
noncomputable def F110.fn : Func := Go.Proofs.Tryz.f106
noncomputable def F110.body : Code := bodyOf F110.fn
noncomputable def F110.E : Env := ⟨tt, [(141, h_grow)], [(1, [0]), (2, [0, 3]), (3, [0, 3, 9, 10, 11]), (4, [0, 3, 9, 10, 11, 12]), (5, [0, 3, 5, 9, 10, 11]), (6, [0, 3, 9, 10, 11]), (7, [0, 3, 9, 10, 11, 20]), (8, [0, 3, 9, 10, 11]), (9, [0, 3]), (10, [0, 6]), (11, [6, 25, 26, 27]), (12, [6, 25, 26, 27, 28]), (13, [6, 8, 25, 26, 27]), (14, [6, 25, 26, 27]), (15, [6])], [(0, [0, 3]), (1, [0, 3, 9, 10, 11]), (2, [6]), (3, [6, 25, 26, 27])], some [2], inv, []⟩
noncomputable def F110.K0 : Conts := { nrm := endW F110.E false F110.fn.results.toList, ret := endW F110.E false F110.fn.results.toList, ex := [] }
noncomputable def F110.kt (k : Nat) (q : List Nat) : Conts := contAt F110.E k F110.body F110.K0 q
noncomputable def F110.l1_1_0_1_0 (n : Nat) (K : Conts) (p0 : List (List Int)) (p1 : Int) (p2 : List (List Int)) (p3 p4 : Int) : Option AV := loopF F110.E n (inLoop (subC [1,1,0,1,0] F110.body)) K ⟨slots 36 [(0, .v (.sl (.sl (.int .i64))) p0), (3, .v (.int .i64) p1), (9, .v (.sl (.sl (.int .i64))) p2), (10, .v (.int .i64) p3), (11, .v (.int .i64) p4)], []⟩
noncomputable def F110.l1_1_1_1_0_1_0 (n : Nat) (K : Conts) (p0 : List (List Int)) (p1 p2 : Int) (p3 : List Int) : Option AV := loopF F110.E n (inLoop (subC [1,1,1,1,0,1,0] F110.body)) K ⟨slots 36 [(6, .own 0), (25, .v (.sl (.sl (.int .i64))) p0), (26, .v (.int .i64) p1), (27, .v (.int .i64) p2)], [.row 3 (.int .i64) p3]⟩
theorem F110.start_eq (k : Nat) (a0 : List (List Int)) : callW F110.E false F110.fn k [.v (.sl (.sl (.int .i64))) a0] =
 F110.l1_1_0_1_0 k (F110.kt k [1,1,0,1,0]) a0 0 a0 (a0.length : Int) 0 := by kernel_rfl
theorem F110.l1_1_0_1_0_eq (n : Nat) (K : Conts) (p0 : List (List Int)) (p1 : Int) (p2 : List (List Int)) (p3 p4 : Int) : F110.l1_1_0_1_0 (n + 1) K p0 p1 p2 p3 p4 =
 bif decide (p4 < p3) then
 bif decide (0 ≤ p4) && decide (p4 < p2.length) then
 bif decide ((IntKind.i64.wrap (p1 + ((p2.getD p4.toNat []).length : Int))) < 0) then
 none
 else
 F110.l1_1_0_1_0 n K p0 (IntKind.i64.wrap (p1 + ((p2.getD p4.toNat []).length : Int))) p2 p3 (IntKind.i64.wrap (p4 + 1))
 else
 none
 else
 exitK K 0 ⟨slots 36 [(0, .v (.sl (.sl (.int .i64))) p0), (3, .v (.int .i64) p1)], []⟩ := by kernel_rfl
theorem F110.c0 (k : Nat) (p0 : List (List Int)) (p1 : Int) : exitK (F110.kt k [1,1,0,1,0]) 0 ⟨slots 36 [(0, .v (.sl (.sl (.int .i64))) p0), (3, .v (.int .i64) p1)], []⟩ =
 bif growB p1 then F110.l1_1_1_1_0_1_0 k (F110.kt k [1,1,1,1,0,1,0]) p0 (p0.length : Int) 0 [] else none := by kernel_rfl
theorem F110.l1_1_1_1_0_1_0_eq (n : Nat) (K : Conts) (p0 : List (List Int)) (p1 p2 : Int) (p3 : List Int) : F110.l1_1_1_1_0_1_0 (n + 1) K p0 p1 p2 p3 =
 bif decide (p2 < p1) then
 bif decide (0 ≤ p2) && decide (p2 < p0.length) then
 bif decide ((p3.length + (p0.getD p2.toNat []).length) * 8 ≤ LIM) then
 F110.l1_1_1_1_0_1_0 n K p0 p1 (IntKind.i64.wrap (p2 + 1)) (p3 ++ (p0.getD p2.toNat []))
 else
 none
 else
 none
 else
 exitK K 2 ⟨slots 36 [(6, .own 0)], [.row 3 (.int .i64) p3]⟩ := by kernel_rfl
theorem F110.c1 (k : Nat) (p0 : List Int) : exitK (F110.kt k [1,1,1,1,0,1,0]) 2 ⟨slots 36 [(6, .own 0)], [.row 3 (.int .i64) p0]⟩ =
 some (.v (.sl (.int .i64)) p0) := by kernel_rfl
noncomputable def F111.fn : Func := Go.Proofs.Tryz.f107
noncomputable def F111.E : Env := ⟨tt, [(55, h_any)], [(1, [0, 3])], [], some [4], inv, []⟩
theorem F111.start_eq (k : Nat) (a0 : List Int) (a1 : Int) : callW F111.E false F111.fn k [.v (.sl (.int .i64)) a0, .v (.int .i64) a1] =
 some (.v .bool (!(List.any a0 (numB a1)))) := by kernel_rfl
end Go.Proofs.YtlfdikofmfhefaaGreatDoor.Ev
set_option linter.unusedVariables false
set_option linter.unusedSimpArgs false
set_option maxRecDepth 100000
namespace Go.Proofs.YtlfdikofmfhefaaGreatDoor.Ev
open Go
end Go.Proofs.YtlfdikofmfhefaaGreatDoor.Ev
