/-
The functions as the evaluator runs them: printed by a program of mine, each equation by kernel_rfl.
Conditions: none.
-/
import Derived.Test.YtnojoaghcbljfaaGreatDoorAa
set_option linter.unusedVariables false
set_option linter.unusedSimpArgs false
set_option maxRecDepth 100000
namespace Go.Proofs.YtnojoaghcbljfaaGreatDoor.Ev
open Go
noncomputable def F48.fn : Func := Go.Proofs.Tryz.f48
noncomputable def F48.E : Env := ⟨tt, [(90, h_anyE), (93, h_rightM)], [(1, [1, 2, 3, 4]), (2, [1, 2, 3, 4, 9])], [], some [8], inv, []⟩
theorem F48.start_eq (k : Nat) (a0 : Con) (a1 : List Dom) (a2 a3 : Int) : callW F48.E false F48.fn k [.agg (bC a0.1 a0.2.1 a0.2.2.1 a0.2.2.2.1 a0.2.2.2.2.1 a0.2.2.2.2.2.1 a0.2.2.2.2.2.2.1 a0.2.2.2.2.2.2.2), .v (.sl DomT) a1, .v (.int .i64) a2, .v (.int .i64) a3] =
 bif decide (a0.1 ≥ a2) then
 bif decide (a0.1 ≤ a3) then
 bif kindB a0 then
 bif decide ((rightM a0 256) = 0) then
 bif decide ((a1.length : Int) = (IntKind.i64.wrap ((a0.2.1.length : Int) + (a0.2.2.1.length : Int)))) then
 some (.v .bool (!(List.any a1 emptyD)))
 else
 some (.v .bool false)
 else
 some (.v .bool false)
 else
 none
 else
 some (.v .bool false)
 else
 some (.v .bool false) := by kernel_rfl
noncomputable def F25.fn : Func := Go.Proofs.Tryz.f33
noncomputable def F25.body : Code := bodyOf F25.fn
noncomputable def F25.E : Env := ⟨tt, [(64, h_rightR)], [(1, [1, 2, 3, 4]), (2, [1, 4, 32]), (3, [1, 4]), (4, [1, 9]), (5, [1, 36]), (6, [1]), (7, [1, 10]), (8, [1, 10]), (9, [1, 10]), (10, [1, 10, 48]), (11, [])], [(0, []), (1, [1, 10])], some [8], inv, []⟩
noncomputable def F25.K0 : Conts := { nrm := endW F25.E false F25.fn.results.toList, ret := endW F25.E false F25.fn.results.toList, ex := [] }
noncomputable def F25.kt (k : Nat) (q : List Nat) : Conts := contAt F25.E k F25.body F25.K0 q
noncomputable def F25.l1_1_1_1_0_1_0 (n : Nat) (K : Conts) (p0 : List (List Int)) (p1 : Int) : Option AV := loopF F25.E n (inLoop (subC [1,1,1,1,0,1,0] F25.body)) K ⟨slots 49 [(1, .v (.sl (.sl (.int .i64))) p0), (10, .v (.int .i64) p1)], []⟩
theorem F25.start_eq (k : Nat) (a0 : Con) (a1 : List (List Int)) (a2 a3 : Int) : callW F25.E false F25.fn k [.agg (bC a0.1 a0.2.1 a0.2.2.1 a0.2.2.2.1 a0.2.2.2.2.1 a0.2.2.2.2.2.1 a0.2.2.2.2.2.2.1 a0.2.2.2.2.2.2.2), .v (.sl (.sl (.int .i64))) a1, .v (.int .i64) a2, .v (.int .i64) a3] =
 bif decide (a0.1 < a2) then
 some (.v .bool false)
 else
 bif decide (a0.1 > a3) then
 some (.v .bool false)
 else
 bif !(decide ((a1.length : Int) = (IntKind.i64.wrap ((a0.2.1.length : Int) + (a0.2.2.1.length : Int))))) then
 some (.v .bool false)
 else
 bif kindB a0 then
 bif !(decide ((rightR a0 256) = 0)) then some (.v .bool false) else F25.l1_1_1_1_0_1_0 k (F25.kt k [1,1,1,1,0,1,0]) a1 0
 else
 none := by kernel_rfl
theorem F25.l1_1_1_1_0_1_0_eq (n : Nat) (K : Conts) (p0 : List (List Int)) (p1 : Int) : F25.l1_1_1_1_0_1_0 (n + 1) K p0 p1 =
 bif decide (p1 < (p0.length : Int)) then
 bif decide (0 ≤ p1) && decide (p1 < p0.length) then
 bif decide (((p0.getD p1.toNat []).length : Int) = 0) then K.ret ⟨slots 49 [(8, .v .bool false)], []⟩ else F25.l1_1_1_1_0_1_0 n K p0 (IntKind.i64.wrap (p1 + 1))
 else
 none
 else
 exitK K 0 ⟨slots 49 [], []⟩ := by kernel_rfl
theorem F25.c0 (k : Nat) : (F25.kt k [1,1,1,1,0,1,0]).ret ⟨slots 49 [(8, .v .bool false)], []⟩ =
 some (.v .bool false) := by kernel_rfl
theorem F25.c1 (k : Nat) : exitK (F25.kt k [1,1,1,1,0,1,0]) 0 ⟨slots 49 [], []⟩ =
 some (.v .bool true) := by kernel_rfl
end Go.Proofs.YtnojoaghcbljfaaGreatDoor.Ev
