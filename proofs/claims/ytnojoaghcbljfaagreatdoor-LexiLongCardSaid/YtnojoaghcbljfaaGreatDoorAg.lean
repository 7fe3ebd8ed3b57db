/-
The functions as the evaluator runs them: printed by a program of mine, each equation by kernel_rfl.
Conditions: none.
-/
import Derived.Test.YtnojoaghcbljfaaGreatDoorAa
set_option linter.unusedVariables false
set_option linter.unusedSimpArgs false
set_option maxRecDepth 100000
namespace Go.Proofs.YtnojoaghcbljfaaGreatDoor.Ev
open Go
noncomputable def F65.fn : Func := Go.Proofs.Tryz.f47
noncomputable def F65.body : Code := bodyOf F65.fn
noncomputable def F65.E : Env := ⟨tt, [], [(1, [0, 1]), (2, [0, 1, 7, 8]), (3, [0, 1, 7, 8, 9]), (4, [0, 1, 5, 7, 8]), (5, [0, 1, 5, 7, 8, 16]), (6, [0, 1, 7, 8]), (7, [])], [(0, []), (1, [0, 1, 7, 8])], some [4], inv, []⟩
noncomputable def F65.K0 : Conts := { nrm := endW F65.E false F65.fn.results.toList, ret := endW F65.E false F65.fn.results.toList, ex := [] }
noncomputable def F65.kt (k : Nat) (q : List Nat) : Conts := contAt F65.E k F65.body F65.K0 q
noncomputable def F65.l1_0_1_0 (n : Nat) (K : Conts) (p0 : List Int) (p1 p2 p3 : Int) : Option AV := loopF F65.E n (inLoop (subC [1,0,1,0] F65.body)) K ⟨slots 19 [(0, .v (.sl (.int .i64)) p0), (1, .v (.int .i64) p1), (7, .v (.int .i64) p2), (8, .v (.int .i64) p3)], []⟩
theorem F65.start_eq (k : Nat) (a0 : List Int) (a1 : Int) : callW F65.E false F65.fn k [.v (.sl (.int .i64)) a0, .v (.int .i64) a1] =
 F65.l1_0_1_0 k (F65.kt k [1,0,1,0]) a0 a1 (a0.length : Int) 0 := by kernel_rfl
theorem F65.l1_0_1_0_eq (n : Nat) (K : Conts) (p0 : List Int) (p1 p2 p3 : Int) : F65.l1_0_1_0 (n + 1) K p0 p1 p2 p3 =
 bif decide (p3 < p2) then
 bif decide (0 ≤ p3) && decide (p3 < p0.length) then
 bif decide (p1 = (p0.getD p3.toNat (0 : Int))) then K.ret ⟨slots 19 [(4, .v (.int .i64) p3)], []⟩ else F65.l1_0_1_0 n K p0 p1 p2 (IntKind.i64.wrap (p3 + 1))
 else
 none
 else
 exitK K 0 ⟨slots 19 [], []⟩ := by kernel_rfl
theorem F65.c0 (k : Nat) (p0 : Int) : (F65.kt k [1,0,1,0]).ret ⟨slots 19 [(4, .v (.int .i64) p0)], []⟩ =
 some (.v (.int .i64) p0) := by kernel_rfl
theorem F65.c1 (k : Nat) : exitK (F65.kt k [1,0,1,0]) 0 ⟨slots 19 [], []⟩ =
 some (.v (.int .i64) (-1 : Int)) := by kernel_rfl
noncomputable def F30.fn : Func := Go.Proofs.Tryz.f15
noncomputable def F30.E : Env := ⟨tt, [(47, h_indexL)], [(1, [0, 1])], [], some [4], inv, []⟩
theorem F30.start_eq (k : Nat) (a0 : List Int) (a1 : Int) : callW F30.E false F30.fn k [.v (.sl (.int .i64)) a0, .v (.int .i64) a1] =
 some (.v .bool (decide ((indexL a0 a1) ≥ 0))) := by kernel_rfl
end Go.Proofs.YtnojoaghcbljfaaGreatDoor.Ev
