/-
The functions as the evaluator runs them: printed by a program of mine, each equation by kernel_rfl.
Conditions: none.
-/
import Derived.Test.YtnojoaghcbljfaaGreatDoorAa
set_option linter.unusedVariables false
set_option linter.unusedSimpArgs false
set_option maxRecDepth 100000
namespace Go.Proofs.YtnojoaghcbljfaaGreatDoor.Ev
open Go
noncomputable def F87.fn : Func := Go.Proofs.Tryz.f115
noncomputable def F87.body : Code := bodyOf F87.fn
noncomputable def F87.E : Env := ⟨tt, [], [(1, [0, 1]), (2, [0, 1, 5]), (3, [0, 1, 5]), (4, [0, 1, 5]), (5, [0, 1, 5, 17]), (6, [])], [(0, []), (1, [0, 1, 5])], some [4], inv, []⟩
noncomputable def F87.K0 : Conts := { nrm := endW F87.E false F87.fn.results.toList, ret := endW F87.E false F87.fn.results.toList, ex := [] }
noncomputable def F87.kt (k : Nat) (q : List Nat) : Conts := contAt F87.E k F87.body F87.K0 q
noncomputable def F87.l1_0_1_0 (n : Nat) (K : Conts) (p0 : List Int) (p1 p2 : Int) : Option AV := loopF F87.E n (inLoop (subC [1,0,1,0] F87.body)) K ⟨slots 18 [(0, .v (.sl (.int .i64)) p0), (1, .v (.int .i64) p1), (5, .v (.int .i64) p2)], []⟩
theorem F87.start_eq (k : Nat) (a0 : List Int) (a1 : Int) : callW F87.E false F87.fn k [.v (.sl (.int .i64)) a0, .v (.int .i64) a1] =
 F87.l1_0_1_0 k (F87.kt k [1,0,1,0]) a0 a1 0 := by kernel_rfl
theorem F87.l1_0_1_0_eq (n : Nat) (K : Conts) (p0 : List Int) (p1 p2 : Int) : F87.l1_0_1_0 (n + 1) K p0 p1 p2 =
 bif decide (p2 < (p0.length : Int)) then
 bif decide (0 ≤ p2) && decide (p2 < p0.length) then
 bif decide ((p0.getD p2.toNat (0 : Int)) = p1) then K.ret ⟨slots 18 [(4, .v .bool true)], []⟩ else F87.l1_0_1_0 n K p0 p1 (IntKind.i64.wrap (p2 + 1))
 else
 none
 else
 exitK K 0 ⟨slots 18 [], []⟩ := by kernel_rfl
theorem F87.c0 (k : Nat) : (F87.kt k [1,0,1,0]).ret ⟨slots 18 [(4, .v .bool true)], []⟩ =
 some (.v .bool true) := by kernel_rfl
theorem F87.c1 (k : Nat) : exitK (F87.kt k [1,0,1,0]) 0 ⟨slots 18 [], []⟩ =
 some (.v .bool false) := by kernel_rfl
noncomputable def F22.fn : Func := Go.Proofs.Tryz.f20
noncomputable def F22.body : Code := bodyOf F22.fn
noncomputable def F22.E : Env := ⟨tt, [], [(1, [0, 1]), (2, [0, 1, 11]), (3, [0, 1]), (4, [0, 1, 5]), (5, [0, 1, 5]), (6, [0, 1, 5]), (7, [0, 1, 5, 28]), (8, [0, 1, 5]), (9, [0, 1, 5, 6]), (10, [0, 1, 5, 6]), (11, [0, 1, 5, 6]), (12, [0, 1, 5, 6, 52]), (13, [])], [(0, []), (1, [0, 1, 5]), (2, [0, 1, 5]), (3, [0, 1, 5, 6])], some [4], inv, []⟩
noncomputable def F22.K0 : Conts := { nrm := endW F22.E false F22.fn.results.toList, ret := endW F22.E false F22.fn.results.toList, ex := [] }
noncomputable def F22.kt (k : Nat) (q : List Nat) : Conts := contAt F22.E k F22.body F22.K0 q
noncomputable def F22.l1_1_0_1_0 (n : Nat) (K : Conts) (p0 p1 : List (List Int)) (p2 : Int) : Option AV := loopF F22.E n (inLoop (subC [1,1,0,1,0] F22.body)) K ⟨slots 53 [(0, .v (.sl (.sl (.int .i64))) p0), (1, .v (.sl (.sl (.int .i64))) p1), (5, .v (.int .i64) p2)], []⟩
noncomputable def F22.k_l1_1_0_1_0 (n : Nat) (K : Conts) (q : List Nat) : Conts := contAt F22.E n (inLoop (subC [1, 1, 0, 1, 0] F22.body)) (loopK F22.E n (inLoop (subC [1, 1, 0, 1, 0] F22.body)) K) q
noncomputable def F22.l1_1_0_1_0_0_1_0_0_1_1_0 (n : Nat) (K : Conts) (p0 p1 : List (List Int)) (p2 p3 : Int) : Option AV := loopF F22.E n (inLoop (subC [1,1,0,1,0,0,1,0,0,1,1,0] F22.body)) K ⟨slots 53 [(0, .v (.sl (.sl (.int .i64))) p0), (1, .v (.sl (.sl (.int .i64))) p1), (5, .v (.int .i64) p2), (6, .v (.int .i64) p3)], []⟩
theorem F22.start_eq (k : Nat) (a0 a1 : List (List Int)) : callW F22.E false F22.fn k [.v (.sl (.sl (.int .i64))) a0, .v (.sl (.sl (.int .i64))) a1] =
 bif !(decide ((a0.length : Int) = (a1.length : Int))) then some (.v .bool false) else F22.l1_1_0_1_0 k (F22.kt k [1,1,0,1,0]) a0 a1 0 := by kernel_rfl
theorem F22.l1_1_0_1_0_eq (n : Nat) (K : Conts) (p0 p1 : List (List Int)) (p2 : Int) : F22.l1_1_0_1_0 (n + 1) K p0 p1 p2 =
 bif decide (p2 < (p0.length : Int)) then
 bif decide (0 ≤ p2) && decide (p2 < p0.length) then
 bif decide (0 ≤ p2) && decide (p2 < p1.length) then
 bif !(decide (((p0.getD p2.toNat []).length : Int) = ((p1.getD p2.toNat []).length : Int))) then
 K.ret ⟨slots 53 [(4, .v .bool false)], []⟩
 else
 F22.l1_1_0_1_0_0_1_0_0_1_1_0 n (F22.k_l1_1_0_1_0 n K [1,0,0,1,1,0]) p0 p1 p2 0
 else
 none
 else
 none
 else
 exitK K 0 ⟨slots 53 [], []⟩ := by kernel_rfl
theorem F22.l1_1_0_1_0_0_1_0_0_1_1_0_eq (n : Nat) (K : Conts) (p0 p1 : List (List Int)) (p2 p3 : Int) : F22.l1_1_0_1_0_0_1_0_0_1_1_0 (n + 1) K p0 p1 p2 p3 =
 bif decide (0 ≤ p2) && decide (p2 < p0.length) then
 bif decide (p3 < ((p0.getD p2.toNat []).length : Int)) then
 bif decide (0 ≤ p2) && decide (p2 < p0.length) then
 bif decide (0 ≤ p3) && decide (p3 < (p0.getD p2.toNat []).length) then
 bif decide (0 ≤ p2) && decide (p2 < p1.length) then
 bif decide (0 ≤ p3) && decide (p3 < (p1.getD p2.toNat []).length) then
 bif !(decide (((p0.getD p2.toNat []).getD p3.toNat (0 : Int)) = ((p1.getD p2.toNat []).getD p3.toNat (0 : Int)))) then
 K.ret ⟨slots 53 [(4, .v .bool false)], []⟩
 else
 F22.l1_1_0_1_0_0_1_0_0_1_1_0 n K p0 p1 p2 (IntKind.i64.wrap (p3 + 1))
 else
 none
 else
 none
 else
 none
 else
 none
 else
 exitK K 2 ⟨slots 53 [(0, .v (.sl (.sl (.int .i64))) p0), (1, .v (.sl (.sl (.int .i64))) p1), (5, .v (.int .i64) p2)], []⟩
 else
 none := by kernel_rfl
theorem F22.c0 (k : Nat) : (F22.kt k [1,1,0,1,0]).ret ⟨slots 53 [(4, .v .bool false)], []⟩ =
 some (.v .bool false) := by kernel_rfl
theorem F22.c1 (k : Nat) : exitK (F22.kt k [1,1,0,1,0]) 0 ⟨slots 53 [], []⟩ =
 some (.v .bool true) := by kernel_rfl
theorem F22.c2 (n : Nat) (K : Conts) : (F22.k_l1_1_0_1_0 n K [1,0,0,1,1,0]).ret ⟨slots 53 [(4, .v .bool false)], []⟩ =
 K.ret ⟨slots 53 [(4, .v .bool false)], []⟩ := by kernel_rfl
theorem F22.c3 (n : Nat) (K : Conts) (p0 p1 : List (List Int)) (p2 : Int) : exitK (F22.k_l1_1_0_1_0 n K [1,0,0,1,1,0]) 2 ⟨slots 53 [(0, .v (.sl (.sl (.int .i64))) p0), (1, .v (.sl (.sl (.int .i64))) p1), (5, .v (.int .i64) p2)], []⟩ =
 F22.l1_1_0_1_0 n K p0 p1 (IntKind.i64.wrap (p2 + 1)) := by kernel_rfl
end Go.Proofs.YtnojoaghcbljfaaGreatDoor.Ev
