/-
The functions as the evaluator runs them: printed by a program of mine, each equation by kernel_rfl.
Conditions: none.
-/
import Derived.Test.YtnojoaghcbljfaaGreatDoorAa
set_option linter.unusedVariables false
set_option linter.unusedSimpArgs false
set_option maxRecDepth 100000
namespace Go.Proofs.YtnojoaghcbljfaaGreatDoor.Ev
open Go
noncomputable def F48.fn : Func := Go.Proofs.Tryz.f48
noncomputable def F48.E : Env := ⟨tt, [(90, h_anyE), (93, h_rightM)], [(1, [1, 2, 3, 4]), (2, [1, 2, 3, 4, 9])], [], some [8], inv, []⟩
theorem F48.start_eq (k : Nat) (a0 : Con) (a1 : List Dom) (a2 a3 : Int) : callW F48.E false F48.fn k [.agg (bC a0.1 a0.2.1 a0.2.2.1 a0.2.2.2.1 a0.2.2.2.2.1 a0.2.2.2.2.2.1 a0.2.2.2.2.2.2.1 a0.2.2.2.2.2.2.2), .v (.sl DomT) a1, .v (.int .i64) a2, .v (.int .i64) a3] =
 bif decide (a0.1 ≥ a2) then
 bif decide (a0.1 ≤ a3) then
 bif kindB a0 then
 bif decide ((rightM a0 256) = 0) then
 bif decide ((a1.length : Int) = (IntKind.i64.wrap ((a0.2.1.length : Int) + (a0.2.2.1.length : Int)))) then
 some (.v .bool (!(List.any a1 emptyD)))
 else
 some (.v .bool false)
 else
 some (.v .bool false)
 else
 none
 else
 some (.v .bool false)
 else
 some (.v .bool false) := by kernel_rfl
noncomputable def F49.fn : Func := Go.Proofs.Tryz.f49
noncomputable def F49.body : Code := bodyOf F49.fn
noncomputable def F49.E : Env := ⟨tt, [(50, h_ofD)], [(1, [0]), (2, [0, 4]), (3, [4, 9, 10, 11, 470004]), (4, [4, 9, 10, 11, 12]), (5, [4, 6, 9, 10, 11]), (6, [4, 7, 8, 9, 10, 11]), (7, [4, 7, 9, 10, 11, 21]), (8, [4, 7, 9, 10, 11]), (9, [4, 9, 10, 11]), (10, [4])], [(0, [4]), (1, [4, 9, 10, 11])], some [2, 3], inv, []⟩
noncomputable def F49.K0 : Conts := { nrm := endW F49.E false F49.fn.results.toList, ret := endW F49.E false F49.fn.results.toList, ex := [] }
noncomputable def F49.kt (k : Nat) (q : List Nat) : Conts := contAt F49.E k F49.body F49.K0 q
noncomputable def F49.l1_1_0_1_0 (n : Nat) (K : Conts) (p0 : List (List Int)) (p1 p2 : Int) (p3 : List Dom) : Option AV := loopF F49.E n (inLoop (subC [1,1,0,1,0] F49.body)) K ⟨slots 28 [(4, .own 0), (9, .v (.sl (.sl (.int .i64))) p0), (10, .v (.int .i64) p1), (11, .v (.int .i64) p2)], [.row 47 DomT p3]⟩
theorem F49.start_eq (k : Nat) (a0 : List (List Int)) : callW F49.E false F49.fn k [.v (.sl (.sl (.int .i64))) a0] =
 F49.l1_1_0_1_0 k (F49.kt k [1,1,0,1,0]) a0 (a0.length : Int) 0 [] := by kernel_rfl
theorem F49.l1_1_0_1_0_eq (n : Nat) (K : Conts) (p0 : List (List Int)) (p1 p2 : Int) (p3 : List Dom) : F49.l1_1_0_1_0 (n + 1) K p0 p1 p2 p3 =
 bif decide (p2 < p1) then
 bif decide (0 ≤ p2) && decide (p2 < p0.length) then
 bif !(decide (((ofD (p0.getD p2.toNat [])).2) = 0)) then
 K.ret ⟨slots 28 [(2, .nl), (3, .v .bool false)], []⟩
 else
 bif decide ((p3.length + [(ofD (p0.getD p2.toNat [])).1].length) * 56 ≤ LIM) then
 F49.l1_1_0_1_0 n K p0 p1 (IntKind.i64.wrap (p2 + 1)) (p3 ++ [(ofD (p0.getD p2.toNat [])).1])
 else
 none
 else
 none
 else
 exitK K 0 ⟨slots 28 [(4, .own 0)], [.row 47 DomT p3]⟩ := by kernel_rfl
theorem F49.c0 (k : Nat) : (F49.kt k [1,1,0,1,0]).ret ⟨slots 28 [(2, .nl), (3, .v .bool false)], []⟩ =
 some (.tup [.nl, .v .bool false]) := by kernel_rfl
theorem F49.c1 (k : Nat) (p0 : List Dom) : exitK (F49.kt k [1,1,0,1,0]) 0 ⟨slots 28 [(4, .own 0)], [.row 47 DomT p0]⟩ =
 some (.tup [.v (.sl DomT) p0, .v .bool true]) := by kernel_rfl
end Go.Proofs.YtnojoaghcbljfaaGreatDoor.Ev
