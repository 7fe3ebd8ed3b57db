/-
The functions as the evaluator runs them: printed by a program of mine, each equation by kernel_rfl.
Conditions: none.
-/
import Derived.Test.YtohdaehblenokaaAa
set_option linter.unusedVariables false
set_option linter.unusedSimpArgs false
set_option maxRecDepth 100000
namespace Go.Proofs.Ytohdaehblenokaa.Ev
open Go
noncomputable def F65.fn : Func := Go.Proofs.Try.f66
noncomputable def F65.body : Code := bodyOf F65.fn
noncomputable def F65.E : Env := ⟨tt, [], [(1, [0, 1]), (2, [0, 1, 7, 8]), (3, [0, 1, 7, 8, 9]), (4, [0, 1, 5, 7, 8]), (5, [0, 1, 5, 7, 8, 16]), (6, [0, 1, 7, 8]), (7, [])], [(0, []), (1, [0, 1, 7, 8])], some [4], inv, []⟩
noncomputable def F65.K0 : Conts := { nrm := endW F65.E false F65.fn.results.toList, ret := endW F65.E false F65.fn.results.toList, ex := [] }
noncomputable def F65.kt (k : Nat) (q : List Nat) : Conts := contAt F65.E k F65.body F65.K0 q
noncomputable def F65.l1_0_1_0 (n : Nat) (K : Conts) (p0 : List Int) (p1 p2 p3 : Int) : Option AV := loopF F65.E n (inLoop (subC [1,0,1,0] F65.body)) K ⟨slots 19 [(0, .v (.sl (.int .i64)) p0), (1, .v (.int .i64) p1), (7, .v (.int .i64) p2), (8, .v (.int .i64) p3)], []⟩
theorem F65.start_eq (k : Nat) (a0 : List Int) (a1 : Int) : callW F65.E false F65.fn k [.v (.sl (.int .i64)) a0, .v (.int .i64) a1] =
 F65.l1_0_1_0 k (F65.kt k [1,0,1,0]) a0 a1 (a0.length : Int) 0 := by kernel_rfl
theorem F65.l1_0_1_0_eq (n : Nat) (K : Conts) (p0 : List Int) (p1 p2 p3 : Int) : F65.l1_0_1_0 (n + 1) K p0 p1 p2 p3 =
 bif decide (p3 < p2) then
 bif decide (0 ≤ p3) && decide (p3 < p0.length) then
 bif decide (p1 = (p0.getD p3.toNat (0 : Int))) then K.ret ⟨slots 19 [(4, .v (.int .i64) p3)], []⟩ else F65.l1_0_1_0 n K p0 p1 p2 (IntKind.i64.wrap (p3 + 1))
 else
 none
 else
 exitK K 0 ⟨slots 19 [], []⟩ := by kernel_rfl
theorem F65.c0 (k : Nat) (p0 : Int) : (F65.kt k [1,0,1,0]).ret ⟨slots 19 [(4, .v (.int .i64) p0)], []⟩ =
 some (.v (.int .i64) p0) := by kernel_rfl
theorem F65.c1 (k : Nat) : exitK (F65.kt k [1,0,1,0]) 0 ⟨slots 19 [], []⟩ =
 some (.v (.int .i64) (-1 : Int)) := by kernel_rfl
noncomputable def F30.fn : Func := Go.Proofs.Try.f52
noncomputable def F30.E : Env := ⟨tt, [(66, h_indexL)], [(1, [0, 1])], [], some [4], inv, []⟩
theorem F30.start_eq (k : Nat) (a0 : List Int) (a1 : Int) : callW F30.E false F30.fn k [.v (.sl (.int .i64)) a0, .v (.int .i64) a1] =
 some (.v .bool (decide ((indexL a0 a1) ≥ 0))) := by kernel_rfl
noncomputable def F54.fn : Func := Go.Proofs.Try.f20
noncomputable def F54.body : Code := bodyOf F54.fn
noncomputable def F54.E : Env := ⟨tt, [], [(1, [0, 1, 2]), (2, [0, 1, 2, 7]), (3, [0, 1, 2, 7, 8, 30007]), (4, [0, 1, 2, 7, 8]), (5, [0, 1, 2, 7, 8]), (6, [0, 1, 2, 7, 8, 9]), (7, [0, 1, 2, 7, 8, 9, 19]), (8, [0, 1, 2, 7, 8, 9]), (9, [7])], [(0, [7]), (1, [0, 1, 2, 7, 8])], some [6], inv, []⟩
noncomputable def F54.K0 : Conts := { nrm := endW F54.E false F54.fn.results.toList, ret := endW F54.E false F54.fn.results.toList, ex := [] }
noncomputable def F54.kt (k : Nat) (q : List Nat) : Conts := contAt F54.E k F54.body F54.K0 q
noncomputable def F54.l1_1_0_1_0 (n : Nat) (K : Conts) (p0 : List Int) (p1 p2 p3 : Int) (p4 : List Int) : Option AV := loopF F54.E n (inLoop (subC [1,1,0,1,0] F54.body)) K ⟨slots 32 [(0, .v (.sl (.int .u8)) p0), (1, .v (.int .i64) p1), (2, .v (.int .i64) p2), (7, .own 0), (8, .v (.int .i64) p3)], [.row 3 (.int .i64) p4]⟩
theorem F54.start_eq (k : Nat) (a0 : List Int) (a1 a2 : Int) : callW F54.E false F54.fn k [.v (.sl (.int .u8)) a0, .v (.int .i64) a1, .v (.int .i64) a2] =
 F54.l1_1_0_1_0 k (F54.kt k [1,1,0,1,0]) a0 a1 a2 0 [] := by kernel_rfl
theorem F54.l1_1_0_1_0_eq (n : Nat) (K : Conts) (p0 : List Int) (p1 p2 p3 : Int) (p4 : List Int) : F54.l1_1_0_1_0 (n + 1) K p0 p1 p2 p3 p4 =
 bif decide (p3 < p1) then
 bif decide (p3 < (p0.length : Int)) then
 bif decide (0 ≤ p3) && decide (p3 < p0.length) then
 bif !decide (p2 = 0) then
 bif decide ((p4.length + [(IntKind.i64.wrap (p0.getD p3.toNat (0 : Int))).tmod p2].length) * 8 ≤ LIM) then
 F54.l1_1_0_1_0 n K p0 p1 p2 (IntKind.i64.wrap (p3 + 1)) (p4 ++ [(IntKind.i64.wrap (p0.getD p3.toNat (0 : Int))).tmod p2])
 else
 none
 else
 none
 else
 none
 else
 bif !decide (p2 = 0) then
 bif decide ((p4.length + [p3.tmod p2].length) * 8 ≤ LIM) then F54.l1_1_0_1_0 n K p0 p1 p2 (IntKind.i64.wrap (p3 + 1)) (p4 ++ [p3.tmod p2]) else none
 else
 none
 else
 exitK K 0 ⟨slots 32 [(7, .own 0)], [.row 3 (.int .i64) p4]⟩ := by kernel_rfl
theorem F54.c0 (k : Nat) (p0 : List Int) : exitK (F54.kt k [1,1,0,1,0]) 0 ⟨slots 32 [(7, .own 0)], [.row 3 (.int .i64) p0]⟩ =
 some (.v (.sl (.int .i64)) p0) := by kernel_rfl
noncomputable def F55.fn : Func := Go.Proofs.Try.f21
noncomputable def F55.body : Code := bodyOf F55.fn
noncomputable def F55.E : Env := ⟨tt, [], [(1, [0, 1, 2, 3, 4]), (2, [0, 1, 2, 3, 4, 11]), (3, [0, 1, 2, 3, 4, 11, 12, 30011]), (4, [0, 1, 2, 3, 4, 11, 12]), (5, [0, 1, 2, 3, 4, 11, 12]), (6, [0, 1, 2, 3, 4, 11, 12, 13]), (7, [0, 1, 2, 3, 4, 11, 12, 13, 24]), (8, [0, 1, 2, 3, 4, 11, 12, 13]), (9, [0, 1, 2, 3, 4, 11, 12, 13]), (10, [0, 1, 2, 3, 4, 11, 12, 13, 40]), (11, [0, 1, 2, 3, 4, 11, 12, 13]), (12, [11])], [(0, [11]), (1, [0, 1, 2, 3, 4, 11, 12])], some [10], inv, []⟩
noncomputable def F55.K0 : Conts := { nrm := endW F55.E false F55.fn.results.toList, ret := endW F55.E false F55.fn.results.toList, ex := [] }
noncomputable def F55.kt (k : Nat) (q : List Nat) : Conts := contAt F55.E k F55.body F55.K0 q
noncomputable def F55.l1_1_0_1_0 (n : Nat) (K : Conts) (p0 : List Int) (p1 p2 p3 p4 p5 : Int) (p6 : List Int) : Option AV := loopF F55.E n (inLoop (subC [1,1,0,1,0] F55.body)) K ⟨slots 48 [(0, .v (.sl (.int .i8)) p0), (1, .v (.int .i64) p1), (2, .v (.int .i64) p2), (3, .v (.int .i64) p3), (4, .v (.int .i64) p4), (11, .own 0), (12, .v (.int .i64) p5)], [.row 3 (.int .i64) p6]⟩
theorem F55.start_eq (k : Nat) (a0 : List Int) (a1 a2 a3 a4 : Int) : callW F55.E false F55.fn k [.v (.sl (.int .i8)) a0, .v (.int .i64) a1, .v (.int .i64) a2, .v (.int .i64) a3, .v (.int .i64) a4] =
 F55.l1_1_0_1_0 k (F55.kt k [1,1,0,1,0]) a0 a1 a2 a3 a4 0 [] := by kernel_rfl
theorem F55.l1_1_0_1_0_eq (n : Nat) (K : Conts) (p0 : List Int) (p1 p2 p3 p4 p5 : Int) (p6 : List Int) : F55.l1_1_0_1_0 (n + 1) K p0 p1 p2 p3 p4 p5 p6 =
 bif decide (p5 < p2) then
 bif decide ((IntKind.i64.wrap (p1 + p5)) < (p0.length : Int)) then
 bif decide (0 ≤ (IntKind.i64.wrap (p1 + p5))) && decide ((IntKind.i64.wrap (p1 + p5)) < p0.length) then
 bif !decide (p4 = 0) then
 bif decide (((IntKind.i64.wrap (p0.getD ((IntKind.i64.wrap (p1 + p5)).toNat) (0 : Int))).tmod p4) < 0) then
 bif decide (p3 ≥ 0) then
 bif decide ((p6.length + [IntKind.i64.wrap (0 - ((IntKind.i64.wrap (p0.getD ((IntKind.i64.wrap (p1 + p5)).toNat) (0 : Int))).tmod p4))].length) * 8 ≤ LIM) then
 F55.l1_1_0_1_0 n K p0 p1 p2 p3 p4 (IntKind.i64.wrap (p5 + 1)) (p6 ++ [IntKind.i64.wrap (0 - ((IntKind.i64.wrap (p0.getD ((IntKind.i64.wrap (p1 + p5)).toNat) (0 : Int))).tmod p4))])
 else
 none
 else
 bif decide ((p6.length + [(IntKind.i64.wrap (p0.getD ((IntKind.i64.wrap (p1 + p5)).toNat) (0 : Int))).tmod p4].length) * 8 ≤ LIM) then
 F55.l1_1_0_1_0 n K p0 p1 p2 p3 p4 (IntKind.i64.wrap (p5 + 1)) (p6 ++ [(IntKind.i64.wrap (p0.getD ((IntKind.i64.wrap (p1 + p5)).toNat) (0 : Int))).tmod p4])
 else
 none
 else
 bif decide ((p6.length + [(IntKind.i64.wrap (p0.getD ((IntKind.i64.wrap (p1 + p5)).toNat) (0 : Int))).tmod p4].length) * 8 ≤ LIM) then
 F55.l1_1_0_1_0 n K p0 p1 p2 p3 p4 (IntKind.i64.wrap (p5 + 1)) (p6 ++ [(IntKind.i64.wrap (p0.getD ((IntKind.i64.wrap (p1 + p5)).toNat) (0 : Int))).tmod p4])
 else
 none
 else
 none
 else
 none
 else
 bif !decide (p4 = 0) then
 bif decide (((1 : Int).tmod p4) < 0) then
 bif decide (p3 ≥ 0) then
 bif decide ((p6.length + [IntKind.i64.wrap (0 - ((1 : Int).tmod p4))].length) * 8 ≤ LIM) then
 F55.l1_1_0_1_0 n K p0 p1 p2 p3 p4 (IntKind.i64.wrap (p5 + 1)) (p6 ++ [IntKind.i64.wrap (0 - ((1 : Int).tmod p4))])
 else
 none
 else
 bif decide ((p6.length + [(1 : Int).tmod p4].length) * 8 ≤ LIM) then
 F55.l1_1_0_1_0 n K p0 p1 p2 p3 p4 (IntKind.i64.wrap (p5 + 1)) (p6 ++ [(1 : Int).tmod p4])
 else
 none
 else
 bif decide ((p6.length + [(1 : Int).tmod p4].length) * 8 ≤ LIM) then
 F55.l1_1_0_1_0 n K p0 p1 p2 p3 p4 (IntKind.i64.wrap (p5 + 1)) (p6 ++ [(1 : Int).tmod p4])
 else
 none
 else
 none
 else
 exitK K 0 ⟨slots 48 [(11, .own 0)], [.row 3 (.int .i64) p6]⟩ := by kernel_rfl
theorem F55.c0 (k : Nat) (p0 : List Int) : exitK (F55.kt k [1,1,0,1,0]) 0 ⟨slots 48 [(11, .own 0)], [.row 3 (.int .i64) p0]⟩ =
 some (.v (.sl (.int .i64)) p0) := by kernel_rfl
end Go.Proofs.Ytohdaehblenokaa.Ev
