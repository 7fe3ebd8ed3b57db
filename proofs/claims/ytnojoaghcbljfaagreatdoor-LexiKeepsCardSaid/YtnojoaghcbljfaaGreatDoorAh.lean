/-
The functions as the evaluator runs them: printed by a program of mine, each equation by kernel_rfl.
Conditions: none.
-/
import Derived.Test.YtnojoaghcbljfaaGreatDoorAa
set_option linter.unusedVariables false
set_option linter.unusedSimpArgs false
set_option maxRecDepth 100000
namespace Go.Proofs.YtnojoaghcbljfaaGreatDoor.Ev
open Go
/-! ### 17: jigsaw/jigsawref10.Solutions -/
noncomputable def F17.fn : Func := Go.Proofs.Tryz.f30
noncomputable def F17.body : Code := bodyOf F17.fn
noncomputable def F17.E : Env := ⟨tt, [(35, h_localC), (36, h_holdsC), (63, h_productL)], [(1, [1, 2, 3]), (2, [1, 2, 3, 8]), (3, [1, 2, 3, 8, 9]), (4, [1, 2, 3, 8, 9]), (5, [1, 2, 3, 8, 9]), (6, [1, 2, 3, 8, 9]), (7, [1, 2, 3, 8, 9, 30]), (8, [1, 2, 3]), (9, [1, 2, 10]), (10, [10, 11]), (11, [10, 11, 12]), (12, [10, 11, 12, 13, 300012]), (13, [10, 11, 12, 13]), (14, [10, 11, 12, 13]), (15, [10, 11, 12, 13, 14]), (16, [10, 11, 12, 13, 48]), (17, [12])], [(0, [1, 2, 3]), (1, [1, 2, 3, 8, 9]), (2, [12]), (3, [10, 11, 12, 13])], some [6, 7], inv⟩
noncomputable def F17.K0 : Conts := { nrm := endW F17.E false F17.fn.results.toList, ret := endW F17.E false F17.fn.results.toList, ex := [] }
noncomputable def F17.kt (k : Nat) (q : List Nat) : Conts := contAt F17.E k F17.body F17.K0 q
noncomputable def F17.l1_1_0_1_0 (n : Nat) (K : Conts) (p0 : (List (List Int))) (p1 : Int) (p2 : Int) (p3 : Int) (p4 : Int) (p5 : (List Int)) (p6 : (List Int)) (p7 : (List Int)) (p8 : (List Int)) (p9 : (List Int)) (p10 : Int) (p11 : (List (List Int))) : Option AV := loopF F17.E n (inLoop (subC [1, 1, 0, 1, 0] F17.body)) K ⟨slots 57 [(1, .v (.sl (.sl (.int .i64))) p0), (2, .v (.int .i64) p1), (3, .pb 0 0), (8, .v (.int .i64) p2), (9, .v (.int .i64) p3)], [.box [.v (.int .i64) p4, .v (.sl (.int .i64)) p5, .v (.sl (.int .i64)) p6, .v (.sl (.int .i64)) p7, .v (.sl (.int .i64)) p8, .v (.sl (.int .i64)) p9, .v (.int .i64) p10, .v (.sl (.sl (.int .i64))) p11]]⟩
noncomputable def F17.l1_1_1_1_1_1_0_1_0 (n : Nat) (K : Conts) (p0 : (List (List Int))) (p1 : Int) (p2 : Int) (p3 : (List Int)) (p4 : (List Int)) (p5 : (List Int)) (p6 : (List Int)) (p7 : (List Int)) (p8 : Int) (p9 : (List (List Int))) (p10 : (List (List Int))) : Option AV := loopF F17.E n (inLoop (subC [1, 1, 1, 1, 1, 1, 0, 1, 0] F17.body)) K ⟨slots 57 [(10, .pb 0 0), (11, .v (.sl (.sl (.int .i64))) p0), (12, .own 1), (13, .v (.int .i64) p1)], [.box [.v (.int .i64) p2, .v (.sl (.int .i64)) p3, .v (.sl (.int .i64)) p4, .v (.sl (.int .i64)) p5, .v (.sl (.int .i64)) p6, .v (.sl (.int .i64)) p7, .v (.int .i64) p8, .v (.sl (.sl (.int .i64))) p9], .row 30 (.sl (.int .i64)) p10]⟩
theorem F17.start_eq (k : Nat) (a0 : (Int × ((List Int) × ((List Int) × ((List Int) × ((List Int) × ((List Int) × (Int × (List (List Int)))))))))) (a1 : (List (List Int))) (a2 : Int) : callW F17.E false F17.fn k [.agg [.v (.int .i64) a0.1, .v (.sl (.int .i64)) a0.2.1, .v (.sl (.int .i64)) a0.2.2.1, .v (.sl (.int .i64)) a0.2.2.2.1, .v (.sl (.int .i64)) a0.2.2.2.2.1, .v (.sl (.int .i64)) a0.2.2.2.2.2.1, .v (.int .i64) a0.2.2.2.2.2.2.1, .v (.sl (.sl (.int .i64))) a0.2.2.2.2.2.2.2], .v (.sl (.sl (.int .i64))) a1, .v (.int .i64) a2] =
    F17.l1_1_0_1_0 k (F17.kt k [1, 1, 0, 1, 0]) a1 a2 1 0 a0.1 a0.2.1 a0.2.2.1 a0.2.2.2.1 a0.2.2.2.2.1 a0.2.2.2.2.2.1 a0.2.2.2.2.2.2.1 a0.2.2.2.2.2.2.2 := by kernel_rfl
theorem F17.l1_1_0_1_0_eq (n : Nat) (K : Conts) (p0 : (List (List Int))) (p1 : Int) (p2 : Int) (p3 : Int) (p4 : Int) (p5 : (List Int)) (p6 : (List Int)) (p7 : (List Int)) (p8 : (List Int)) (p9 : (List Int)) (p10 : Int) (p11 : (List (List Int))) : F17.l1_1_0_1_0 (n + 1) K p0 p1 p2 p3 p4 p5 p6 p7 p8 p9 p10 p11 =
    bif decide (p3 < (p0.length : Int)) then
      bif decide (0 ≤ p3) && decide (p3 < p0.length) then
        bif decide ((IntKind.i64.wrap (p2 * ((p0.getD p3.toNat []).length : Int))) > p1) then
          K.ret ⟨slots 57 [(6, .nl), (7, .v .bool false)], []⟩
        else
          F17.l1_1_0_1_0 n K p0 p1 (IntKind.i64.wrap (p2 * ((p0.getD p3.toNat []).length : Int))) (IntKind.i64.wrap (p3 + 1)) p4 p5 p6 p7 p8 p9 p10 p11
      else
        none
    else
      exitK K 0 ⟨slots 57 [(1, .v (.sl (.sl (.int .i64))) p0), (2, .v (.int .i64) p1), (3, .pb 0 0)], [.box [.v (.int .i64) p4, .v (.sl (.int .i64)) p5, .v (.sl (.int .i64)) p6, .v (.sl (.int .i64)) p7, .v (.sl (.int .i64)) p8, .v (.sl (.int .i64)) p9, .v (.int .i64) p10, .v (.sl (.sl (.int .i64))) p11]]⟩ := by kernel_rfl
theorem F17.c0 (k : Nat) : (F17.kt k [1, 1, 0, 1, 0]).ret ⟨slots 57 [(6, .nl), (7, .v .bool false)], []⟩ =
    some (.tup [.nl, .v .bool false]) := by kernel_rfl
theorem F17.c1 (k : Nat) (p0 : (List (List Int))) (p1 : Int) (p2 : Int) (p3 : (List Int)) (p4 : (List Int)) (p5 : (List Int)) (p6 : (List Int)) (p7 : (List Int)) (p8 : Int) (p9 : (List (List Int))) : exitK (F17.kt k [1, 1, 0, 1, 0]) 0 ⟨slots 57 [(1, .v (.sl (.sl (.int .i64))) p0), (2, .v (.int .i64) p1), (3, .pb 0 0)], [.box [.v (.int .i64) p2, .v (.sl (.int .i64)) p3, .v (.sl (.int .i64)) p4, .v (.sl (.int .i64)) p5, .v (.sl (.int .i64)) p6, .v (.sl (.int .i64)) p7, .v (.int .i64) p8, .v (.sl (.sl (.int .i64))) p9]]⟩ =
    bif localB (p2, (p3, (p4, (p5, (p6, (p7, (p8, p9))))))) then
      bif productB p0 p1 then
        F17.l1_1_1_1_1_1_0_1_0 k (F17.kt k [1, 1, 1, 1, 1, 1, 0, 1, 0]) (productL p0 p1) 0 ((localC (p2, (p3, (p4, (p5, (p6, (p7, (p8, p9)))))))).1) (((localC (p2, (p3, (p4, (p5, (p6, (p7, (p8, p9)))))))).2).1) ((((localC (p2, (p3, (p4, (p5, (p6, (p7, (p8, p9)))))))).2).2).1) (((((localC (p2, (p3, (p4, (p5, (p6, (p7, (p8, p9)))))))).2).2).2).1) ((((((localC (p2, (p3, (p4, (p5, (p6, (p7, (p8, p9)))))))).2).2).2).2).1) (((((((localC (p2, (p3, (p4, (p5, (p6, (p7, (p8, p9)))))))).2).2).2).2).2).1) ((((((((localC (p2, (p3, (p4, (p5, (p6, (p7, (p8, p9)))))))).2).2).2).2).2).2).1) ((((((((localC (p2, (p3, (p4, (p5, (p6, (p7, (p8, p9)))))))).2).2).2).2).2).2).2) []
      else
        none
    else
      none := by kernel_rfl
theorem F17.l1_1_1_1_1_1_0_1_0_eq (n : Nat) (K : Conts) (p0 : (List (List Int))) (p1 : Int) (p2 : Int) (p3 : (List Int)) (p4 : (List Int)) (p5 : (List Int)) (p6 : (List Int)) (p7 : (List Int)) (p8 : Int) (p9 : (List (List Int))) (p10 : (List (List Int))) : F17.l1_1_1_1_1_1_0_1_0 (n + 1) K p0 p1 p2 p3 p4 p5 p6 p7 p8 p9 p10 =
    bif decide (p1 < (p0.length : Int)) then
      bif decide (0 ≤ p1) && decide (p1 < p0.length) then
        bif holdsB (p2, (p3, (p4, (p5, (p6, (p7, (p8, p9))))))) (p0.getD p1.toNat []) then
          bif holdsC (p2, (p3, (p4, (p5, (p6, (p7, (p8, p9))))))) (p0.getD p1.toNat []) then
            bif decide (0 ≤ p1) && decide (p1 < p0.length) then
              bif decide ((p10.length + [p0.getD p1.toNat []].length) * 24 ≤ LIM) then
                F17.l1_1_1_1_1_1_0_1_0 n K p0 (IntKind.i64.wrap (p1 + 1)) p2 p3 p4 p5 p6 p7 p8 p9 (p10 ++ [p0.getD p1.toNat []])
              else
                none
            else
              none
          else
            F17.l1_1_1_1_1_1_0_1_0 n K p0 (IntKind.i64.wrap (p1 + 1)) p2 p3 p4 p5 p6 p7 p8 p9 p10
        else
          none
      else
        none
    else
      exitK K 2 ⟨slots 57 [(12, .own 0)], [.row 30 (.sl (.int .i64)) p10]⟩ := by kernel_rfl
theorem F17.c2 (k : Nat) (p0 : (List (List Int))) : exitK (F17.kt k [1, 1, 1, 1, 1, 1, 0, 1, 0]) 2 ⟨slots 57 [(12, .own 0)], [.row 30 (.sl (.int .i64)) p0]⟩ =
    some (.tup [.v (.sl (.sl (.int .i64))) p0, .v .bool true]) := by kernel_rfl

/-! ### 21: jigsaw/jigsawref10.Exact -/
noncomputable def F21.fn : Func := Go.Proofs.Tryz.f31
noncomputable def F21.body : Code := bodyOf F21.fn
noncomputable def F21.E : Env := ⟨tt, [(30, h_sol)], [(1, [1, 2, 3]), (2, [1, 8]), (3, [1, 8, 10]), (4, [1, 8, 10, 11, 300010]), (5, [1, 8, 10, 11]), (6, [1, 8, 10, 11]), (7, [1, 8, 10, 11, 12]), (8, [1, 8, 10, 11, 12, 13, 30012]), (9, [1, 8, 10, 11, 12, 13]), (10, [1, 8, 10, 11, 12, 13]), (11, [1, 8, 10, 11, 12, 13, 14]), (12, [1, 8, 10, 11, 12, 13, 14, 15]), (13, [1, 8, 10, 11, 12, 13, 14, 15]), (14, [1, 8, 10, 11, 12, 13, 14, 15]), (15, [1, 8, 10, 11, 12, 13, 14]), (16, [1, 8, 10, 11, 12, 13, 62]), (17, [1, 8, 10, 11, 12]), (18, [8, 10]), (19, [10, 79]), (20, [10])], [(0, [8, 10]), (1, [1, 8, 10, 11]), (2, [1, 8, 10, 11, 12]), (3, [1, 8, 10, 11, 12, 13]), (4, [1, 8, 10, 11, 12, 13, 14]), (5, [1, 8, 10, 11, 12, 13, 14, 15])], some [6, 7], inv⟩
noncomputable def F21.K0 : Conts := { nrm := endW F21.E false F21.fn.results.toList, ret := endW F21.E false F21.fn.results.toList, ex := [] }
noncomputable def F21.kt (k : Nat) (q : List Nat) : Conts := contAt F21.E k F21.body F21.K0 q
noncomputable def F21.l1_1_1_0_1_0 (n : Nat) (K : Conts) (p0 : (List (List Int))) (p1 : (List (List Int))) (p2 : Int) (p3 : (List (List Int))) : Option AV := loopF F21.E n (inLoop (subC [1, 1, 1, 0, 1, 0] F21.body)) K ⟨slots 81 [(1, .v (.sl (.sl (.int .i64))) p0), (8, .v (.sl (.sl (.int .i64))) p1), (10, .own 0), (11, .v (.int .i64) p2)], [.row 30 (.sl (.int .i64)) p3]⟩
noncomputable def F21.k_l1_1_1_0_1_0 (n : Nat) (K : Conts) (q : List Nat) : Conts := contAt F21.E n (inLoop (subC [1, 1, 1, 0, 1, 0] F21.body)) (loopK F21.E n (inLoop (subC [1, 1, 1, 0, 1, 0] F21.body)) K) q
noncomputable def F21.l1_1_1_0_1_0_0_1_0_0_1_0_1_0 (n : Nat) (K : Conts) (p0 : (List (List Int))) (p1 : (List (List Int))) (p2 : Int) (p3 : Int) (p4 : (List (List Int))) (p5 : (List Int)) : Option AV := loopF F21.E n (inLoop (subC [1, 1, 1, 0, 1, 0, 0, 1, 0, 0, 1, 0, 1, 0] F21.body)) K ⟨slots 81 [(1, .v (.sl (.sl (.int .i64))) p0), (8, .v (.sl (.sl (.int .i64))) p1), (10, .own 0), (11, .v (.int .i64) p2), (12, .own 1), (13, .v (.int .i64) p3)], [.row 30 (.sl (.int .i64)) p4, .row 3 (.int .i64) p5]⟩
noncomputable def F21.k_l1_1_1_0_1_0_0_1_0_0_1_0_1_0 (n : Nat) (K : Conts) (q : List Nat) : Conts := contAt F21.E n (inLoop (subC [1, 1, 1, 0, 1, 0, 0, 1, 0, 0, 1, 0, 1, 0] F21.body)) (loopK F21.E n (inLoop (subC [1, 1, 1, 0, 1, 0, 0, 1, 0, 0, 1, 0, 1, 0] F21.body)) K) q
noncomputable def F21.l1_1_1_0_1_0_0_1_0_0_1_0_1_0_0_1_0_0_1_0_1_0 (n : Nat) (K : Conts) (p0 : (List (List Int))) (p1 : (List (List Int))) (p2 : Int) (p3 : Int) (p4 : Bool) (p5 : Int) (p6 : (List (List Int))) (p7 : (List Int)) : Option AV := loopF F21.E n (inLoop (subC [1, 1, 1, 0, 1, 0, 0, 1, 0, 0, 1, 0, 1, 0, 0, 1, 0, 0, 1, 0, 1, 0] F21.body)) K ⟨slots 81 [(1, .v (.sl (.sl (.int .i64))) p0), (8, .v (.sl (.sl (.int .i64))) p1), (10, .own 0), (11, .v (.int .i64) p2), (12, .own 1), (13, .v (.int .i64) p3), (14, .v .bool p4), (15, .v (.int .i64) p5)], [.row 30 (.sl (.int .i64)) p6, .row 3 (.int .i64) p7]⟩
theorem F21.start_eq (k : Nat) (a0 : (Int × ((List Int) × ((List Int) × ((List Int) × ((List Int) × ((List Int) × (Int × (List (List Int)))))))))) (a1 : (List (List Int))) (a2 : Int) : callW F21.E false F21.fn k [.agg [.v (.int .i64) a0.1, .v (.sl (.int .i64)) a0.2.1, .v (.sl (.int .i64)) a0.2.2.1, .v (.sl (.int .i64)) a0.2.2.2.1, .v (.sl (.int .i64)) a0.2.2.2.2.1, .v (.sl (.int .i64)) a0.2.2.2.2.2.1, .v (.int .i64) a0.2.2.2.2.2.2.1, .v (.sl (.sl (.int .i64))) a0.2.2.2.2.2.2.2], .v (.sl (.sl (.int .i64))) a1, .v (.int .i64) a2] =
    bif solB a0 a1 a2 then F21.l1_1_1_0_1_0 k (F21.kt k [1, 1, 1, 0, 1, 0]) a1 ((solL a0 a1 a2).1) 0 [] else none := by kernel_rfl
theorem F21.l1_1_1_0_1_0_eq (n : Nat) (K : Conts) (p0 : (List (List Int))) (p1 : (List (List Int))) (p2 : Int) (p3 : (List (List Int))) : F21.l1_1_1_0_1_0 (n + 1) K p0 p1 p2 p3 =
    bif decide (p2 < (p0.length : Int)) then
      F21.l1_1_1_0_1_0_0_1_0_0_1_0_1_0 n (F21.k_l1_1_1_0_1_0 n K [1, 0, 0, 1, 0, 1, 0]) p0 p1 p2 0 p3 []
    else
      exitK K 0 ⟨slots 81 [(8, .v (.sl (.sl (.int .i64))) p1), (10, .own 0)], [.row 30 (.sl (.int .i64)) p3]⟩ := by kernel_rfl
theorem F21.l1_1_1_0_1_0_0_1_0_0_1_0_1_0_eq (n : Nat) (K : Conts) (p0 : (List (List Int))) (p1 : (List (List Int))) (p2 : Int) (p3 : Int) (p4 : (List (List Int))) (p5 : (List Int)) : F21.l1_1_1_0_1_0_0_1_0_0_1_0_1_0 (n + 1) K p0 p1 p2 p3 p4 p5 =
    bif decide (0 ≤ p2) && decide (p2 < p0.length) then
      bif decide (p3 < ((p0.getD p2.toNat []).length : Int)) then
        F21.l1_1_1_0_1_0_0_1_0_0_1_0_1_0_0_1_0_0_1_0_1_0 n (F21.k_l1_1_1_0_1_0_0_1_0_0_1_0_1_0 n K [1, 0, 0, 1, 0, 1, 0]) p0 p1 p2 p3 false 0 p4 p5
      else
        exitK K 2 ⟨slots 81 [(1, .v (.sl (.sl (.int .i64))) p0), (8, .v (.sl (.sl (.int .i64))) p1), (10, .own 0), (11, .v (.int .i64) p2), (12, .own 1)], [.row 30 (.sl (.int .i64)) p4, .row 3 (.int .i64) p5]⟩
    else
      none := by kernel_rfl
theorem F21.l1_1_1_0_1_0_0_1_0_0_1_0_1_0_0_1_0_0_1_0_1_0_eq (n : Nat) (K : Conts) (p0 : (List (List Int))) (p1 : (List (List Int))) (p2 : Int) (p3 : Int) (p4 : Bool) (p5 : Int) (p6 : (List (List Int))) (p7 : (List Int)) : F21.l1_1_1_0_1_0_0_1_0_0_1_0_1_0_0_1_0_0_1_0_1_0 (n + 1) K p0 p1 p2 p3 p4 p5 p6 p7 =
    bif decide (p5 < (p1.length : Int)) then
      bif p4 then
        F21.l1_1_1_0_1_0_0_1_0_0_1_0_1_0_0_1_0_0_1_0_1_0 n K p0 p1 p2 p3 true (IntKind.i64.wrap (p5 + 1)) p6 p7
      else
        bif decide (0 ≤ p5) && decide (p5 < p1.length) then
          bif decide (0 ≤ p2) && decide (p2 < (p1.getD p5.toNat []).length) then
            bif decide (0 ≤ p2) && decide (p2 < p0.length) then
              bif decide (0 ≤ p3) && decide (p3 < (p0.getD p2.toNat []).length) then
                F21.l1_1_1_0_1_0_0_1_0_0_1_0_1_0_0_1_0_0_1_0_1_0 n K p0 p1 p2 p3 (decide (((p1.getD p5.toNat []).getD p2.toNat (0 : Int)) = ((p0.getD p2.toNat []).getD p3.toNat (0 : Int)))) (IntKind.i64.wrap (p5 + 1)) p6 p7
              else
                none
            else
              none
          else
            none
        else
          none
    else
      exitK K 4 ⟨slots 81 [(1, .v (.sl (.sl (.int .i64))) p0), (8, .v (.sl (.sl (.int .i64))) p1), (10, .own 0), (11, .v (.int .i64) p2), (12, .own 1), (13, .v (.int .i64) p3), (14, .v .bool p4)], [.row 30 (.sl (.int .i64)) p6, .row 3 (.int .i64) p7]⟩ := by kernel_rfl
theorem F21.c0 (k : Nat) (p0 : (List (List Int))) (p1 : (List (List Int))) : exitK (F21.kt k [1, 1, 1, 0, 1, 0]) 0 ⟨slots 81 [(8, .v (.sl (.sl (.int .i64))) p0), (10, .own 0)], [.row 30 (.sl (.int .i64)) p1]⟩ =
    bif decide ((p0.length : Int) = 0) then some (.tup [.nl, .v .bool false]) else some (.tup [.v (.sl (.sl (.int .i64))) p1, .v .bool true]) := by kernel_rfl
theorem F21.c1 (n : Nat) (K : Conts) (p0 : (List (List Int))) (p1 : (List (List Int))) (p2 : Int) (p3 : (List (List Int))) (p4 : (List Int)) : exitK (F21.k_l1_1_1_0_1_0 n K [1, 0, 0, 1, 0, 1, 0]) 2 ⟨slots 81 [(1, .v (.sl (.sl (.int .i64))) p0), (8, .v (.sl (.sl (.int .i64))) p1), (10, .own 0), (11, .v (.int .i64) p2), (12, .own 1)], [.row 30 (.sl (.int .i64)) p3, .row 3 (.int .i64) p4]⟩ =
    bif decide ((p3.length + [p4].length) * 24 ≤ LIM) then F21.l1_1_1_0_1_0 n K p0 p1 (IntKind.i64.wrap (p2 + 1)) (p3 ++ [p4]) else none := by kernel_rfl
theorem F21.c2 (n : Nat) (K : Conts) (p0 : (List (List Int))) (p1 : (List (List Int))) (p2 : Int) (p3 : Int) (p4 : Bool) (p5 : (List (List Int))) (p6 : (List Int)) : exitK (F21.k_l1_1_1_0_1_0_0_1_0_0_1_0_1_0 n K [1, 0, 0, 1, 0, 1, 0]) 4 ⟨slots 81 [(1, .v (.sl (.sl (.int .i64))) p0), (8, .v (.sl (.sl (.int .i64))) p1), (10, .own 0), (11, .v (.int .i64) p2), (12, .own 1), (13, .v (.int .i64) p3), (14, .v .bool p4)], [.row 30 (.sl (.int .i64)) p5, .row 3 (.int .i64) p6]⟩ =
    bif p4 then
      bif decide (0 ≤ p2) && decide (p2 < p0.length) then
        bif decide (0 ≤ p3) && decide (p3 < (p0.getD p2.toNat []).length) then
          bif decide ((p6.length + [(p0.getD p2.toNat []).getD p3.toNat (0 : Int)].length) * 8 ≤ LIM) then
            F21.l1_1_1_0_1_0_0_1_0_0_1_0_1_0 n K p0 p1 p2 (IntKind.i64.wrap (p3 + 1)) p5 (p6 ++ [(p0.getD p2.toNat []).getD p3.toNat (0 : Int)])
          else
            none
        else
          none
      else
        none
    else
      F21.l1_1_1_0_1_0_0_1_0_0_1_0_1_0 n K p0 p1 p2 (IntKind.i64.wrap (p3 + 1)) p5 p6 := by kernel_rfl

/-! ### 48: jigsaw/prop.Fits -/
noncomputable def F48.fn : Func := Go.Proofs.Tryz.f48
noncomputable def F48.E : Env := ⟨tt, [(90, h_anyE), (93, h_rightM)], [(1, [1, 2, 3, 4]), (2, [1, 2, 3, 4, 9])], [], some [8], inv⟩
theorem F48.start_eq (k : Nat) (a0 : (Int × ((List Int) × ((List Int) × ((List Int) × ((List Int) × ((List Int) × (Int × (List (List Int)))))))))) (a1 : (List (Int × ((List Int) × (Int × (Int × Int)))))) (a2 : Int) (a3 : Int) : callW F48.E false F48.fn k [.agg [.v (.int .i64) a0.1, .v (.sl (.int .i64)) a0.2.1, .v (.sl (.int .i64)) a0.2.2.1, .v (.sl (.int .i64)) a0.2.2.2.1, .v (.sl (.int .i64)) a0.2.2.2.2.1, .v (.sl (.int .i64)) a0.2.2.2.2.2.1, .v (.int .i64) a0.2.2.2.2.2.2.1, .v (.sl (.sl (.int .i64))) a0.2.2.2.2.2.2.2], .v (.sl (.pair (.int .i64) (.pair (.sl (.int .u64)) (.pair (.int .i64) (.pair (.int .i64) (.int .i64)))))) a1, .v (.int .i64) a2, .v (.int .i64) a3] =
    bif decide (a0.1 ≥ a2) then
      bif decide (a0.1 ≤ a3) then
        bif kindB a0 then
          bif decide ((rightM a0 256) = 0) then
            bif decide ((a1.length : Int) = (IntKind.i64.wrap ((a0.2.1.length : Int) + (a0.2.2.1.length : Int)))) then
              some (.v .bool (!(List.any a1 emptyD)))
            else
              some (.v .bool false)
          else
            some (.v .bool false)
        else
          none
      else
        some (.v .bool false)
    else
      some (.v .bool false) := by kernel_rfl

/-! ### 25: jigsaw/jigsawref10.Fits -/
noncomputable def F25.fn : Func := Go.Proofs.Tryz.f33
noncomputable def F25.body : Code := bodyOf F25.fn
noncomputable def F25.E : Env := ⟨tt, [(64, h_rightR)], [(1, [1, 2, 3, 4]), (2, [1, 4, 32]), (3, [1, 4]), (4, [1, 9]), (5, [1, 36]), (6, [1]), (7, [1, 10]), (8, [1, 10]), (9, [1, 10]), (10, [1, 10, 48]), (11, [])], [(0, []), (1, [1, 10])], some [8], inv⟩
noncomputable def F25.K0 : Conts := { nrm := endW F25.E false F25.fn.results.toList, ret := endW F25.E false F25.fn.results.toList, ex := [] }
noncomputable def F25.kt (k : Nat) (q : List Nat) : Conts := contAt F25.E k F25.body F25.K0 q
noncomputable def F25.l1_1_1_1_0_1_0 (n : Nat) (K : Conts) (p0 : (List (List Int))) (p1 : Int) : Option AV := loopF F25.E n (inLoop (subC [1, 1, 1, 1, 0, 1, 0] F25.body)) K ⟨slots 49 [(1, .v (.sl (.sl (.int .i64))) p0), (10, .v (.int .i64) p1)], []⟩
theorem F25.start_eq (k : Nat) (a0 : (Int × ((List Int) × ((List Int) × ((List Int) × ((List Int) × ((List Int) × (Int × (List (List Int)))))))))) (a1 : (List (List Int))) (a2 : Int) (a3 : Int) : callW F25.E false F25.fn k [.agg [.v (.int .i64) a0.1, .v (.sl (.int .i64)) a0.2.1, .v (.sl (.int .i64)) a0.2.2.1, .v (.sl (.int .i64)) a0.2.2.2.1, .v (.sl (.int .i64)) a0.2.2.2.2.1, .v (.sl (.int .i64)) a0.2.2.2.2.2.1, .v (.int .i64) a0.2.2.2.2.2.2.1, .v (.sl (.sl (.int .i64))) a0.2.2.2.2.2.2.2], .v (.sl (.sl (.int .i64))) a1, .v (.int .i64) a2, .v (.int .i64) a3] =
    bif decide (a0.1 < a2) then
      some (.v .bool false)
    else
      bif decide (a0.1 > a3) then
        some (.v .bool false)
      else
        bif !(decide ((a1.length : Int) = (IntKind.i64.wrap ((a0.2.1.length : Int) + (a0.2.2.1.length : Int))))) then
          some (.v .bool false)
        else
          bif kindB a0 then
            bif !(decide ((rightR a0 256) = 0)) then some (.v .bool false) else F25.l1_1_1_1_0_1_0 k (F25.kt k [1, 1, 1, 1, 0, 1, 0]) a1 0
          else
            none := by kernel_rfl
theorem F25.l1_1_1_1_0_1_0_eq (n : Nat) (K : Conts) (p0 : (List (List Int))) (p1 : Int) : F25.l1_1_1_1_0_1_0 (n + 1) K p0 p1 =
    bif decide (p1 < (p0.length : Int)) then
      bif decide (0 ≤ p1) && decide (p1 < p0.length) then
        bif decide (((p0.getD p1.toNat []).length : Int) = 0) then K.ret ⟨slots 49 [(8, .v .bool false)], []⟩ else F25.l1_1_1_1_0_1_0 n K p0 (IntKind.i64.wrap (p1 + 1))
      else
        none
    else
      exitK K 0 ⟨slots 49 [], []⟩ := by kernel_rfl
theorem F25.c0 (k : Nat) : (F25.kt k [1, 1, 1, 1, 0, 1, 0]).ret ⟨slots 49 [(8, .v .bool false)], []⟩ =
    some (.v .bool false) := by kernel_rfl
theorem F25.c1 (k : Nat) : exitK (F25.kt k [1, 1, 1, 1, 0, 1, 0]) 0 ⟨slots 49 [], []⟩ =
    some (.v .bool true) := by kernel_rfl

/-! ### 49: jigsaw/prop.Made -/
noncomputable def F49.fn : Func := Go.Proofs.Tryz.f49
noncomputable def F49.body : Code := bodyOf F49.fn
noncomputable def F49.E : Env := ⟨tt, [(50, h_ofD)], [(1, [0]), (2, [0, 4]), (3, [4, 9, 10, 11, 470004]), (4, [4, 9, 10, 11, 12]), (5, [4, 6, 9, 10, 11]), (6, [4, 7, 8, 9, 10, 11]), (7, [4, 7, 9, 10, 11, 21]), (8, [4, 7, 9, 10, 11]), (9, [4, 9, 10, 11]), (10, [4])], [(0, [4]), (1, [4, 9, 10, 11])], some [2, 3], inv⟩
noncomputable def F49.K0 : Conts := { nrm := endW F49.E false F49.fn.results.toList, ret := endW F49.E false F49.fn.results.toList, ex := [] }
noncomputable def F49.kt (k : Nat) (q : List Nat) : Conts := contAt F49.E k F49.body F49.K0 q
noncomputable def F49.l1_1_0_1_0 (n : Nat) (K : Conts) (p0 : (List (List Int))) (p1 : Int) (p2 : Int) (p3 : (List (Int × ((List Int) × (Int × (Int × Int)))))) : Option AV := loopF F49.E n (inLoop (subC [1, 1, 0, 1, 0] F49.body)) K ⟨slots 28 [(4, .own 0), (9, .v (.sl (.sl (.int .i64))) p0), (10, .v (.int .i64) p1), (11, .v (.int .i64) p2)], [.row 47 (.pair (.int .i64) (.pair (.sl (.int .u64)) (.pair (.int .i64) (.pair (.int .i64) (.int .i64))))) p3]⟩
theorem F49.start_eq (k : Nat) (a0 : (List (List Int))) : callW F49.E false F49.fn k [.v (.sl (.sl (.int .i64))) a0] =
    F49.l1_1_0_1_0 k (F49.kt k [1, 1, 0, 1, 0]) a0 (a0.length : Int) 0 [] := by kernel_rfl
theorem F49.l1_1_0_1_0_eq (n : Nat) (K : Conts) (p0 : (List (List Int))) (p1 : Int) (p2 : Int) (p3 : (List (Int × ((List Int) × (Int × (Int × Int)))))) : F49.l1_1_0_1_0 (n + 1) K p0 p1 p2 p3 =
    bif decide (p2 < p1) then
      bif decide (0 ≤ p2) && decide (p2 < p0.length) then
        bif !(decide (((ofD (p0.getD p2.toNat [])).2) = 0)) then
          K.ret ⟨slots 28 [(2, .nl), (3, .v .bool false)], []⟩
        else
          bif decide ((p3.length + [(ofD (p0.getD p2.toNat [])).1].length) * 56 ≤ LIM) then
            F49.l1_1_0_1_0 n K p0 p1 (IntKind.i64.wrap (p2 + 1)) (p3 ++ [(ofD (p0.getD p2.toNat [])).1])
          else
            none
      else
        none
    else
      exitK K 0 ⟨slots 28 [(4, .own 0)], [.row 47 (.pair (.int .i64) (.pair (.sl (.int .u64)) (.pair (.int .i64) (.pair (.int .i64) (.int .i64))))) p3]⟩ := by kernel_rfl
theorem F49.c0 (k : Nat) : (F49.kt k [1, 1, 0, 1, 0]).ret ⟨slots 28 [(2, .nl), (3, .v .bool false)], []⟩ =
    some (.tup [.nl, .v .bool false]) := by kernel_rfl
theorem F49.c1 (k : Nat) (p0 : (List (Int × ((List Int) × (Int × (Int × Int)))))) : exitK (F49.kt k [1, 1, 0, 1, 0]) 0 ⟨slots 28 [(4, .own 0)], [.row 47 (.pair (.int .i64) (.pair (.sl (.int .u64)) (.pair (.int .i64) (.pair (.int .i64) (.int .i64))))) p0]⟩ =
    some (.tup [.v (.sl (.pair (.int .i64) (.pair (.sl (.int .u64)) (.pair (.int .i64) (.pair (.int .i64) (.int .i64)))))) p0, .v .bool true]) := by kernel_rfl

end Go.Proofs.YtnojoaghcbljfaaGreatDoor.Ev
