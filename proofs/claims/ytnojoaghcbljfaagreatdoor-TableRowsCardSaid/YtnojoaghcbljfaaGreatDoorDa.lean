/-
The functions as the evaluator runs them: printed by a program of mine, each equation by kernel_rfl.
Conditions: none.
-/
import Derived.Test.YtnojoaghcbljfaaGreatDoorCg
set_option linter.unusedVariables false
set_option linter.unusedSimpArgs false
set_option maxRecDepth 100000
namespace Go.Proofs.YtnojoaghcbljfaaGreatDoor.Ev
open Go
/-! ### 40: jigsaw/table.Filter -/
noncomputable def F40.fn : Func := Go.Proofs.Tryz.f16
noncomputable def F40.body : Code := bodyOf F40.fn
noncomputable def F40.E : Env := ⟨tt, [(15, h_containsL), (22, h_hasD), (48, h_fitsD), (49, h_made)], [(1, [1, 2]), (2, [1, 2, 16]), (3, [1, 2]), (4, [1, 2, 6]), (5, [1, 6, 21, 22, 23]), (6, [1, 6, 21, 22, 23, 24]), (7, [1, 6, 8, 21, 22, 23]), (8, [1, 6, 8, 21, 22, 23, 27, 28, 29]), (9, [1, 6, 8, 21, 22, 23, 27, 28, 29, 30]), (10, [1, 6, 8, 9, 10, 21, 22, 23, 27, 28, 29]), (11, [1, 6, 8, 21, 22, 23, 27, 28, 29]), (12, [1, 6, 8, 21, 22, 23]), (13, [1, 6, 21, 22, 23, 42, 43, 44]), (14, [1, 6, 21, 22, 23, 42, 43, 44, 45]), (15, [1, 6, 11, 12, 21, 22, 23, 42, 43, 44]), (16, [1, 6, 11, 12, 21, 22, 23, 42, 43, 44, 55]), (17, [1, 6, 21, 22, 23, 42, 43, 44]), (18, [1, 6, 21, 22, 23]), (19, [6])], [(0, [6]), (1, [1, 6, 21, 22, 23]), (2, [1, 6, 8, 21, 22, 23]), (3, [1, 6, 8, 21, 22, 23, 27, 28, 29]), (4, [1, 6, 21, 22, 23]), (5, [1, 6, 21, 22, 23, 42, 43, 44])], some [4, 5], inv⟩
noncomputable def F40.K0 : Conts := { nrm := endW F40.E false F40.fn.results.toList, ret := endW F40.E false F40.fn.results.toList, ex := [] }
noncomputable def F40.kt (k : Nat) (q : List Nat) : Conts := contAt F40.E k F40.body F40.K0 q
noncomputable def F40.l1_0_1_1_1_0_1_0 (n : Nat) (K : Conts) (p0 : (List (Int × ((List Int) × (Int × (Int × Int)))))) (p1 : (List (List Int))) (p2 : Int) (p3 : Int) (p4 : (List (List Int))) : Option AV := loopF F40.E n (inLoop (subC [1, 0, 1, 1, 1, 0, 1, 0] F40.body)) K ⟨slots 72 [(1, .v (.sl (.pair (.int .i64) (.pair (.sl (.int .u64)) (.pair (.int .i64) (.pair (.int .i64) (.int .i64)))))) p0), (6, .own 0), (21, .v (.sl (.sl (.int .i64))) p1), (22, .v (.int .i64) p2), (23, .v (.int .i64) p3)], [.rows 30 3 (.int .i64) p4]⟩
noncomputable def F40.k_l1_0_1_1_1_0_1_0 (n : Nat) (K : Conts) (q : List Nat) : Conts := contAt F40.E n (inLoop (subC [1, 0, 1, 1, 1, 0, 1, 0] F40.body)) (loopK F40.E n (inLoop (subC [1, 0, 1, 1, 1, 0, 1, 0] F40.body)) K) q
noncomputable def F40.l1_0_1_1_1_0_1_0_0_1_1_0_0_1_0_1_0 (n : Nat) (K : Conts) (p0 : (List (Int × ((List Int) × (Int × (Int × Int)))))) (p1 : (List Int)) (p2 : (List (List Int))) (p3 : Int) (p4 : Int) (p5 : (List Int)) (p6 : Int) (p7 : Int) (p8 : (List (List Int))) : Option AV := loopF F40.E n (inLoop (subC [1, 0, 1, 1, 1, 0, 1, 0, 0, 1, 1, 0, 0, 1, 0, 1, 0] F40.body)) K ⟨slots 72 [(1, .v (.sl (.pair (.int .i64) (.pair (.sl (.int .u64)) (.pair (.int .i64) (.pair (.int .i64) (.int .i64)))))) p0), (6, .own 0), (8, .v (.sl (.int .i64)) p1), (21, .v (.sl (.sl (.int .i64))) p2), (22, .v (.int .i64) p3), (23, .v (.int .i64) p4), (27, .v (.sl (.int .i64)) p5), (28, .v (.int .i64) p6), (29, .v (.int .i64) p7)], [.rows 30 3 (.int .i64) p8]⟩
noncomputable def F40.l1_0_1_1_1_0_1_0_0_1_1_0_0_1_1_1_0 (n : Nat) (K : Conts) (p0 : (List (Int × ((List Int) × (Int × (Int × Int)))))) (p1 : (List (List Int))) (p2 : Int) (p3 : Int) (p4 : (List Int)) (p5 : Int) (p6 : Int) (p7 : (List (List Int))) : Option AV := loopF F40.E n (inLoop (subC [1, 0, 1, 1, 1, 0, 1, 0, 0, 1, 1, 0, 0, 1, 1, 1, 0] F40.body)) K ⟨slots 72 [(1, .v (.sl (.pair (.int .i64) (.pair (.sl (.int .u64)) (.pair (.int .i64) (.pair (.int .i64) (.int .i64)))))) p0), (6, .own 0), (21, .v (.sl (.sl (.int .i64))) p1), (22, .v (.int .i64) p2), (23, .v (.int .i64) p3), (42, .v (.sl (.int .i64)) p4), (43, .v (.int .i64) p5), (44, .v (.int .i64) p6)], [.rows 30 3 (.int .i64) p7]⟩
theorem F40.start_eq (k : Nat) (a0 : (Int × ((List Int) × ((List Int) × ((List Int) × ((List Int) × ((List Int) × (Int × (List (List Int)))))))))) (a1 : (List (Int × ((List Int) × (Int × (Int × Int)))))) : callW F40.E false F40.fn k [.agg [.v (.int .i64) a0.1, .v (.sl (.int .i64)) a0.2.1, .v (.sl (.int .i64)) a0.2.2.1, .v (.sl (.int .i64)) a0.2.2.2.1, .v (.sl (.int .i64)) a0.2.2.2.2.1, .v (.sl (.int .i64)) a0.2.2.2.2.2.1, .v (.int .i64) a0.2.2.2.2.2.2.1, .v (.sl (.sl (.int .i64))) a0.2.2.2.2.2.2.2], .v (.sl (.pair (.int .i64) (.pair (.sl (.int .u64)) (.pair (.int .i64) (.pair (.int .i64) (.int .i64)))))) a1] =
    bif fitsB a0 18 18 then
      bif !(fitsD a0 a1 18 18) then
        some (.tup [.nl, .v .bool false])
      else
        bif decide (0 ≤ (a1.length : Int)) && decide ((a1.length : Int).toNat * 24 ≤ LIM) then
          F40.l1_0_1_1_1_0_1_0 k (F40.kt k [1, 0, 1, 1, 1, 0, 1, 0]) a1 a0.2.2.2.2.2.2.2 (a0.2.2.2.2.2.2.2.length : Int) 0 (List.replicate ((a1.length : Int).toNat) [])
        else
          none
    else
      none := by kernel_rfl
theorem F40.l1_0_1_1_1_0_1_0_eq (n : Nat) (K : Conts) (p0 : (List (Int × ((List Int) × (Int × (Int × Int)))))) (p1 : (List (List Int))) (p2 : Int) (p3 : Int) (p4 : (List (List Int))) : F40.l1_0_1_1_1_0_1_0 (n + 1) K p0 p1 p2 p3 p4 =
    bif decide (p3 < p2) then
      bif decide (0 ≤ p3) && decide (p3 < p1.length) then
        F40.l1_0_1_1_1_0_1_0_0_1_1_0_0_1_0_1_0 n (F40.k_l1_0_1_1_1_0_1_0 n K [1, 1, 0, 0, 1, 0, 1, 0]) p0 (p1.getD p3.toNat []) p1 p2 p3 (p1.getD p3.toNat []) ((p1.getD p3.toNat []).length : Int) 0 p4
      else
        none
    else
      exitK K 0 ⟨slots 72 [(6, .own 0)], [.rows 30 3 (.int .i64) p4]⟩ := by kernel_rfl
theorem F40.l1_0_1_1_1_0_1_0_0_1_1_0_0_1_0_1_0_eq (n : Nat) (K : Conts) (p0 : (List (Int × ((List Int) × (Int × (Int × Int)))))) (p1 : (List Int)) (p2 : (List (List Int))) (p3 : Int) (p4 : Int) (p5 : (List Int)) (p6 : Int) (p7 : Int) (p8 : (List (List Int))) : F40.l1_0_1_1_1_0_1_0_0_1_1_0_0_1_0_1_0 (n + 1) K p0 p1 p2 p3 p4 p5 p6 p7 p8 =
    bif decide (p7 < p6) then
      bif decide (0 ≤ p7) && decide (p7 < p5.length) then
        bif decide (0 ≤ p7) && decide (p7 < p0.length) then
          bif nearB ((p0.getD p7.toNat ((0 : Int), ([], ((0 : Int), ((0 : Int), (0 : Int)))))).1) then
            bif !(hasD (p0.getD p7.toNat ((0 : Int), ([], ((0 : Int), ((0 : Int), (0 : Int)))))) (p5.getD p7.toNat (0 : Int))) then
              exitK K 1 ⟨slots 72 [(1, .v (.sl (.pair (.int .i64) (.pair (.sl (.int .u64)) (.pair (.int .i64) (.pair (.int .i64) (.int .i64)))))) p0), (6, .own 0), (21, .v (.sl (.sl (.int .i64))) p2), (22, .v (.int .i64) p3), (23, .v (.int .i64) p4)], [.rows 30 3 (.int .i64) p8]⟩
            else
              F40.l1_0_1_1_1_0_1_0_0_1_1_0_0_1_0_1_0 n K p0 p1 p2 p3 p4 p5 p6 (IntKind.i64.wrap (p7 + 1)) p8
          else
            none
        else
          none
      else
        none
    else
      exitK K 2 ⟨slots 72 [(1, .v (.sl (.pair (.int .i64) (.pair (.sl (.int .u64)) (.pair (.int .i64) (.pair (.int .i64) (.int .i64)))))) p0), (6, .own 0), (8, .v (.sl (.int .i64)) p1), (21, .v (.sl (.sl (.int .i64))) p2), (22, .v (.int .i64) p3), (23, .v (.int .i64) p4)], [.rows 30 3 (.int .i64) p8]⟩ := by kernel_rfl
theorem F40.c0 (k : Nat) (p0 : (List (List Int))) : exitK (F40.kt k [1, 0, 1, 1, 1, 0, 1, 0]) 0 ⟨slots 72 [(6, .own 0)], [.rows 30 3 (.int .i64) p0]⟩ =
    bif Nat.ble p0.length 1000 then
      some (.tup [.v (.sl (.pair (.int .i64) (.pair (.sl (.int .u64)) (.pair (.int .i64) (.pair (.int .i64) (.int .i64)))))) ((madeAll p0).1), .v .bool ((madeAll p0).2)])
    else
      none := by kernel_rfl
theorem F40.c1 (n : Nat) (K : Conts) (p0 : (List (Int × ((List Int) × (Int × (Int × Int)))))) (p1 : (List (List Int))) (p2 : Int) (p3 : Int) (p4 : (List (List Int))) : exitK (F40.k_l1_0_1_1_1_0_1_0 n K [1, 1, 0, 0, 1, 0, 1, 0]) 1 ⟨slots 72 [(1, .v (.sl (.pair (.int .i64) (.pair (.sl (.int .u64)) (.pair (.int .i64) (.pair (.int .i64) (.int .i64)))))) p0), (6, .own 0), (21, .v (.sl (.sl (.int .i64))) p1), (22, .v (.int .i64) p2), (23, .v (.int .i64) p3)], [.rows 30 3 (.int .i64) p4]⟩ =
    F40.l1_0_1_1_1_0_1_0 n K p0 p1 p2 (IntKind.i64.wrap (p3 + 1)) p4 := by kernel_rfl
theorem F40.c2 (n : Nat) (K : Conts) (p0 : (List (Int × ((List Int) × (Int × (Int × Int)))))) (p1 : (List Int)) (p2 : (List (List Int))) (p3 : Int) (p4 : Int) (p5 : (List (List Int))) : exitK (F40.k_l1_0_1_1_1_0_1_0 n K [1, 1, 0, 0, 1, 0, 1, 0]) 2 ⟨slots 72 [(1, .v (.sl (.pair (.int .i64) (.pair (.sl (.int .u64)) (.pair (.int .i64) (.pair (.int .i64) (.int .i64)))))) p0), (6, .own 0), (8, .v (.sl (.int .i64)) p1), (21, .v (.sl (.sl (.int .i64))) p2), (22, .v (.int .i64) p3), (23, .v (.int .i64) p4)], [.rows 30 3 (.int .i64) p5]⟩ =
    F40.l1_0_1_1_1_0_1_0_0_1_1_0_0_1_1_1_0 n (F40.k_l1_0_1_1_1_0_1_0 n K [1, 1, 0, 0, 1, 1, 1, 0]) p0 p2 p3 p4 p1 (p1.length : Int) 0 p5 := by kernel_rfl
theorem F40.l1_0_1_1_1_0_1_0_0_1_1_0_0_1_1_1_0_eq (n : Nat) (K : Conts) (p0 : (List (Int × ((List Int) × (Int × (Int × Int)))))) (p1 : (List (List Int))) (p2 : Int) (p3 : Int) (p4 : (List Int)) (p5 : Int) (p6 : Int) (p7 : (List (List Int))) : F40.l1_0_1_1_1_0_1_0_0_1_1_0_0_1_1_1_0 (n + 1) K p0 p1 p2 p3 p4 p5 p6 p7 =
    bif decide (p6 < p5) then
      bif decide (0 ≤ p6) && decide (p6 < p4.length) then
        bif decide (0 ≤ p6) && decide (p6 < p7.length) then
          bif !(containsL (p7.getD p6.toNat []) (p4.getD p6.toNat (0 : Int))) then
            bif decide (0 ≤ p6) && decide (p6 < (p7.set p6.toNat (p7.getD p6.toNat [])).length) then
              bif decide ((((p7.set p6.toNat (p7.getD p6.toNat [])).getD p6.toNat []).length + [p4.getD p6.toNat (0 : Int)].length) * 8 ≤ LIM) then
                bif decide (0 ≤ p6) && decide (p6 < (p7.set p6.toNat (p7.getD p6.toNat [])).length) then
                  bif Nat.beq p6.toNat p6.toNat then
                    F40.l1_0_1_1_1_0_1_0_0_1_1_0_0_1_1_1_0 n K p0 p1 p2 p3 p4 p5 (IntKind.i64.wrap (p6 + 1)) ((p7.set p6.toNat (p7.getD p6.toNat [])).set p6.toNat (((p7.set p6.toNat (p7.getD p6.toNat [])).getD p6.toNat []) ++ [p4.getD p6.toNat (0 : Int)]))
                  else
                    none
                else
                  none
              else
                none
            else
              none
          else
            F40.l1_0_1_1_1_0_1_0_0_1_1_0_0_1_1_1_0 n K p0 p1 p2 p3 p4 p5 (IntKind.i64.wrap (p6 + 1)) (p7.set p6.toNat (p7.getD p6.toNat []))
        else
          none
      else
        none
    else
      exitK K 4 ⟨slots 72 [(1, .v (.sl (.pair (.int .i64) (.pair (.sl (.int .u64)) (.pair (.int .i64) (.pair (.int .i64) (.int .i64)))))) p0), (6, .own 0), (21, .v (.sl (.sl (.int .i64))) p1), (22, .v (.int .i64) p2), (23, .v (.int .i64) p3)], [.rows 30 3 (.int .i64) p7]⟩ := by kernel_rfl
theorem F40.c3 (n : Nat) (K : Conts) (p0 : (List (Int × ((List Int) × (Int × (Int × Int)))))) (p1 : (List (List Int))) (p2 : Int) (p3 : Int) (p4 : (List (List Int))) : exitK (F40.k_l1_0_1_1_1_0_1_0 n K [1, 1, 0, 0, 1, 1, 1, 0]) 4 ⟨slots 72 [(1, .v (.sl (.pair (.int .i64) (.pair (.sl (.int .u64)) (.pair (.int .i64) (.pair (.int .i64) (.int .i64)))))) p0), (6, .own 0), (21, .v (.sl (.sl (.int .i64))) p1), (22, .v (.int .i64) p2), (23, .v (.int .i64) p3)], [.rows 30 3 (.int .i64) p4]⟩ =
    F40.l1_0_1_1_1_0_1_0 n K p0 p1 p2 (IntKind.i64.wrap (p3 + 1)) p4 := by kernel_rfl

/-! ### 41: jigsaw/jigsawlaw17.doms -/
noncomputable def F41.fn : Func := Go.Proofs.Tryz.f17
noncomputable def F41.body : Code := bodyOf F41.fn
noncomputable def F41.E : Env := ⟨tt, [(50, h_ofD)], [(1, [0]), (2, [0, 3]), (3, [3, 8, 9, 10, 470003]), (4, [3, 8, 9, 10, 11]), (5, [3, 5, 8, 9, 10]), (6, [3, 6, 8, 9, 10]), (7, [3, 8, 9, 10]), (8, [3])], [(0, [3]), (1, [3, 8, 9, 10])], some [2], inv⟩
noncomputable def F41.K0 : Conts := { nrm := endW F41.E false F41.fn.results.toList, ret := endW F41.E false F41.fn.results.toList, ex := [] }
noncomputable def F41.kt (k : Nat) (q : List Nat) : Conts := contAt F41.E k F41.body F41.K0 q
noncomputable def F41.l1_1_0_1_0 (n : Nat) (K : Conts) (p0 : (List (List Int))) (p1 : Int) (p2 : Int) (p3 : (List (Int × ((List Int) × (Int × (Int × Int)))))) : Option AV := loopF F41.E n (inLoop (subC [1, 1, 0, 1, 0] F41.body)) K ⟨slots 25 [(3, .own 0), (8, .v (.sl (.sl (.int .i64))) p0), (9, .v (.int .i64) p1), (10, .v (.int .i64) p2)], [.row 47 (.pair (.int .i64) (.pair (.sl (.int .u64)) (.pair (.int .i64) (.pair (.int .i64) (.int .i64))))) p3]⟩
theorem F41.start_eq (k : Nat) (a0 : (List (List Int))) : callW F41.E false F41.fn k [.v (.sl (.sl (.int .i64))) a0] =
    F41.l1_1_0_1_0 k (F41.kt k [1, 1, 0, 1, 0]) a0 (a0.length : Int) 0 [] := by kernel_rfl
theorem F41.l1_1_0_1_0_eq (n : Nat) (K : Conts) (p0 : (List (List Int))) (p1 : Int) (p2 : Int) (p3 : (List (Int × ((List Int) × (Int × (Int × Int)))))) : F41.l1_1_0_1_0 (n + 1) K p0 p1 p2 p3 =
    bif decide (p2 < p1) then
      bif decide (0 ≤ p2) && decide (p2 < p0.length) then
        bif decide ((p3.length + [(ofD (p0.getD p2.toNat [])).1].length) * 56 ≤ LIM) then
          F41.l1_1_0_1_0 n K p0 p1 (IntKind.i64.wrap (p2 + 1)) (p3 ++ [(ofD (p0.getD p2.toNat [])).1])
        else
          none
      else
        none
    else
      exitK K 0 ⟨slots 25 [(3, .own 0)], [.row 47 (.pair (.int .i64) (.pair (.sl (.int .u64)) (.pair (.int .i64) (.pair (.int .i64) (.int .i64))))) p3]⟩ := by kernel_rfl
theorem F41.c0 (k : Nat) (p0 : (List (Int × ((List Int) × (Int × (Int × Int)))))) : exitK (F41.kt k [1, 1, 0, 1, 0]) 0 ⟨slots 25 [(3, .own 0)], [.row 47 (.pair (.int .i64) (.pair (.sl (.int .u64)) (.pair (.int .i64) (.pair (.int .i64) (.int .i64))))) p0]⟩ =
    some (.v (.sl (.pair (.int .i64) (.pair (.sl (.int .u64)) (.pair (.int .i64) (.pair (.int .i64) (.int .i64)))))) p0) := by kernel_rfl

/-! ### 42: jigsaw/jigsawlaw17.lists -/
noncomputable def F42.fn : Func := Go.Proofs.Tryz.f21
noncomputable def F42.body : Code := bodyOf F42.fn
noncomputable def F42.E : Env := ⟨tt, [(23, h_listD)], [(1, [0]), (2, [0, 3]), (3, [3, 6, 7, 8, 300003]), (4, [3, 6, 7, 8, 9]), (5, [3, 5, 6, 7, 8]), (6, [3, 6, 7, 8]), (7, [3])], [(0, [3]), (1, [3, 6, 7, 8])], some [2], inv⟩
noncomputable def F42.K0 : Conts := { nrm := endW F42.E false F42.fn.results.toList, ret := endW F42.E false F42.fn.results.toList, ex := [] }
noncomputable def F42.kt (k : Nat) (q : List Nat) : Conts := contAt F42.E k F42.body F42.K0 q
noncomputable def F42.l1_1_0_1_0 (n : Nat) (K : Conts) (p0 : (List (Int × ((List Int) × (Int × (Int × Int)))))) (p1 : Int) (p2 : Int) (p3 : (List (List Int))) : Option AV := loopF F42.E n (inLoop (subC [1, 1, 0, 1, 0] F42.body)) K ⟨slots 19 [(3, .own 0), (6, .v (.sl (.pair (.int .i64) (.pair (.sl (.int .u64)) (.pair (.int .i64) (.pair (.int .i64) (.int .i64)))))) p0), (7, .v (.int .i64) p1), (8, .v (.int .i64) p2)], [.row 30 (.sl (.int .i64)) p3]⟩
theorem F42.start_eq (k : Nat) (a0 : (List (Int × ((List Int) × (Int × (Int × Int)))))) : callW F42.E false F42.fn k [.v (.sl (.pair (.int .i64) (.pair (.sl (.int .u64)) (.pair (.int .i64) (.pair (.int .i64) (.int .i64)))))) a0] =
    F42.l1_1_0_1_0 k (F42.kt k [1, 1, 0, 1, 0]) a0 (a0.length : Int) 0 [] := by kernel_rfl
theorem F42.l1_1_0_1_0_eq (n : Nat) (K : Conts) (p0 : (List (Int × ((List Int) × (Int × (Int × Int)))))) (p1 : Int) (p2 : Int) (p3 : (List (List Int))) : F42.l1_1_0_1_0 (n + 1) K p0 p1 p2 p3 =
    bif decide (p2 < p1) then
      bif decide (0 ≤ p2) && decide (p2 < p0.length) then
        bif listB (p0.getD p2.toNat ((0 : Int), ([], ((0 : Int), ((0 : Int), (0 : Int)))))) then
          bif decide ((p3.length + [listD (p0.getD p2.toNat ((0 : Int), ([], ((0 : Int), ((0 : Int), (0 : Int))))))].length) * 24 ≤ LIM) then
            F42.l1_1_0_1_0 n K p0 p1 (IntKind.i64.wrap (p2 + 1)) (p3 ++ [listD (p0.getD p2.toNat ((0 : Int), ([], ((0 : Int), ((0 : Int), (0 : Int))))))])
          else
            none
        else
          none
      else
        none
    else
      exitK K 0 ⟨slots 19 [(3, .own 0)], [.row 30 (.sl (.int .i64)) p3]⟩ := by kernel_rfl
theorem F42.c0 (k : Nat) (p0 : (List (List Int))) : exitK (F42.kt k [1, 1, 0, 1, 0]) 0 ⟨slots 19 [(3, .own 0)], [.row 30 (.sl (.int .i64)) p0]⟩ =
    some (.v (.sl (.sl (.int .i64))) p0) := by kernel_rfl

/-! ### 303: jigsaw/jigsawlaw17.TableRows -/
noncomputable def F303.fn : Func := Go.Proofs.Tryz.f3
noncomputable def F303.body : Code := bodyOf F303.fn
noncomputable def F303.E : Env := ⟨tt, [(14, h_makeA), (15, h_containsL), (16, h_tableF), (17, h_doms41), (18, h_cloneR), (19, h_wakes39), (20, h_sameL), (21, h_lists42), (22, h_hasD), (23, h_listD)], [(1, [1, 2]), (2, [1, 5, 6]), (3, [1, 5, 6, 7]), (4, [1, 5, 6, 7, 8]), (5, [1, 5, 6, 7, 8, 27, 28, 30007]), (6, [1, 5, 6, 7, 8, 27, 28, 29]), (7, [1, 5, 6, 7, 8, 9, 27, 28]), (8, [1, 5, 6, 7, 8, 9, 10, 27, 28]), (9, [1, 5, 6, 7, 8, 9, 10, 27, 28, 34]), (10, [1, 5, 6, 7, 8, 9, 10, 27, 28]), (11, [1, 5, 6, 7, 8, 9, 10, 27, 28]), (12, [1, 5, 6, 7, 8, 27, 28]), (13, [5, 6, 7, 8]), (14, [5, 6, 7, 8, 11, 12]), (15, [5, 6, 7, 8, 11, 12, 13]), (16, [6, 7, 8, 11, 12, 13]), (17, [6, 7, 8, 11, 12, 14, 15]), (18, [6, 7, 11, 12, 14, 15, 81]), (19, [6, 7, 11, 12, 14, 15]), (20, [7, 11, 12, 14, 103]), (21, [7, 11, 12, 14]), (22, [11, 12, 14, 104, 105, 106]), (23, [11, 12, 14, 104, 105, 106, 107]), (24, [11, 12, 14, 16, 17, 104, 105, 106]), (25, [11, 12, 14, 16, 104, 105, 106, 117]), (26, [11, 12, 14, 16, 104, 105, 106]), (27, [11, 12, 14, 16, 104, 105, 106, 118]), (28, [11, 12, 14, 16, 104, 105, 106, 123, 124, 125]), (29, [11, 12, 14, 16, 104, 105, 106, 123, 124, 125, 126]), (30, [11, 12, 14, 16, 19, 104, 105, 106, 123, 124, 125]), (31, [11, 12, 14, 16, 104, 105, 106, 123, 124, 125, 135]), (32, [11, 12, 14, 16, 104, 105, 106, 123, 124, 125]), (33, [11, 12, 14, 104, 105, 106]), (34, [])], [(0, [5, 6, 7, 8]), (1, [1, 5, 6, 7, 8, 27, 28]), (2, []), (3, [11, 12, 14, 104, 105, 106]), (4, [11, 12, 14, 104, 105, 106]), (5, [11, 12, 14, 16, 104, 105, 106, 123, 124, 125])], some [4], inv⟩
noncomputable def F303.K0 : Conts := { nrm := endW F303.E false F303.fn.results.toList, ret := endW F303.E false F303.fn.results.toList, ex := [] }
noncomputable def F303.kt (k : Nat) (q : List Nat) : Conts := contAt F303.E k F303.body F303.K0 q
noncomputable def F303.l1_1_1_1_0_1_0 (n : Nat) (K : Conts) (p0 : (List Int)) (p1 : Bool) (p2 : Int) (p3 : Int) (p4 : Int) (p5 : (List Int)) (p6 : (List Int)) (p7 : (List Int)) (p8 : (List Int)) (p9 : (List Int)) (p10 : Int) (p11 : (List (List Int))) (p12 : (List (List Int))) (p13 : (List Int)) : Option AV := loopF F303.E n (inLoop (subC [1, 1, 1, 1, 0, 1, 0] F303.body)) K ⟨slots 139 [(1, .v (.sl (.int .i8)) p0), (5, .pb 0 0), (6, .own 1), (7, .own 2), (8, .v .bool p1), (27, .v (.int .i64) p2), (28, .v (.int .i64) p3)], [.box [.v (.int .i64) p4, .v (.sl (.int .i64)) p5, .v (.sl (.int .i64)) p6, .v (.sl (.int .i64)) p7, .v (.sl (.int .i64)) p8, .v (.sl (.int .i64)) p9, .v (.int .i64) p10, .v (.sl (.sl (.int .i64))) p11], .row 30 (.sl (.int .i64)) p12, .row 3 (.int .i64) p13]⟩
noncomputable def F303.l1_1_1_1_1_1_1_1_1_1_1_0_1_0 (n : Nat) (K : Conts) (p0 : (List (Int × ((List Int) × (Int × (Int × Int)))))) (p1 : Bool) (p2 : (List (Int × ((List Int) × (Int × (Int × Int)))))) (p3 : Int) (p4 : Int) (p5 : (List Int)) : Option AV := loopF F303.E n (inLoop (subC [1, 1, 1, 1, 1, 1, 1, 1, 1, 1, 1, 0, 1, 0] F303.body)) K ⟨slots 139 [(11, .v (.sl (.pair (.int .i64) (.pair (.sl (.int .u64)) (.pair (.int .i64) (.pair (.int .i64) (.int .i64)))))) p0), (12, .v .bool p1), (14, .v (.sl (.pair (.int .i64) (.pair (.sl (.int .u64)) (.pair (.int .i64) (.pair (.int .i64) (.int .i64)))))) p2), (104, .own 0), (105, .v (.int .i64) p3), (106, .v (.int .i64) p4)], [.frz (.int .i64) p5]⟩
noncomputable def F303.k_l1_1_1_1_1_1_1_1_1_1_1_0_1_0 (n : Nat) (K : Conts) (q : List Nat) : Conts := contAt F303.E n (inLoop (subC [1, 1, 1, 1, 1, 1, 1, 1, 1, 1, 1, 0, 1, 0] F303.body)) (loopK F303.E n (inLoop (subC [1, 1, 1, 1, 1, 1, 1, 1, 1, 1, 1, 0, 1, 0] F303.body)) K) q
noncomputable def F303.l1_1_1_1_1_1_1_1_1_1_1_0_1_0_0_1_1_0_0_1_1_1_0_1_0 (n : Nat) (K : Conts) (p0 : (List (Int × ((List Int) × (Int × (Int × Int)))))) (p1 : Bool) (p2 : (List (Int × ((List Int) × (Int × (Int × Int)))))) (p3 : Int) (p4 : Int) (p5 : Int) (p6 : (List Int)) (p7 : Int) (p8 : Int) (p9 : (List Int)) : Option AV := loopF F303.E n (inLoop (subC [1, 1, 1, 1, 1, 1, 1, 1, 1, 1, 1, 0, 1, 0, 0, 1, 1, 0, 0, 1, 1, 1, 0, 1, 0] F303.body)) K ⟨slots 139 [(11, .v (.sl (.pair (.int .i64) (.pair (.sl (.int .u64)) (.pair (.int .i64) (.pair (.int .i64) (.int .i64)))))) p0), (12, .v .bool p1), (14, .v (.sl (.pair (.int .i64) (.pair (.sl (.int .u64)) (.pair (.int .i64) (.pair (.int .i64) (.int .i64)))))) p2), (16, .v (.int .i64) p3), (104, .own 0), (105, .v (.int .i64) p4), (106, .v (.int .i64) p5), (123, .v (.sl (.int .i64)) p6), (124, .v (.int .i64) p7), (125, .v (.int .i64) p8)], [.frz (.int .i64) p9]⟩
theorem F303.start_eq (k : Nat) (a0 : ((Int × ((List Int) × ((List Int) × ((List Int) × (Int × Int))))) × (List (List Int)))) (a1 : (List Int)) : callW F303.E false F303.fn k [.agg [.v (.int .u8) a0.1.1, .v (.sl (.int .u8)) a0.1.2.1, .v (.sl (.int .u8)) a0.1.2.2.1, .v (.sl (.int .i8)) a0.1.2.2.2.1, .v (.int .i16) a0.1.2.2.2.2.1, .v (.int .u8) a0.1.2.2.2.2.2, .v (.sl (.sl (.int .i64))) a0.2], .v (.sl (.int .i8)) a1] =
    bif makeAB a0 18 5 then
      F303.l1_1_1_1_0_1_0 k (F303.kt k [1, 1, 1, 1, 0, 1, 0]) a1 true ((((makeAC a0 18).2).1).length : Int) 0 ((makeAC a0 18).1) (((makeAC a0 18).2).1) ((((makeAC a0 18).2).2).1) (((((makeAC a0 18).2).2).2).1) ((((((makeAC a0 18).2).2).2).2).1) (((((((makeAC a0 18).2).2).2).2).2).1) ((((((((makeAC a0 18).2).2).2).2).2).2).1) ((((((((makeAC a0 18).2).2).2).2).2).2).2) (makeAL a0 18 5) []
    else
      none := by kernel_rfl
theorem F303.l1_1_1_1_0_1_0_eq (n : Nat) (K : Conts) (p0 : (List Int)) (p1 : Bool) (p2 : Int) (p3 : Int) (p4 : Int) (p5 : (List Int)) (p6 : (List Int)) (p7 : (List Int)) (p8 : (List Int)) (p9 : (List Int)) (p10 : Int) (p11 : (List (List Int))) (p12 : (List (List Int))) (p13 : (List Int)) : F303.l1_1_1_1_0_1_0 (n + 1) K p0 p1 p2 p3 p4 p5 p6 p7 p8 p9 p10 p11 p12 p13 =
    bif decide (p3 < p2) then
      bif decide (p3 < (p0.length : Int)) then
        bif decide (0 ≤ p3) && decide (p3 < p0.length) then
          bif decide ((p13.length + [IntKind.i64.wrap (p0.getD p3.toNat (0 : Int))].length) * 8 ≤ LIM) then
            bif p1 then
              bif decide (0 ≤ p3) && decide (p3 < p12.length) then
                F303.l1_1_1_1_0_1_0 n K p0 (containsL (p12.getD p3.toNat []) (IntKind.i64.wrap (p0.getD p3.toNat (0 : Int)))) p2 (IntKind.i64.wrap (p3 + 1)) p4 p5 p6 p7 p8 p9 p10 p11 p12 (p13 ++ [IntKind.i64.wrap (p0.getD p3.toNat (0 : Int))])
              else
                none
            else
              F303.l1_1_1_1_0_1_0 n K p0 false p2 (IntKind.i64.wrap (p3 + 1)) p4 p5 p6 p7 p8 p9 p10 p11 p12 (p13 ++ [IntKind.i64.wrap (p0.getD p3.toNat (0 : Int))])
          else
            none
        else
          none
      else
        bif decide ((p13.length + [1].length) * 8 ≤ LIM) then
          bif p1 then
            bif decide (0 ≤ p3) && decide (p3 < p12.length) then
              F303.l1_1_1_1_0_1_0 n K p0 (containsL (p12.getD p3.toNat []) 1) p2 (IntKind.i64.wrap (p3 + 1)) p4 p5 p6 p7 p8 p9 p10 p11 p12 (p13 ++ [1])
            else
              none
          else
            F303.l1_1_1_1_0_1_0 n K p0 false p2 (IntKind.i64.wrap (p3 + 1)) p4 p5 p6 p7 p8 p9 p10 p11 p12 (p13 ++ [1])
        else
          none
    else
      exitK K 0 ⟨slots 139 [(5, .pb 0 0), (6, .own 1), (7, .own 2), (8, .v .bool p1)], [.box [.v (.int .i64) p4, .v (.sl (.int .i64)) p5, .v (.sl (.int .i64)) p6, .v (.sl (.int .i64)) p7, .v (.sl (.int .i64)) p8, .v (.sl (.int .i64)) p9, .v (.int .i64) p10, .v (.sl (.sl (.int .i64))) p11], .row 30 (.sl (.int .i64)) p12, .row 3 (.int .i64) p13]⟩ := by kernel_rfl
theorem F303.c0 (k : Nat) (p0 : Bool) (p1 : Int) (p2 : (List Int)) (p3 : (List Int)) (p4 : (List Int)) (p5 : (List Int)) (p6 : (List Int)) (p7 : Int) (p8 : (List (List Int))) (p9 : (List (List Int))) (p10 : (List Int)) : exitK (F303.kt k [1, 1, 1, 1, 0, 1, 0]) 0 ⟨slots 139 [(5, .pb 0 0), (6, .own 1), (7, .own 2), (8, .v .bool p0)], [.box [.v (.int .i64) p1, .v (.sl (.int .i64)) p2, .v (.sl (.int .i64)) p3, .v (.sl (.int .i64)) p4, .v (.sl (.int .i64)) p5, .v (.sl (.int .i64)) p6, .v (.int .i64) p7, .v (.sl (.sl (.int .i64))) p8], .row 30 (.sl (.int .i64)) p9, .row 3 (.int .i64) p10]⟩ =
    bif Nat.ble p9.length 1000 then
      bif filtB 18 18 (p1, (p2, (p3, (p4, (p5, (p6, (p7, p8))))))) (domsL p9) then
        bif cloneB p8 then
          bif decide ((0 : Int) < p8.length) then
            bif decide ((p8.length + [p10, p8.getD 0 []].length) * 24 ≤ LIM) then
              bif Nat.ble p9.length 1000 then
                bif filtB 18 18 (p1, (p2, (p3, (p4, (p5, (p6, (p7, p8 ++ [p10, p8.getD 0 []]))))))) (domsL p9) then
                  bif !p0 then
                    bif ((tableF (p1, (p2, (p3, (p4, (p5, (p6, (p7, p8))))))) (domsL p9)).2) == ((tableF (p1, (p2, (p3, (p4, (p5, (p6, (p7, p8 ++ [p10, p8.getD 0 []]))))))) (domsL p9)).2) then
                      bif Nat.ble ((tableF (p1, (p2, (p3, (p4, (p5, (p6, (p7, p8))))))) (domsL p9)).1).length 1000 && ((tableF (p1, (p2, (p3, (p4, (p5, (p6, (p7, p8))))))) (domsL p9)).1).all listB then
                        bif Nat.ble ((tableF (p1, (p2, (p3, (p4, (p5, (p6, (p7, p8 ++ [p10, p8.getD 0 []]))))))) (domsL p9)).1).length 1000 && ((tableF (p1, (p2, (p3, (p4, (p5, (p6, (p7, p8 ++ [p10, p8.getD 0 []]))))))) (domsL p9)).1).all listB then
                          bif Nat.ble (listsL ((tableF (p1, (p2, (p3, (p4, (p5, (p6, (p7, p8))))))) (domsL p9)).1)).length 1000 && lensB (listsL ((tableF (p1, (p2, (p3, (p4, (p5, (p6, (p7, p8))))))) (domsL p9)).1)) then
                            some (.v .bool (sameL (listsL ((tableF (p1, (p2, (p3, (p4, (p5, (p6, (p7, p8))))))) (domsL p9)).1)) (listsL ((tableF (p1, (p2, (p3, (p4, (p5, (p6, (p7, p8 ++ [p10, p8.getD 0 []]))))))) (domsL p9)).1))))
                          else
                            none
                        else
                          none
                      else
                        none
                    else
                      some (.v .bool false)
                  else
                    bif !((tableF (p1, (p2, (p3, (p4, (p5, (p6, (p7, p8 ++ [p10, p8.getD 0 []]))))))) (domsL p9)).2) then
                      some (.v .bool false)
                    else
                      bif !(decide ((((tableF (p1, (p2, (p3, (p4, (p5, (p6, (p7, p8 ++ [p10, p8.getD 0 []]))))))) (domsL p9)).1).length : Int) = (p9.length : Int))) then
                        some (.v .bool false)
                      else
                        F303.l1_1_1_1_1_1_1_1_1_1_1_0_1_0 k (F303.kt k [1, 1, 1, 1, 1, 1, 1, 1, 1, 1, 1, 0, 1, 0]) ((tableF (p1, (p2, (p3, (p4, (p5, (p6, (p7, p8))))))) (domsL p9)).1) ((tableF (p1, (p2, (p3, (p4, (p5, (p6, (p7, p8))))))) (domsL p9)).2) ((tableF (p1, (p2, (p3, (p4, (p5, (p6, (p7, p8 ++ [p10, p8.getD 0 []]))))))) (domsL p9)).1) (p10.length : Int) 0 p10
                else
                  none
              else
                none
            else
              none
          else
            none
        else
          none
      else
        none
    else
      none := by kernel_rfl
theorem F303.l1_1_1_1_1_1_1_1_1_1_1_0_1_0_eq (n : Nat) (K : Conts) (p0 : (List (Int × ((List Int) × (Int × (Int × Int)))))) (p1 : Bool) (p2 : (List (Int × ((List Int) × (Int × (Int × Int)))))) (p3 : Int) (p4 : Int) (p5 : (List Int)) : F303.l1_1_1_1_1_1_1_1_1_1_1_0_1_0 (n + 1) K p0 p1 p2 p3 p4 p5 =
    bif decide (p4 < p3) then
      bif decide (0 ≤ p4) && decide (p4 < p5.length) then
        bif decide (0 ≤ p4) && decide (p4 < p2.length) then
          bif nearB ((p2.getD p4.toNat ((0 : Int), ([], ((0 : Int), ((0 : Int), (0 : Int)))))).1) then
            bif !(hasD (p2.getD p4.toNat ((0 : Int), ([], ((0 : Int), ((0 : Int), (0 : Int)))))) (p5.getD p4.toNat (0 : Int))) then
              K.ret ⟨slots 139 [(4, .v .bool false)], []⟩
            else
              bif p1 then
                bif decide (0 ≤ p4) && decide (p4 < p0.length) then
                  bif listB (p0.getD p4.toNat ((0 : Int), ([], ((0 : Int), ((0 : Int), (0 : Int)))))) then
                    F303.l1_1_1_1_1_1_1_1_1_1_1_0_1_0_0_1_1_0_0_1_1_1_0_1_0 n (F303.k_l1_1_1_1_1_1_1_1_1_1_1_0_1_0 n K [1, 1, 0, 0, 1, 1, 1, 0, 1, 0]) p0 p1 p2 p4 p3 p4 (listD (p0.getD p4.toNat ((0 : Int), ([], ((0 : Int), ((0 : Int), (0 : Int))))))) ((listD (p0.getD p4.toNat ((0 : Int), ([], ((0 : Int), ((0 : Int), (0 : Int))))))).length : Int) 0 p5
                  else
                    none
                else
                  none
              else
                F303.l1_1_1_1_1_1_1_1_1_1_1_0_1_0 n K p0 p1 p2 p3 (IntKind.i64.wrap (p4 + 1)) p5
          else
            none
        else
          none
      else
        none
    else
      exitK K 2 ⟨slots 139 [], []⟩ := by kernel_rfl
theorem F303.l1_1_1_1_1_1_1_1_1_1_1_0_1_0_0_1_1_0_0_1_1_1_0_1_0_eq (n : Nat) (K : Conts) (p0 : (List (Int × ((List Int) × (Int × (Int × Int)))))) (p1 : Bool) (p2 : (List (Int × ((List Int) × (Int × (Int × Int)))))) (p3 : Int) (p4 : Int) (p5 : Int) (p6 : (List Int)) (p7 : Int) (p8 : Int) (p9 : (List Int)) : F303.l1_1_1_1_1_1_1_1_1_1_1_0_1_0_0_1_1_0_0_1_1_1_0_1_0 (n + 1) K p0 p1 p2 p3 p4 p5 p6 p7 p8 p9 =
    bif decide (p8 < p7) then
      bif decide (0 ≤ p8) && decide (p8 < p6.length) then
        bif decide (0 ≤ p3) && decide (p3 < p2.length) then
          bif nearB ((p2.getD p3.toNat ((0 : Int), ([], ((0 : Int), ((0 : Int), (0 : Int)))))).1) then
            bif !(hasD (p2.getD p3.toNat ((0 : Int), ([], ((0 : Int), ((0 : Int), (0 : Int)))))) (p6.getD p8.toNat (0 : Int))) then
              K.ret ⟨slots 139 [(4, .v .bool false)], []⟩
            else
              F303.l1_1_1_1_1_1_1_1_1_1_1_0_1_0_0_1_1_0_0_1_1_1_0_1_0 n K p0 p1 p2 p3 p4 p5 p6 p7 (IntKind.i64.wrap (p8 + 1)) p9
          else
            none
        else
          none
      else
        none
    else
      exitK K 4 ⟨slots 139 [(11, .v (.sl (.pair (.int .i64) (.pair (.sl (.int .u64)) (.pair (.int .i64) (.pair (.int .i64) (.int .i64)))))) p0), (12, .v .bool p1), (14, .v (.sl (.pair (.int .i64) (.pair (.sl (.int .u64)) (.pair (.int .i64) (.pair (.int .i64) (.int .i64)))))) p2), (104, .own 0), (105, .v (.int .i64) p4), (106, .v (.int .i64) p5)], [.frz (.int .i64) p9]⟩ := by kernel_rfl
theorem F303.c2 (k : Nat) : exitK (F303.kt k [1, 1, 1, 1, 1, 1, 1, 1, 1, 1, 1, 0, 1, 0]) 2 ⟨slots 139 [], []⟩ =
    some (.v .bool true) := by kernel_rfl
theorem F303.c4 (n : Nat) (K : Conts) (p0 : (List (Int × ((List Int) × (Int × (Int × Int)))))) (p1 : Bool) (p2 : (List (Int × ((List Int) × (Int × (Int × Int)))))) (p3 : Int) (p4 : Int) (p5 : (List Int)) : exitK (F303.k_l1_1_1_1_1_1_1_1_1_1_1_0_1_0 n K [1, 1, 0, 0, 1, 1, 1, 0, 1, 0]) 4 ⟨slots 139 [(11, .v (.sl (.pair (.int .i64) (.pair (.sl (.int .u64)) (.pair (.int .i64) (.pair (.int .i64) (.int .i64)))))) p0), (12, .v .bool p1), (14, .v (.sl (.pair (.int .i64) (.pair (.sl (.int .u64)) (.pair (.int .i64) (.pair (.int .i64) (.int .i64)))))) p2), (104, .own 0), (105, .v (.int .i64) p3), (106, .v (.int .i64) p4)], [.frz (.int .i64) p5]⟩ =
    F303.l1_1_1_1_1_1_1_1_1_1_1_0_1_0 n K p0 p1 p2 p3 (IntKind.i64.wrap (p4 + 1)) p5 := by kernel_rfl

end Go.Proofs.YtnojoaghcbljfaaGreatDoor.Ev
