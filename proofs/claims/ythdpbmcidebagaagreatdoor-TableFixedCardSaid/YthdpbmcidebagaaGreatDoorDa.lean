/-
The functions of Table's filter and laws as the evaluator runs them: printed by a program of mine, each equation by kernel_rfl.
Conditions: none.
-/
import Derived.Test.YthdpbmcidebagaaGreatDoorCg
set_option linter.unusedVariables false
set_option linter.unusedSimpArgs false
set_option maxRecDepth 100000
namespace Go.Proofs.YthdpbmcidebagaaGreatDoor.Ev
open Go
/-! ### 38: jigsaw/jigsawlaw17.kind -/
noncomputable def F38.fn : Func := Go.Proofs.Tryz.f38
noncomputable def F38.E : Env := ⟨tt, [], [(1, [0])], [], some [2], inv⟩
theorem F38.start_eq (k : Nat) (a0 : Int) : callW F38.E false F38.fn k [.v (.int .u8) a0] =
    some (.v (.int .i64) (IntKind.i64.wrap (18 + (IntKind.i64.wrap (0 * (IntKind.i64.wrap a0)))))) := by kernel_rfl

/-! ### 40: jigsaw/table.Filter -/
noncomputable def F40.fn : Func := Go.Proofs.Tryz.f40
noncomputable def F40.body : Code := bodyOf F40.fn
noncomputable def F40.E : Env := ⟨tt, [(30, h_containsL), (31, h_hasD), (48, h_fitsD), (49, h_made)], [(1, [1, 2]), (2, [1, 2, 16]), (3, [1, 2]), (4, [1, 2, 6]), (5, [1, 6, 21, 22, 23]), (6, [1, 6, 21, 22, 23, 24]), (7, [1, 6, 8, 21, 22, 23]), (8, [1, 6, 8, 21, 22, 23, 27, 28, 29]), (9, [1, 6, 8, 21, 22, 23, 27, 28, 29, 30]), (10, [1, 6, 8, 9, 10, 21, 22, 23, 27, 28, 29]), (11, [1, 6, 8, 21, 22, 23, 27, 28, 29]), (12, [1, 6, 8, 21, 22, 23]), (13, [1, 6, 21, 22, 23, 42, 43, 44]), (14, [1, 6, 21, 22, 23, 42, 43, 44, 45]), (15, [1, 6, 11, 12, 21, 22, 23, 42, 43, 44]), (16, [1, 6, 11, 12, 21, 22, 23, 42, 43, 44, 55]), (17, [1, 6, 21, 22, 23, 42, 43, 44]), (18, [1, 6, 21, 22, 23]), (19, [6])], [(0, [6]), (1, [1, 6, 21, 22, 23]), (2, [1, 6, 8, 21, 22, 23]), (3, [1, 6, 8, 21, 22, 23, 27, 28, 29]), (4, [1, 6, 21, 22, 23]), (5, [1, 6, 21, 22, 23, 42, 43, 44])], some [4, 5], inv⟩
noncomputable def F40.K0 : Conts := { nrm := endW F40.E false F40.fn.results.toList, ret := endW F40.E false F40.fn.results.toList, ex := [] }
noncomputable def F40.kt (k : Nat) (q : List Nat) : Conts := contAt F40.E k F40.body F40.K0 q
noncomputable def F40.l1_0_1_1_1_0_1_0 (n : Nat) (K : Conts) (p0 : (List (Int × ((List Int) × (Int × (Int × Int)))))) (p1 : (List (List Int))) (p2 : Int) (p3 : Int) (p4 : (List (List Int))) : Option AV := loopF F40.E n (inLoop (subC [1, 0, 1, 1, 1, 0, 1, 0] F40.body)) K ⟨slots 72 [(1, .v (.sl (.pair (.int .i64) (.pair (.sl (.int .u64)) (.pair (.int .i64) (.pair (.int .i64) (.int .i64)))))) p0), (6, .own 0), (21, .v (.sl (.sl (.int .i64))) p1), (22, .v (.int .i64) p2), (23, .v (.int .i64) p3)], [.rows 30 3 (.int .i64) p4]⟩
noncomputable def F40.k_l1_0_1_1_1_0_1_0 (n : Nat) (K : Conts) (q : List Nat) : Conts := contAt F40.E n (inLoop (subC [1, 0, 1, 1, 1, 0, 1, 0] F40.body)) (loopK F40.E n (inLoop (subC [1, 0, 1, 1, 1, 0, 1, 0] F40.body)) K) q
noncomputable def F40.l1_0_1_1_1_0_1_0_0_1_1_0_0_1_0_1_0 (n : Nat) (K : Conts) (p0 : (List (Int × ((List Int) × (Int × (Int × Int)))))) (p1 : (List Int)) (p2 : (List (List Int))) (p3 : Int) (p4 : Int) (p5 : (List Int)) (p6 : Int) (p7 : Int) (p8 : (List (List Int))) : Option AV := loopF F40.E n (inLoop (subC [1, 0, 1, 1, 1, 0, 1, 0, 0, 1, 1, 0, 0, 1, 0, 1, 0] F40.body)) K ⟨slots 72 [(1, .v (.sl (.pair (.int .i64) (.pair (.sl (.int .u64)) (.pair (.int .i64) (.pair (.int .i64) (.int .i64)))))) p0), (6, .own 0), (8, .v (.sl (.int .i64)) p1), (21, .v (.sl (.sl (.int .i64))) p2), (22, .v (.int .i64) p3), (23, .v (.int .i64) p4), (27, .v (.sl (.int .i64)) p5), (28, .v (.int .i64) p6), (29, .v (.int .i64) p7)], [.rows 30 3 (.int .i64) p8]⟩
noncomputable def F40.l1_0_1_1_1_0_1_0_0_1_1_0_0_1_1_1_0 (n : Nat) (K : Conts) (p0 : (List (Int × ((List Int) × (Int × (Int × Int)))))) (p1 : (List (List Int))) (p2 : Int) (p3 : Int) (p4 : (List Int)) (p5 : Int) (p6 : Int) (p7 : (List (List Int))) : Option AV := loopF F40.E n (inLoop (subC [1, 0, 1, 1, 1, 0, 1, 0, 0, 1, 1, 0, 0, 1, 1, 1, 0] F40.body)) K ⟨slots 72 [(1, .v (.sl (.pair (.int .i64) (.pair (.sl (.int .u64)) (.pair (.int .i64) (.pair (.int .i64) (.int .i64)))))) p0), (6, .own 0), (21, .v (.sl (.sl (.int .i64))) p1), (22, .v (.int .i64) p2), (23, .v (.int .i64) p3), (42, .v (.sl (.int .i64)) p4), (43, .v (.int .i64) p5), (44, .v (.int .i64) p6)], [.rows 30 3 (.int .i64) p7]⟩
theorem F40.start_eq (k : Nat) (a0 : (Int × ((List Int) × ((List Int) × ((List Int) × ((List Int) × ((List Int) × (Int × (List (List Int)))))))))) (a1 : (List (Int × ((List Int) × (Int × (Int × Int)))))) : callW F40.E false F40.fn k [.agg [.v (.int .i64) a0.1, .v (.sl (.int .i64)) a0.2.1, .v (.sl (.int .i64)) a0.2.2.1, .v (.sl (.int .i64)) a0.2.2.2.1, .v (.sl (.int .i64)) a0.2.2.2.2.1, .v (.sl (.int .i64)) a0.2.2.2.2.2.1, .v (.int .i64) a0.2.2.2.2.2.2.1, .v (.sl (.sl (.int .i64))) a0.2.2.2.2.2.2.2], .v (.sl (.pair (.int .i64) (.pair (.sl (.int .u64)) (.pair (.int .i64) (.pair (.int .i64) (.int .i64)))))) a1] =
    bif fitsB a0 18 18 then
      bif !(fitsD a0 a1 18 18) then
        some (.tup [.nl, .v .bool false])
      else
        bif decide (0 ≤ (a1.length : Int)) && decide ((a1.length : Int).toNat * 24 ≤ LIM) then
          F40.l1_0_1_1_1_0_1_0 k (F40.kt k [1, 0, 1, 1, 1, 0, 1, 0]) a1 a0.2.2.2.2.2.2.2 (a0.2.2.2.2.2.2.2.length : Int) 0 (List.replicate ((a1.length : Int).toNat) [])
        else
          none
    else
      none := by kernel_rfl
theorem F40.l1_0_1_1_1_0_1_0_eq (n : Nat) (K : Conts) (p0 : (List (Int × ((List Int) × (Int × (Int × Int)))))) (p1 : (List (List Int))) (p2 : Int) (p3 : Int) (p4 : (List (List Int))) : F40.l1_0_1_1_1_0_1_0 (n + 1) K p0 p1 p2 p3 p4 =
    bif decide (p3 < p2) then
      bif decide (0 ≤ p3) && decide (p3 < p1.length) then
        F40.l1_0_1_1_1_0_1_0_0_1_1_0_0_1_0_1_0 n (F40.k_l1_0_1_1_1_0_1_0 n K [1, 1, 0, 0, 1, 0, 1, 0]) p0 (p1.getD p3.toNat []) p1 p2 p3 (p1.getD p3.toNat []) ((p1.getD p3.toNat []).length : Int) 0 p4
      else
        none
    else
      exitK K 0 ⟨slots 72 [(6, .own 0)], [.rows 30 3 (.int .i64) p4]⟩ := by kernel_rfl
theorem F40.l1_0_1_1_1_0_1_0_0_1_1_0_0_1_0_1_0_eq (n : Nat) (K : Conts) (p0 : (List (Int × ((List Int) × (Int × (Int × Int)))))) (p1 : (List Int)) (p2 : (List (List Int))) (p3 : Int) (p4 : Int) (p5 : (List Int)) (p6 : Int) (p7 : Int) (p8 : (List (List Int))) : F40.l1_0_1_1_1_0_1_0_0_1_1_0_0_1_0_1_0 (n + 1) K p0 p1 p2 p3 p4 p5 p6 p7 p8 =
    bif decide (p7 < p6) then
      bif decide (0 ≤ p7) && decide (p7 < p5.length) then
        bif decide (0 ≤ p7) && decide (p7 < p0.length) then
          bif nearB ((p0.getD p7.toNat ((0 : Int), ([], ((0 : Int), ((0 : Int), (0 : Int)))))).1) then
            bif !(hasD (p0.getD p7.toNat ((0 : Int), ([], ((0 : Int), ((0 : Int), (0 : Int)))))) (p5.getD p7.toNat (0 : Int))) then
              exitK K 1 ⟨slots 72 [(1, .v (.sl (.pair (.int .i64) (.pair (.sl (.int .u64)) (.pair (.int .i64) (.pair (.int .i64) (.int .i64)))))) p0), (6, .own 0), (21, .v (.sl (.sl (.int .i64))) p2), (22, .v (.int .i64) p3), (23, .v (.int .i64) p4)], [.rows 30 3 (.int .i64) p8]⟩
            else
              F40.l1_0_1_1_1_0_1_0_0_1_1_0_0_1_0_1_0 n K p0 p1 p2 p3 p4 p5 p6 (IntKind.i64.wrap (p7 + 1)) p8
          else
            none
        else
          none
      else
        none
    else
      exitK K 2 ⟨slots 72 [(1, .v (.sl (.pair (.int .i64) (.pair (.sl (.int .u64)) (.pair (.int .i64) (.pair (.int .i64) (.int .i64)))))) p0), (6, .own 0), (8, .v (.sl (.int .i64)) p1), (21, .v (.sl (.sl (.int .i64))) p2), (22, .v (.int .i64) p3), (23, .v (.int .i64) p4)], [.rows 30 3 (.int .i64) p8]⟩ := by kernel_rfl
theorem F40.c0 (k : Nat) (p0 : (List (List Int))) : exitK (F40.kt k [1, 0, 1, 1, 1, 0, 1, 0]) 0 ⟨slots 72 [(6, .own 0)], [.rows 30 3 (.int .i64) p0]⟩ =
    bif Nat.ble p0.length 1000 then
      some (.tup [.v (.sl (.pair (.int .i64) (.pair (.sl (.int .u64)) (.pair (.int .i64) (.pair (.int .i64) (.int .i64)))))) ((madeAll p0).1), .v .bool ((madeAll p0).2)])
    else
      none := by kernel_rfl
theorem F40.c1 (n : Nat) (K : Conts) (p0 : (List (Int × ((List Int) × (Int × (Int × Int)))))) (p1 : (List (List Int))) (p2 : Int) (p3 : Int) (p4 : (List (List Int))) : exitK (F40.k_l1_0_1_1_1_0_1_0 n K [1, 1, 0, 0, 1, 0, 1, 0]) 1 ⟨slots 72 [(1, .v (.sl (.pair (.int .i64) (.pair (.sl (.int .u64)) (.pair (.int .i64) (.pair (.int .i64) (.int .i64)))))) p0), (6, .own 0), (21, .v (.sl (.sl (.int .i64))) p1), (22, .v (.int .i64) p2), (23, .v (.int .i64) p3)], [.rows 30 3 (.int .i64) p4]⟩ =
    F40.l1_0_1_1_1_0_1_0 n K p0 p1 p2 (IntKind.i64.wrap (p3 + 1)) p4 := by kernel_rfl
theorem F40.c2 (n : Nat) (K : Conts) (p0 : (List (Int × ((List Int) × (Int × (Int × Int)))))) (p1 : (List Int)) (p2 : (List (List Int))) (p3 : Int) (p4 : Int) (p5 : (List (List Int))) : exitK (F40.k_l1_0_1_1_1_0_1_0 n K [1, 1, 0, 0, 1, 0, 1, 0]) 2 ⟨slots 72 [(1, .v (.sl (.pair (.int .i64) (.pair (.sl (.int .u64)) (.pair (.int .i64) (.pair (.int .i64) (.int .i64)))))) p0), (6, .own 0), (8, .v (.sl (.int .i64)) p1), (21, .v (.sl (.sl (.int .i64))) p2), (22, .v (.int .i64) p3), (23, .v (.int .i64) p4)], [.rows 30 3 (.int .i64) p5]⟩ =
    F40.l1_0_1_1_1_0_1_0_0_1_1_0_0_1_1_1_0 n (F40.k_l1_0_1_1_1_0_1_0 n K [1, 1, 0, 0, 1, 1, 1, 0]) p0 p2 p3 p4 p1 (p1.length : Int) 0 p5 := by kernel_rfl
theorem F40.l1_0_1_1_1_0_1_0_0_1_1_0_0_1_1_1_0_eq (n : Nat) (K : Conts) (p0 : (List (Int × ((List Int) × (Int × (Int × Int)))))) (p1 : (List (List Int))) (p2 : Int) (p3 : Int) (p4 : (List Int)) (p5 : Int) (p6 : Int) (p7 : (List (List Int))) : F40.l1_0_1_1_1_0_1_0_0_1_1_0_0_1_1_1_0 (n + 1) K p0 p1 p2 p3 p4 p5 p6 p7 =
    bif decide (p6 < p5) then
      bif decide (0 ≤ p6) && decide (p6 < p4.length) then
        bif decide (0 ≤ p6) && decide (p6 < p7.length) then
          bif !(containsL (p7.getD p6.toNat []) (p4.getD p6.toNat (0 : Int))) then
            bif decide (0 ≤ p6) && decide (p6 < (p7.set p6.toNat (p7.getD p6.toNat [])).length) then
              bif decide ((((p7.set p6.toNat (p7.getD p6.toNat [])).getD p6.toNat []).length + [p4.getD p6.toNat (0 : Int)].length) * 8 ≤ LIM) then
                bif decide (0 ≤ p6) && decide (p6 < (p7.set p6.toNat (p7.getD p6.toNat [])).length) then
                  bif Nat.beq p6.toNat p6.toNat then
                    F40.l1_0_1_1_1_0_1_0_0_1_1_0_0_1_1_1_0 n K p0 p1 p2 p3 p4 p5 (IntKind.i64.wrap (p6 + 1)) ((p7.set p6.toNat (p7.getD p6.toNat [])).set p6.toNat (((p7.set p6.toNat (p7.getD p6.toNat [])).getD p6.toNat []) ++ [p4.getD p6.toNat (0 : Int)]))
                  else
                    none
                else
                  none
              else
                none
            else
              none
          else
            F40.l1_0_1_1_1_0_1_0_0_1_1_0_0_1_1_1_0 n K p0 p1 p2 p3 p4 p5 (IntKind.i64.wrap (p6 + 1)) (p7.set p6.toNat (p7.getD p6.toNat []))
        else
          none
      else
        none
    else
      exitK K 4 ⟨slots 72 [(1, .v (.sl (.pair (.int .i64) (.pair (.sl (.int .u64)) (.pair (.int .i64) (.pair (.int .i64) (.int .i64)))))) p0), (6, .own 0), (21, .v (.sl (.sl (.int .i64))) p1), (22, .v (.int .i64) p2), (23, .v (.int .i64) p3)], [.rows 30 3 (.int .i64) p7]⟩ := by kernel_rfl
theorem F40.c3 (n : Nat) (K : Conts) (p0 : (List (Int × ((List Int) × (Int × (Int × Int)))))) (p1 : (List (List Int))) (p2 : Int) (p3 : Int) (p4 : (List (List Int))) : exitK (F40.k_l1_0_1_1_1_0_1_0 n K [1, 1, 0, 0, 1, 1, 1, 0]) 4 ⟨slots 72 [(1, .v (.sl (.pair (.int .i64) (.pair (.sl (.int .u64)) (.pair (.int .i64) (.pair (.int .i64) (.int .i64)))))) p0), (6, .own 0), (21, .v (.sl (.sl (.int .i64))) p1), (22, .v (.int .i64) p2), (23, .v (.int .i64) p3)], [.rows 30 3 (.int .i64) p4]⟩ =
    F40.l1_0_1_1_1_0_1_0 n K p0 p1 p2 (IntKind.i64.wrap (p3 + 1)) p4 := by kernel_rfl

/-! ### 41: jigsaw/jigsawlaw17.doms -/
noncomputable def F41.fn : Func := Go.Proofs.Tryz.f41
noncomputable def F41.body : Code := bodyOf F41.fn
noncomputable def F41.E : Env := ⟨tt, [(50, h_ofD)], [(1, [0]), (2, [0, 3]), (3, [3, 8, 9, 10, 570003]), (4, [3, 8, 9, 10, 11]), (5, [3, 5, 8, 9, 10]), (6, [3, 6, 8, 9, 10]), (7, [3, 8, 9, 10]), (8, [3])], [(0, [3]), (1, [3, 8, 9, 10])], some [2], inv⟩
noncomputable def F41.K0 : Conts := { nrm := endW F41.E false F41.fn.results.toList, ret := endW F41.E false F41.fn.results.toList, ex := [] }
noncomputable def F41.kt (k : Nat) (q : List Nat) : Conts := contAt F41.E k F41.body F41.K0 q
noncomputable def F41.l1_1_0_1_0 (n : Nat) (K : Conts) (p0 : (List (List Int))) (p1 : Int) (p2 : Int) (p3 : (List (Int × ((List Int) × (Int × (Int × Int)))))) : Option AV := loopF F41.E n (inLoop (subC [1, 1, 0, 1, 0] F41.body)) K ⟨slots 25 [(3, .own 0), (8, .v (.sl (.sl (.int .i64))) p0), (9, .v (.int .i64) p1), (10, .v (.int .i64) p2)], [.row 57 (.pair (.int .i64) (.pair (.sl (.int .u64)) (.pair (.int .i64) (.pair (.int .i64) (.int .i64))))) p3]⟩
theorem F41.start_eq (k : Nat) (a0 : (List (List Int))) : callW F41.E false F41.fn k [.v (.sl (.sl (.int .i64))) a0] =
    F41.l1_1_0_1_0 k (F41.kt k [1, 1, 0, 1, 0]) a0 (a0.length : Int) 0 [] := by kernel_rfl
theorem F41.l1_1_0_1_0_eq (n : Nat) (K : Conts) (p0 : (List (List Int))) (p1 : Int) (p2 : Int) (p3 : (List (Int × ((List Int) × (Int × (Int × Int)))))) : F41.l1_1_0_1_0 (n + 1) K p0 p1 p2 p3 =
    bif decide (p2 < p1) then
      bif decide (0 ≤ p2) && decide (p2 < p0.length) then
        bif decide ((p3.length + [(ofD (p0.getD p2.toNat [])).1].length) * 56 ≤ LIM) then
          F41.l1_1_0_1_0 n K p0 p1 (IntKind.i64.wrap (p2 + 1)) (p3 ++ [(ofD (p0.getD p2.toNat [])).1])
        else
          none
      else
        none
    else
      exitK K 0 ⟨slots 25 [(3, .own 0)], [.row 57 (.pair (.int .i64) (.pair (.sl (.int .u64)) (.pair (.int .i64) (.pair (.int .i64) (.int .i64))))) p3]⟩ := by kernel_rfl
theorem F41.c0 (k : Nat) (p0 : (List (Int × ((List Int) × (Int × (Int × Int)))))) : exitK (F41.kt k [1, 1, 0, 1, 0]) 0 ⟨slots 25 [(3, .own 0)], [.row 57 (.pair (.int .i64) (.pair (.sl (.int .u64)) (.pair (.int .i64) (.pair (.int .i64) (.int .i64))))) p0]⟩ =
    some (.v (.sl (.pair (.int .i64) (.pair (.sl (.int .u64)) (.pair (.int .i64) (.pair (.int .i64) (.int .i64)))))) p0) := by kernel_rfl

/-! ### 42: jigsaw/jigsawlaw17.lists -/
noncomputable def F42.fn : Func := Go.Proofs.Tryz.f42
noncomputable def F42.body : Code := bodyOf F42.fn
noncomputable def F42.E : Env := ⟨tt, [(29, h_listD)], [(1, [0]), (2, [0, 3]), (3, [3, 6, 7, 8, 300003]), (4, [3, 6, 7, 8, 9]), (5, [3, 5, 6, 7, 8]), (6, [3, 6, 7, 8]), (7, [3])], [(0, [3]), (1, [3, 6, 7, 8])], some [2], inv⟩
noncomputable def F42.K0 : Conts := { nrm := endW F42.E false F42.fn.results.toList, ret := endW F42.E false F42.fn.results.toList, ex := [] }
noncomputable def F42.kt (k : Nat) (q : List Nat) : Conts := contAt F42.E k F42.body F42.K0 q
noncomputable def F42.l1_1_0_1_0 (n : Nat) (K : Conts) (p0 : (List (Int × ((List Int) × (Int × (Int × Int)))))) (p1 : Int) (p2 : Int) (p3 : (List (List Int))) : Option AV := loopF F42.E n (inLoop (subC [1, 1, 0, 1, 0] F42.body)) K ⟨slots 19 [(3, .own 0), (6, .v (.sl (.pair (.int .i64) (.pair (.sl (.int .u64)) (.pair (.int .i64) (.pair (.int .i64) (.int .i64)))))) p0), (7, .v (.int .i64) p1), (8, .v (.int .i64) p2)], [.row 30 (.sl (.int .i64)) p3]⟩
theorem F42.start_eq (k : Nat) (a0 : (List (Int × ((List Int) × (Int × (Int × Int)))))) : callW F42.E false F42.fn k [.v (.sl (.pair (.int .i64) (.pair (.sl (.int .u64)) (.pair (.int .i64) (.pair (.int .i64) (.int .i64)))))) a0] =
    F42.l1_1_0_1_0 k (F42.kt k [1, 1, 0, 1, 0]) a0 (a0.length : Int) 0 [] := by kernel_rfl
theorem F42.l1_1_0_1_0_eq (n : Nat) (K : Conts) (p0 : (List (Int × ((List Int) × (Int × (Int × Int)))))) (p1 : Int) (p2 : Int) (p3 : (List (List Int))) : F42.l1_1_0_1_0 (n + 1) K p0 p1 p2 p3 =
    bif decide (p2 < p1) then
      bif decide (0 ≤ p2) && decide (p2 < p0.length) then
        bif listB (p0.getD p2.toNat ((0 : Int), ([], ((0 : Int), ((0 : Int), (0 : Int)))))) then
          bif decide ((p3.length + [listD (p0.getD p2.toNat ((0 : Int), ([], ((0 : Int), ((0 : Int), (0 : Int))))))].length) * 24 ≤ LIM) then
            F42.l1_1_0_1_0 n K p0 p1 (IntKind.i64.wrap (p2 + 1)) (p3 ++ [listD (p0.getD p2.toNat ((0 : Int), ([], ((0 : Int), ((0 : Int), (0 : Int))))))])
          else
            none
        else
          none
      else
        none
    else
      exitK K 0 ⟨slots 19 [(3, .own 0)], [.row 30 (.sl (.int .i64)) p3]⟩ := by kernel_rfl
theorem F42.c0 (k : Nat) (p0 : (List (List Int))) : exitK (F42.kt k [1, 1, 0, 1, 0]) 0 ⟨slots 19 [(3, .own 0)], [.row 30 (.sl (.int .i64)) p0]⟩ =
    some (.v (.sl (.sl (.int .i64))) p0) := by kernel_rfl

/-! ### 10: jigsaw/jigsawlaw17.TableFilters -/
noncomputable def F10.fn : Func := Go.Proofs.Tryz.f10
noncomputable def F10.E : Env := ⟨tt, [(15, h_makeA), (17, h_sol), (21, h_exact), (22, h_sameL), (38, h_kindT), (39, h_wakes39), (40, h_tableF), (41, h_doms41), (42, h_lists42)], [(1, [1, 2]), (2, [5, 6]), (3, [5, 6, 8]), (4, [5, 6, 27]), (5, [5, 6]), (6, [5, 6, 9, 10]), (7, [9, 10, 11, 12])], [], some [4], inv⟩
theorem F10.start_eq (k : Nat) (a0 : ((Int × ((List Int) × ((List Int) × ((List Int) × (Int × Int))))) × (List (List Int)))) (a1 : Int) : callW F10.E false F10.fn k [.agg [.v (.int .u8) a0.1.1, .v (.sl (.int .u8)) a0.1.2.1, .v (.sl (.int .u8)) a0.1.2.2.1, .v (.sl (.int .i8)) a0.1.2.2.2.1, .v (.int .i16) a0.1.2.2.2.2.1, .v (.int .u8) a0.1.2.2.2.2.2, .v (.sl (.sl (.int .i64))) a0.2], .v (.int .u8) a1] =
    bif makeAB a0 (kindT a1) 6 then
      bif solB (makeAC a0 (kindT a1)) (makeAL a0 (kindT a1) 6) 4000 then
        bif !((solL (makeAC a0 (kindT a1)) (makeAL a0 (kindT a1) 6) 4000).2) then
          some (.v .bool true)
        else
          bif Nat.ble (makeAL a0 (kindT a1) 6).length 1000 then
            bif filtB 18 18 (makeAC a0 (kindT a1)) (domsL (makeAL a0 (kindT a1) 6)) then
              bif solB (makeAC a0 (kindT a1)) (makeAL a0 (kindT a1) 6) 4000 then
                bif ((tableF (makeAC a0 (kindT a1)) (domsL (makeAL a0 (kindT a1) 6))).2) == ((exactL (makeAC a0 (kindT a1)) (makeAL a0 (kindT a1) 6) 4000).2) then
                  bif Nat.ble ((tableF (makeAC a0 (kindT a1)) (domsL (makeAL a0 (kindT a1) 6))).1).length 1000 && ((tableF (makeAC a0 (kindT a1)) (domsL (makeAL a0 (kindT a1) 6))).1).all listB then
                    bif Nat.ble (listsL ((tableF (makeAC a0 (kindT a1)) (domsL (makeAL a0 (kindT a1) 6))).1)).length 1000 && lensB (listsL ((tableF (makeAC a0 (kindT a1)) (domsL (makeAL a0 (kindT a1) 6))).1)) then
                      some (.v .bool (sameL (listsL ((tableF (makeAC a0 (kindT a1)) (domsL (makeAL a0 (kindT a1) 6))).1)) ((exactL (makeAC a0 (kindT a1)) (makeAL a0 (kindT a1) 6) 4000).1)))
                    else
                      none
                  else
                    none
                else
                  some (.v .bool false)
              else
                none
            else
              none
          else
            none
      else
        none
    else
      none := by kernel_rfl

/-! ### 11: jigsaw/jigsawlaw17.TableRefuses -/
noncomputable def F11.fn : Func := Go.Proofs.Tryz.f11
noncomputable def F11.body : Code := bodyOf F11.fn
noncomputable def F11.E : Env := ⟨tt, [(15, h_makeA), (25, h_fitsR), (39, h_wakes39), (40, h_tableF), (41, h_doms41), (43, h_short43)], [(1, [2, 3, 4]), (2, [2, 4, 7, 8]), (3, [4, 7, 8, 23]), (4, [4, 7, 8, 23, 24]), (6, [4, 7, 8, 23, 31]), (8, [4, 7, 8, 23, 35]), (10, [4, 7, 8, 41]), (11, [4, 7, 8, 9]), (12, [7, 8]), (13, [7, 8, 10, 11]), (14, [8, 10, 11, 77]), (15, [10, 11])], [(0, [7, 8])], some [6], inv⟩
noncomputable def F11.K0 : Conts := { nrm := endW F11.E false F11.fn.results.toList, ret := endW F11.E false F11.fn.results.toList, ex := [] }
noncomputable def F11.kt (k : Nat) (q : List Nat) : Conts := contAt F11.E k F11.body F11.K0 q
noncomputable def F11.n1_1_1 (n : Nat) (K : Conts) (p0 : (List (List Int))) (p1 : Int) (p2 : (List Int)) (p3 : (List Int)) (p4 : (List Int)) (p5 : (List Int)) (p6 : (List Int)) (p7 : Int) (p8 : (List (List Int))) : Option AV := runC F11.E (loopF F11.E n) (subC [1, 1, 1] F11.body) K ⟨slots 100 [(7, .pb 0 0), (8, .v (.sl (.sl (.int .i64))) p0)], [.box [.v (.int .i64) p1, .v (.sl (.int .i64)) p2, .v (.sl (.int .i64)) p3, .v (.sl (.int .i64)) p4, .v (.sl (.int .i64)) p5, .v (.sl (.int .i64)) p6, .v (.int .i64) p7, .v (.sl (.sl (.int .i64))) p8]]⟩
noncomputable def F11.n1_1_1b (n : Nat) (K : Conts) (p0 : Int) (p1 : (List Int)) (p2 : (List Int)) (p3 : (List Int)) (p4 : (List Int)) (p5 : (List Int)) (p6 : Int) (p7 : (List (List Int))) (p8 : (List (List Int))) : Option AV := runC F11.E (loopF F11.E n) (subC [1, 1, 1] F11.body) K ⟨slots 100 [(7, .pb 0 0), (8, .own 1)], [.box [.v (.int .i64) p0, .v (.sl (.int .i64)) p1, .v (.sl (.int .i64)) p2, .v (.sl (.int .i64)) p3, .v (.sl (.int .i64)) p4, .v (.sl (.int .i64)) p5, .v (.int .i64) p6, .v (.sl (.sl (.int .i64))) p7], .row 30 (.sl (.int .i64)) p8]⟩
noncomputable def F11.n1_1_1c (n : Nat) (K : Conts) (p0 : Int) (p1 : (List Int)) (p2 : (List Int)) (p3 : (List Int)) (p4 : (List Int)) (p5 : (List Int)) (p6 : Int) (p7 : (List (List Int))) : Option AV := runC F11.E (loopF F11.E n) (subC [1, 1, 1] F11.body) K ⟨slots 100 [(7, .pb 0 0), (8, .own 1)], [.box [.v (.int .i64) p0, .v (.sl (.int .i64)) p1, .v (.sl (.int .i64)) p2, .v (.sl (.int .i64)) p3, .v (.sl (.int .i64)) p4, .v (.sl (.int .i64)) p5, .v (.int .i64) p6, .nl], .row 30 (.sl (.int .i64)) p7]⟩
theorem F11.start_eq (k : Nat) (a0 : ((Int × ((List Int) × ((List Int) × ((List Int) × (Int × Int))))) × (List (List Int)))) (a1 : (Int × ((List Int) × ((List Int) × ((List Int) × ((List Int) × ((List Int) × (Int × (List (List Int)))))))))) (a2 : Int) : callW F11.E false F11.fn k [.agg [.v (.int .u8) a0.1.1, .v (.sl (.int .u8)) a0.1.2.1, .v (.sl (.int .u8)) a0.1.2.2.1, .v (.sl (.int .i8)) a0.1.2.2.2.1, .v (.int .i16) a0.1.2.2.2.2.1, .v (.int .u8) a0.1.2.2.2.2.2, .v (.sl (.sl (.int .i64))) a0.2], .agg [.v (.int .i64) a1.1, .v (.sl (.int .i64)) a1.2.1, .v (.sl (.int .i64)) a1.2.2.1, .v (.sl (.int .i64)) a1.2.2.2.1, .v (.sl (.int .i64)) a1.2.2.2.2.1, .v (.sl (.int .i64)) a1.2.2.2.2.2.1, .v (.int .i64) a1.2.2.2.2.2.2.1, .v (.sl (.sl (.int .i64))) a1.2.2.2.2.2.2.2], .v (.int .u8) a2] =
    bif makeAB a0 (IntKind.i64.wrap (1 + ((IntKind.i64.wrap (shrW .u8 a2 3)).tmod 23))) 6 then
      bif decide ((a2.tmod 5) = 0) then
        bif decide (0 ≤ (IntKind.i64.wrap (((makeAL a0 (IntKind.i64.wrap (1 + ((IntKind.i64.wrap (shrW .u8 a2 3)).tmod 23))) 6).length : Int) - 1))) && decide ((IntKind.i64.wrap (((makeAL a0 (IntKind.i64.wrap (1 + ((IntKind.i64.wrap (shrW .u8 a2 3)).tmod 23))) 6).length : Int) - 1)) ≤ (makeAL a0 (IntKind.i64.wrap (1 + ((IntKind.i64.wrap (shrW .u8 a2 3)).tmod 23))) 6).length) then
          F11.n1_1_1 k (F11.kt k [1, 1, 1]) ((makeAL a0 (IntKind.i64.wrap (1 + ((IntKind.i64.wrap (shrW .u8 a2 3)).tmod 23))) 6).take ((IntKind.i64.wrap (((makeAL a0 (IntKind.i64.wrap (1 + ((IntKind.i64.wrap (shrW .u8 a2 3)).tmod 23))) 6).length : Int) - 1)).toNat)) ((makeAC a0 (IntKind.i64.wrap (1 + ((IntKind.i64.wrap (shrW .u8 a2 3)).tmod 23)))).1) (((makeAC a0 (IntKind.i64.wrap (1 + ((IntKind.i64.wrap (shrW .u8 a2 3)).tmod 23)))).2).1) ((((makeAC a0 (IntKind.i64.wrap (1 + ((IntKind.i64.wrap (shrW .u8 a2 3)).tmod 23)))).2).2).1) (((((makeAC a0 (IntKind.i64.wrap (1 + ((IntKind.i64.wrap (shrW .u8 a2 3)).tmod 23)))).2).2).2).1) ((((((makeAC a0 (IntKind.i64.wrap (1 + ((IntKind.i64.wrap (shrW .u8 a2 3)).tmod 23)))).2).2).2).2).1) (((((((makeAC a0 (IntKind.i64.wrap (1 + ((IntKind.i64.wrap (shrW .u8 a2 3)).tmod 23)))).2).2).2).2).2).1) ((((((((makeAC a0 (IntKind.i64.wrap (1 + ((IntKind.i64.wrap (shrW .u8 a2 3)).tmod 23)))).2).2).2).2).2).2).1) ((((((((makeAC a0 (IntKind.i64.wrap (1 + ((IntKind.i64.wrap (shrW .u8 a2 3)).tmod 23)))).2).2).2).2).2).2).2)
        else
          none
      else
        bif decide ((a2.tmod 5) = 1) then
          bif decide ((0 : Int) < (makeAL a0 (IntKind.i64.wrap (1 + ((IntKind.i64.wrap (shrW .u8 a2 3)).tmod 23))) 6).length) then
            F11.n1_1_1b k (F11.kt k [1, 1, 1]) ((makeAC a0 (IntKind.i64.wrap (1 + ((IntKind.i64.wrap (shrW .u8 a2 3)).tmod 23)))).1) (((makeAC a0 (IntKind.i64.wrap (1 + ((IntKind.i64.wrap (shrW .u8 a2 3)).tmod 23)))).2).1) ((((makeAC a0 (IntKind.i64.wrap (1 + ((IntKind.i64.wrap (shrW .u8 a2 3)).tmod 23)))).2).2).1) (((((makeAC a0 (IntKind.i64.wrap (1 + ((IntKind.i64.wrap (shrW .u8 a2 3)).tmod 23)))).2).2).2).1) ((((((makeAC a0 (IntKind.i64.wrap (1 + ((IntKind.i64.wrap (shrW .u8 a2 3)).tmod 23)))).2).2).2).2).1) (((((((makeAC a0 (IntKind.i64.wrap (1 + ((IntKind.i64.wrap (shrW .u8 a2 3)).tmod 23)))).2).2).2).2).2).1) ((((((((makeAC a0 (IntKind.i64.wrap (1 + ((IntKind.i64.wrap (shrW .u8 a2 3)).tmod 23)))).2).2).2).2).2).2).1) ((((((((makeAC a0 (IntKind.i64.wrap (1 + ((IntKind.i64.wrap (shrW .u8 a2 3)).tmod 23)))).2).2).2).2).2).2).2) ((makeAL a0 (IntKind.i64.wrap (1 + ((IntKind.i64.wrap (shrW .u8 a2 3)).tmod 23))) 6).set 0 [])
          else
            none
        else
          bif decide ((a2.tmod 5) = 2) then
            bif decide (((makeAL a0 (IntKind.i64.wrap (1 + ((IntKind.i64.wrap (shrW .u8 a2 3)).tmod 23))) 6).length + [[1]].length) * 24 ≤ LIM) then
              F11.n1_1_1b k (F11.kt k [1, 1, 1]) ((makeAC a0 (IntKind.i64.wrap (1 + ((IntKind.i64.wrap (shrW .u8 a2 3)).tmod 23)))).1) (((makeAC a0 (IntKind.i64.wrap (1 + ((IntKind.i64.wrap (shrW .u8 a2 3)).tmod 23)))).2).1) ((((makeAC a0 (IntKind.i64.wrap (1 + ((IntKind.i64.wrap (shrW .u8 a2 3)).tmod 23)))).2).2).1) (((((makeAC a0 (IntKind.i64.wrap (1 + ((IntKind.i64.wrap (shrW .u8 a2 3)).tmod 23)))).2).2).2).1) ((((((makeAC a0 (IntKind.i64.wrap (1 + ((IntKind.i64.wrap (shrW .u8 a2 3)).tmod 23)))).2).2).2).2).1) (((((((makeAC a0 (IntKind.i64.wrap (1 + ((IntKind.i64.wrap (shrW .u8 a2 3)).tmod 23)))).2).2).2).2).2).1) ((((((((makeAC a0 (IntKind.i64.wrap (1 + ((IntKind.i64.wrap (shrW .u8 a2 3)).tmod 23)))).2).2).2).2).2).2).1) ((((((((makeAC a0 (IntKind.i64.wrap (1 + ((IntKind.i64.wrap (shrW .u8 a2 3)).tmod 23)))).2).2).2).2).2).2).2) ((makeAL a0 (IntKind.i64.wrap (1 + ((IntKind.i64.wrap (shrW .u8 a2 3)).tmod 23))) 6) ++ [[1]])
            else
              none
          else
            bif decide ((a2.tmod 5) = 3) then
              F11.n1_1_1c k (F11.kt k [1, 1, 1]) a1.1 (a1.2.1.take 5) (a1.2.2.1.take 5) (a1.2.2.2.1.take 5) (a1.2.2.2.2.1.take 5) (a1.2.2.2.2.2.1.take 5) a1.2.2.2.2.2.2.1 (makeAL a0 (IntKind.i64.wrap (1 + ((IntKind.i64.wrap (shrW .u8 a2 3)).tmod 23))) 6)
            else
              F11.n1_1_1b k (F11.kt k [1, 1, 1]) ((makeAC a0 (IntKind.i64.wrap (1 + ((IntKind.i64.wrap (shrW .u8 a2 3)).tmod 23)))).1) (((makeAC a0 (IntKind.i64.wrap (1 + ((IntKind.i64.wrap (shrW .u8 a2 3)).tmod 23)))).2).1) ((((makeAC a0 (IntKind.i64.wrap (1 + ((IntKind.i64.wrap (shrW .u8 a2 3)).tmod 23)))).2).2).1) (((((makeAC a0 (IntKind.i64.wrap (1 + ((IntKind.i64.wrap (shrW .u8 a2 3)).tmod 23)))).2).2).2).1) ((((((makeAC a0 (IntKind.i64.wrap (1 + ((IntKind.i64.wrap (shrW .u8 a2 3)).tmod 23)))).2).2).2).2).1) (((((((makeAC a0 (IntKind.i64.wrap (1 + ((IntKind.i64.wrap (shrW .u8 a2 3)).tmod 23)))).2).2).2).2).2).1) ((((((((makeAC a0 (IntKind.i64.wrap (1 + ((IntKind.i64.wrap (shrW .u8 a2 3)).tmod 23)))).2).2).2).2).2).2).1) ((((((((makeAC a0 (IntKind.i64.wrap (1 + ((IntKind.i64.wrap (shrW .u8 a2 3)).tmod 23)))).2).2).2).2).2).2).2) (makeAL a0 (IntKind.i64.wrap (1 + ((IntKind.i64.wrap (shrW .u8 a2 3)).tmod 23))) 6)
    else
      none := by kernel_rfl
theorem F11.n1_1_1_eq (n : Nat) (K : Conts) (p0 : (List (List Int))) (p1 : Int) (p2 : (List Int)) (p3 : (List Int)) (p4 : (List Int)) (p5 : (List Int)) (p6 : (List Int)) (p7 : Int) (p8 : (List (List Int))) : F11.n1_1_1 n K p0 p1 p2 p3 p4 p5 p6 p7 p8 =
    bif Nat.ble p0.length 1000 then
      bif filtB 18 18 (p1, (p2, (p3, (p4, (p5, (p6, (p7, p8))))))) (domsL p0) then
        bif fitsB (p1, (p2, (p3, (p4, (p5, (p6, (p7, p8))))))) 18 18 then
          bif fitsR (p1, (p2, (p3, (p4, (p5, (p6, (p7, p8))))))) p0 18 18 then
            bif !((tableF (p1, (p2, (p3, (p4, (p5, (p6, (p7, p8))))))) (domsL p0)).2) then
              K.ret ⟨slots 100 [(6, .v .bool true)], []⟩
            else
              K.ret ⟨slots 100 [(6, .v .bool (decide ((((tableF (p1, (p2, (p3, (p4, (p5, (p6, (p7, p8))))))) (domsL p0)).1).length : Int) = (p0.length : Int))))], []⟩
          else
            bif !((tableF (p1, (p2, (p3, (p4, (p5, (p6, (p7, p8))))))) (domsL p0)).2) then
              K.ret ⟨slots 100 [(6, .v .bool (decide ((((tableF (p1, (p2, (p3, (p4, (p5, (p6, (p7, p8))))))) (domsL p0)).1).length : Int) = 0)))], []⟩
            else
              K.ret ⟨slots 100 [(6, .v .bool false)], []⟩
        else
          none
      else
        none
    else
      none := by kernel_rfl
theorem F11.n1_1_1b_eq (n : Nat) (K : Conts) (p0 : Int) (p1 : (List Int)) (p2 : (List Int)) (p3 : (List Int)) (p4 : (List Int)) (p5 : (List Int)) (p6 : Int) (p7 : (List (List Int))) (p8 : (List (List Int))) : F11.n1_1_1b n K p0 p1 p2 p3 p4 p5 p6 p7 p8 =
    bif Nat.ble p8.length 1000 then
      bif filtB 18 18 (p0, (p1, (p2, (p3, (p4, (p5, (p6, p7))))))) (domsL p8) then
        bif fitsB (p0, (p1, (p2, (p3, (p4, (p5, (p6, p7))))))) 18 18 then
          bif fitsR (p0, (p1, (p2, (p3, (p4, (p5, (p6, p7))))))) p8 18 18 then
            bif !((tableF (p0, (p1, (p2, (p3, (p4, (p5, (p6, p7))))))) (domsL p8)).2) then
              K.ret ⟨slots 100 [(6, .v .bool true)], []⟩
            else
              K.ret ⟨slots 100 [(6, .v .bool (decide ((((tableF (p0, (p1, (p2, (p3, (p4, (p5, (p6, p7))))))) (domsL p8)).1).length : Int) = (p8.length : Int))))], []⟩
          else
            bif !((tableF (p0, (p1, (p2, (p3, (p4, (p5, (p6, p7))))))) (domsL p8)).2) then
              K.ret ⟨slots 100 [(6, .v .bool (decide ((((tableF (p0, (p1, (p2, (p3, (p4, (p5, (p6, p7))))))) (domsL p8)).1).length : Int) = 0)))], []⟩
            else
              K.ret ⟨slots 100 [(6, .v .bool false)], []⟩
        else
          none
      else
        none
    else
      none := by kernel_rfl
theorem F11.n1_1_1c_eq (n : Nat) (K : Conts) (p0 : Int) (p1 : (List Int)) (p2 : (List Int)) (p3 : (List Int)) (p4 : (List Int)) (p5 : (List Int)) (p6 : Int) (p7 : (List (List Int))) : F11.n1_1_1c n K p0 p1 p2 p3 p4 p5 p6 p7 =
    bif Nat.ble p7.length 1000 then
      bif filtB 18 18 (p0, (p1, (p2, (p3, (p4, (p5, (p6, []))))))) (domsL p7) then
        bif fitsB (p0, (p1, (p2, (p3, (p4, (p5, (p6, []))))))) 18 18 then
          bif fitsR (p0, (p1, (p2, (p3, (p4, (p5, (p6, []))))))) p7 18 18 then
            bif !((tableF (p0, (p1, (p2, (p3, (p4, (p5, (p6, []))))))) (domsL p7)).2) then
              K.ret ⟨slots 100 [(6, .v .bool true)], []⟩
            else
              K.ret ⟨slots 100 [(6, .v .bool (decide ((((tableF (p0, (p1, (p2, (p3, (p4, (p5, (p6, []))))))) (domsL p7)).1).length : Int) = (p7.length : Int))))], []⟩
          else
            bif !((tableF (p0, (p1, (p2, (p3, (p4, (p5, (p6, []))))))) (domsL p7)).2) then
              K.ret ⟨slots 100 [(6, .v .bool (decide ((((tableF (p0, (p1, (p2, (p3, (p4, (p5, (p6, []))))))) (domsL p7)).1).length : Int) = 0)))], []⟩
            else
              K.ret ⟨slots 100 [(6, .v .bool false)], []⟩
        else
          none
      else
        none
    else
      none := by kernel_rfl
theorem F11.c0 (k : Nat) : (F11.kt k [1, 1, 1]).ret ⟨slots 100 [(6, .v .bool true)], []⟩ =
    some (.v .bool true) := by kernel_rfl
/-! ### 12: jigsaw/jigsawlaw17.TableKeeps -/
noncomputable def F12.fn : Func := Go.Proofs.Tryz.f12
noncomputable def F12.body : Code := bodyOf F12.fn
noncomputable def F12.E : Env := ⟨tt, [(15, h_makeA), (17, h_sol), (22, h_sameL), (29, h_listD), (30, h_containsL), (31, h_hasD), (38, h_kindT), (39, h_wakes39), (40, h_tableF), (41, h_doms41), (42, h_lists42)], [(1, [1, 2]), (2, [5, 6]), (3, [5, 6, 7, 8]), (4, [5, 6, 7, 8, 9, 10]), (5, [5, 6, 7, 9, 10, 42]), (6, [5, 6, 7, 9, 10]), (7, [5, 6, 7, 9, 45]), (8, [5, 6, 7, 9]), (9, [5, 6, 7, 9, 56]), (10, [5, 6, 7, 9]), (11, [5, 7, 9, 57, 58, 59]), (12, [5, 7, 9, 57, 58, 59, 60]), (13, [5, 7, 9, 11, 12, 57, 58, 59]), (14, [5, 7, 9, 12, 57, 58, 59, 68, 69, 70]), (15, [5, 7, 9, 12, 57, 58, 59, 68, 69, 70, 71]), (16, [5, 7, 9, 12, 14, 57, 58, 59, 68, 69, 70]), (17, [5, 7, 9, 12, 57, 58, 59, 68, 69, 70, 77]), (18, [5, 7, 9, 12, 57, 58, 59, 68, 69, 70]), (19, [5, 7, 9, 57, 58, 59]), (20, [5, 7, 9]), (21, [5, 9, 80, 81, 82]), (22, [5, 9, 80, 81, 82, 83]), (23, [5, 9, 16, 80, 81, 82]), (24, [5, 9, 80, 81, 82, 86, 87, 88]), (25, [5, 9, 80, 81, 82, 86, 87, 88, 89]), (26, [5, 9, 17, 18, 80, 81, 82, 86, 87, 88]), (27, [5, 9, 80, 81, 82, 86, 87, 88, 99]), (28, [5, 9, 80, 81, 82, 86, 87, 88]), (29, [5, 9, 80, 81, 82]), (30, [5, 9]), (31, [9, 19, 20])], [(0, [5, 7, 9]), (1, [5, 7, 9, 57, 58, 59]), (2, [5, 7, 9, 57, 58, 59]), (3, [5, 7, 9, 12, 57, 58, 59, 68, 69, 70]), (4, [5, 9]), (5, [5, 9, 80, 81, 82]), (6, [5, 9, 80, 81, 82]), (7, [5, 9, 80, 81, 82, 86, 87, 88])], some [4], inv⟩
noncomputable def F12.K0 : Conts := { nrm := endW F12.E false F12.fn.results.toList, ret := endW F12.E false F12.fn.results.toList, ex := [] }
noncomputable def F12.kt (k : Nat) (q : List Nat) : Conts := contAt F12.E k F12.body F12.K0 q
noncomputable def F12.l1_1_1_1_1_1_1_0_1_0 (n : Nat) (K : Conts) (p0 : (List (List Int))) (p1 : (List (Int × ((List Int) × (Int × (Int × Int)))))) (p2 : Int) (p3 : Int) (p4 : Int) (p5 : (List Int)) (p6 : (List Int)) (p7 : (List Int)) (p8 : (List Int)) (p9 : (List Int)) (p10 : Int) (p11 : (List (List Int))) (p12 : (List (List Int))) : Option AV := loopF F12.E n (inLoop (subC [1, 1, 1, 1, 1, 1, 1, 0, 1, 0] F12.body)) K ⟨slots 119 [(5, .pb 0 0), (7, .v (.sl (.sl (.int .i64))) p0), (9, .v (.sl (.pair (.int .i64) (.pair (.sl (.int .u64)) (.pair (.int .i64) (.pair (.int .i64) (.int .i64)))))) p1), (57, .own 1), (58, .v (.int .i64) p2), (59, .v (.int .i64) p3)], [.box [.v (.int .i64) p4, .v (.sl (.int .i64)) p5, .v (.sl (.int .i64)) p6, .v (.sl (.int .i64)) p7, .v (.sl (.int .i64)) p8, .v (.sl (.int .i64)) p9, .v (.int .i64) p10, .v (.sl (.sl (.int .i64))) p11], .frz (.sl (.int .i64)) p12]⟩
noncomputable def F12.k_l1_1_1_1_1_1_1_0_1_0 (n : Nat) (K : Conts) (q : List Nat) : Conts := contAt F12.E n (inLoop (subC [1, 1, 1, 1, 1, 1, 1, 0, 1, 0] F12.body)) (loopK F12.E n (inLoop (subC [1, 1, 1, 1, 1, 1, 1, 0, 1, 0] F12.body)) K) q
noncomputable def F12.l1_1_1_1_1_1_1_0_1_0_0_1_1_0_0_1_1_0 (n : Nat) (K : Conts) (p0 : (List (List Int))) (p1 : (List (Int × ((List Int) × (Int × (Int × Int)))))) (p2 : (List Int)) (p3 : Int) (p4 : Int) (p5 : (List Int)) (p6 : Int) (p7 : Int) (p8 : Int) (p9 : (List Int)) (p10 : (List Int)) (p11 : (List Int)) (p12 : (List Int)) (p13 : (List Int)) (p14 : Int) (p15 : (List (List Int))) (p16 : (List (List Int))) : Option AV := loopF F12.E n (inLoop (subC [1, 1, 1, 1, 1, 1, 1, 0, 1, 0, 0, 1, 1, 0, 0, 1, 1, 0] F12.body)) K ⟨slots 119 [(5, .pb 0 0), (7, .v (.sl (.sl (.int .i64))) p0), (9, .v (.sl (.pair (.int .i64) (.pair (.sl (.int .u64)) (.pair (.int .i64) (.pair (.int .i64) (.int .i64)))))) p1), (12, .v (.sl (.int .i64)) p2), (57, .own 1), (58, .v (.int .i64) p3), (59, .v (.int .i64) p4), (68, .v (.sl (.int .i64)) p5), (69, .v (.int .i64) p6), (70, .v (.int .i64) p7)], [.box [.v (.int .i64) p8, .v (.sl (.int .i64)) p9, .v (.sl (.int .i64)) p10, .v (.sl (.int .i64)) p11, .v (.sl (.int .i64)) p12, .v (.sl (.int .i64)) p13, .v (.int .i64) p14, .v (.sl (.sl (.int .i64))) p15], .frz (.sl (.int .i64)) p16]⟩
noncomputable def F12.l1_1_1_1_1_1_1_1_0_1_0 (n : Nat) (K : Conts) (p0 : (List (Int × ((List Int) × (Int × (Int × Int)))))) (p1 : (List (List Int))) (p2 : Int) (p3 : Int) (p4 : Int) (p5 : (List Int)) (p6 : (List Int)) (p7 : (List Int)) (p8 : (List Int)) (p9 : (List Int)) (p10 : Int) (p11 : (List (List Int))) : Option AV := loopF F12.E n (inLoop (subC [1, 1, 1, 1, 1, 1, 1, 1, 0, 1, 0] F12.body)) K ⟨slots 119 [(5, .pb 0 0), (9, .v (.sl (.pair (.int .i64) (.pair (.sl (.int .u64)) (.pair (.int .i64) (.pair (.int .i64) (.int .i64)))))) p0), (80, .v (.sl (.sl (.int .i64))) p1), (81, .v (.int .i64) p2), (82, .v (.int .i64) p3)], [.box [.v (.int .i64) p4, .v (.sl (.int .i64)) p5, .v (.sl (.int .i64)) p6, .v (.sl (.int .i64)) p7, .v (.sl (.int .i64)) p8, .v (.sl (.int .i64)) p9, .v (.int .i64) p10, .v (.sl (.sl (.int .i64))) p11]]⟩
noncomputable def F12.k_l1_1_1_1_1_1_1_1_0_1_0 (n : Nat) (K : Conts) (q : List Nat) : Conts := contAt F12.E n (inLoop (subC [1, 1, 1, 1, 1, 1, 1, 1, 0, 1, 0] F12.body)) (loopK F12.E n (inLoop (subC [1, 1, 1, 1, 1, 1, 1, 1, 0, 1, 0] F12.body)) K) q
noncomputable def F12.l1_1_1_1_1_1_1_1_0_1_0_0_1_1_0_0_1_1_0 (n : Nat) (K : Conts) (p0 : (List (Int × ((List Int) × (Int × (Int × Int)))))) (p1 : (List (List Int))) (p2 : Int) (p3 : Int) (p4 : (List Int)) (p5 : Int) (p6 : Int) (p7 : Int) (p8 : (List Int)) (p9 : (List Int)) (p10 : (List Int)) (p11 : (List Int)) (p12 : (List Int)) (p13 : Int) (p14 : (List (List Int))) : Option AV := loopF F12.E n (inLoop (subC [1, 1, 1, 1, 1, 1, 1, 1, 0, 1, 0, 0, 1, 1, 0, 0, 1, 1, 0] F12.body)) K ⟨slots 119 [(5, .pb 0 0), (9, .v (.sl (.pair (.int .i64) (.pair (.sl (.int .u64)) (.pair (.int .i64) (.pair (.int .i64) (.int .i64)))))) p0), (80, .v (.sl (.sl (.int .i64))) p1), (81, .v (.int .i64) p2), (82, .v (.int .i64) p3), (86, .v (.sl (.int .i64)) p4), (87, .v (.int .i64) p5), (88, .v (.int .i64) p6)], [.box [.v (.int .i64) p7, .v (.sl (.int .i64)) p8, .v (.sl (.int .i64)) p9, .v (.sl (.int .i64)) p10, .v (.sl (.int .i64)) p11, .v (.sl (.int .i64)) p12, .v (.int .i64) p13, .v (.sl (.sl (.int .i64))) p14]]⟩
theorem F12.start_eq (k : Nat) (a0 : ((Int × ((List Int) × ((List Int) × ((List Int) × (Int × Int))))) × (List (List Int)))) (a1 : Int) : callW F12.E false F12.fn k [.agg [.v (.int .u8) a0.1.1, .v (.sl (.int .u8)) a0.1.2.1, .v (.sl (.int .u8)) a0.1.2.2.1, .v (.sl (.int .i8)) a0.1.2.2.2.1, .v (.int .i16) a0.1.2.2.2.2.1, .v (.int .u8) a0.1.2.2.2.2.2, .v (.sl (.sl (.int .i64))) a0.2], .v (.int .u8) a1] =
    bif makeAB a0 (kindT a1) 6 then
      bif solB (makeAC a0 (kindT a1)) (makeAL a0 (kindT a1) 6) 4000 then
        bif Nat.ble (makeAL a0 (kindT a1) 6).length 1000 then
          bif filtB 18 18 (makeAC a0 (kindT a1)) (domsL (makeAL a0 (kindT a1) 6)) then
            bif !((solL (makeAC a0 (kindT a1)) (makeAL a0 (kindT a1) 6) 4000).2) then
              some (.v .bool true)
            else
              bif !((tableF (makeAC a0 (kindT a1)) (domsL (makeAL a0 (kindT a1) 6))).2) then
                some (.v .bool (decide ((((solL (makeAC a0 (kindT a1)) (makeAL a0 (kindT a1) 6) 4000).1).length : Int) = 0)))
              else
                bif !(decide ((((tableF (makeAC a0 (kindT a1)) (domsL (makeAL a0 (kindT a1) 6))).1).length : Int) = ((makeAL a0 (kindT a1) 6).length : Int))) then
                  some (.v .bool false)
                else
                  F12.l1_1_1_1_1_1_1_0_1_0 k (F12.kt k [1, 1, 1, 1, 1, 1, 1, 0, 1, 0]) ((solL (makeAC a0 (kindT a1)) (makeAL a0 (kindT a1) 6) 4000).1) ((tableF (makeAC a0 (kindT a1)) (domsL (makeAL a0 (kindT a1) 6))).1) ((makeAL a0 (kindT a1) 6).length : Int) 0 ((makeAC a0 (kindT a1)).1) (((makeAC a0 (kindT a1)).2).1) ((((makeAC a0 (kindT a1)).2).2).1) (((((makeAC a0 (kindT a1)).2).2).2).1) ((((((makeAC a0 (kindT a1)).2).2).2).2).1) (((((((makeAC a0 (kindT a1)).2).2).2).2).2).1) ((((((((makeAC a0 (kindT a1)).2).2).2).2).2).2).1) ((((((((makeAC a0 (kindT a1)).2).2).2).2).2).2).2) (makeAL a0 (kindT a1) 6)
          else
            none
        else
          none
      else
        none
    else
      none := by kernel_rfl
theorem F12.l1_1_1_1_1_1_1_0_1_0_eq (n : Nat) (K : Conts) (p0 : (List (List Int))) (p1 : (List (Int × ((List Int) × (Int × (Int × Int)))))) (p2 : Int) (p3 : Int) (p4 : Int) (p5 : (List Int)) (p6 : (List Int)) (p7 : (List Int)) (p8 : (List Int)) (p9 : (List Int)) (p10 : Int) (p11 : (List (List Int))) (p12 : (List (List Int))) : F12.l1_1_1_1_1_1_1_0_1_0 (n + 1) K p0 p1 p2 p3 p4 p5 p6 p7 p8 p9 p10 p11 p12 =
    bif decide (p3 < p2) then
      bif decide (0 ≤ p3) && decide (p3 < p12.length) then
        bif decide (0 ≤ p3) && decide (p3 < p1.length) then
          bif listB (p1.getD p3.toNat ((0 : Int), ([], ((0 : Int), ((0 : Int), (0 : Int)))))) then
            F12.l1_1_1_1_1_1_1_0_1_0_0_1_1_0_0_1_1_0 n (F12.k_l1_1_1_1_1_1_1_0_1_0 n K [1, 1, 0, 0, 1, 1, 0]) p0 p1 (p12.getD p3.toNat []) p2 p3 (listD (p1.getD p3.toNat ((0 : Int), ([], ((0 : Int), ((0 : Int), (0 : Int))))))) ((listD (p1.getD p3.toNat ((0 : Int), ([], ((0 : Int), ((0 : Int), (0 : Int))))))).length : Int) 0 p4 p5 p6 p7 p8 p9 p10 p11 p12
          else
            none
        else
          none
      else
        none
    else
      exitK K 0 ⟨slots 119 [(5, .pb 0 0), (7, .v (.sl (.sl (.int .i64))) p0), (9, .v (.sl (.pair (.int .i64) (.pair (.sl (.int .u64)) (.pair (.int .i64) (.pair (.int .i64) (.int .i64)))))) p1)], [.box [.v (.int .i64) p4, .v (.sl (.int .i64)) p5, .v (.sl (.int .i64)) p6, .v (.sl (.int .i64)) p7, .v (.sl (.int .i64)) p8, .v (.sl (.int .i64)) p9, .v (.int .i64) p10, .v (.sl (.sl (.int .i64))) p11]]⟩ := by kernel_rfl
theorem F12.l1_1_1_1_1_1_1_0_1_0_0_1_1_0_0_1_1_0_eq (n : Nat) (K : Conts) (p0 : (List (List Int))) (p1 : (List (Int × ((List Int) × (Int × (Int × Int)))))) (p2 : (List Int)) (p3 : Int) (p4 : Int) (p5 : (List Int)) (p6 : Int) (p7 : Int) (p8 : Int) (p9 : (List Int)) (p10 : (List Int)) (p11 : (List Int)) (p12 : (List Int)) (p13 : (List Int)) (p14 : Int) (p15 : (List (List Int))) (p16 : (List (List Int))) : F12.l1_1_1_1_1_1_1_0_1_0_0_1_1_0_0_1_1_0 (n + 1) K p0 p1 p2 p3 p4 p5 p6 p7 p8 p9 p10 p11 p12 p13 p14 p15 p16 =
    bif decide (p7 < p6) then
      bif decide (0 ≤ p7) && decide (p7 < p5.length) then
        bif !(containsL p2 (p5.getD p7.toNat (0 : Int))) then
          K.ret ⟨slots 119 [(4, .v .bool false)], []⟩
        else
          F12.l1_1_1_1_1_1_1_0_1_0_0_1_1_0_0_1_1_0 n K p0 p1 p2 p3 p4 p5 p6 (IntKind.i64.wrap (p7 + 1)) p8 p9 p10 p11 p12 p13 p14 p15 p16
      else
        none
    else
      exitK K 2 ⟨slots 119 [(5, .pb 0 0), (7, .v (.sl (.sl (.int .i64))) p0), (9, .v (.sl (.pair (.int .i64) (.pair (.sl (.int .u64)) (.pair (.int .i64) (.pair (.int .i64) (.int .i64)))))) p1), (57, .own 1), (58, .v (.int .i64) p3), (59, .v (.int .i64) p4)], [.box [.v (.int .i64) p8, .v (.sl (.int .i64)) p9, .v (.sl (.int .i64)) p10, .v (.sl (.int .i64)) p11, .v (.sl (.int .i64)) p12, .v (.sl (.int .i64)) p13, .v (.int .i64) p14, .v (.sl (.sl (.int .i64))) p15], .frz (.sl (.int .i64)) p16]⟩ := by kernel_rfl
theorem F12.c0 (k : Nat) (p0 : (List (List Int))) (p1 : (List (Int × ((List Int) × (Int × (Int × Int)))))) (p2 : Int) (p3 : (List Int)) (p4 : (List Int)) (p5 : (List Int)) (p6 : (List Int)) (p7 : (List Int)) (p8 : Int) (p9 : (List (List Int))) : exitK (F12.kt k [1, 1, 1, 1, 1, 1, 1, 0, 1, 0]) 0 ⟨slots 119 [(5, .pb 0 0), (7, .v (.sl (.sl (.int .i64))) p0), (9, .v (.sl (.pair (.int .i64) (.pair (.sl (.int .u64)) (.pair (.int .i64) (.pair (.int .i64) (.int .i64)))))) p1)], [.box [.v (.int .i64) p2, .v (.sl (.int .i64)) p3, .v (.sl (.int .i64)) p4, .v (.sl (.int .i64)) p5, .v (.sl (.int .i64)) p6, .v (.sl (.int .i64)) p7, .v (.int .i64) p8, .v (.sl (.sl (.int .i64))) p9]]⟩ =
    F12.l1_1_1_1_1_1_1_1_0_1_0 k (F12.kt k [1, 1, 1, 1, 1, 1, 1, 1, 0, 1, 0]) p1 p0 (p0.length : Int) 0 p2 p3 p4 p5 p6 p7 p8 p9 := by kernel_rfl
theorem F12.c2 (n : Nat) (K : Conts) (p0 : (List (List Int))) (p1 : (List (Int × ((List Int) × (Int × (Int × Int)))))) (p2 : Int) (p3 : Int) (p4 : Int) (p5 : (List Int)) (p6 : (List Int)) (p7 : (List Int)) (p8 : (List Int)) (p9 : (List Int)) (p10 : Int) (p11 : (List (List Int))) (p12 : (List (List Int))) : exitK (F12.k_l1_1_1_1_1_1_1_0_1_0 n K [1, 1, 0, 0, 1, 1, 0]) 2 ⟨slots 119 [(5, .pb 0 0), (7, .v (.sl (.sl (.int .i64))) p0), (9, .v (.sl (.pair (.int .i64) (.pair (.sl (.int .u64)) (.pair (.int .i64) (.pair (.int .i64) (.int .i64)))))) p1), (57, .own 1), (58, .v (.int .i64) p2), (59, .v (.int .i64) p3)], [.box [.v (.int .i64) p4, .v (.sl (.int .i64)) p5, .v (.sl (.int .i64)) p6, .v (.sl (.int .i64)) p7, .v (.sl (.int .i64)) p8, .v (.sl (.int .i64)) p9, .v (.int .i64) p10, .v (.sl (.sl (.int .i64))) p11], .frz (.sl (.int .i64)) p12]⟩ =
    F12.l1_1_1_1_1_1_1_0_1_0 n K p0 p1 p2 (IntKind.i64.wrap (p3 + 1)) p4 p5 p6 p7 p8 p9 p10 p11 p12 := by kernel_rfl
theorem F12.l1_1_1_1_1_1_1_1_0_1_0_eq (n : Nat) (K : Conts) (p0 : (List (Int × ((List Int) × (Int × (Int × Int)))))) (p1 : (List (List Int))) (p2 : Int) (p3 : Int) (p4 : Int) (p5 : (List Int)) (p6 : (List Int)) (p7 : (List Int)) (p8 : (List Int)) (p9 : (List Int)) (p10 : Int) (p11 : (List (List Int))) : F12.l1_1_1_1_1_1_1_1_0_1_0 (n + 1) K p0 p1 p2 p3 p4 p5 p6 p7 p8 p9 p10 p11 =
    bif decide (p3 < p2) then
      bif decide (0 ≤ p3) && decide (p3 < p1.length) then
        F12.l1_1_1_1_1_1_1_1_0_1_0_0_1_1_0_0_1_1_0 n (F12.k_l1_1_1_1_1_1_1_1_0_1_0 n K [1, 1, 0, 0, 1, 1, 0]) p0 p1 p2 p3 (p1.getD p3.toNat []) ((p1.getD p3.toNat []).length : Int) 0 p4 p5 p6 p7 p8 p9 p10 p11
      else
        none
    else
      exitK K 4 ⟨slots 119 [(5, .pb 0 0), (9, .v (.sl (.pair (.int .i64) (.pair (.sl (.int .u64)) (.pair (.int .i64) (.pair (.int .i64) (.int .i64)))))) p0)], [.box [.v (.int .i64) p4, .v (.sl (.int .i64)) p5, .v (.sl (.int .i64)) p6, .v (.sl (.int .i64)) p7, .v (.sl (.int .i64)) p8, .v (.sl (.int .i64)) p9, .v (.int .i64) p10, .v (.sl (.sl (.int .i64))) p11]]⟩ := by kernel_rfl
theorem F12.l1_1_1_1_1_1_1_1_0_1_0_0_1_1_0_0_1_1_0_eq (n : Nat) (K : Conts) (p0 : (List (Int × ((List Int) × (Int × (Int × Int)))))) (p1 : (List (List Int))) (p2 : Int) (p3 : Int) (p4 : (List Int)) (p5 : Int) (p6 : Int) (p7 : Int) (p8 : (List Int)) (p9 : (List Int)) (p10 : (List Int)) (p11 : (List Int)) (p12 : (List Int)) (p13 : Int) (p14 : (List (List Int))) : F12.l1_1_1_1_1_1_1_1_0_1_0_0_1_1_0_0_1_1_0 (n + 1) K p0 p1 p2 p3 p4 p5 p6 p7 p8 p9 p10 p11 p12 p13 p14 =
    bif decide (p6 < p5) then
      bif decide (0 ≤ p6) && decide (p6 < p4.length) then
        bif decide (0 ≤ p6) && decide (p6 < p0.length) then
          bif nearB ((p0.getD p6.toNat ((0 : Int), ([], ((0 : Int), ((0 : Int), (0 : Int)))))).1) then
            bif !(hasD (p0.getD p6.toNat ((0 : Int), ([], ((0 : Int), ((0 : Int), (0 : Int)))))) (p4.getD p6.toNat (0 : Int))) then
              K.ret ⟨slots 119 [(4, .v .bool false)], []⟩
            else
              F12.l1_1_1_1_1_1_1_1_0_1_0_0_1_1_0_0_1_1_0 n K p0 p1 p2 p3 p4 p5 (IntKind.i64.wrap (p6 + 1)) p7 p8 p9 p10 p11 p12 p13 p14
          else
            none
        else
          none
      else
        none
    else
      exitK K 6 ⟨slots 119 [(5, .pb 0 0), (9, .v (.sl (.pair (.int .i64) (.pair (.sl (.int .u64)) (.pair (.int .i64) (.pair (.int .i64) (.int .i64)))))) p0), (80, .v (.sl (.sl (.int .i64))) p1), (81, .v (.int .i64) p2), (82, .v (.int .i64) p3)], [.box [.v (.int .i64) p7, .v (.sl (.int .i64)) p8, .v (.sl (.int .i64)) p9, .v (.sl (.int .i64)) p10, .v (.sl (.int .i64)) p11, .v (.sl (.int .i64)) p12, .v (.int .i64) p13, .v (.sl (.sl (.int .i64))) p14]]⟩ := by kernel_rfl
theorem F12.c4 (k : Nat) (p0 : (List (Int × ((List Int) × (Int × (Int × Int)))))) (p1 : Int) (p2 : (List Int)) (p3 : (List Int)) (p4 : (List Int)) (p5 : (List Int)) (p6 : (List Int)) (p7 : Int) (p8 : (List (List Int))) : exitK (F12.kt k [1, 1, 1, 1, 1, 1, 1, 1, 0, 1, 0]) 4 ⟨slots 119 [(5, .pb 0 0), (9, .v (.sl (.pair (.int .i64) (.pair (.sl (.int .u64)) (.pair (.int .i64) (.pair (.int .i64) (.int .i64)))))) p0)], [.box [.v (.int .i64) p1, .v (.sl (.int .i64)) p2, .v (.sl (.int .i64)) p3, .v (.sl (.int .i64)) p4, .v (.sl (.int .i64)) p5, .v (.sl (.int .i64)) p6, .v (.int .i64) p7, .v (.sl (.sl (.int .i64))) p8]]⟩ =
    bif filtB 18 18 (p1, (p2, (p3, (p4, (p5, (p6, (p7, p8))))))) p0 then
      bif (tableF (p1, (p2, (p3, (p4, (p5, (p6, (p7, p8))))))) p0).2 then
        bif Nat.ble ((tableF (p1, (p2, (p3, (p4, (p5, (p6, (p7, p8))))))) p0).1).length 1000 && ((tableF (p1, (p2, (p3, (p4, (p5, (p6, (p7, p8))))))) p0).1).all listB then
          bif Nat.ble p0.length 1000 && p0.all listB then
            bif Nat.ble (listsL ((tableF (p1, (p2, (p3, (p4, (p5, (p6, (p7, p8))))))) p0).1)).length 1000 && lensB (listsL ((tableF (p1, (p2, (p3, (p4, (p5, (p6, (p7, p8))))))) p0).1)) then
              some (.v .bool (sameL (listsL ((tableF (p1, (p2, (p3, (p4, (p5, (p6, (p7, p8))))))) p0).1)) (listsL p0)))
            else
              none
          else
            none
        else
          none
      else
        some (.v .bool false)
    else
      none := by kernel_rfl
theorem F12.c6 (n : Nat) (K : Conts) (p0 : (List (Int × ((List Int) × (Int × (Int × Int)))))) (p1 : (List (List Int))) (p2 : Int) (p3 : Int) (p4 : Int) (p5 : (List Int)) (p6 : (List Int)) (p7 : (List Int)) (p8 : (List Int)) (p9 : (List Int)) (p10 : Int) (p11 : (List (List Int))) : exitK (F12.k_l1_1_1_1_1_1_1_1_0_1_0 n K [1, 1, 0, 0, 1, 1, 0]) 6 ⟨slots 119 [(5, .pb 0 0), (9, .v (.sl (.pair (.int .i64) (.pair (.sl (.int .u64)) (.pair (.int .i64) (.pair (.int .i64) (.int .i64)))))) p0), (80, .v (.sl (.sl (.int .i64))) p1), (81, .v (.int .i64) p2), (82, .v (.int .i64) p3)], [.box [.v (.int .i64) p4, .v (.sl (.int .i64)) p5, .v (.sl (.int .i64)) p6, .v (.sl (.int .i64)) p7, .v (.sl (.int .i64)) p8, .v (.sl (.int .i64)) p9, .v (.int .i64) p10, .v (.sl (.sl (.int .i64))) p11]]⟩ =
    F12.l1_1_1_1_1_1_1_1_0_1_0 n K p0 p1 p2 (IntKind.i64.wrap (p3 + 1)) p4 p5 p6 p7 p8 p9 p10 p11 := by kernel_rfl
/-! ### 13: jigsaw/jigsawlaw17.TableFixed -/
noncomputable def F13.fn : Func := Go.Proofs.Tryz.f13
noncomputable def F13.body : Code := bodyOf F13.fn
noncomputable def F13.E : Env := ⟨tt, [(22, h_sameL), (26, h_conA), (27, h_localC), (28, h_holdsC), (38, h_kindT), (39, h_wakes39), (40, h_tableF), (41, h_doms41), (42, h_lists42)], [(1, [1, 2, 3]), (2, [2, 3]), (3, [2, 7]), (4, [2, 7, 8]), (5, [2, 7, 8, 9]), (6, [2, 7, 8, 9, 10]), (7, [2, 7, 8, 9, 10, 30, 31, 300009, 30010]), (8, [2, 7, 8, 9, 10, 30, 31, 32]), (9, [2, 7, 8, 9, 10, 11, 30, 31]), (10, [2, 7, 8, 9, 10, 11, 12, 30, 31]), (11, [2, 7, 8, 9, 10, 11, 12, 30, 31, 39]), (12, [2, 7, 8, 9, 10, 12, 30, 31]), (13, [2, 7, 8, 9, 10, 30, 31]), (14, [7, 8, 9, 10]), (15, [8, 9, 10, 13, 14])], [(0, [7, 8, 9, 10]), (1, [2, 7, 8, 9, 10, 30, 31])], some [6], inv⟩
noncomputable def F13.K0 : Conts := { nrm := endW F13.E false F13.fn.results.toList, ret := endW F13.E false F13.fn.results.toList, ex := [] }
noncomputable def F13.kt (k : Nat) (q : List Nat) : Conts := contAt F13.E k F13.body F13.K0 q
noncomputable def F13.l1_1_1_1_1_1_0_1_0 (n : Nat) (K : Conts) (p0 : (List Int)) (p1 : Int) (p2 : Int) (p3 : Int) (p4 : (List Int)) (p5 : (List Int)) (p6 : (List Int)) (p7 : (List Int)) (p8 : (List Int)) (p9 : Int) (p10 : (List (List Int))) (p11 : Int) (p12 : (List Int)) (p13 : (List Int)) (p14 : (List Int)) (p15 : (List Int)) (p16 : (List Int)) (p17 : Int) (p18 : (List (List Int))) (p19 : (List (List Int))) (p20 : (List Int)) : Option AV := loopF F13.E n (inLoop (subC [1, 1, 1, 1, 1, 1, 0, 1, 0] F13.body)) K ⟨slots 80 [(2, .v (.sl (.int .i8)) p0), (7, .pb 0 0), (8, .pb 1 0), (9, .own 2), (10, .own 3), (30, .v (.int .i64) p1), (31, .v (.int .i64) p2)], [.box [.v (.int .i64) p3, .v (.sl (.int .i64)) p4, .v (.sl (.int .i64)) p5, .v (.sl (.int .i64)) p6, .v (.sl (.int .i64)) p7, .v (.sl (.int .i64)) p8, .v (.int .i64) p9, .v (.sl (.sl (.int .i64))) p10], .box [.v (.int .i64) p11, .v (.sl (.int .i64)) p12, .v (.sl (.int .i64)) p13, .v (.sl (.int .i64)) p14, .v (.sl (.int .i64)) p15, .v (.sl (.int .i64)) p16, .v (.int .i64) p17, .v (.sl (.sl (.int .i64))) p18], .row 30 (.sl (.int .i64)) p19, .row 3 (.int .i64) p20]⟩
theorem F13.start_eq (k : Nat) (a0 : (Int × ((List Int) × ((List Int) × ((List Int) × (Int × Int)))))) (a1 : Int) (a2 : (List Int)) : callW F13.E false F13.fn k [.agg [.v (.int .u8) a0.1, .v (.sl (.int .u8)) a0.2.1, .v (.sl (.int .u8)) a0.2.2.1, .v (.sl (.int .i8)) a0.2.2.2.1, .v (.int .i16) a0.2.2.2.2.1, .v (.int .u8) a0.2.2.2.2.2], .v (.int .u8) a1, .v (.sl (.int .i8)) a2] =
    bif conAB (IntKind.u8.wrap (IntKind.i64.wrap ((kindT a1) - 1)), a0.2) 4 then
      bif localB (conA (IntKind.u8.wrap (IntKind.i64.wrap ((kindT a1) - 1)), a0.2) 4) then
        F13.l1_1_1_1_1_1_0_1_0 k (F13.kt k [1, 1, 1, 1, 1, 1, 0, 1, 0]) a2 (IntKind.i64.wrap (((((conA (IntKind.u8.wrap (IntKind.i64.wrap ((kindT a1) - 1)), a0.2) 4).2).1).length : Int) + (((((conA (IntKind.u8.wrap (IntKind.i64.wrap ((kindT a1) - 1)), a0.2) 4).2).2).1).length : Int))) 0 ((conA (IntKind.u8.wrap (IntKind.i64.wrap ((kindT a1) - 1)), a0.2) 4).1) (((conA (IntKind.u8.wrap (IntKind.i64.wrap ((kindT a1) - 1)), a0.2) 4).2).1) ((((conA (IntKind.u8.wrap (IntKind.i64.wrap ((kindT a1) - 1)), a0.2) 4).2).2).1) (((((conA (IntKind.u8.wrap (IntKind.i64.wrap ((kindT a1) - 1)), a0.2) 4).2).2).2).1) ((((((conA (IntKind.u8.wrap (IntKind.i64.wrap ((kindT a1) - 1)), a0.2) 4).2).2).2).2).1) (((((((conA (IntKind.u8.wrap (IntKind.i64.wrap ((kindT a1) - 1)), a0.2) 4).2).2).2).2).2).1) ((((((((conA (IntKind.u8.wrap (IntKind.i64.wrap ((kindT a1) - 1)), a0.2) 4).2).2).2).2).2).2).1) ((((((((conA (IntKind.u8.wrap (IntKind.i64.wrap ((kindT a1) - 1)), a0.2) 4).2).2).2).2).2).2).2) ((localC (conA (IntKind.u8.wrap (IntKind.i64.wrap ((kindT a1) - 1)), a0.2) 4)).1) (((localC (conA (IntKind.u8.wrap (IntKind.i64.wrap ((kindT a1) - 1)), a0.2) 4)).2).1) ((((localC (conA (IntKind.u8.wrap (IntKind.i64.wrap ((kindT a1) - 1)), a0.2) 4)).2).2).1) (((((localC (conA (IntKind.u8.wrap (IntKind.i64.wrap ((kindT a1) - 1)), a0.2) 4)).2).2).2).1) ((((((localC (conA (IntKind.u8.wrap (IntKind.i64.wrap ((kindT a1) - 1)), a0.2) 4)).2).2).2).2).1) (((((((localC (conA (IntKind.u8.wrap (IntKind.i64.wrap ((kindT a1) - 1)), a0.2) 4)).2).2).2).2).2).1) ((((((((localC (conA (IntKind.u8.wrap (IntKind.i64.wrap ((kindT a1) - 1)), a0.2) 4)).2).2).2).2).2).2).1) ((((((((localC (conA (IntKind.u8.wrap (IntKind.i64.wrap ((kindT a1) - 1)), a0.2) 4)).2).2).2).2).2).2).2) [] []
      else
        none
    else
      none := by kernel_rfl
theorem F13.l1_1_1_1_1_1_0_1_0_eq (n : Nat) (K : Conts) (p0 : (List Int)) (p1 : Int) (p2 : Int) (p3 : Int) (p4 : (List Int)) (p5 : (List Int)) (p6 : (List Int)) (p7 : (List Int)) (p8 : (List Int)) (p9 : Int) (p10 : (List (List Int))) (p11 : Int) (p12 : (List Int)) (p13 : (List Int)) (p14 : (List Int)) (p15 : (List Int)) (p16 : (List Int)) (p17 : Int) (p18 : (List (List Int))) (p19 : (List (List Int))) (p20 : (List Int)) : F13.l1_1_1_1_1_1_0_1_0 (n + 1) K p0 p1 p2 p3 p4 p5 p6 p7 p8 p9 p10 p11 p12 p13 p14 p15 p16 p17 p18 p19 p20 =
    bif decide (p2 < p1) then
      bif decide (p2 < (p0.length : Int)) then
        bif decide (0 ≤ p2) && decide (p2 < p0.length) then
          bif decide ((p19.length + [[IntKind.i64.wrap (p0.getD p2.toNat (0 : Int))]].length) * 24 ≤ LIM) then
            bif decide ((p20.length + [IntKind.i64.wrap (p0.getD p2.toNat (0 : Int))].length) * 8 ≤ LIM) then
              F13.l1_1_1_1_1_1_0_1_0 n K p0 p1 (IntKind.i64.wrap (p2 + 1)) p3 p4 p5 p6 p7 p8 p9 p10 p11 p12 p13 p14 p15 p16 p17 p18 (p19 ++ [[IntKind.i64.wrap (p0.getD p2.toNat (0 : Int))]]) (p20 ++ [IntKind.i64.wrap (p0.getD p2.toNat (0 : Int))])
            else
              none
          else
            none
        else
          none
      else
        bif decide ((p19.length + [[IntKind.i64.wrap (1 + p2)]].length) * 24 ≤ LIM) then
          bif decide ((p20.length + [IntKind.i64.wrap (1 + p2)].length) * 8 ≤ LIM) then
            F13.l1_1_1_1_1_1_0_1_0 n K p0 p1 (IntKind.i64.wrap (p2 + 1)) p3 p4 p5 p6 p7 p8 p9 p10 p11 p12 p13 p14 p15 p16 p17 p18 (p19 ++ [[IntKind.i64.wrap (1 + p2)]]) (p20 ++ [IntKind.i64.wrap (1 + p2)])
          else
            none
        else
          none
    else
      exitK K 0 ⟨slots 80 [(7, .pb 0 0), (8, .pb 1 0), (9, .own 2), (10, .own 3)], [.box [.v (.int .i64) p3, .v (.sl (.int .i64)) p4, .v (.sl (.int .i64)) p5, .v (.sl (.int .i64)) p6, .v (.sl (.int .i64)) p7, .v (.sl (.int .i64)) p8, .v (.int .i64) p9, .v (.sl (.sl (.int .i64))) p10], .box [.v (.int .i64) p11, .v (.sl (.int .i64)) p12, .v (.sl (.int .i64)) p13, .v (.sl (.int .i64)) p14, .v (.sl (.int .i64)) p15, .v (.sl (.int .i64)) p16, .v (.int .i64) p17, .v (.sl (.sl (.int .i64))) p18], .row 30 (.sl (.int .i64)) p19, .row 3 (.int .i64) p20]⟩ := by kernel_rfl
theorem F13.c0 (k : Nat) (p0 : Int) (p1 : (List Int)) (p2 : (List Int)) (p3 : (List Int)) (p4 : (List Int)) (p5 : (List Int)) (p6 : Int) (p7 : (List (List Int))) (p8 : Int) (p9 : (List Int)) (p10 : (List Int)) (p11 : (List Int)) (p12 : (List Int)) (p13 : (List Int)) (p14 : Int) (p15 : (List (List Int))) (p16 : (List (List Int))) (p17 : (List Int)) : exitK (F13.kt k [1, 1, 1, 1, 1, 1, 0, 1, 0]) 0 ⟨slots 80 [(7, .pb 0 0), (8, .pb 1 0), (9, .own 2), (10, .own 3)], [.box [.v (.int .i64) p0, .v (.sl (.int .i64)) p1, .v (.sl (.int .i64)) p2, .v (.sl (.int .i64)) p3, .v (.sl (.int .i64)) p4, .v (.sl (.int .i64)) p5, .v (.int .i64) p6, .v (.sl (.sl (.int .i64))) p7], .box [.v (.int .i64) p8, .v (.sl (.int .i64)) p9, .v (.sl (.int .i64)) p10, .v (.sl (.int .i64)) p11, .v (.sl (.int .i64)) p12, .v (.sl (.int .i64)) p13, .v (.int .i64) p14, .v (.sl (.sl (.int .i64))) p15], .row 30 (.sl (.int .i64)) p16, .row 3 (.int .i64) p17]⟩ =
    bif Nat.ble p16.length 1000 then
      bif filtB 18 18 (p0, (p1, (p2, (p3, (p4, (p5, (p6, p7))))))) (domsL p16) then
        bif holdsB (p8, (p9, (p10, (p11, (p12, (p13, (p14, p15))))))) p17 then
          bif ((tableF (p0, (p1, (p2, (p3, (p4, (p5, (p6, p7))))))) (domsL p16)).2) == (holdsC (p8, (p9, (p10, (p11, (p12, (p13, (p14, p15))))))) p17) then
            bif !((tableF (p0, (p1, (p2, (p3, (p4, (p5, (p6, p7))))))) (domsL p16)).2) then
              some (.v .bool true)
            else
              bif Nat.ble ((tableF (p0, (p1, (p2, (p3, (p4, (p5, (p6, p7))))))) (domsL p16)).1).length 1000 && ((tableF (p0, (p1, (p2, (p3, (p4, (p5, (p6, p7))))))) (domsL p16)).1).all listB then
                bif Nat.ble (listsL ((tableF (p0, (p1, (p2, (p3, (p4, (p5, (p6, p7))))))) (domsL p16)).1)).length 1000 && lensB (listsL ((tableF (p0, (p1, (p2, (p3, (p4, (p5, (p6, p7))))))) (domsL p16)).1)) then
                  some (.v .bool (sameL (listsL ((tableF (p0, (p1, (p2, (p3, (p4, (p5, (p6, p7))))))) (domsL p16)).1)) p16))
                else
                  none
              else
                none
          else
            some (.v .bool false)
        else
          none
      else
        none
    else
      none := by kernel_rfl

/-! ### 43: jigsaw/jigsawlaw17.TableRefuses$1 -/
noncomputable def F43.fn : Func := Go.Proofs.Tryz.f43
noncomputable def F43.E : Env := ⟨tt, [], [(1, [0])], [], some [2], inv⟩
theorem F43.start_eq (k : Nat) (a0 : (List Int)) : callW F43.E false F43.fn k [.v (.sl (.int .i64)) a0] =
    bif decide (0 ≤ (if 5 < (a0.length : Int) then 5 else (a0.length : Int))) && decide ((if 5 < (a0.length : Int) then 5 else (a0.length : Int)) ≤ a0.length) then
      some (.v (.sl (.int .i64)) (a0.take ((if 5 < (a0.length : Int) then 5 else (a0.length : Int)).toNat)))
    else
      none := by kernel_rfl

end Go.Proofs.YthdpbmcidebagaaGreatDoor.Ev
