/-
Seat 'a': the functions as the evaluator runs them: printed by a program of mine, each equation by kernel_rfl.
Conditions: none.
-/
import Derived.Test.YthdpbmcidebagaaGreatDoorAa
set_option linter.unusedVariables false
set_option maxRecDepth 100000
namespace Go.Proofs.YthdpbmcidebagaaGreatDoor.Ev
open Go
/-! ### 57k11: jigsaw/jigsawref09.three -/
/-! ### 58k13: jigsaw/jigsawref09.logic -/
/-! ### 58k14: jigsaw/jigsawref09.logic -/
/-! ### 58k15: jigsaw/jigsawref09.logic -/
/-! ### 58k16: jigsaw/jigsawref09.logic -/
/-! ### 28k11: jigsaw/jigsawref09.Holds -/
/-! ### 28k13: jigsaw/jigsawref09.Holds -/
/-! ### 28k14: jigsaw/jigsawref09.Holds -/
/-! ### 28k15: jigsaw/jigsawref09.Holds -/
/-! ### 28k16: jigsaw/jigsawref09.Holds -/
/-! ### 17: jigsaw/jigsawref10.Solutions -/
/-! ### 21: jigsaw/jigsawref10.Exact -/
/-! ### 48: jigsaw/prop.Fits -/
noncomputable def F48.fn : Func := Go.Proofs.Tryz.f48
noncomputable def F48.E : Env := ⟨tt, [(73, h_anyE), (76, h_rightM)], [(1, [1, 2, 3, 4]), (2, [1, 2, 3, 4, 9])], [], some [8], inv⟩
theorem F48.start_eq (k : Nat) (a0 : (Int × ((List Int) × ((List Int) × ((List Int) × ((List Int) × ((List Int) × (Int × (List (List Int)))))))))) (a1 : (List (Int × ((List Int) × (Int × (Int × Int)))))) (a2 : Int) (a3 : Int) : callW F48.E false F48.fn k [.agg [.v (.int .i64) a0.1, .v (.sl (.int .i64)) a0.2.1, .v (.sl (.int .i64)) a0.2.2.1, .v (.sl (.int .i64)) a0.2.2.2.1, .v (.sl (.int .i64)) a0.2.2.2.2.1, .v (.sl (.int .i64)) a0.2.2.2.2.2.1, .v (.int .i64) a0.2.2.2.2.2.2.1, .v (.sl (.sl (.int .i64))) a0.2.2.2.2.2.2.2], .v (.sl (.pair (.int .i64) (.pair (.sl (.int .u64)) (.pair (.int .i64) (.pair (.int .i64) (.int .i64)))))) a1, .v (.int .i64) a2, .v (.int .i64) a3] =
    bif decide (a0.1 ≥ a2) then
      bif decide (a0.1 ≤ a3) then
        bif kindB a0 then
          bif decide ((rightM a0 256) = 0) then
            bif decide ((a1.length : Int) = (IntKind.i64.wrap ((a0.2.1.length : Int) + (a0.2.2.1.length : Int)))) then
              some (.v .bool (!(List.any a1 emptyD)))
            else
              some (.v .bool false)
          else
            some (.v .bool false)
        else
          none
      else
        some (.v .bool false)
    else
      some (.v .bool false) := by kernel_rfl

/-! ### 25: jigsaw/jigsawref10.Fits -/
noncomputable def F25.fn : Func := Go.Proofs.Tryz.f25
noncomputable def F25.body : Code := bodyOf F25.fn
noncomputable def F25.E : Env := ⟨tt, [(51, h_rightR)], [(1, [1, 2, 3, 4]), (2, [1, 4, 32]), (3, [1, 4]), (4, [1, 9]), (5, [1, 36]), (6, [1]), (7, [1, 10]), (8, [1, 10]), (9, [1, 10]), (10, [1, 10, 48]), (11, [])], [(0, []), (1, [1, 10])], some [8], inv⟩
noncomputable def F25.K0 : Conts := { nrm := endW F25.E false F25.fn.results.toList, ret := endW F25.E false F25.fn.results.toList, ex := [] }
noncomputable def F25.kt (k : Nat) (q : List Nat) : Conts := contAt F25.E k F25.body F25.K0 q
noncomputable def F25.l1_1_1_1_0_1_0 (n : Nat) (K : Conts) (p0 : (List (List Int))) (p1 : Int) : Option AV := loopF F25.E n (inLoop (subC [1, 1, 1, 1, 0, 1, 0] F25.body)) K ⟨slots 49 [(1, .v (.sl (.sl (.int .i64))) p0), (10, .v (.int .i64) p1)], []⟩
theorem F25.start_eq (k : Nat) (a0 : (Int × ((List Int) × ((List Int) × ((List Int) × ((List Int) × ((List Int) × (Int × (List (List Int)))))))))) (a1 : (List (List Int))) (a2 : Int) (a3 : Int) : callW F25.E false F25.fn k [.agg [.v (.int .i64) a0.1, .v (.sl (.int .i64)) a0.2.1, .v (.sl (.int .i64)) a0.2.2.1, .v (.sl (.int .i64)) a0.2.2.2.1, .v (.sl (.int .i64)) a0.2.2.2.2.1, .v (.sl (.int .i64)) a0.2.2.2.2.2.1, .v (.int .i64) a0.2.2.2.2.2.2.1, .v (.sl (.sl (.int .i64))) a0.2.2.2.2.2.2.2], .v (.sl (.sl (.int .i64))) a1, .v (.int .i64) a2, .v (.int .i64) a3] =
    bif decide (a0.1 < a2) then
      some (.v .bool false)
    else
      bif decide (a0.1 > a3) then
        some (.v .bool false)
      else
        bif !(decide ((a1.length : Int) = (IntKind.i64.wrap ((a0.2.1.length : Int) + (a0.2.2.1.length : Int))))) then
          some (.v .bool false)
        else
          bif kindB a0 then
            bif !(decide ((rightR a0 256) = 0)) then some (.v .bool false) else F25.l1_1_1_1_0_1_0 k (F25.kt k [1, 1, 1, 1, 0, 1, 0]) a1 0
          else
            none := by kernel_rfl
theorem F25.l1_1_1_1_0_1_0_eq (n : Nat) (K : Conts) (p0 : (List (List Int))) (p1 : Int) : F25.l1_1_1_1_0_1_0 (n + 1) K p0 p1 =
    bif decide (p1 < (p0.length : Int)) then
      bif decide (0 ≤ p1) && decide (p1 < p0.length) then
        bif decide (((p0.getD p1.toNat []).length : Int) = 0) then K.ret ⟨slots 49 [(8, .v .bool false)], []⟩ else F25.l1_1_1_1_0_1_0 n K p0 (IntKind.i64.wrap (p1 + 1))
      else
        none
    else
      exitK K 0 ⟨slots 49 [], []⟩ := by kernel_rfl
theorem F25.c0 (k : Nat) : (F25.kt k [1, 1, 1, 1, 0, 1, 0]).ret ⟨slots 49 [(8, .v .bool false)], []⟩ =
    some (.v .bool false) := by kernel_rfl
theorem F25.c1 (k : Nat) : exitK (F25.kt k [1, 1, 1, 1, 0, 1, 0]) 0 ⟨slots 49 [], []⟩ =
    some (.v .bool true) := by kernel_rfl

/-! ### 49: jigsaw/prop.Made -/
noncomputable def F49.fn : Func := Go.Proofs.Tryz.f49
noncomputable def F49.body : Code := bodyOf F49.fn
noncomputable def F49.E : Env := ⟨tt, [(50, h_ofD)], [(1, [0]), (2, [0, 4]), (3, [4, 9, 10, 11, 570004]), (4, [4, 9, 10, 11, 12]), (5, [4, 6, 9, 10, 11]), (6, [4, 7, 8, 9, 10, 11]), (7, [4, 7, 9, 10, 11, 21]), (8, [4, 7, 9, 10, 11]), (9, [4, 9, 10, 11]), (10, [4])], [(0, [4]), (1, [4, 9, 10, 11])], some [2, 3], inv⟩
noncomputable def F49.K0 : Conts := { nrm := endW F49.E false F49.fn.results.toList, ret := endW F49.E false F49.fn.results.toList, ex := [] }
noncomputable def F49.kt (k : Nat) (q : List Nat) : Conts := contAt F49.E k F49.body F49.K0 q
noncomputable def F49.l1_1_0_1_0 (n : Nat) (K : Conts) (p0 : (List (List Int))) (p1 : Int) (p2 : Int) (p3 : (List (Int × ((List Int) × (Int × (Int × Int)))))) : Option AV := loopF F49.E n (inLoop (subC [1, 1, 0, 1, 0] F49.body)) K ⟨slots 28 [(4, .own 0), (9, .v (.sl (.sl (.int .i64))) p0), (10, .v (.int .i64) p1), (11, .v (.int .i64) p2)], [.row 57 (.pair (.int .i64) (.pair (.sl (.int .u64)) (.pair (.int .i64) (.pair (.int .i64) (.int .i64))))) p3]⟩
theorem F49.start_eq (k : Nat) (a0 : (List (List Int))) : callW F49.E false F49.fn k [.v (.sl (.sl (.int .i64))) a0] =
    F49.l1_1_0_1_0 k (F49.kt k [1, 1, 0, 1, 0]) a0 (a0.length : Int) 0 [] := by kernel_rfl
theorem F49.l1_1_0_1_0_eq (n : Nat) (K : Conts) (p0 : (List (List Int))) (p1 : Int) (p2 : Int) (p3 : (List (Int × ((List Int) × (Int × (Int × Int)))))) : F49.l1_1_0_1_0 (n + 1) K p0 p1 p2 p3 =
    bif decide (p2 < p1) then
      bif decide (0 ≤ p2) && decide (p2 < p0.length) then
        bif !(decide (((ofD (p0.getD p2.toNat [])).2) = 0)) then
          K.ret ⟨slots 28 [(2, .nl), (3, .v .bool false)], []⟩
        else
          bif decide ((p3.length + [(ofD (p0.getD p2.toNat [])).1].length) * 56 ≤ LIM) then
            F49.l1_1_0_1_0 n K p0 p1 (IntKind.i64.wrap (p2 + 1)) (p3 ++ [(ofD (p0.getD p2.toNat [])).1])
          else
            none
      else
        none
    else
      exitK K 0 ⟨slots 28 [(4, .own 0)], [.row 57 (.pair (.int .i64) (.pair (.sl (.int .u64)) (.pair (.int .i64) (.pair (.int .i64) (.int .i64))))) p3]⟩ := by kernel_rfl
theorem F49.c0 (k : Nat) : (F49.kt k [1, 1, 0, 1, 0]).ret ⟨slots 28 [(2, .nl), (3, .v .bool false)], []⟩ =
    some (.tup [.nl, .v .bool false]) := by kernel_rfl
theorem F49.c1 (k : Nat) (p0 : (List (Int × ((List Int) × (Int × (Int × Int)))))) : exitK (F49.kt k [1, 1, 0, 1, 0]) 0 ⟨slots 28 [(4, .own 0)], [.row 57 (.pair (.int .i64) (.pair (.sl (.int .u64)) (.pair (.int .i64) (.pair (.int .i64) (.int .i64))))) p0]⟩ =
    some (.tup [.v (.sl (.pair (.int .i64) (.pair (.sl (.int .u64)) (.pair (.int .i64) (.pair (.int .i64) (.int .i64)))))) p0, .v .bool true]) := by kernel_rfl

/-! ### 69: jigsaw/reif.allowed -/
noncomputable def F69.fn : Func := Go.Proofs.Tryz.f69
noncomputable def F69.E : Env := ⟨tt, [], [(1, [1, 2, 3]), (2, [1, 2, 3, 7]), (3, [1, 2, 3, 7, 19]), (4, [2, 3, 7]), (5, [3, 7, 24]), (7, [7, 28]), (8, [7])], [(0, [7])], some [6], inv⟩
theorem F69.start_eq (k : Nat) (a0 : (Int × ((List Int) × ((List Int) × ((List Int) × ((List Int) × ((List Int) × (Int × (List (List Int)))))))))) (a1 : Int) (a2 : Int) : callW F69.E false F69.fn k [.agg [.v (.int .i64) a0.1, .v (.sl (.int .i64)) a0.2.1, .v (.sl (.int .i64)) a0.2.2.1, .v (.sl (.int .i64)) a0.2.2.2.1, .v (.sl (.int .i64)) a0.2.2.2.2.1, .v (.sl (.int .i64)) a0.2.2.2.2.2.1, .v (.int .i64) a0.2.2.2.2.2.2.1, .v (.sl (.sl (.int .i64))) a0.2.2.2.2.2.2.2], .v (.int .i64) a1, .v (.int .i64) a2] =
    bif decide (a0.1 = 14) then
      bif decide (a2 = 1) then
        some (.v .bool (decide (a1 ≤ a0.2.2.2.2.2.2.1)))
      else
        bif decide (a0.1 = 15) then
          some (.v .bool true)
        else
          bif decide (a0.1 = 16) then some (.v .bool true) else some (.v .bool (!(decide (a1 ≤ a0.2.2.2.2.2.2.1))))
    else
      bif decide (a0.1 = 16) then
        bif decide (a2 = 1) then
          some (.v .bool (decide (a1 ≤ a0.2.2.2.2.2.2.1)))
        else
          bif decide (a0.1 = 15) then
            some (.v .bool true)
          else
            bif decide (a0.1 = 16) then some (.v .bool true) else some (.v .bool (!(decide (a1 ≤ a0.2.2.2.2.2.2.1))))
      else
        bif decide (a2 = 1) then
          some (.v .bool (decide (a1 = a0.2.2.2.2.2.2.1)))
        else
          bif decide (a0.1 = 15) then
            some (.v .bool true)
          else
            bif decide (a0.1 = 16) then some (.v .bool true) else some (.v .bool (!(decide (a1 = a0.2.2.2.2.2.2.1)))) := by kernel_rfl

/-! ### 19: jigsaw/elem.Filter -/
noncomputable def F19.fn : Func := Go.Proofs.Tryz.f19
noncomputable def F19.body : Code := bodyOf F19.fn
noncomputable def F19.E : Env := ⟨tt, [(31, h_hasD), (48, h_fitsD), (49, h_made)], [(1, [1, 2]), (2, [1, 2, 13]), (3, [1, 2]), (4, [1, 2, 6, 7]), (5, [1, 6, 7, 15, 16, 17, 30006, 30007]), (6, [1, 6, 7, 15, 16, 17, 18]), (7, [1, 6, 7, 8, 9, 15, 16, 17]), (8, [1, 6, 7, 8, 9, 15, 16, 17, 34]), (9, [1, 6, 7, 15, 16, 17]), (10, [6, 7])], [(0, [6, 7]), (1, [1, 6, 7, 15, 16, 17])], some [4, 5], inv⟩
noncomputable def F19.K0 : Conts := { nrm := endW F19.E false F19.fn.results.toList, ret := endW F19.E false F19.fn.results.toList, ex := [] }
noncomputable def F19.kt (k : Nat) (q : List Nat) : Conts := contAt F19.E k F19.body F19.K0 q
noncomputable def F19.l1_1_1_0_1_0 (n : Nat) (K : Conts) (p0 : (List (Int × ((List Int) × (Int × (Int × Int)))))) (p1 : (List Int)) (p2 : Int) (p3 : Int) (p4 : (List Int)) (p5 : (List Int)) : Option AV := loopF F19.E n (inLoop (subC [1, 1, 1, 0, 1, 0] F19.body)) K ⟨slots 51 [(1, .v (.sl (.pair (.int .i64) (.pair (.sl (.int .u64)) (.pair (.int .i64) (.pair (.int .i64) (.int .i64)))))) p0), (6, .own 0), (7, .own 1), (15, .v (.sl (.int .i64)) p1), (16, .v (.int .i64) p2), (17, .v (.int .i64) p3)], [.row 3 (.int .i64) p4, .row 3 (.int .i64) p5]⟩
theorem F19.start_eq (k : Nat) (a0 : (Int × ((List Int) × ((List Int) × ((List Int) × ((List Int) × ((List Int) × (Int × (List (List Int)))))))))) (a1 : (List (Int × ((List Int) × (Int × (Int × Int)))))) : callW F19.E false F19.fn k [.agg [.v (.int .i64) a0.1, .v (.sl (.int .i64)) a0.2.1, .v (.sl (.int .i64)) a0.2.2.1, .v (.sl (.int .i64)) a0.2.2.2.1, .v (.sl (.int .i64)) a0.2.2.2.2.1, .v (.sl (.int .i64)) a0.2.2.2.2.2.1, .v (.int .i64) a0.2.2.2.2.2.2.1, .v (.sl (.sl (.int .i64))) a0.2.2.2.2.2.2.2], .v (.sl (.pair (.int .i64) (.pair (.sl (.int .u64)) (.pair (.int .i64) (.pair (.int .i64) (.int .i64)))))) a1] =
    bif fitsB a0 11 11 then
      bif !(fitsD a0 a1 11 11) then some (.tup [.nl, .v .bool false]) else F19.l1_1_1_0_1_0 k (F19.kt k [1, 1, 1, 0, 1, 0]) a1 a0.2.2.2.1 (a0.2.2.2.1.length : Int) 0 [] []
    else
      none := by kernel_rfl
theorem F19.l1_1_1_0_1_0_eq (n : Nat) (K : Conts) (p0 : (List (Int × ((List Int) × (Int × (Int × Int)))))) (p1 : (List Int)) (p2 : Int) (p3 : Int) (p4 : (List Int)) (p5 : (List Int)) : F19.l1_1_1_0_1_0 (n + 1) K p0 p1 p2 p3 p4 p5 =
    bif decide (p3 < p2) then
      bif decide (0 ≤ p3) && decide (p3 < p1.length) then
        bif decide ((0 : Int) < p0.length) then
          bif nearB ((p0.getD 0 ((0 : Int), ([], ((0 : Int), ((0 : Int), (0 : Int)))))).1) then
            bif hasD (p0.getD 0 ((0 : Int), ([], ((0 : Int), ((0 : Int), (0 : Int)))))) (IntKind.i64.wrap (p3 + 1)) then
              bif decide ((1 : Int) < p0.length) then
                bif nearB ((p0.getD 1 ((0 : Int), ([], ((0 : Int), ((0 : Int), (0 : Int)))))).1) then
                  bif hasD (p0.getD 1 ((0 : Int), ([], ((0 : Int), ((0 : Int), (0 : Int)))))) (p1.getD p3.toNat (0 : Int)) then
                    bif decide ((p4.length + [IntKind.i64.wrap (p3 + 1)].length) * 8 ≤ LIM) then
                      bif decide ((p5.length + [p1.getD p3.toNat (0 : Int)].length) * 8 ≤ LIM) then
                        F19.l1_1_1_0_1_0 n K p0 p1 p2 (IntKind.i64.wrap (p3 + 1)) (p4 ++ [IntKind.i64.wrap (p3 + 1)]) (p5 ++ [p1.getD p3.toNat (0 : Int)])
                      else
                        none
                    else
                      none
                  else
                    F19.l1_1_1_0_1_0 n K p0 p1 p2 (IntKind.i64.wrap (p3 + 1)) p4 p5
                else
                  none
              else
                none
            else
              F19.l1_1_1_0_1_0 n K p0 p1 p2 (IntKind.i64.wrap (p3 + 1)) p4 p5
          else
            none
        else
          none
      else
        none
    else
      exitK K 0 ⟨slots 51 [(6, .own 0), (7, .own 1)], [.row 3 (.int .i64) p4, .row 3 (.int .i64) p5]⟩ := by kernel_rfl
theorem F19.c0 (k : Nat) (p0 : (List Int)) (p1 : (List Int)) : exitK (F19.kt k [1, 1, 1, 0, 1, 0]) 0 ⟨slots 51 [(6, .own 0), (7, .own 1)], [.row 3 (.int .i64) p0, .row 3 (.int .i64) p1]⟩ =
    bif Nat.ble [p0, p1].length 1000 then
      some (.tup [.v (.sl (.pair (.int .i64) (.pair (.sl (.int .u64)) (.pair (.int .i64) (.pair (.int .i64) (.int .i64)))))) ((madeAll [p0, p1]).1), .v .bool ((madeAll [p0, p1]).2)])
    else
      none := by kernel_rfl

/-! ### 34: jigsaw/reif.Filter -/
noncomputable def F34.fn : Func := Go.Proofs.Tryz.f34
noncomputable def F34.body : Code := bodyOf F34.fn
noncomputable def F34.E : Env := ⟨tt, [(29, h_listD), (31, h_hasD), (48, h_fitsD), (49, h_made), (69, h_allowedC)], [(1, [1, 2]), (2, [1, 2, 14]), (3, [1, 2]), (4, [1, 2, 6, 7]), (5, [1, 2, 6, 7, 18, 19, 20, 30006, 30007]), (6, [1, 2, 6, 7, 18, 19, 20, 21]), (7, [1, 2, 6, 7, 9, 18, 19, 20]), (8, [1, 2, 6, 7, 9, 18, 19, 20, 24, 30006, 30007]), (9, [1, 2, 6, 7, 9, 18, 19, 20, 24, 25]), (10, [1, 2, 6, 7, 9, 10, 18, 19, 20, 24]), (11, [1, 2, 6, 7, 9, 10, 18, 19, 20, 24, 37]), (12, [1, 2, 6, 7, 9, 18, 19, 20, 24]), (13, [1, 2, 6, 7, 18, 19, 20]), (14, [6, 7])], [(0, [6, 7]), (1, [1, 2, 6, 7, 18, 19, 20]), (2, [1, 2, 6, 7, 18, 19, 20]), (3, [1, 2, 6, 7, 9, 18, 19, 20, 24])], some [4, 5], inv⟩
noncomputable def F34.K0 : Conts := { nrm := endW F34.E false F34.fn.results.toList, ret := endW F34.E false F34.fn.results.toList, ex := [] }
noncomputable def F34.kt (k : Nat) (q : List Nat) : Conts := contAt F34.E k F34.body F34.K0 q
noncomputable def F34.l1_1_1_0_1_0 (n : Nat) (K : Conts) (p0 : (List (Int × ((List Int) × (Int × (Int × Int)))))) (p1 : (List Int)) (p2 : Int) (p3 : Int) (p4 : Int) (p5 : (List Int)) (p6 : (List Int)) (p7 : (List Int)) (p8 : (List Int)) (p9 : (List Int)) (p10 : Int) (p11 : (List (List Int))) (p12 : (List Int)) (p13 : (List Int)) : Option AV := loopF F34.E n (inLoop (subC [1, 1, 1, 0, 1, 0] F34.body)) K ⟨slots 54 [(1, .v (.sl (.pair (.int .i64) (.pair (.sl (.int .u64)) (.pair (.int .i64) (.pair (.int .i64) (.int .i64)))))) p0), (2, .pb 0 0), (6, .own 1), (7, .own 2), (18, .v (.sl (.int .i64)) p1), (19, .v (.int .i64) p2), (20, .v (.int .i64) p3)], [.box [.v (.int .i64) p4, .v (.sl (.int .i64)) p5, .v (.sl (.int .i64)) p6, .v (.sl (.int .i64)) p7, .v (.sl (.int .i64)) p8, .v (.sl (.int .i64)) p9, .v (.int .i64) p10, .v (.sl (.sl (.int .i64))) p11], .row 3 (.int .i64) p12, .row 3 (.int .i64) p13]⟩
noncomputable def F34.k_l1_1_1_0_1_0 (n : Nat) (K : Conts) (q : List Nat) : Conts := contAt F34.E n (inLoop (subC [1, 1, 1, 0, 1, 0] F34.body)) (loopK F34.E n (inLoop (subC [1, 1, 1, 0, 1, 0] F34.body)) K) q
noncomputable def F34.l1_1_1_0_1_0_0_1_1_0_0_1_1_0 (n : Nat) (K : Conts) (p0 : (List (Int × ((List Int) × (Int × (Int × Int)))))) (p1 : Int) (p2 : (List Int)) (p3 : Int) (p4 : Int) (p5 : Int) (p6 : Int) (p7 : (List Int)) (p8 : (List Int)) (p9 : (List Int)) (p10 : (List Int)) (p11 : (List Int)) (p12 : Int) (p13 : (List (List Int))) (p14 : (List Int)) (p15 : (List Int)) : Option AV := loopF F34.E n (inLoop (subC [1, 1, 1, 0, 1, 0, 0, 1, 1, 0, 0, 1, 1, 0] F34.body)) K ⟨slots 54 [(1, .v (.sl (.pair (.int .i64) (.pair (.sl (.int .u64)) (.pair (.int .i64) (.pair (.int .i64) (.int .i64)))))) p0), (2, .pb 0 0), (6, .own 1), (7, .own 2), (9, .v (.int .i64) p1), (18, .v (.sl (.int .i64)) p2), (19, .v (.int .i64) p3), (20, .v (.int .i64) p4), (24, .v (.int .i64) p5)], [.box [.v (.int .i64) p6, .v (.sl (.int .i64)) p7, .v (.sl (.int .i64)) p8, .v (.sl (.int .i64)) p9, .v (.sl (.int .i64)) p10, .v (.sl (.int .i64)) p11, .v (.int .i64) p12, .v (.sl (.sl (.int .i64))) p13], .row 3 (.int .i64) p14, .row 3 (.int .i64) p15]⟩
theorem F34.start_eq (k : Nat) (a0 : (Int × ((List Int) × ((List Int) × ((List Int) × ((List Int) × ((List Int) × (Int × (List (List Int)))))))))) (a1 : (List (Int × ((List Int) × (Int × (Int × Int)))))) : callW F34.E false F34.fn k [.agg [.v (.int .i64) a0.1, .v (.sl (.int .i64)) a0.2.1, .v (.sl (.int .i64)) a0.2.2.1, .v (.sl (.int .i64)) a0.2.2.2.1, .v (.sl (.int .i64)) a0.2.2.2.2.1, .v (.sl (.int .i64)) a0.2.2.2.2.2.1, .v (.int .i64) a0.2.2.2.2.2.2.1, .v (.sl (.sl (.int .i64))) a0.2.2.2.2.2.2.2], .v (.sl (.pair (.int .i64) (.pair (.sl (.int .u64)) (.pair (.int .i64) (.pair (.int .i64) (.int .i64)))))) a1] =
    bif fitsB a0 13 16 then
      bif !(fitsD a0 a1 13 16) then
        some (.tup [.nl, .v .bool false])
      else
        bif decide ((0 : Int) < a1.length) then
          bif listB (a1.getD 0 ((0 : Int), ([], ((0 : Int), ((0 : Int), (0 : Int)))))) then
            F34.l1_1_1_0_1_0 k (F34.kt k [1, 1, 1, 0, 1, 0]) a1 (listD (a1.getD 0 ((0 : Int), ([], ((0 : Int), ((0 : Int), (0 : Int))))))) ((listD (a1.getD 0 ((0 : Int), ([], ((0 : Int), ((0 : Int), (0 : Int))))))).length : Int) 0 a0.1 a0.2.1 a0.2.2.1 a0.2.2.2.1 a0.2.2.2.2.1 a0.2.2.2.2.2.1 a0.2.2.2.2.2.2.1 a0.2.2.2.2.2.2.2 [] []
          else
            none
        else
          none
    else
      none := by kernel_rfl
theorem F34.l1_1_1_0_1_0_eq (n : Nat) (K : Conts) (p0 : (List (Int × ((List Int) × (Int × (Int × Int)))))) (p1 : (List Int)) (p2 : Int) (p3 : Int) (p4 : Int) (p5 : (List Int)) (p6 : (List Int)) (p7 : (List Int)) (p8 : (List Int)) (p9 : (List Int)) (p10 : Int) (p11 : (List (List Int))) (p12 : (List Int)) (p13 : (List Int)) : F34.l1_1_1_0_1_0 (n + 1) K p0 p1 p2 p3 p4 p5 p6 p7 p8 p9 p10 p11 p12 p13 =
    bif decide (p3 < p2) then
      bif decide (0 ≤ p3) && decide (p3 < p1.length) then
        F34.l1_1_1_0_1_0_0_1_1_0_0_1_1_0 n (F34.k_l1_1_1_0_1_0 n K [1, 1, 0, 0, 1, 1, 0]) p0 (p1.getD p3.toNat (0 : Int)) p1 p2 p3 0 p4 p5 p6 p7 p8 p9 p10 p11 p12 p13
      else
        none
    else
      exitK K 0 ⟨slots 54 [(6, .own 0), (7, .own 1)], [.row 3 (.int .i64) p12, .row 3 (.int .i64) p13]⟩ := by kernel_rfl
theorem F34.l1_1_1_0_1_0_0_1_1_0_0_1_1_0_eq (n : Nat) (K : Conts) (p0 : (List (Int × ((List Int) × (Int × (Int × Int)))))) (p1 : Int) (p2 : (List Int)) (p3 : Int) (p4 : Int) (p5 : Int) (p6 : Int) (p7 : (List Int)) (p8 : (List Int)) (p9 : (List Int)) (p10 : (List Int)) (p11 : (List Int)) (p12 : Int) (p13 : (List (List Int))) (p14 : (List Int)) (p15 : (List Int)) : F34.l1_1_1_0_1_0_0_1_1_0_0_1_1_0 (n + 1) K p0 p1 p2 p3 p4 p5 p6 p7 p8 p9 p10 p11 p12 p13 p14 p15 =
    bif decide (p5 < 2) then
      bif decide ((1 : Int) < p0.length) then
        bif nearB ((p0.getD 1 ((0 : Int), ([], ((0 : Int), ((0 : Int), (0 : Int)))))).1) then
          bif hasD (p0.getD 1 ((0 : Int), ([], ((0 : Int), ((0 : Int), (0 : Int)))))) p5 then
            bif allowedC (p6, (p7, (p8, (p9, (p10, (p11, (p12, p13))))))) p1 p5 then
              bif decide ((p14.length + [p1].length) * 8 ≤ LIM) then
                bif decide ((p15.length + [p5].length) * 8 ≤ LIM) then
                  F34.l1_1_1_0_1_0_0_1_1_0_0_1_1_0 n K p0 p1 p2 p3 p4 (IntKind.i64.wrap (p5 + 1)) p6 p7 p8 p9 p10 p11 p12 p13 (p14 ++ [p1]) (p15 ++ [p5])
                else
                  none
              else
                none
            else
              F34.l1_1_1_0_1_0_0_1_1_0_0_1_1_0 n K p0 p1 p2 p3 p4 (IntKind.i64.wrap (p5 + 1)) p6 p7 p8 p9 p10 p11 p12 p13 p14 p15
          else
            F34.l1_1_1_0_1_0_0_1_1_0_0_1_1_0 n K p0 p1 p2 p3 p4 (IntKind.i64.wrap (p5 + 1)) p6 p7 p8 p9 p10 p11 p12 p13 p14 p15
        else
          none
      else
        none
    else
      exitK K 2 ⟨slots 54 [(1, .v (.sl (.pair (.int .i64) (.pair (.sl (.int .u64)) (.pair (.int .i64) (.pair (.int .i64) (.int .i64)))))) p0), (2, .pb 0 0), (6, .own 1), (7, .own 2), (18, .v (.sl (.int .i64)) p2), (19, .v (.int .i64) p3), (20, .v (.int .i64) p4)], [.box [.v (.int .i64) p6, .v (.sl (.int .i64)) p7, .v (.sl (.int .i64)) p8, .v (.sl (.int .i64)) p9, .v (.sl (.int .i64)) p10, .v (.sl (.int .i64)) p11, .v (.int .i64) p12, .v (.sl (.sl (.int .i64))) p13], .row 3 (.int .i64) p14, .row 3 (.int .i64) p15]⟩ := by kernel_rfl
theorem F34.c0 (k : Nat) (p0 : (List Int)) (p1 : (List Int)) : exitK (F34.kt k [1, 1, 1, 0, 1, 0]) 0 ⟨slots 54 [(6, .own 0), (7, .own 1)], [.row 3 (.int .i64) p0, .row 3 (.int .i64) p1]⟩ =
    bif Nat.ble [p0, p1].length 1000 then
      some (.tup [.v (.sl (.pair (.int .i64) (.pair (.sl (.int .u64)) (.pair (.int .i64) (.pair (.int .i64) (.int .i64)))))) ((madeAll [p0, p1]).1), .v .bool ((madeAll [p0, p1]).2)])
    else
      none := by kernel_rfl
theorem F34.c1 (n : Nat) (K : Conts) (p0 : (List (Int × ((List Int) × (Int × (Int × Int)))))) (p1 : (List Int)) (p2 : Int) (p3 : Int) (p4 : Int) (p5 : (List Int)) (p6 : (List Int)) (p7 : (List Int)) (p8 : (List Int)) (p9 : (List Int)) (p10 : Int) (p11 : (List (List Int))) (p12 : (List Int)) (p13 : (List Int)) : exitK (F34.k_l1_1_1_0_1_0 n K [1, 1, 0, 0, 1, 1, 0]) 2 ⟨slots 54 [(1, .v (.sl (.pair (.int .i64) (.pair (.sl (.int .u64)) (.pair (.int .i64) (.pair (.int .i64) (.int .i64)))))) p0), (2, .pb 0 0), (6, .own 1), (7, .own 2), (18, .v (.sl (.int .i64)) p1), (19, .v (.int .i64) p2), (20, .v (.int .i64) p3)], [.box [.v (.int .i64) p4, .v (.sl (.int .i64)) p5, .v (.sl (.int .i64)) p6, .v (.sl (.int .i64)) p7, .v (.sl (.int .i64)) p8, .v (.sl (.int .i64)) p9, .v (.int .i64) p10, .v (.sl (.sl (.int .i64))) p11], .row 3 (.int .i64) p12, .row 3 (.int .i64) p13]⟩ =
    F34.l1_1_1_0_1_0 n K p0 p1 p2 (IntKind.i64.wrap (p3 + 1)) p4 p5 p6 p7 p8 p9 p10 p11 p12 p13 := by kernel_rfl

/-! ### 16: jigsaw/jigsawlaw13.kind -/
/-! ### 32: jigsaw/jigsawlaw15.kind -/
end Go.Proofs.YthdpbmcidebagaaGreatDoor.Ev
