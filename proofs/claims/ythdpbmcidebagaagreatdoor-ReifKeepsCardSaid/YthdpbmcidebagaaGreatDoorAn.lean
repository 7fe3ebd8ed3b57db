/-
Seat 'a': the functions as the evaluator runs them: printed by a program of mine, each equation by kernel_rfl.
Conditions: none.
-/
import Derived.Test.YthdpbmcidebagaaGreatDoorAa
set_option linter.unusedVariables false
set_option maxRecDepth 100000
namespace Go.Proofs.YthdpbmcidebagaaGreatDoor.Ev
open Go
/-! ### 15: jigsaw/jigsawref10.Make -/
noncomputable def F15.fn : Func := Go.Proofs.Tryz.f15
noncomputable def F15.body : Code := bodyOf F15.fn
noncomputable def F15.E : Env := ⟨tt, [(26, h_conC), (44, h_smallL)], [(1, [1, 2, 3, 6]), (2, [2, 3, 6]), (3, [2, 3, 6, 8]), (4, [2, 3, 6, 8, 9]), (5, [2, 3, 6, 8, 9, 10, 300009]), (6, [2, 3, 6, 8, 9, 10]), (7, [2, 3, 6, 8, 9, 10]), (8, [2, 3, 6, 8, 9, 10, 11]), (9, [2, 3, 6, 8, 9, 10, 11, 48]), (10, [2, 3, 6, 8, 9, 10, 11]), (11, [2, 3, 6, 8, 9, 10, 12]), (12, [6, 8, 9])], [(0, [6, 8, 9]), (1, [2, 3, 6, 8, 9, 10])], some [6, 7], inv⟩
noncomputable def F15.K0 : Conts := { nrm := endW F15.E true F15.fn.results.toList, ret := endW F15.E true F15.fn.results.toList, ex := [] }
noncomputable def F15.kt (k : Nat) (q : List Nat) : Conts := contAt F15.E k F15.body F15.K0 q
noncomputable def F15.l1_1_1_1_0_1_0 (n : Nat) (K : Conts) (p0 : Int) (p1 : Int) (p2 : Int) (p3 : (List Int)) (p4 : (List Int)) (p5 : (List Int)) (p6 : Int) (p7 : Int) (p8 : (List (List Int))) (p9 : Int) (p10 : Int) (p11 : Int) (p12 : (List Int)) (p13 : (List Int)) (p14 : (List Int)) (p15 : (List Int)) (p16 : (List Int)) (p17 : Int) (p18 : (List (List Int))) (p19 : (List (List Int))) : Option AV := loopF F15.E n (inLoop (subC [1, 1, 1, 1, 0, 1, 0] F15.body)) K ⟨slots 63 [(2, .v (.int .i64) p0), (3, .pb 0 0), (6, .pb 1 0), (8, .pb 2 0), (9, .own 3), (10, .v (.int .i64) p1)], [.box [.v (.int .u8) p2, .v (.sl (.int .u8)) p3, .v (.sl (.int .u8)) p4, .v (.sl (.int .i8)) p5, .v (.int .i16) p6, .v (.int .u8) p7, .v (.sl (.sl (.int .i64))) p8], .box [.v (.int .i64) p9, .nl, .nl, .nl, .nl, .nl, .v (.int .i64) p10, .nl], .box [.v (.int .i64) p11, .v (.sl (.int .i64)) p12, .v (.sl (.int .i64)) p13, .v (.sl (.int .i64)) p14, .v (.sl (.int .i64)) p15, .v (.sl (.int .i64)) p16, .v (.int .i64) p17, .v (.sl (.sl (.int .i64))) p18], .row 30 (.sl (.int .i64)) p19]⟩
noncomputable def F15.k_l1_1_1_1_0_1_0 (n : Nat) (K : Conts) (q : List Nat) : Conts := contAt F15.E n (inLoop (subC [1, 1, 1, 1, 0, 1, 0] F15.body)) (loopK F15.E n (inLoop (subC [1, 1, 1, 1, 0, 1, 0] F15.body)) K) q
theorem F15.start_eq (k : Nat) (a0 : ((Int × ((List Int) × ((List Int) × ((List Int) × (Int × Int))))) × (List (List Int)))) (a1 : Int) (a2 : Int) : callW F15.E true F15.fn k [.agg [.v (.int .u8) a0.1.1, .v (.sl (.int .u8)) a0.1.2.1, .v (.sl (.int .u8)) a0.1.2.2.1, .v (.sl (.int .i8)) a0.1.2.2.2.1, .v (.int .i16) a0.1.2.2.2.2.1, .v (.int .u8) a0.1.2.2.2.2.2, .v (.sl (.sl (.int .i64))) a0.2], .v (.int .i64) a1, .v (.int .i64) a2] =
    bif conB (IntKind.u8.wrap (IntKind.i64.wrap (a1 - 1)), a0.1.2) 5 then
      F15.l1_1_1_1_0_1_0 k (F15.kt k [1, 1, 1, 1, 0, 1, 0]) a2 0 (IntKind.u8.wrap (IntKind.i64.wrap (a1 - 1))) a0.1.2.1 a0.1.2.2.1 a0.1.2.2.2.1 a0.1.2.2.2.2.1 a0.1.2.2.2.2.2 a0.2 (0 : Int) (0 : Int) ((conC (IntKind.u8.wrap (IntKind.i64.wrap (a1 - 1)), a0.1.2) 5).1) (((conC (IntKind.u8.wrap (IntKind.i64.wrap (a1 - 1)), a0.1.2) 5).2).1) ((((conC (IntKind.u8.wrap (IntKind.i64.wrap (a1 - 1)), a0.1.2) 5).2).2).1) (((((conC (IntKind.u8.wrap (IntKind.i64.wrap (a1 - 1)), a0.1.2) 5).2).2).2).1) ((((((conC (IntKind.u8.wrap (IntKind.i64.wrap (a1 - 1)), a0.1.2) 5).2).2).2).2).1) (((((((conC (IntKind.u8.wrap (IntKind.i64.wrap (a1 - 1)), a0.1.2) 5).2).2).2).2).2).1) ((((((((conC (IntKind.u8.wrap (IntKind.i64.wrap (a1 - 1)), a0.1.2) 5).2).2).2).2).2).2).1) ((((((((conC (IntKind.u8.wrap (IntKind.i64.wrap (a1 - 1)), a0.1.2) 5).2).2).2).2).2).2).2) []
    else
      none := by kernel_rfl
theorem F15.l1_1_1_1_0_1_0_eq (n : Nat) (K : Conts) (p0 : Int) (p1 : Int) (p2 : Int) (p3 : (List Int)) (p4 : (List Int)) (p5 : (List Int)) (p6 : Int) (p7 : Int) (p8 : (List (List Int))) (p9 : Int) (p10 : Int) (p11 : Int) (p12 : (List Int)) (p13 : (List Int)) (p14 : (List Int)) (p15 : (List Int)) (p16 : (List Int)) (p17 : Int) (p18 : (List (List Int))) (p19 : (List (List Int))) : F15.l1_1_1_1_0_1_0 (n + 1) K p0 p1 p2 p3 p4 p5 p6 p7 p8 p9 p10 p11 p12 p13 p14 p15 p16 p17 p18 p19 =
    bif decide (p1 < (IntKind.i64.wrap ((p12.length : Int) + (p13.length : Int)))) then
      bif decide (p1 < (p8.length : Int)) then
        bif decide (0 ≤ p1) && decide (p1 < p8.length) then
          bif decide (((p8.getD p1.toNat []).length : Int) > 0) then
            bif decide (0 ≤ p1) && decide (p1 < p8.length) then
              bif smallB (p8.getD p1.toNat []) 6 p0 then
                bif decide ((p19.length + [smallL (p8.getD p1.toNat []) 6 p0].length) * 24 ≤ LIM) then
                  F15.l1_1_1_1_0_1_0 n K p0 (IntKind.i64.wrap (p1 + 1)) p2 p3 p4 p5 p6 p7 p8 p9 p10 p11 p12 p13 p14 p15 p16 p17 p18 (p19 ++ [smallL (p8.getD p1.toNat []) 6 p0])
                else
                  none
              else
                none
            else
              none
          else
            bif smallB [p1.tmod 3, 1] 6 p0 then
              bif decide ((p19.length + [smallL [p1.tmod 3, 1] 6 p0].length) * 24 ≤ LIM) then
                F15.l1_1_1_1_0_1_0 n K p0 (IntKind.i64.wrap (p1 + 1)) p2 p3 p4 p5 p6 p7 p8 p9 p10 p11 p12 p13 p14 p15 p16 p17 p18 (p19 ++ [smallL [p1.tmod 3, 1] 6 p0])
              else
                none
            else
              none
        else
          none
      else
        bif smallB [p1.tmod 3, 1] 6 p0 then
          bif decide ((p19.length + [smallL [p1.tmod 3, 1] 6 p0].length) * 24 ≤ LIM) then
            F15.l1_1_1_1_0_1_0 n K p0 (IntKind.i64.wrap (p1 + 1)) p2 p3 p4 p5 p6 p7 p8 p9 p10 p11 p12 p13 p14 p15 p16 p17 p18 (p19 ++ [smallL [p1.tmod 3, 1] 6 p0])
          else
            none
        else
          none
    else
      exitK K 0 ⟨slots 63 [(6, .pb 0 0), (8, .pb 1 0), (9, .own 2)], [.box [.v (.int .i64) p9, .nl, .nl, .nl, .nl, .nl, .v (.int .i64) p10, .nl], .box [.v (.int .i64) p11, .v (.sl (.int .i64)) p12, .v (.sl (.int .i64)) p13, .v (.sl (.int .i64)) p14, .v (.sl (.int .i64)) p15, .v (.sl (.int .i64)) p16, .v (.int .i64) p17, .v (.sl (.sl (.int .i64))) p18], .row 30 (.sl (.int .i64)) p19]⟩ := by kernel_rfl
theorem F15.c0 (k : Nat) (p0 : Int) (p1 : Int) (p2 : Int) (p3 : (List Int)) (p4 : (List Int)) (p5 : (List Int)) (p6 : (List Int)) (p7 : (List Int)) (p8 : Int) (p9 : (List (List Int))) (p10 : (List (List Int))) : exitK (F15.kt k [1, 1, 1, 1, 0, 1, 0]) 0 ⟨slots 63 [(6, .pb 0 0), (8, .pb 1 0), (9, .own 2)], [.box [.v (.int .i64) p0, .nl, .nl, .nl, .nl, .nl, .v (.int .i64) p1, .nl], .box [.v (.int .i64) p2, .v (.sl (.int .i64)) p3, .v (.sl (.int .i64)) p4, .v (.sl (.int .i64)) p5, .v (.sl (.int .i64)) p6, .v (.sl (.int .i64)) p7, .v (.int .i64) p8, .v (.sl (.sl (.int .i64))) p9], .row 30 (.sl (.int .i64)) p10]⟩ =
    some (.tup [.agg [.v (.int .i64) p2, .v (.sl (.int .i64)) p3, .v (.sl (.int .i64)) p4, .v (.sl (.int .i64)) p5, .v (.sl (.int .i64)) p6, .v (.sl (.int .i64)) p7, .v (.int .i64) p8, .v (.sl (.sl (.int .i64))) p9], .nw 30 (.sl (.int .i64)) p10]) := by kernel_rfl

/-! ### 3: jigsaw/jigsawlaw13.ElemFilters -/
noncomputable def F3.fn : Func := Go.Proofs.Tryz.f3
noncomputable def F3.body : Code := bodyOf F3.fn
noncomputable def F3.E : Env := ⟨tt, [(15, h_make), (16, h_kindE), (17, h_sol), (18, h_wakes18), (19, h_elemF), (20, h_doms20), (21, h_exact), (22, h_sameL), (23, h_lists23)], [(1, [1, 2]), (2, [5, 6]), (3, [5, 6, 8]), (4, [5, 6, 27]), (5, [5, 6]), (6, [5, 6, 9, 10]), (7, [9, 10, 11, 12])], [], some [4], inv⟩
noncomputable def F3.K0 : Conts := { nrm := endW F3.E false F3.fn.results.toList, ret := endW F3.E false F3.fn.results.toList, ex := [] }
noncomputable def F3.kt (k : Nat) (q : List Nat) : Conts := contAt F3.E k F3.body F3.K0 q
theorem F3.start_eq (k : Nat) (a0 : ((Int × ((List Int) × ((List Int) × ((List Int) × (Int × Int))))) × (List (List Int)))) (a1 : Int) : callW F3.E false F3.fn k [.agg [.v (.int .u8) a0.1.1, .v (.sl (.int .u8)) a0.1.2.1, .v (.sl (.int .u8)) a0.1.2.2.1, .v (.sl (.int .i8)) a0.1.2.2.2.1, .v (.int .i16) a0.1.2.2.2.2.1, .v (.int .u8) a0.1.2.2.2.2.2, .v (.sl (.sl (.int .i64))) a0.2], .v (.int .u8) a1] =
    bif makeB a0 (kindE a1) 6 then
      bif solB (makeC a0 (kindE a1)) (makeL a0 (kindE a1) 6) 4000 then
        bif !((solL (makeC a0 (kindE a1)) (makeL a0 (kindE a1) 6) 4000).2) then
          some (.v .bool true)
        else
          bif Nat.ble (makeL a0 (kindE a1) 6).length 1000 then
            bif filtB 11 11 (makeC a0 (kindE a1)) (domsL (makeL a0 (kindE a1) 6)) then
              bif solB (makeC a0 (kindE a1)) (makeL a0 (kindE a1) 6) 4000 then
                bif ((elemF (makeC a0 (kindE a1)) (domsL (makeL a0 (kindE a1) 6))).2) == ((exactL (makeC a0 (kindE a1)) (makeL a0 (kindE a1) 6) 4000).2) then
                  bif Nat.ble ((elemF (makeC a0 (kindE a1)) (domsL (makeL a0 (kindE a1) 6))).1).length 1000 && ((elemF (makeC a0 (kindE a1)) (domsL (makeL a0 (kindE a1) 6))).1).all listB then
                    bif Nat.ble (listsL ((elemF (makeC a0 (kindE a1)) (domsL (makeL a0 (kindE a1) 6))).1)).length 1000 && lensB (listsL ((elemF (makeC a0 (kindE a1)) (domsL (makeL a0 (kindE a1) 6))).1)) then
                      some (.v .bool (sameL (listsL ((elemF (makeC a0 (kindE a1)) (domsL (makeL a0 (kindE a1) 6))).1)) ((exactL (makeC a0 (kindE a1)) (makeL a0 (kindE a1) 6) 4000).1)))
                    else
                      none
                  else
                    none
                else
                  some (.v .bool false)
              else
                none
            else
              none
          else
            none
      else
        none
    else
      none := by kernel_rfl

/-! ### 5: jigsaw/jigsawlaw13.ElemFixed -/
noncomputable def F5.fn : Func := Go.Proofs.Tryz.f5
noncomputable def F5.body : Code := bodyOf F5.fn
noncomputable def F5.E : Env := ⟨tt, [(16, h_kindE), (18, h_wakes18), (19, h_elemF), (20, h_doms20), (22, h_sameL), (23, h_lists23), (26, h_conC), (27, h_localC), (28, h_holdsC)], [(1, [1, 2, 3]), (2, [2, 3]), (3, [2, 7]), (4, [2, 7, 8]), (5, [2, 7, 8, 9]), (6, [2, 7, 8, 9, 10]), (7, [2, 7, 8, 9, 10, 30, 31, 300009, 30010]), (8, [2, 7, 8, 9, 10, 30, 31, 32]), (9, [2, 7, 8, 9, 10, 11, 30, 31]), (10, [2, 7, 8, 9, 10, 11, 12, 30, 31]), (11, [2, 7, 8, 9, 10, 11, 12, 30, 31, 39]), (12, [2, 7, 8, 9, 10, 12, 30, 31]), (13, [2, 7, 8, 9, 10, 30, 31]), (14, [7, 8, 9, 10]), (15, [8, 9, 10, 13, 14])], [(0, [7, 8, 9, 10]), (1, [2, 7, 8, 9, 10, 30, 31])], some [6], inv⟩
noncomputable def F5.K0 : Conts := { nrm := endW F5.E false F5.fn.results.toList, ret := endW F5.E false F5.fn.results.toList, ex := [] }
noncomputable def F5.kt (k : Nat) (q : List Nat) : Conts := contAt F5.E k F5.body F5.K0 q
noncomputable def F5.l1_1_1_1_1_1_0_1_0 (n : Nat) (K : Conts) (p0 : (List Int)) (p1 : Int) (p2 : Int) (p3 : Int) (p4 : (List Int)) (p5 : (List Int)) (p6 : (List Int)) (p7 : (List Int)) (p8 : (List Int)) (p9 : Int) (p10 : (List (List Int))) (p11 : Int) (p12 : (List Int)) (p13 : (List Int)) (p14 : (List Int)) (p15 : (List Int)) (p16 : (List Int)) (p17 : Int) (p18 : (List (List Int))) (p19 : (List (List Int))) (p20 : (List Int)) : Option AV := loopF F5.E n (inLoop (subC [1, 1, 1, 1, 1, 1, 0, 1, 0] F5.body)) K ⟨slots 80 [(2, .v (.sl (.int .i8)) p0), (7, .pb 0 0), (8, .pb 1 0), (9, .own 2), (10, .own 3), (30, .v (.int .i64) p1), (31, .v (.int .i64) p2)], [.box [.v (.int .i64) p3, .v (.sl (.int .i64)) p4, .v (.sl (.int .i64)) p5, .v (.sl (.int .i64)) p6, .v (.sl (.int .i64)) p7, .v (.sl (.int .i64)) p8, .v (.int .i64) p9, .v (.sl (.sl (.int .i64))) p10], .box [.v (.int .i64) p11, .v (.sl (.int .i64)) p12, .v (.sl (.int .i64)) p13, .v (.sl (.int .i64)) p14, .v (.sl (.int .i64)) p15, .v (.sl (.int .i64)) p16, .v (.int .i64) p17, .v (.sl (.sl (.int .i64))) p18], .row 30 (.sl (.int .i64)) p19, .row 3 (.int .i64) p20]⟩
noncomputable def F5.k_l1_1_1_1_1_1_0_1_0 (n : Nat) (K : Conts) (q : List Nat) : Conts := contAt F5.E n (inLoop (subC [1, 1, 1, 1, 1, 1, 0, 1, 0] F5.body)) (loopK F5.E n (inLoop (subC [1, 1, 1, 1, 1, 1, 0, 1, 0] F5.body)) K) q
theorem F5.start_eq (k : Nat) (a0 : (Int × ((List Int) × ((List Int) × ((List Int) × (Int × Int)))))) (a1 : Int) (a2 : (List Int)) : callW F5.E false F5.fn k [.agg [.v (.int .u8) a0.1, .v (.sl (.int .u8)) a0.2.1, .v (.sl (.int .u8)) a0.2.2.1, .v (.sl (.int .i8)) a0.2.2.2.1, .v (.int .i16) a0.2.2.2.2.1, .v (.int .u8) a0.2.2.2.2.2], .v (.int .u8) a1, .v (.sl (.int .i8)) a2] =
    bif conB (IntKind.u8.wrap (IntKind.i64.wrap ((kindE a1) - 1)), a0.2) 4 then
      bif localB (conC (IntKind.u8.wrap (IntKind.i64.wrap ((kindE a1) - 1)), a0.2) 4) then
        F5.l1_1_1_1_1_1_0_1_0 k (F5.kt k [1, 1, 1, 1, 1, 1, 0, 1, 0]) a2 (IntKind.i64.wrap (((((conC (IntKind.u8.wrap (IntKind.i64.wrap ((kindE a1) - 1)), a0.2) 4).2).1).length : Int) + (((((conC (IntKind.u8.wrap (IntKind.i64.wrap ((kindE a1) - 1)), a0.2) 4).2).2).1).length : Int))) 0 ((conC (IntKind.u8.wrap (IntKind.i64.wrap ((kindE a1) - 1)), a0.2) 4).1) (((conC (IntKind.u8.wrap (IntKind.i64.wrap ((kindE a1) - 1)), a0.2) 4).2).1) ((((conC (IntKind.u8.wrap (IntKind.i64.wrap ((kindE a1) - 1)), a0.2) 4).2).2).1) (((((conC (IntKind.u8.wrap (IntKind.i64.wrap ((kindE a1) - 1)), a0.2) 4).2).2).2).1) ((((((conC (IntKind.u8.wrap (IntKind.i64.wrap ((kindE a1) - 1)), a0.2) 4).2).2).2).2).1) (((((((conC (IntKind.u8.wrap (IntKind.i64.wrap ((kindE a1) - 1)), a0.2) 4).2).2).2).2).2).1) ((((((((conC (IntKind.u8.wrap (IntKind.i64.wrap ((kindE a1) - 1)), a0.2) 4).2).2).2).2).2).2).1) ((((((((conC (IntKind.u8.wrap (IntKind.i64.wrap ((kindE a1) - 1)), a0.2) 4).2).2).2).2).2).2).2) ((localC (conC (IntKind.u8.wrap (IntKind.i64.wrap ((kindE a1) - 1)), a0.2) 4)).1) (((localC (conC (IntKind.u8.wrap (IntKind.i64.wrap ((kindE a1) - 1)), a0.2) 4)).2).1) ((((localC (conC (IntKind.u8.wrap (IntKind.i64.wrap ((kindE a1) - 1)), a0.2) 4)).2).2).1) (((((localC (conC (IntKind.u8.wrap (IntKind.i64.wrap ((kindE a1) - 1)), a0.2) 4)).2).2).2).1) ((((((localC (conC (IntKind.u8.wrap (IntKind.i64.wrap ((kindE a1) - 1)), a0.2) 4)).2).2).2).2).1) (((((((localC (conC (IntKind.u8.wrap (IntKind.i64.wrap ((kindE a1) - 1)), a0.2) 4)).2).2).2).2).2).1) ((((((((localC (conC (IntKind.u8.wrap (IntKind.i64.wrap ((kindE a1) - 1)), a0.2) 4)).2).2).2).2).2).2).1) ((((((((localC (conC (IntKind.u8.wrap (IntKind.i64.wrap ((kindE a1) - 1)), a0.2) 4)).2).2).2).2).2).2).2) [] []
      else
        none
    else
      none := by kernel_rfl
theorem F5.l1_1_1_1_1_1_0_1_0_eq (n : Nat) (K : Conts) (p0 : (List Int)) (p1 : Int) (p2 : Int) (p3 : Int) (p4 : (List Int)) (p5 : (List Int)) (p6 : (List Int)) (p7 : (List Int)) (p8 : (List Int)) (p9 : Int) (p10 : (List (List Int))) (p11 : Int) (p12 : (List Int)) (p13 : (List Int)) (p14 : (List Int)) (p15 : (List Int)) (p16 : (List Int)) (p17 : Int) (p18 : (List (List Int))) (p19 : (List (List Int))) (p20 : (List Int)) : F5.l1_1_1_1_1_1_0_1_0 (n + 1) K p0 p1 p2 p3 p4 p5 p6 p7 p8 p9 p10 p11 p12 p13 p14 p15 p16 p17 p18 p19 p20 =
    bif decide (p2 < p1) then
      bif decide (p2 < (p0.length : Int)) then
        bif decide (0 ≤ p2) && decide (p2 < p0.length) then
          bif decide ((p19.length + [[IntKind.i64.wrap (p0.getD p2.toNat (0 : Int))]].length) * 24 ≤ LIM) then
            bif decide ((p20.length + [IntKind.i64.wrap (p0.getD p2.toNat (0 : Int))].length) * 8 ≤ LIM) then
              F5.l1_1_1_1_1_1_0_1_0 n K p0 p1 (IntKind.i64.wrap (p2 + 1)) p3 p4 p5 p6 p7 p8 p9 p10 p11 p12 p13 p14 p15 p16 p17 p18 (p19 ++ [[IntKind.i64.wrap (p0.getD p2.toNat (0 : Int))]]) (p20 ++ [IntKind.i64.wrap (p0.getD p2.toNat (0 : Int))])
            else
              none
          else
            none
        else
          none
      else
        bif decide ((p19.length + [[IntKind.i64.wrap (1 + p2)]].length) * 24 ≤ LIM) then
          bif decide ((p20.length + [IntKind.i64.wrap (1 + p2)].length) * 8 ≤ LIM) then
            F5.l1_1_1_1_1_1_0_1_0 n K p0 p1 (IntKind.i64.wrap (p2 + 1)) p3 p4 p5 p6 p7 p8 p9 p10 p11 p12 p13 p14 p15 p16 p17 p18 (p19 ++ [[IntKind.i64.wrap (1 + p2)]]) (p20 ++ [IntKind.i64.wrap (1 + p2)])
          else
            none
        else
          none
    else
      exitK K 0 ⟨slots 80 [(7, .pb 0 0), (8, .pb 1 0), (9, .own 2), (10, .own 3)], [.box [.v (.int .i64) p3, .v (.sl (.int .i64)) p4, .v (.sl (.int .i64)) p5, .v (.sl (.int .i64)) p6, .v (.sl (.int .i64)) p7, .v (.sl (.int .i64)) p8, .v (.int .i64) p9, .v (.sl (.sl (.int .i64))) p10], .box [.v (.int .i64) p11, .v (.sl (.int .i64)) p12, .v (.sl (.int .i64)) p13, .v (.sl (.int .i64)) p14, .v (.sl (.int .i64)) p15, .v (.sl (.int .i64)) p16, .v (.int .i64) p17, .v (.sl (.sl (.int .i64))) p18], .row 30 (.sl (.int .i64)) p19, .row 3 (.int .i64) p20]⟩ := by kernel_rfl
theorem F5.c0 (k : Nat) (p0 : Int) (p1 : (List Int)) (p2 : (List Int)) (p3 : (List Int)) (p4 : (List Int)) (p5 : (List Int)) (p6 : Int) (p7 : (List (List Int))) (p8 : Int) (p9 : (List Int)) (p10 : (List Int)) (p11 : (List Int)) (p12 : (List Int)) (p13 : (List Int)) (p14 : Int) (p15 : (List (List Int))) (p16 : (List (List Int))) (p17 : (List Int)) : exitK (F5.kt k [1, 1, 1, 1, 1, 1, 0, 1, 0]) 0 ⟨slots 80 [(7, .pb 0 0), (8, .pb 1 0), (9, .own 2), (10, .own 3)], [.box [.v (.int .i64) p0, .v (.sl (.int .i64)) p1, .v (.sl (.int .i64)) p2, .v (.sl (.int .i64)) p3, .v (.sl (.int .i64)) p4, .v (.sl (.int .i64)) p5, .v (.int .i64) p6, .v (.sl (.sl (.int .i64))) p7], .box [.v (.int .i64) p8, .v (.sl (.int .i64)) p9, .v (.sl (.int .i64)) p10, .v (.sl (.int .i64)) p11, .v (.sl (.int .i64)) p12, .v (.sl (.int .i64)) p13, .v (.int .i64) p14, .v (.sl (.sl (.int .i64))) p15], .row 30 (.sl (.int .i64)) p16, .row 3 (.int .i64) p17]⟩ =
    bif Nat.ble p16.length 1000 then
      bif filtB 11 11 (p0, (p1, (p2, (p3, (p4, (p5, (p6, p7))))))) (domsL p16) then
        bif holdsB (p8, (p9, (p10, (p11, (p12, (p13, (p14, p15))))))) p17 then
          bif ((elemF (p0, (p1, (p2, (p3, (p4, (p5, (p6, p7))))))) (domsL p16)).2) == (holdsC (p8, (p9, (p10, (p11, (p12, (p13, (p14, p15))))))) p17) then
            bif !((elemF (p0, (p1, (p2, (p3, (p4, (p5, (p6, p7))))))) (domsL p16)).2) then
              some (.v .bool true)
            else
              bif Nat.ble ((elemF (p0, (p1, (p2, (p3, (p4, (p5, (p6, p7))))))) (domsL p16)).1).length 1000 && ((elemF (p0, (p1, (p2, (p3, (p4, (p5, (p6, p7))))))) (domsL p16)).1).all listB then
                bif Nat.ble (listsL ((elemF (p0, (p1, (p2, (p3, (p4, (p5, (p6, p7))))))) (domsL p16)).1)).length 1000 && lensB (listsL ((elemF (p0, (p1, (p2, (p3, (p4, (p5, (p6, p7))))))) (domsL p16)).1)) then
                  some (.v .bool (sameL (listsL ((elemF (p0, (p1, (p2, (p3, (p4, (p5, (p6, p7))))))) (domsL p16)).1)) p16))
                else
                  none
              else
                none
          else
            some (.v .bool false)
        else
          none
      else
        none
    else
      none := by kernel_rfl

/-! ### 6: jigsaw/jigsawlaw13.ElemKeeps -/
noncomputable def F6.fn : Func := Go.Proofs.Tryz.f6
noncomputable def F6.body : Code := bodyOf F6.fn
noncomputable def F6.E : Env := ⟨tt, [(15, h_make), (16, h_kindE), (17, h_sol), (18, h_wakes18), (19, h_elemF), (20, h_doms20), (22, h_sameL), (23, h_lists23), (29, h_listD), (30, h_containsL), (31, h_hasD)], [(1, [1, 2]), (2, [5, 6]), (3, [5, 6, 7, 8]), (4, [5, 6, 7, 8, 9, 10]), (5, [5, 6, 7, 9, 10, 42]), (6, [5, 6, 7, 9, 10]), (7, [5, 6, 7, 9, 45]), (8, [5, 6, 7, 9]), (9, [5, 6, 7, 9, 56]), (10, [5, 6, 7, 9]), (11, [5, 7, 9, 57, 58, 59]), (12, [5, 7, 9, 57, 58, 59, 60]), (13, [5, 7, 9, 11, 12, 57, 58, 59]), (14, [5, 7, 9, 12, 57, 58, 59, 68, 69, 70]), (15, [5, 7, 9, 12, 57, 58, 59, 68, 69, 70, 71]), (16, [5, 7, 9, 12, 14, 57, 58, 59, 68, 69, 70]), (17, [5, 7, 9, 12, 57, 58, 59, 68, 69, 70, 77]), (18, [5, 7, 9, 12, 57, 58, 59, 68, 69, 70]), (19, [5, 7, 9, 57, 58, 59]), (20, [5, 7, 9]), (21, [5, 9, 80, 81, 82]), (22, [5, 9, 80, 81, 82, 83]), (23, [5, 9, 16, 80, 81, 82]), (24, [5, 9, 80, 81, 82, 86, 87, 88]), (25, [5, 9, 80, 81, 82, 86, 87, 88, 89]), (26, [5, 9, 17, 18, 80, 81, 82, 86, 87, 88]), (27, [5, 9, 80, 81, 82, 86, 87, 88, 99]), (28, [5, 9, 80, 81, 82, 86, 87, 88]), (29, [5, 9, 80, 81, 82]), (30, [5, 9]), (31, [9, 19, 20])], [(0, [5, 7, 9]), (1, [5, 7, 9, 57, 58, 59]), (2, [5, 7, 9, 57, 58, 59]), (3, [5, 7, 9, 12, 57, 58, 59, 68, 69, 70]), (4, [5, 9]), (5, [5, 9, 80, 81, 82]), (6, [5, 9, 80, 81, 82]), (7, [5, 9, 80, 81, 82, 86, 87, 88])], some [4], inv⟩
noncomputable def F6.K0 : Conts := { nrm := endW F6.E false F6.fn.results.toList, ret := endW F6.E false F6.fn.results.toList, ex := [] }
noncomputable def F6.kt (k : Nat) (q : List Nat) : Conts := contAt F6.E k F6.body F6.K0 q
noncomputable def F6.l1_1_1_1_1_1_1_0_1_0 (n : Nat) (K : Conts) (p0 : (List (List Int))) (p1 : (List (Int × ((List Int) × (Int × (Int × Int)))))) (p2 : Int) (p3 : Int) (p4 : Int) (p5 : (List Int)) (p6 : (List Int)) (p7 : (List Int)) (p8 : (List Int)) (p9 : (List Int)) (p10 : Int) (p11 : (List (List Int))) (p12 : (List (List Int))) : Option AV := loopF F6.E n (inLoop (subC [1, 1, 1, 1, 1, 1, 1, 0, 1, 0] F6.body)) K ⟨slots 119 [(5, .pb 0 0), (7, .v (.sl (.sl (.int .i64))) p0), (9, .v (.sl (.pair (.int .i64) (.pair (.sl (.int .u64)) (.pair (.int .i64) (.pair (.int .i64) (.int .i64)))))) p1), (57, .own 1), (58, .v (.int .i64) p2), (59, .v (.int .i64) p3)], [.box [.v (.int .i64) p4, .v (.sl (.int .i64)) p5, .v (.sl (.int .i64)) p6, .v (.sl (.int .i64)) p7, .v (.sl (.int .i64)) p8, .v (.sl (.int .i64)) p9, .v (.int .i64) p10, .v (.sl (.sl (.int .i64))) p11], .frz (.sl (.int .i64)) p12]⟩
noncomputable def F6.k_l1_1_1_1_1_1_1_0_1_0 (n : Nat) (K : Conts) (q : List Nat) : Conts := contAt F6.E n (inLoop (subC [1, 1, 1, 1, 1, 1, 1, 0, 1, 0] F6.body)) (loopK F6.E n (inLoop (subC [1, 1, 1, 1, 1, 1, 1, 0, 1, 0] F6.body)) K) q
noncomputable def F6.l1_1_1_1_1_1_1_0_1_0_0_1_1_0_0_1_1_0 (n : Nat) (K : Conts) (p0 : (List (List Int))) (p1 : (List (Int × ((List Int) × (Int × (Int × Int)))))) (p2 : (List Int)) (p3 : Int) (p4 : Int) (p5 : (List Int)) (p6 : Int) (p7 : Int) (p8 : Int) (p9 : (List Int)) (p10 : (List Int)) (p11 : (List Int)) (p12 : (List Int)) (p13 : (List Int)) (p14 : Int) (p15 : (List (List Int))) (p16 : (List (List Int))) : Option AV := loopF F6.E n (inLoop (subC [1, 1, 1, 1, 1, 1, 1, 0, 1, 0, 0, 1, 1, 0, 0, 1, 1, 0] F6.body)) K ⟨slots 119 [(5, .pb 0 0), (7, .v (.sl (.sl (.int .i64))) p0), (9, .v (.sl (.pair (.int .i64) (.pair (.sl (.int .u64)) (.pair (.int .i64) (.pair (.int .i64) (.int .i64)))))) p1), (12, .v (.sl (.int .i64)) p2), (57, .own 1), (58, .v (.int .i64) p3), (59, .v (.int .i64) p4), (68, .v (.sl (.int .i64)) p5), (69, .v (.int .i64) p6), (70, .v (.int .i64) p7)], [.box [.v (.int .i64) p8, .v (.sl (.int .i64)) p9, .v (.sl (.int .i64)) p10, .v (.sl (.int .i64)) p11, .v (.sl (.int .i64)) p12, .v (.sl (.int .i64)) p13, .v (.int .i64) p14, .v (.sl (.sl (.int .i64))) p15], .frz (.sl (.int .i64)) p16]⟩
noncomputable def F6.k_l1_1_1_1_1_1_1_0_1_0_0_1_1_0_0_1_1_0 (n : Nat) (K : Conts) (q : List Nat) : Conts := contAt F6.E n (inLoop (subC [1, 1, 1, 1, 1, 1, 1, 0, 1, 0, 0, 1, 1, 0, 0, 1, 1, 0] F6.body)) (loopK F6.E n (inLoop (subC [1, 1, 1, 1, 1, 1, 1, 0, 1, 0, 0, 1, 1, 0, 0, 1, 1, 0] F6.body)) K) q
noncomputable def F6.l1_1_1_1_1_1_1_1_0_1_0 (n : Nat) (K : Conts) (p0 : (List (Int × ((List Int) × (Int × (Int × Int)))))) (p1 : (List (List Int))) (p2 : Int) (p3 : Int) (p4 : Int) (p5 : (List Int)) (p6 : (List Int)) (p7 : (List Int)) (p8 : (List Int)) (p9 : (List Int)) (p10 : Int) (p11 : (List (List Int))) : Option AV := loopF F6.E n (inLoop (subC [1, 1, 1, 1, 1, 1, 1, 1, 0, 1, 0] F6.body)) K ⟨slots 119 [(5, .pb 0 0), (9, .v (.sl (.pair (.int .i64) (.pair (.sl (.int .u64)) (.pair (.int .i64) (.pair (.int .i64) (.int .i64)))))) p0), (80, .v (.sl (.sl (.int .i64))) p1), (81, .v (.int .i64) p2), (82, .v (.int .i64) p3)], [.box [.v (.int .i64) p4, .v (.sl (.int .i64)) p5, .v (.sl (.int .i64)) p6, .v (.sl (.int .i64)) p7, .v (.sl (.int .i64)) p8, .v (.sl (.int .i64)) p9, .v (.int .i64) p10, .v (.sl (.sl (.int .i64))) p11]]⟩
noncomputable def F6.k_l1_1_1_1_1_1_1_1_0_1_0 (n : Nat) (K : Conts) (q : List Nat) : Conts := contAt F6.E n (inLoop (subC [1, 1, 1, 1, 1, 1, 1, 1, 0, 1, 0] F6.body)) (loopK F6.E n (inLoop (subC [1, 1, 1, 1, 1, 1, 1, 1, 0, 1, 0] F6.body)) K) q
noncomputable def F6.l1_1_1_1_1_1_1_1_0_1_0_0_1_1_0_0_1_1_0 (n : Nat) (K : Conts) (p0 : (List (Int × ((List Int) × (Int × (Int × Int)))))) (p1 : (List (List Int))) (p2 : Int) (p3 : Int) (p4 : (List Int)) (p5 : Int) (p6 : Int) (p7 : Int) (p8 : (List Int)) (p9 : (List Int)) (p10 : (List Int)) (p11 : (List Int)) (p12 : (List Int)) (p13 : Int) (p14 : (List (List Int))) : Option AV := loopF F6.E n (inLoop (subC [1, 1, 1, 1, 1, 1, 1, 1, 0, 1, 0, 0, 1, 1, 0, 0, 1, 1, 0] F6.body)) K ⟨slots 119 [(5, .pb 0 0), (9, .v (.sl (.pair (.int .i64) (.pair (.sl (.int .u64)) (.pair (.int .i64) (.pair (.int .i64) (.int .i64)))))) p0), (80, .v (.sl (.sl (.int .i64))) p1), (81, .v (.int .i64) p2), (82, .v (.int .i64) p3), (86, .v (.sl (.int .i64)) p4), (87, .v (.int .i64) p5), (88, .v (.int .i64) p6)], [.box [.v (.int .i64) p7, .v (.sl (.int .i64)) p8, .v (.sl (.int .i64)) p9, .v (.sl (.int .i64)) p10, .v (.sl (.int .i64)) p11, .v (.sl (.int .i64)) p12, .v (.int .i64) p13, .v (.sl (.sl (.int .i64))) p14]]⟩
noncomputable def F6.k_l1_1_1_1_1_1_1_1_0_1_0_0_1_1_0_0_1_1_0 (n : Nat) (K : Conts) (q : List Nat) : Conts := contAt F6.E n (inLoop (subC [1, 1, 1, 1, 1, 1, 1, 1, 0, 1, 0, 0, 1, 1, 0, 0, 1, 1, 0] F6.body)) (loopK F6.E n (inLoop (subC [1, 1, 1, 1, 1, 1, 1, 1, 0, 1, 0, 0, 1, 1, 0, 0, 1, 1, 0] F6.body)) K) q
theorem F6.start_eq (k : Nat) (a0 : ((Int × ((List Int) × ((List Int) × ((List Int) × (Int × Int))))) × (List (List Int)))) (a1 : Int) : callW F6.E false F6.fn k [.agg [.v (.int .u8) a0.1.1, .v (.sl (.int .u8)) a0.1.2.1, .v (.sl (.int .u8)) a0.1.2.2.1, .v (.sl (.int .i8)) a0.1.2.2.2.1, .v (.int .i16) a0.1.2.2.2.2.1, .v (.int .u8) a0.1.2.2.2.2.2, .v (.sl (.sl (.int .i64))) a0.2], .v (.int .u8) a1] =
    bif makeB a0 (kindE a1) 6 then
      bif solB (makeC a0 (kindE a1)) (makeL a0 (kindE a1) 6) 4000 then
        bif Nat.ble (makeL a0 (kindE a1) 6).length 1000 then
          bif filtB 11 11 (makeC a0 (kindE a1)) (domsL (makeL a0 (kindE a1) 6)) then
            bif !((solL (makeC a0 (kindE a1)) (makeL a0 (kindE a1) 6) 4000).2) then
              some (.v .bool true)
            else
              bif !((elemF (makeC a0 (kindE a1)) (domsL (makeL a0 (kindE a1) 6))).2) then
                some (.v .bool (decide ((((solL (makeC a0 (kindE a1)) (makeL a0 (kindE a1) 6) 4000).1).length : Int) = 0)))
              else
                bif !(decide ((((elemF (makeC a0 (kindE a1)) (domsL (makeL a0 (kindE a1) 6))).1).length : Int) = ((makeL a0 (kindE a1) 6).length : Int))) then
                  some (.v .bool false)
                else
                  F6.l1_1_1_1_1_1_1_0_1_0 k (F6.kt k [1, 1, 1, 1, 1, 1, 1, 0, 1, 0]) ((solL (makeC a0 (kindE a1)) (makeL a0 (kindE a1) 6) 4000).1) ((elemF (makeC a0 (kindE a1)) (domsL (makeL a0 (kindE a1) 6))).1) ((makeL a0 (kindE a1) 6).length : Int) 0 ((makeC a0 (kindE a1)).1) (((makeC a0 (kindE a1)).2).1) ((((makeC a0 (kindE a1)).2).2).1) (((((makeC a0 (kindE a1)).2).2).2).1) ((((((makeC a0 (kindE a1)).2).2).2).2).1) (((((((makeC a0 (kindE a1)).2).2).2).2).2).1) ((((((((makeC a0 (kindE a1)).2).2).2).2).2).2).1) ((((((((makeC a0 (kindE a1)).2).2).2).2).2).2).2) (makeL a0 (kindE a1) 6)
          else
            none
        else
          none
      else
        none
    else
      none := by kernel_rfl
theorem F6.l1_1_1_1_1_1_1_0_1_0_eq (n : Nat) (K : Conts) (p0 : (List (List Int))) (p1 : (List (Int × ((List Int) × (Int × (Int × Int)))))) (p2 : Int) (p3 : Int) (p4 : Int) (p5 : (List Int)) (p6 : (List Int)) (p7 : (List Int)) (p8 : (List Int)) (p9 : (List Int)) (p10 : Int) (p11 : (List (List Int))) (p12 : (List (List Int))) : F6.l1_1_1_1_1_1_1_0_1_0 (n + 1) K p0 p1 p2 p3 p4 p5 p6 p7 p8 p9 p10 p11 p12 =
    bif decide (p3 < p2) then
      bif decide (0 ≤ p3) && decide (p3 < p12.length) then
        bif decide (0 ≤ p3) && decide (p3 < p1.length) then
          bif listB (p1.getD p3.toNat ((0 : Int), ([], ((0 : Int), ((0 : Int), (0 : Int)))))) then
            F6.l1_1_1_1_1_1_1_0_1_0_0_1_1_0_0_1_1_0 n (F6.k_l1_1_1_1_1_1_1_0_1_0 n K [1, 1, 0, 0, 1, 1, 0]) p0 p1 (p12.getD p3.toNat []) p2 p3 (listD (p1.getD p3.toNat ((0 : Int), ([], ((0 : Int), ((0 : Int), (0 : Int))))))) ((listD (p1.getD p3.toNat ((0 : Int), ([], ((0 : Int), ((0 : Int), (0 : Int))))))).length : Int) 0 p4 p5 p6 p7 p8 p9 p10 p11 p12
          else
            none
        else
          none
      else
        none
    else
      exitK K 0 ⟨slots 119 [(5, .pb 0 0), (7, .v (.sl (.sl (.int .i64))) p0), (9, .v (.sl (.pair (.int .i64) (.pair (.sl (.int .u64)) (.pair (.int .i64) (.pair (.int .i64) (.int .i64)))))) p1)], [.box [.v (.int .i64) p4, .v (.sl (.int .i64)) p5, .v (.sl (.int .i64)) p6, .v (.sl (.int .i64)) p7, .v (.sl (.int .i64)) p8, .v (.sl (.int .i64)) p9, .v (.int .i64) p10, .v (.sl (.sl (.int .i64))) p11]]⟩ := by kernel_rfl
theorem F6.l1_1_1_1_1_1_1_0_1_0_0_1_1_0_0_1_1_0_eq (n : Nat) (K : Conts) (p0 : (List (List Int))) (p1 : (List (Int × ((List Int) × (Int × (Int × Int)))))) (p2 : (List Int)) (p3 : Int) (p4 : Int) (p5 : (List Int)) (p6 : Int) (p7 : Int) (p8 : Int) (p9 : (List Int)) (p10 : (List Int)) (p11 : (List Int)) (p12 : (List Int)) (p13 : (List Int)) (p14 : Int) (p15 : (List (List Int))) (p16 : (List (List Int))) : F6.l1_1_1_1_1_1_1_0_1_0_0_1_1_0_0_1_1_0 (n + 1) K p0 p1 p2 p3 p4 p5 p6 p7 p8 p9 p10 p11 p12 p13 p14 p15 p16 =
    bif decide (p7 < p6) then
      bif decide (0 ≤ p7) && decide (p7 < p5.length) then
        bif !(containsL p2 (p5.getD p7.toNat (0 : Int))) then
          K.ret ⟨slots 119 [(4, .v .bool false)], []⟩
        else
          F6.l1_1_1_1_1_1_1_0_1_0_0_1_1_0_0_1_1_0 n K p0 p1 p2 p3 p4 p5 p6 (IntKind.i64.wrap (p7 + 1)) p8 p9 p10 p11 p12 p13 p14 p15 p16
      else
        none
    else
      exitK K 2 ⟨slots 119 [(5, .pb 0 0), (7, .v (.sl (.sl (.int .i64))) p0), (9, .v (.sl (.pair (.int .i64) (.pair (.sl (.int .u64)) (.pair (.int .i64) (.pair (.int .i64) (.int .i64)))))) p1), (57, .own 1), (58, .v (.int .i64) p3), (59, .v (.int .i64) p4)], [.box [.v (.int .i64) p8, .v (.sl (.int .i64)) p9, .v (.sl (.int .i64)) p10, .v (.sl (.int .i64)) p11, .v (.sl (.int .i64)) p12, .v (.sl (.int .i64)) p13, .v (.int .i64) p14, .v (.sl (.sl (.int .i64))) p15], .frz (.sl (.int .i64)) p16]⟩ := by kernel_rfl
theorem F6.c0 (k : Nat) (p0 : (List (List Int))) (p1 : (List (Int × ((List Int) × (Int × (Int × Int)))))) (p2 : Int) (p3 : (List Int)) (p4 : (List Int)) (p5 : (List Int)) (p6 : (List Int)) (p7 : (List Int)) (p8 : Int) (p9 : (List (List Int))) : exitK (F6.kt k [1, 1, 1, 1, 1, 1, 1, 0, 1, 0]) 0 ⟨slots 119 [(5, .pb 0 0), (7, .v (.sl (.sl (.int .i64))) p0), (9, .v (.sl (.pair (.int .i64) (.pair (.sl (.int .u64)) (.pair (.int .i64) (.pair (.int .i64) (.int .i64)))))) p1)], [.box [.v (.int .i64) p2, .v (.sl (.int .i64)) p3, .v (.sl (.int .i64)) p4, .v (.sl (.int .i64)) p5, .v (.sl (.int .i64)) p6, .v (.sl (.int .i64)) p7, .v (.int .i64) p8, .v (.sl (.sl (.int .i64))) p9]]⟩ =
    F6.l1_1_1_1_1_1_1_1_0_1_0 k (F6.kt k [1, 1, 1, 1, 1, 1, 1, 1, 0, 1, 0]) p1 p0 (p0.length : Int) 0 p2 p3 p4 p5 p6 p7 p8 p9 := by kernel_rfl
theorem F6.c1 (n : Nat) (K : Conts) : (F6.k_l1_1_1_1_1_1_1_0_1_0 n K [1, 1, 0, 0, 1, 1, 0]).ret ⟨slots 119 [(4, .v .bool false)], []⟩ =
    K.ret ⟨slots 119 [(4, .v .bool false)], []⟩ := by kernel_rfl
theorem F6.c2 (n : Nat) (K : Conts) (p0 : (List (List Int))) (p1 : (List (Int × ((List Int) × (Int × (Int × Int)))))) (p2 : Int) (p3 : Int) (p4 : Int) (p5 : (List Int)) (p6 : (List Int)) (p7 : (List Int)) (p8 : (List Int)) (p9 : (List Int)) (p10 : Int) (p11 : (List (List Int))) (p12 : (List (List Int))) : exitK (F6.k_l1_1_1_1_1_1_1_0_1_0 n K [1, 1, 0, 0, 1, 1, 0]) 2 ⟨slots 119 [(5, .pb 0 0), (7, .v (.sl (.sl (.int .i64))) p0), (9, .v (.sl (.pair (.int .i64) (.pair (.sl (.int .u64)) (.pair (.int .i64) (.pair (.int .i64) (.int .i64)))))) p1), (57, .own 1), (58, .v (.int .i64) p2), (59, .v (.int .i64) p3)], [.box [.v (.int .i64) p4, .v (.sl (.int .i64)) p5, .v (.sl (.int .i64)) p6, .v (.sl (.int .i64)) p7, .v (.sl (.int .i64)) p8, .v (.sl (.int .i64)) p9, .v (.int .i64) p10, .v (.sl (.sl (.int .i64))) p11], .frz (.sl (.int .i64)) p12]⟩ =
    F6.l1_1_1_1_1_1_1_0_1_0 n K p0 p1 p2 (IntKind.i64.wrap (p3 + 1)) p4 p5 p6 p7 p8 p9 p10 p11 p12 := by kernel_rfl
theorem F6.l1_1_1_1_1_1_1_1_0_1_0_eq (n : Nat) (K : Conts) (p0 : (List (Int × ((List Int) × (Int × (Int × Int)))))) (p1 : (List (List Int))) (p2 : Int) (p3 : Int) (p4 : Int) (p5 : (List Int)) (p6 : (List Int)) (p7 : (List Int)) (p8 : (List Int)) (p9 : (List Int)) (p10 : Int) (p11 : (List (List Int))) : F6.l1_1_1_1_1_1_1_1_0_1_0 (n + 1) K p0 p1 p2 p3 p4 p5 p6 p7 p8 p9 p10 p11 =
    bif decide (p3 < p2) then
      bif decide (0 ≤ p3) && decide (p3 < p1.length) then
        F6.l1_1_1_1_1_1_1_1_0_1_0_0_1_1_0_0_1_1_0 n (F6.k_l1_1_1_1_1_1_1_1_0_1_0 n K [1, 1, 0, 0, 1, 1, 0]) p0 p1 p2 p3 (p1.getD p3.toNat []) ((p1.getD p3.toNat []).length : Int) 0 p4 p5 p6 p7 p8 p9 p10 p11
      else
        none
    else
      exitK K 4 ⟨slots 119 [(5, .pb 0 0), (9, .v (.sl (.pair (.int .i64) (.pair (.sl (.int .u64)) (.pair (.int .i64) (.pair (.int .i64) (.int .i64)))))) p0)], [.box [.v (.int .i64) p4, .v (.sl (.int .i64)) p5, .v (.sl (.int .i64)) p6, .v (.sl (.int .i64)) p7, .v (.sl (.int .i64)) p8, .v (.sl (.int .i64)) p9, .v (.int .i64) p10, .v (.sl (.sl (.int .i64))) p11]]⟩ := by kernel_rfl
theorem F6.l1_1_1_1_1_1_1_1_0_1_0_0_1_1_0_0_1_1_0_eq (n : Nat) (K : Conts) (p0 : (List (Int × ((List Int) × (Int × (Int × Int)))))) (p1 : (List (List Int))) (p2 : Int) (p3 : Int) (p4 : (List Int)) (p5 : Int) (p6 : Int) (p7 : Int) (p8 : (List Int)) (p9 : (List Int)) (p10 : (List Int)) (p11 : (List Int)) (p12 : (List Int)) (p13 : Int) (p14 : (List (List Int))) : F6.l1_1_1_1_1_1_1_1_0_1_0_0_1_1_0_0_1_1_0 (n + 1) K p0 p1 p2 p3 p4 p5 p6 p7 p8 p9 p10 p11 p12 p13 p14 =
    bif decide (p6 < p5) then
      bif decide (0 ≤ p6) && decide (p6 < p4.length) then
        bif decide (0 ≤ p6) && decide (p6 < p0.length) then
          bif nearB ((p0.getD p6.toNat ((0 : Int), ([], ((0 : Int), ((0 : Int), (0 : Int)))))).1) then
            bif !(hasD (p0.getD p6.toNat ((0 : Int), ([], ((0 : Int), ((0 : Int), (0 : Int)))))) (p4.getD p6.toNat (0 : Int))) then
              K.ret ⟨slots 119 [(4, .v .bool false)], []⟩
            else
              F6.l1_1_1_1_1_1_1_1_0_1_0_0_1_1_0_0_1_1_0 n K p0 p1 p2 p3 p4 p5 (IntKind.i64.wrap (p6 + 1)) p7 p8 p9 p10 p11 p12 p13 p14
          else
            none
        else
          none
      else
        none
    else
      exitK K 6 ⟨slots 119 [(5, .pb 0 0), (9, .v (.sl (.pair (.int .i64) (.pair (.sl (.int .u64)) (.pair (.int .i64) (.pair (.int .i64) (.int .i64)))))) p0), (80, .v (.sl (.sl (.int .i64))) p1), (81, .v (.int .i64) p2), (82, .v (.int .i64) p3)], [.box [.v (.int .i64) p7, .v (.sl (.int .i64)) p8, .v (.sl (.int .i64)) p9, .v (.sl (.int .i64)) p10, .v (.sl (.int .i64)) p11, .v (.sl (.int .i64)) p12, .v (.int .i64) p13, .v (.sl (.sl (.int .i64))) p14]]⟩ := by kernel_rfl
theorem F6.c3 (k : Nat) : (F6.kt k [1, 1, 1, 1, 1, 1, 1, 0, 1, 0]).ret ⟨slots 119 [(4, .v .bool false)], []⟩ =
    some (.v .bool false) := by kernel_rfl
theorem F6.c4 (k : Nat) (p0 : (List (Int × ((List Int) × (Int × (Int × Int)))))) (p1 : Int) (p2 : (List Int)) (p3 : (List Int)) (p4 : (List Int)) (p5 : (List Int)) (p6 : (List Int)) (p7 : Int) (p8 : (List (List Int))) : exitK (F6.kt k [1, 1, 1, 1, 1, 1, 1, 1, 0, 1, 0]) 4 ⟨slots 119 [(5, .pb 0 0), (9, .v (.sl (.pair (.int .i64) (.pair (.sl (.int .u64)) (.pair (.int .i64) (.pair (.int .i64) (.int .i64)))))) p0)], [.box [.v (.int .i64) p1, .v (.sl (.int .i64)) p2, .v (.sl (.int .i64)) p3, .v (.sl (.int .i64)) p4, .v (.sl (.int .i64)) p5, .v (.sl (.int .i64)) p6, .v (.int .i64) p7, .v (.sl (.sl (.int .i64))) p8]]⟩ =
    bif filtB 11 11 (p1, (p2, (p3, (p4, (p5, (p6, (p7, p8))))))) p0 then
      bif (elemF (p1, (p2, (p3, (p4, (p5, (p6, (p7, p8))))))) p0).2 then
        bif Nat.ble ((elemF (p1, (p2, (p3, (p4, (p5, (p6, (p7, p8))))))) p0).1).length 1000 && ((elemF (p1, (p2, (p3, (p4, (p5, (p6, (p7, p8))))))) p0).1).all listB then
          bif Nat.ble p0.length 1000 && p0.all listB then
            bif Nat.ble (listsL ((elemF (p1, (p2, (p3, (p4, (p5, (p6, (p7, p8))))))) p0).1)).length 1000 && lensB (listsL ((elemF (p1, (p2, (p3, (p4, (p5, (p6, (p7, p8))))))) p0).1)) then
              some (.v .bool (sameL (listsL ((elemF (p1, (p2, (p3, (p4, (p5, (p6, (p7, p8))))))) p0).1)) (listsL p0)))
            else
              none
          else
            none
        else
          none
      else
        some (.v .bool false)
    else
      none := by kernel_rfl
theorem F6.c5 (n : Nat) (K : Conts) : (F6.k_l1_1_1_1_1_1_1_1_0_1_0 n K [1, 1, 0, 0, 1, 1, 0]).ret ⟨slots 119 [(4, .v .bool false)], []⟩ =
    K.ret ⟨slots 119 [(4, .v .bool false)], []⟩ := by kernel_rfl
theorem F6.c6 (n : Nat) (K : Conts) (p0 : (List (Int × ((List Int) × (Int × (Int × Int)))))) (p1 : (List (List Int))) (p2 : Int) (p3 : Int) (p4 : Int) (p5 : (List Int)) (p6 : (List Int)) (p7 : (List Int)) (p8 : (List Int)) (p9 : (List Int)) (p10 : Int) (p11 : (List (List Int))) : exitK (F6.k_l1_1_1_1_1_1_1_1_0_1_0 n K [1, 1, 0, 0, 1, 1, 0]) 6 ⟨slots 119 [(5, .pb 0 0), (9, .v (.sl (.pair (.int .i64) (.pair (.sl (.int .u64)) (.pair (.int .i64) (.pair (.int .i64) (.int .i64)))))) p0), (80, .v (.sl (.sl (.int .i64))) p1), (81, .v (.int .i64) p2), (82, .v (.int .i64) p3)], [.box [.v (.int .i64) p4, .v (.sl (.int .i64)) p5, .v (.sl (.int .i64)) p6, .v (.sl (.int .i64)) p7, .v (.sl (.int .i64)) p8, .v (.sl (.int .i64)) p9, .v (.int .i64) p10, .v (.sl (.sl (.int .i64))) p11]]⟩ =
    F6.l1_1_1_1_1_1_1_1_0_1_0 n K p0 p1 p2 (IntKind.i64.wrap (p3 + 1)) p4 p5 p6 p7 p8 p9 p10 p11 := by kernel_rfl
theorem F6.c7 (k : Nat) : (F6.kt k [1, 1, 1, 1, 1, 1, 1, 1, 0, 1, 0]).ret ⟨slots 119 [(4, .v .bool false)], []⟩ =
    some (.v .bool false) := by kernel_rfl

/-! ### 7: jigsaw/jigsawlaw15.ReifFilters -/
noncomputable def F7.fn : Func := Go.Proofs.Tryz.f7
noncomputable def F7.body : Code := bodyOf F7.fn
noncomputable def F7.E : Env := ⟨tt, [(15, h_make), (17, h_sol), (21, h_exact), (22, h_sameL), (32, h_kindR), (33, h_wakes33), (34, h_reifF), (35, h_doms35), (36, h_lists36)], [(1, [1, 2]), (2, [5, 6]), (3, [5, 6, 8]), (4, [5, 6, 27]), (5, [5, 6]), (6, [5, 6, 9, 10]), (7, [9, 10, 11, 12])], [], some [4], inv⟩
noncomputable def F7.K0 : Conts := { nrm := endW F7.E false F7.fn.results.toList, ret := endW F7.E false F7.fn.results.toList, ex := [] }
noncomputable def F7.kt (k : Nat) (q : List Nat) : Conts := contAt F7.E k F7.body F7.K0 q
theorem F7.start_eq (k : Nat) (a0 : ((Int × ((List Int) × ((List Int) × ((List Int) × (Int × Int))))) × (List (List Int)))) (a1 : Int) : callW F7.E false F7.fn k [.agg [.v (.int .u8) a0.1.1, .v (.sl (.int .u8)) a0.1.2.1, .v (.sl (.int .u8)) a0.1.2.2.1, .v (.sl (.int .i8)) a0.1.2.2.2.1, .v (.int .i16) a0.1.2.2.2.2.1, .v (.int .u8) a0.1.2.2.2.2.2, .v (.sl (.sl (.int .i64))) a0.2], .v (.int .u8) a1] =
    bif makeB a0 (kindR a1) 6 then
      bif solB (makeC a0 (kindR a1)) (makeL a0 (kindR a1) 6) 4000 then
        bif !((solL (makeC a0 (kindR a1)) (makeL a0 (kindR a1) 6) 4000).2) then
          some (.v .bool true)
        else
          bif Nat.ble (makeL a0 (kindR a1) 6).length 1000 then
            bif filtB 13 16 (makeC a0 (kindR a1)) (domsL (makeL a0 (kindR a1) 6)) then
              bif solB (makeC a0 (kindR a1)) (makeL a0 (kindR a1) 6) 4000 then
                bif ((reifF (makeC a0 (kindR a1)) (domsL (makeL a0 (kindR a1) 6))).2) == ((exactL (makeC a0 (kindR a1)) (makeL a0 (kindR a1) 6) 4000).2) then
                  bif Nat.ble ((reifF (makeC a0 (kindR a1)) (domsL (makeL a0 (kindR a1) 6))).1).length 1000 && ((reifF (makeC a0 (kindR a1)) (domsL (makeL a0 (kindR a1) 6))).1).all listB then
                    bif Nat.ble (listsL ((reifF (makeC a0 (kindR a1)) (domsL (makeL a0 (kindR a1) 6))).1)).length 1000 && lensB (listsL ((reifF (makeC a0 (kindR a1)) (domsL (makeL a0 (kindR a1) 6))).1)) then
                      some (.v .bool (sameL (listsL ((reifF (makeC a0 (kindR a1)) (domsL (makeL a0 (kindR a1) 6))).1)) ((exactL (makeC a0 (kindR a1)) (makeL a0 (kindR a1) 6) 4000).1)))
                    else
                      none
                  else
                    none
                else
                  some (.v .bool false)
              else
                none
            else
              none
          else
            none
      else
        none
    else
      none := by kernel_rfl

/-! ### 9: jigsaw/jigsawlaw15.ReifFixed -/
noncomputable def F9.fn : Func := Go.Proofs.Tryz.f9
noncomputable def F9.body : Code := bodyOf F9.fn
noncomputable def F9.E : Env := ⟨tt, [(22, h_sameL), (26, h_conC), (27, h_localC), (28, h_holdsC), (32, h_kindR), (33, h_wakes33), (34, h_reifF), (35, h_doms35), (36, h_lists36)], [(1, [1, 2, 3]), (2, [2, 3]), (3, [2, 7]), (4, [2, 7, 8]), (5, [2, 7, 8, 9]), (6, [2, 7, 8, 9, 10]), (7, [2, 7, 8, 9, 10, 30, 31, 300009, 30010]), (8, [2, 7, 8, 9, 10, 30, 31, 32]), (9, [2, 7, 8, 9, 10, 11, 30, 31]), (10, [2, 7, 8, 9, 10, 11, 12, 30, 31]), (11, [2, 7, 8, 9, 10, 11, 12, 30, 31, 39]), (12, [2, 7, 8, 9, 10, 12, 30, 31]), (13, [2, 7, 8, 9, 10, 30, 31]), (14, [7, 8, 9, 10]), (15, [8, 9, 10, 13, 14])], [(0, [7, 8, 9, 10]), (1, [2, 7, 8, 9, 10, 30, 31])], some [6], inv⟩
noncomputable def F9.K0 : Conts := { nrm := endW F9.E false F9.fn.results.toList, ret := endW F9.E false F9.fn.results.toList, ex := [] }
noncomputable def F9.kt (k : Nat) (q : List Nat) : Conts := contAt F9.E k F9.body F9.K0 q
noncomputable def F9.l1_1_1_1_1_1_0_1_0 (n : Nat) (K : Conts) (p0 : (List Int)) (p1 : Int) (p2 : Int) (p3 : Int) (p4 : (List Int)) (p5 : (List Int)) (p6 : (List Int)) (p7 : (List Int)) (p8 : (List Int)) (p9 : Int) (p10 : (List (List Int))) (p11 : Int) (p12 : (List Int)) (p13 : (List Int)) (p14 : (List Int)) (p15 : (List Int)) (p16 : (List Int)) (p17 : Int) (p18 : (List (List Int))) (p19 : (List (List Int))) (p20 : (List Int)) : Option AV := loopF F9.E n (inLoop (subC [1, 1, 1, 1, 1, 1, 0, 1, 0] F9.body)) K ⟨slots 80 [(2, .v (.sl (.int .i8)) p0), (7, .pb 0 0), (8, .pb 1 0), (9, .own 2), (10, .own 3), (30, .v (.int .i64) p1), (31, .v (.int .i64) p2)], [.box [.v (.int .i64) p3, .v (.sl (.int .i64)) p4, .v (.sl (.int .i64)) p5, .v (.sl (.int .i64)) p6, .v (.sl (.int .i64)) p7, .v (.sl (.int .i64)) p8, .v (.int .i64) p9, .v (.sl (.sl (.int .i64))) p10], .box [.v (.int .i64) p11, .v (.sl (.int .i64)) p12, .v (.sl (.int .i64)) p13, .v (.sl (.int .i64)) p14, .v (.sl (.int .i64)) p15, .v (.sl (.int .i64)) p16, .v (.int .i64) p17, .v (.sl (.sl (.int .i64))) p18], .row 30 (.sl (.int .i64)) p19, .row 3 (.int .i64) p20]⟩
noncomputable def F9.k_l1_1_1_1_1_1_0_1_0 (n : Nat) (K : Conts) (q : List Nat) : Conts := contAt F9.E n (inLoop (subC [1, 1, 1, 1, 1, 1, 0, 1, 0] F9.body)) (loopK F9.E n (inLoop (subC [1, 1, 1, 1, 1, 1, 0, 1, 0] F9.body)) K) q
theorem F9.start_eq (k : Nat) (a0 : (Int × ((List Int) × ((List Int) × ((List Int) × (Int × Int)))))) (a1 : Int) (a2 : (List Int)) : callW F9.E false F9.fn k [.agg [.v (.int .u8) a0.1, .v (.sl (.int .u8)) a0.2.1, .v (.sl (.int .u8)) a0.2.2.1, .v (.sl (.int .i8)) a0.2.2.2.1, .v (.int .i16) a0.2.2.2.2.1, .v (.int .u8) a0.2.2.2.2.2], .v (.int .u8) a1, .v (.sl (.int .i8)) a2] =
    bif conB (IntKind.u8.wrap (IntKind.i64.wrap ((kindR a1) - 1)), a0.2) 4 then
      bif localB (conC (IntKind.u8.wrap (IntKind.i64.wrap ((kindR a1) - 1)), a0.2) 4) then
        F9.l1_1_1_1_1_1_0_1_0 k (F9.kt k [1, 1, 1, 1, 1, 1, 0, 1, 0]) a2 (IntKind.i64.wrap (((((conC (IntKind.u8.wrap (IntKind.i64.wrap ((kindR a1) - 1)), a0.2) 4).2).1).length : Int) + (((((conC (IntKind.u8.wrap (IntKind.i64.wrap ((kindR a1) - 1)), a0.2) 4).2).2).1).length : Int))) 0 ((conC (IntKind.u8.wrap (IntKind.i64.wrap ((kindR a1) - 1)), a0.2) 4).1) (((conC (IntKind.u8.wrap (IntKind.i64.wrap ((kindR a1) - 1)), a0.2) 4).2).1) ((((conC (IntKind.u8.wrap (IntKind.i64.wrap ((kindR a1) - 1)), a0.2) 4).2).2).1) (((((conC (IntKind.u8.wrap (IntKind.i64.wrap ((kindR a1) - 1)), a0.2) 4).2).2).2).1) ((((((conC (IntKind.u8.wrap (IntKind.i64.wrap ((kindR a1) - 1)), a0.2) 4).2).2).2).2).1) (((((((conC (IntKind.u8.wrap (IntKind.i64.wrap ((kindR a1) - 1)), a0.2) 4).2).2).2).2).2).1) ((((((((conC (IntKind.u8.wrap (IntKind.i64.wrap ((kindR a1) - 1)), a0.2) 4).2).2).2).2).2).2).1) ((((((((conC (IntKind.u8.wrap (IntKind.i64.wrap ((kindR a1) - 1)), a0.2) 4).2).2).2).2).2).2).2) ((localC (conC (IntKind.u8.wrap (IntKind.i64.wrap ((kindR a1) - 1)), a0.2) 4)).1) (((localC (conC (IntKind.u8.wrap (IntKind.i64.wrap ((kindR a1) - 1)), a0.2) 4)).2).1) ((((localC (conC (IntKind.u8.wrap (IntKind.i64.wrap ((kindR a1) - 1)), a0.2) 4)).2).2).1) (((((localC (conC (IntKind.u8.wrap (IntKind.i64.wrap ((kindR a1) - 1)), a0.2) 4)).2).2).2).1) ((((((localC (conC (IntKind.u8.wrap (IntKind.i64.wrap ((kindR a1) - 1)), a0.2) 4)).2).2).2).2).1) (((((((localC (conC (IntKind.u8.wrap (IntKind.i64.wrap ((kindR a1) - 1)), a0.2) 4)).2).2).2).2).2).1) ((((((((localC (conC (IntKind.u8.wrap (IntKind.i64.wrap ((kindR a1) - 1)), a0.2) 4)).2).2).2).2).2).2).1) ((((((((localC (conC (IntKind.u8.wrap (IntKind.i64.wrap ((kindR a1) - 1)), a0.2) 4)).2).2).2).2).2).2).2) [] []
      else
        none
    else
      none := by kernel_rfl
theorem F9.l1_1_1_1_1_1_0_1_0_eq (n : Nat) (K : Conts) (p0 : (List Int)) (p1 : Int) (p2 : Int) (p3 : Int) (p4 : (List Int)) (p5 : (List Int)) (p6 : (List Int)) (p7 : (List Int)) (p8 : (List Int)) (p9 : Int) (p10 : (List (List Int))) (p11 : Int) (p12 : (List Int)) (p13 : (List Int)) (p14 : (List Int)) (p15 : (List Int)) (p16 : (List Int)) (p17 : Int) (p18 : (List (List Int))) (p19 : (List (List Int))) (p20 : (List Int)) : F9.l1_1_1_1_1_1_0_1_0 (n + 1) K p0 p1 p2 p3 p4 p5 p6 p7 p8 p9 p10 p11 p12 p13 p14 p15 p16 p17 p18 p19 p20 =
    bif decide (p2 < p1) then
      bif decide (p2 < (p0.length : Int)) then
        bif decide (0 ≤ p2) && decide (p2 < p0.length) then
          bif decide ((p19.length + [[IntKind.i64.wrap (p0.getD p2.toNat (0 : Int))]].length) * 24 ≤ LIM) then
            bif decide ((p20.length + [IntKind.i64.wrap (p0.getD p2.toNat (0 : Int))].length) * 8 ≤ LIM) then
              F9.l1_1_1_1_1_1_0_1_0 n K p0 p1 (IntKind.i64.wrap (p2 + 1)) p3 p4 p5 p6 p7 p8 p9 p10 p11 p12 p13 p14 p15 p16 p17 p18 (p19 ++ [[IntKind.i64.wrap (p0.getD p2.toNat (0 : Int))]]) (p20 ++ [IntKind.i64.wrap (p0.getD p2.toNat (0 : Int))])
            else
              none
          else
            none
        else
          none
      else
        bif decide ((p19.length + [[IntKind.i64.wrap (1 + p2)]].length) * 24 ≤ LIM) then
          bif decide ((p20.length + [IntKind.i64.wrap (1 + p2)].length) * 8 ≤ LIM) then
            F9.l1_1_1_1_1_1_0_1_0 n K p0 p1 (IntKind.i64.wrap (p2 + 1)) p3 p4 p5 p6 p7 p8 p9 p10 p11 p12 p13 p14 p15 p16 p17 p18 (p19 ++ [[IntKind.i64.wrap (1 + p2)]]) (p20 ++ [IntKind.i64.wrap (1 + p2)])
          else
            none
        else
          none
    else
      exitK K 0 ⟨slots 80 [(7, .pb 0 0), (8, .pb 1 0), (9, .own 2), (10, .own 3)], [.box [.v (.int .i64) p3, .v (.sl (.int .i64)) p4, .v (.sl (.int .i64)) p5, .v (.sl (.int .i64)) p6, .v (.sl (.int .i64)) p7, .v (.sl (.int .i64)) p8, .v (.int .i64) p9, .v (.sl (.sl (.int .i64))) p10], .box [.v (.int .i64) p11, .v (.sl (.int .i64)) p12, .v (.sl (.int .i64)) p13, .v (.sl (.int .i64)) p14, .v (.sl (.int .i64)) p15, .v (.sl (.int .i64)) p16, .v (.int .i64) p17, .v (.sl (.sl (.int .i64))) p18], .row 30 (.sl (.int .i64)) p19, .row 3 (.int .i64) p20]⟩ := by kernel_rfl
theorem F9.c0 (k : Nat) (p0 : Int) (p1 : (List Int)) (p2 : (List Int)) (p3 : (List Int)) (p4 : (List Int)) (p5 : (List Int)) (p6 : Int) (p7 : (List (List Int))) (p8 : Int) (p9 : (List Int)) (p10 : (List Int)) (p11 : (List Int)) (p12 : (List Int)) (p13 : (List Int)) (p14 : Int) (p15 : (List (List Int))) (p16 : (List (List Int))) (p17 : (List Int)) : exitK (F9.kt k [1, 1, 1, 1, 1, 1, 0, 1, 0]) 0 ⟨slots 80 [(7, .pb 0 0), (8, .pb 1 0), (9, .own 2), (10, .own 3)], [.box [.v (.int .i64) p0, .v (.sl (.int .i64)) p1, .v (.sl (.int .i64)) p2, .v (.sl (.int .i64)) p3, .v (.sl (.int .i64)) p4, .v (.sl (.int .i64)) p5, .v (.int .i64) p6, .v (.sl (.sl (.int .i64))) p7], .box [.v (.int .i64) p8, .v (.sl (.int .i64)) p9, .v (.sl (.int .i64)) p10, .v (.sl (.int .i64)) p11, .v (.sl (.int .i64)) p12, .v (.sl (.int .i64)) p13, .v (.int .i64) p14, .v (.sl (.sl (.int .i64))) p15], .row 30 (.sl (.int .i64)) p16, .row 3 (.int .i64) p17]⟩ =
    bif Nat.ble p16.length 1000 then
      bif filtB 13 16 (p0, (p1, (p2, (p3, (p4, (p5, (p6, p7))))))) (domsL p16) then
        bif holdsB (p8, (p9, (p10, (p11, (p12, (p13, (p14, p15))))))) p17 then
          bif ((reifF (p0, (p1, (p2, (p3, (p4, (p5, (p6, p7))))))) (domsL p16)).2) == (holdsC (p8, (p9, (p10, (p11, (p12, (p13, (p14, p15))))))) p17) then
            bif !((reifF (p0, (p1, (p2, (p3, (p4, (p5, (p6, p7))))))) (domsL p16)).2) then
              some (.v .bool true)
            else
              bif Nat.ble ((reifF (p0, (p1, (p2, (p3, (p4, (p5, (p6, p7))))))) (domsL p16)).1).length 1000 && ((reifF (p0, (p1, (p2, (p3, (p4, (p5, (p6, p7))))))) (domsL p16)).1).all listB then
                bif Nat.ble (listsL ((reifF (p0, (p1, (p2, (p3, (p4, (p5, (p6, p7))))))) (domsL p16)).1)).length 1000 && lensB (listsL ((reifF (p0, (p1, (p2, (p3, (p4, (p5, (p6, p7))))))) (domsL p16)).1)) then
                  some (.v .bool (sameL (listsL ((reifF (p0, (p1, (p2, (p3, (p4, (p5, (p6, p7))))))) (domsL p16)).1)) p16))
                else
                  none
              else
                none
          else
            some (.v .bool false)
        else
          none
      else
        none
    else
      none := by kernel_rfl

/-! ### 14: jigsaw/jigsawlaw15.ReifKeeps -/
noncomputable def F14.fn : Func := Go.Proofs.Tryz.f14
noncomputable def F14.body : Code := bodyOf F14.fn
noncomputable def F14.E : Env := ⟨tt, [(15, h_make), (17, h_sol), (22, h_sameL), (29, h_listD), (30, h_containsL), (31, h_hasD), (32, h_kindR), (33, h_wakes33), (34, h_reifF), (35, h_doms35), (36, h_lists36)], [(1, [1, 2]), (2, [5, 6]), (3, [5, 6, 7, 8]), (4, [5, 6, 7, 8, 9, 10]), (5, [5, 6, 7, 9, 10, 42]), (6, [5, 6, 7, 9, 10]), (7, [5, 6, 7, 9, 45]), (8, [5, 6, 7, 9]), (9, [5, 6, 7, 9, 56]), (10, [5, 6, 7, 9]), (11, [5, 7, 9, 57, 58, 59]), (12, [5, 7, 9, 57, 58, 59, 60]), (13, [5, 7, 9, 11, 12, 57, 58, 59]), (14, [5, 7, 9, 12, 57, 58, 59, 68, 69, 70]), (15, [5, 7, 9, 12, 57, 58, 59, 68, 69, 70, 71]), (16, [5, 7, 9, 12, 14, 57, 58, 59, 68, 69, 70]), (17, [5, 7, 9, 12, 57, 58, 59, 68, 69, 70, 77]), (18, [5, 7, 9, 12, 57, 58, 59, 68, 69, 70]), (19, [5, 7, 9, 57, 58, 59]), (20, [5, 7, 9]), (21, [5, 9, 80, 81, 82]), (22, [5, 9, 80, 81, 82, 83]), (23, [5, 9, 16, 80, 81, 82]), (24, [5, 9, 80, 81, 82, 86, 87, 88]), (25, [5, 9, 80, 81, 82, 86, 87, 88, 89]), (26, [5, 9, 17, 18, 80, 81, 82, 86, 87, 88]), (27, [5, 9, 80, 81, 82, 86, 87, 88, 99]), (28, [5, 9, 80, 81, 82, 86, 87, 88]), (29, [5, 9, 80, 81, 82]), (30, [5, 9]), (31, [9, 19, 20])], [(0, [5, 7, 9]), (1, [5, 7, 9, 57, 58, 59]), (2, [5, 7, 9, 57, 58, 59]), (3, [5, 7, 9, 12, 57, 58, 59, 68, 69, 70]), (4, [5, 9]), (5, [5, 9, 80, 81, 82]), (6, [5, 9, 80, 81, 82]), (7, [5, 9, 80, 81, 82, 86, 87, 88])], some [4], inv⟩
noncomputable def F14.K0 : Conts := { nrm := endW F14.E false F14.fn.results.toList, ret := endW F14.E false F14.fn.results.toList, ex := [] }
noncomputable def F14.kt (k : Nat) (q : List Nat) : Conts := contAt F14.E k F14.body F14.K0 q
noncomputable def F14.l1_1_1_1_1_1_1_0_1_0 (n : Nat) (K : Conts) (p0 : (List (List Int))) (p1 : (List (Int × ((List Int) × (Int × (Int × Int)))))) (p2 : Int) (p3 : Int) (p4 : Int) (p5 : (List Int)) (p6 : (List Int)) (p7 : (List Int)) (p8 : (List Int)) (p9 : (List Int)) (p10 : Int) (p11 : (List (List Int))) (p12 : (List (List Int))) : Option AV := loopF F14.E n (inLoop (subC [1, 1, 1, 1, 1, 1, 1, 0, 1, 0] F14.body)) K ⟨slots 119 [(5, .pb 0 0), (7, .v (.sl (.sl (.int .i64))) p0), (9, .v (.sl (.pair (.int .i64) (.pair (.sl (.int .u64)) (.pair (.int .i64) (.pair (.int .i64) (.int .i64)))))) p1), (57, .own 1), (58, .v (.int .i64) p2), (59, .v (.int .i64) p3)], [.box [.v (.int .i64) p4, .v (.sl (.int .i64)) p5, .v (.sl (.int .i64)) p6, .v (.sl (.int .i64)) p7, .v (.sl (.int .i64)) p8, .v (.sl (.int .i64)) p9, .v (.int .i64) p10, .v (.sl (.sl (.int .i64))) p11], .frz (.sl (.int .i64)) p12]⟩
noncomputable def F14.k_l1_1_1_1_1_1_1_0_1_0 (n : Nat) (K : Conts) (q : List Nat) : Conts := contAt F14.E n (inLoop (subC [1, 1, 1, 1, 1, 1, 1, 0, 1, 0] F14.body)) (loopK F14.E n (inLoop (subC [1, 1, 1, 1, 1, 1, 1, 0, 1, 0] F14.body)) K) q
noncomputable def F14.l1_1_1_1_1_1_1_0_1_0_0_1_1_0_0_1_1_0 (n : Nat) (K : Conts) (p0 : (List (List Int))) (p1 : (List (Int × ((List Int) × (Int × (Int × Int)))))) (p2 : (List Int)) (p3 : Int) (p4 : Int) (p5 : (List Int)) (p6 : Int) (p7 : Int) (p8 : Int) (p9 : (List Int)) (p10 : (List Int)) (p11 : (List Int)) (p12 : (List Int)) (p13 : (List Int)) (p14 : Int) (p15 : (List (List Int))) (p16 : (List (List Int))) : Option AV := loopF F14.E n (inLoop (subC [1, 1, 1, 1, 1, 1, 1, 0, 1, 0, 0, 1, 1, 0, 0, 1, 1, 0] F14.body)) K ⟨slots 119 [(5, .pb 0 0), (7, .v (.sl (.sl (.int .i64))) p0), (9, .v (.sl (.pair (.int .i64) (.pair (.sl (.int .u64)) (.pair (.int .i64) (.pair (.int .i64) (.int .i64)))))) p1), (12, .v (.sl (.int .i64)) p2), (57, .own 1), (58, .v (.int .i64) p3), (59, .v (.int .i64) p4), (68, .v (.sl (.int .i64)) p5), (69, .v (.int .i64) p6), (70, .v (.int .i64) p7)], [.box [.v (.int .i64) p8, .v (.sl (.int .i64)) p9, .v (.sl (.int .i64)) p10, .v (.sl (.int .i64)) p11, .v (.sl (.int .i64)) p12, .v (.sl (.int .i64)) p13, .v (.int .i64) p14, .v (.sl (.sl (.int .i64))) p15], .frz (.sl (.int .i64)) p16]⟩
noncomputable def F14.k_l1_1_1_1_1_1_1_0_1_0_0_1_1_0_0_1_1_0 (n : Nat) (K : Conts) (q : List Nat) : Conts := contAt F14.E n (inLoop (subC [1, 1, 1, 1, 1, 1, 1, 0, 1, 0, 0, 1, 1, 0, 0, 1, 1, 0] F14.body)) (loopK F14.E n (inLoop (subC [1, 1, 1, 1, 1, 1, 1, 0, 1, 0, 0, 1, 1, 0, 0, 1, 1, 0] F14.body)) K) q
noncomputable def F14.l1_1_1_1_1_1_1_1_0_1_0 (n : Nat) (K : Conts) (p0 : (List (Int × ((List Int) × (Int × (Int × Int)))))) (p1 : (List (List Int))) (p2 : Int) (p3 : Int) (p4 : Int) (p5 : (List Int)) (p6 : (List Int)) (p7 : (List Int)) (p8 : (List Int)) (p9 : (List Int)) (p10 : Int) (p11 : (List (List Int))) : Option AV := loopF F14.E n (inLoop (subC [1, 1, 1, 1, 1, 1, 1, 1, 0, 1, 0] F14.body)) K ⟨slots 119 [(5, .pb 0 0), (9, .v (.sl (.pair (.int .i64) (.pair (.sl (.int .u64)) (.pair (.int .i64) (.pair (.int .i64) (.int .i64)))))) p0), (80, .v (.sl (.sl (.int .i64))) p1), (81, .v (.int .i64) p2), (82, .v (.int .i64) p3)], [.box [.v (.int .i64) p4, .v (.sl (.int .i64)) p5, .v (.sl (.int .i64)) p6, .v (.sl (.int .i64)) p7, .v (.sl (.int .i64)) p8, .v (.sl (.int .i64)) p9, .v (.int .i64) p10, .v (.sl (.sl (.int .i64))) p11]]⟩
noncomputable def F14.k_l1_1_1_1_1_1_1_1_0_1_0 (n : Nat) (K : Conts) (q : List Nat) : Conts := contAt F14.E n (inLoop (subC [1, 1, 1, 1, 1, 1, 1, 1, 0, 1, 0] F14.body)) (loopK F14.E n (inLoop (subC [1, 1, 1, 1, 1, 1, 1, 1, 0, 1, 0] F14.body)) K) q
noncomputable def F14.l1_1_1_1_1_1_1_1_0_1_0_0_1_1_0_0_1_1_0 (n : Nat) (K : Conts) (p0 : (List (Int × ((List Int) × (Int × (Int × Int)))))) (p1 : (List (List Int))) (p2 : Int) (p3 : Int) (p4 : (List Int)) (p5 : Int) (p6 : Int) (p7 : Int) (p8 : (List Int)) (p9 : (List Int)) (p10 : (List Int)) (p11 : (List Int)) (p12 : (List Int)) (p13 : Int) (p14 : (List (List Int))) : Option AV := loopF F14.E n (inLoop (subC [1, 1, 1, 1, 1, 1, 1, 1, 0, 1, 0, 0, 1, 1, 0, 0, 1, 1, 0] F14.body)) K ⟨slots 119 [(5, .pb 0 0), (9, .v (.sl (.pair (.int .i64) (.pair (.sl (.int .u64)) (.pair (.int .i64) (.pair (.int .i64) (.int .i64)))))) p0), (80, .v (.sl (.sl (.int .i64))) p1), (81, .v (.int .i64) p2), (82, .v (.int .i64) p3), (86, .v (.sl (.int .i64)) p4), (87, .v (.int .i64) p5), (88, .v (.int .i64) p6)], [.box [.v (.int .i64) p7, .v (.sl (.int .i64)) p8, .v (.sl (.int .i64)) p9, .v (.sl (.int .i64)) p10, .v (.sl (.int .i64)) p11, .v (.sl (.int .i64)) p12, .v (.int .i64) p13, .v (.sl (.sl (.int .i64))) p14]]⟩
noncomputable def F14.k_l1_1_1_1_1_1_1_1_0_1_0_0_1_1_0_0_1_1_0 (n : Nat) (K : Conts) (q : List Nat) : Conts := contAt F14.E n (inLoop (subC [1, 1, 1, 1, 1, 1, 1, 1, 0, 1, 0, 0, 1, 1, 0, 0, 1, 1, 0] F14.body)) (loopK F14.E n (inLoop (subC [1, 1, 1, 1, 1, 1, 1, 1, 0, 1, 0, 0, 1, 1, 0, 0, 1, 1, 0] F14.body)) K) q
theorem F14.start_eq (k : Nat) (a0 : ((Int × ((List Int) × ((List Int) × ((List Int) × (Int × Int))))) × (List (List Int)))) (a1 : Int) : callW F14.E false F14.fn k [.agg [.v (.int .u8) a0.1.1, .v (.sl (.int .u8)) a0.1.2.1, .v (.sl (.int .u8)) a0.1.2.2.1, .v (.sl (.int .i8)) a0.1.2.2.2.1, .v (.int .i16) a0.1.2.2.2.2.1, .v (.int .u8) a0.1.2.2.2.2.2, .v (.sl (.sl (.int .i64))) a0.2], .v (.int .u8) a1] =
    bif makeB a0 (kindR a1) 6 then
      bif solB (makeC a0 (kindR a1)) (makeL a0 (kindR a1) 6) 4000 then
        bif Nat.ble (makeL a0 (kindR a1) 6).length 1000 then
          bif filtB 13 16 (makeC a0 (kindR a1)) (domsL (makeL a0 (kindR a1) 6)) then
            bif !((solL (makeC a0 (kindR a1)) (makeL a0 (kindR a1) 6) 4000).2) then
              some (.v .bool true)
            else
              bif !((reifF (makeC a0 (kindR a1)) (domsL (makeL a0 (kindR a1) 6))).2) then
                some (.v .bool (decide ((((solL (makeC a0 (kindR a1)) (makeL a0 (kindR a1) 6) 4000).1).length : Int) = 0)))
              else
                bif !(decide ((((reifF (makeC a0 (kindR a1)) (domsL (makeL a0 (kindR a1) 6))).1).length : Int) = ((makeL a0 (kindR a1) 6).length : Int))) then
                  some (.v .bool false)
                else
                  F14.l1_1_1_1_1_1_1_0_1_0 k (F14.kt k [1, 1, 1, 1, 1, 1, 1, 0, 1, 0]) ((solL (makeC a0 (kindR a1)) (makeL a0 (kindR a1) 6) 4000).1) ((reifF (makeC a0 (kindR a1)) (domsL (makeL a0 (kindR a1) 6))).1) ((makeL a0 (kindR a1) 6).length : Int) 0 ((makeC a0 (kindR a1)).1) (((makeC a0 (kindR a1)).2).1) ((((makeC a0 (kindR a1)).2).2).1) (((((makeC a0 (kindR a1)).2).2).2).1) ((((((makeC a0 (kindR a1)).2).2).2).2).1) (((((((makeC a0 (kindR a1)).2).2).2).2).2).1) ((((((((makeC a0 (kindR a1)).2).2).2).2).2).2).1) ((((((((makeC a0 (kindR a1)).2).2).2).2).2).2).2) (makeL a0 (kindR a1) 6)
          else
            none
        else
          none
      else
        none
    else
      none := by kernel_rfl
theorem F14.l1_1_1_1_1_1_1_0_1_0_eq (n : Nat) (K : Conts) (p0 : (List (List Int))) (p1 : (List (Int × ((List Int) × (Int × (Int × Int)))))) (p2 : Int) (p3 : Int) (p4 : Int) (p5 : (List Int)) (p6 : (List Int)) (p7 : (List Int)) (p8 : (List Int)) (p9 : (List Int)) (p10 : Int) (p11 : (List (List Int))) (p12 : (List (List Int))) : F14.l1_1_1_1_1_1_1_0_1_0 (n + 1) K p0 p1 p2 p3 p4 p5 p6 p7 p8 p9 p10 p11 p12 =
    bif decide (p3 < p2) then
      bif decide (0 ≤ p3) && decide (p3 < p12.length) then
        bif decide (0 ≤ p3) && decide (p3 < p1.length) then
          bif listB (p1.getD p3.toNat ((0 : Int), ([], ((0 : Int), ((0 : Int), (0 : Int)))))) then
            F14.l1_1_1_1_1_1_1_0_1_0_0_1_1_0_0_1_1_0 n (F14.k_l1_1_1_1_1_1_1_0_1_0 n K [1, 1, 0, 0, 1, 1, 0]) p0 p1 (p12.getD p3.toNat []) p2 p3 (listD (p1.getD p3.toNat ((0 : Int), ([], ((0 : Int), ((0 : Int), (0 : Int))))))) ((listD (p1.getD p3.toNat ((0 : Int), ([], ((0 : Int), ((0 : Int), (0 : Int))))))).length : Int) 0 p4 p5 p6 p7 p8 p9 p10 p11 p12
          else
            none
        else
          none
      else
        none
    else
      exitK K 0 ⟨slots 119 [(5, .pb 0 0), (7, .v (.sl (.sl (.int .i64))) p0), (9, .v (.sl (.pair (.int .i64) (.pair (.sl (.int .u64)) (.pair (.int .i64) (.pair (.int .i64) (.int .i64)))))) p1)], [.box [.v (.int .i64) p4, .v (.sl (.int .i64)) p5, .v (.sl (.int .i64)) p6, .v (.sl (.int .i64)) p7, .v (.sl (.int .i64)) p8, .v (.sl (.int .i64)) p9, .v (.int .i64) p10, .v (.sl (.sl (.int .i64))) p11]]⟩ := by kernel_rfl
theorem F14.l1_1_1_1_1_1_1_0_1_0_0_1_1_0_0_1_1_0_eq (n : Nat) (K : Conts) (p0 : (List (List Int))) (p1 : (List (Int × ((List Int) × (Int × (Int × Int)))))) (p2 : (List Int)) (p3 : Int) (p4 : Int) (p5 : (List Int)) (p6 : Int) (p7 : Int) (p8 : Int) (p9 : (List Int)) (p10 : (List Int)) (p11 : (List Int)) (p12 : (List Int)) (p13 : (List Int)) (p14 : Int) (p15 : (List (List Int))) (p16 : (List (List Int))) : F14.l1_1_1_1_1_1_1_0_1_0_0_1_1_0_0_1_1_0 (n + 1) K p0 p1 p2 p3 p4 p5 p6 p7 p8 p9 p10 p11 p12 p13 p14 p15 p16 =
    bif decide (p7 < p6) then
      bif decide (0 ≤ p7) && decide (p7 < p5.length) then
        bif !(containsL p2 (p5.getD p7.toNat (0 : Int))) then
          K.ret ⟨slots 119 [(4, .v .bool false)], []⟩
        else
          F14.l1_1_1_1_1_1_1_0_1_0_0_1_1_0_0_1_1_0 n K p0 p1 p2 p3 p4 p5 p6 (IntKind.i64.wrap (p7 + 1)) p8 p9 p10 p11 p12 p13 p14 p15 p16
      else
        none
    else
      exitK K 2 ⟨slots 119 [(5, .pb 0 0), (7, .v (.sl (.sl (.int .i64))) p0), (9, .v (.sl (.pair (.int .i64) (.pair (.sl (.int .u64)) (.pair (.int .i64) (.pair (.int .i64) (.int .i64)))))) p1), (57, .own 1), (58, .v (.int .i64) p3), (59, .v (.int .i64) p4)], [.box [.v (.int .i64) p8, .v (.sl (.int .i64)) p9, .v (.sl (.int .i64)) p10, .v (.sl (.int .i64)) p11, .v (.sl (.int .i64)) p12, .v (.sl (.int .i64)) p13, .v (.int .i64) p14, .v (.sl (.sl (.int .i64))) p15], .frz (.sl (.int .i64)) p16]⟩ := by kernel_rfl
theorem F14.c0 (k : Nat) (p0 : (List (List Int))) (p1 : (List (Int × ((List Int) × (Int × (Int × Int)))))) (p2 : Int) (p3 : (List Int)) (p4 : (List Int)) (p5 : (List Int)) (p6 : (List Int)) (p7 : (List Int)) (p8 : Int) (p9 : (List (List Int))) : exitK (F14.kt k [1, 1, 1, 1, 1, 1, 1, 0, 1, 0]) 0 ⟨slots 119 [(5, .pb 0 0), (7, .v (.sl (.sl (.int .i64))) p0), (9, .v (.sl (.pair (.int .i64) (.pair (.sl (.int .u64)) (.pair (.int .i64) (.pair (.int .i64) (.int .i64)))))) p1)], [.box [.v (.int .i64) p2, .v (.sl (.int .i64)) p3, .v (.sl (.int .i64)) p4, .v (.sl (.int .i64)) p5, .v (.sl (.int .i64)) p6, .v (.sl (.int .i64)) p7, .v (.int .i64) p8, .v (.sl (.sl (.int .i64))) p9]]⟩ =
    F14.l1_1_1_1_1_1_1_1_0_1_0 k (F14.kt k [1, 1, 1, 1, 1, 1, 1, 1, 0, 1, 0]) p1 p0 (p0.length : Int) 0 p2 p3 p4 p5 p6 p7 p8 p9 := by kernel_rfl
theorem F14.c1 (n : Nat) (K : Conts) : (F14.k_l1_1_1_1_1_1_1_0_1_0 n K [1, 1, 0, 0, 1, 1, 0]).ret ⟨slots 119 [(4, .v .bool false)], []⟩ =
    K.ret ⟨slots 119 [(4, .v .bool false)], []⟩ := by kernel_rfl
theorem F14.c2 (n : Nat) (K : Conts) (p0 : (List (List Int))) (p1 : (List (Int × ((List Int) × (Int × (Int × Int)))))) (p2 : Int) (p3 : Int) (p4 : Int) (p5 : (List Int)) (p6 : (List Int)) (p7 : (List Int)) (p8 : (List Int)) (p9 : (List Int)) (p10 : Int) (p11 : (List (List Int))) (p12 : (List (List Int))) : exitK (F14.k_l1_1_1_1_1_1_1_0_1_0 n K [1, 1, 0, 0, 1, 1, 0]) 2 ⟨slots 119 [(5, .pb 0 0), (7, .v (.sl (.sl (.int .i64))) p0), (9, .v (.sl (.pair (.int .i64) (.pair (.sl (.int .u64)) (.pair (.int .i64) (.pair (.int .i64) (.int .i64)))))) p1), (57, .own 1), (58, .v (.int .i64) p2), (59, .v (.int .i64) p3)], [.box [.v (.int .i64) p4, .v (.sl (.int .i64)) p5, .v (.sl (.int .i64)) p6, .v (.sl (.int .i64)) p7, .v (.sl (.int .i64)) p8, .v (.sl (.int .i64)) p9, .v (.int .i64) p10, .v (.sl (.sl (.int .i64))) p11], .frz (.sl (.int .i64)) p12]⟩ =
    F14.l1_1_1_1_1_1_1_0_1_0 n K p0 p1 p2 (IntKind.i64.wrap (p3 + 1)) p4 p5 p6 p7 p8 p9 p10 p11 p12 := by kernel_rfl
theorem F14.l1_1_1_1_1_1_1_1_0_1_0_eq (n : Nat) (K : Conts) (p0 : (List (Int × ((List Int) × (Int × (Int × Int)))))) (p1 : (List (List Int))) (p2 : Int) (p3 : Int) (p4 : Int) (p5 : (List Int)) (p6 : (List Int)) (p7 : (List Int)) (p8 : (List Int)) (p9 : (List Int)) (p10 : Int) (p11 : (List (List Int))) : F14.l1_1_1_1_1_1_1_1_0_1_0 (n + 1) K p0 p1 p2 p3 p4 p5 p6 p7 p8 p9 p10 p11 =
    bif decide (p3 < p2) then
      bif decide (0 ≤ p3) && decide (p3 < p1.length) then
        F14.l1_1_1_1_1_1_1_1_0_1_0_0_1_1_0_0_1_1_0 n (F14.k_l1_1_1_1_1_1_1_1_0_1_0 n K [1, 1, 0, 0, 1, 1, 0]) p0 p1 p2 p3 (p1.getD p3.toNat []) ((p1.getD p3.toNat []).length : Int) 0 p4 p5 p6 p7 p8 p9 p10 p11
      else
        none
    else
      exitK K 4 ⟨slots 119 [(5, .pb 0 0), (9, .v (.sl (.pair (.int .i64) (.pair (.sl (.int .u64)) (.pair (.int .i64) (.pair (.int .i64) (.int .i64)))))) p0)], [.box [.v (.int .i64) p4, .v (.sl (.int .i64)) p5, .v (.sl (.int .i64)) p6, .v (.sl (.int .i64)) p7, .v (.sl (.int .i64)) p8, .v (.sl (.int .i64)) p9, .v (.int .i64) p10, .v (.sl (.sl (.int .i64))) p11]]⟩ := by kernel_rfl
theorem F14.l1_1_1_1_1_1_1_1_0_1_0_0_1_1_0_0_1_1_0_eq (n : Nat) (K : Conts) (p0 : (List (Int × ((List Int) × (Int × (Int × Int)))))) (p1 : (List (List Int))) (p2 : Int) (p3 : Int) (p4 : (List Int)) (p5 : Int) (p6 : Int) (p7 : Int) (p8 : (List Int)) (p9 : (List Int)) (p10 : (List Int)) (p11 : (List Int)) (p12 : (List Int)) (p13 : Int) (p14 : (List (List Int))) : F14.l1_1_1_1_1_1_1_1_0_1_0_0_1_1_0_0_1_1_0 (n + 1) K p0 p1 p2 p3 p4 p5 p6 p7 p8 p9 p10 p11 p12 p13 p14 =
    bif decide (p6 < p5) then
      bif decide (0 ≤ p6) && decide (p6 < p4.length) then
        bif decide (0 ≤ p6) && decide (p6 < p0.length) then
          bif nearB ((p0.getD p6.toNat ((0 : Int), ([], ((0 : Int), ((0 : Int), (0 : Int)))))).1) then
            bif !(hasD (p0.getD p6.toNat ((0 : Int), ([], ((0 : Int), ((0 : Int), (0 : Int)))))) (p4.getD p6.toNat (0 : Int))) then
              K.ret ⟨slots 119 [(4, .v .bool false)], []⟩
            else
              F14.l1_1_1_1_1_1_1_1_0_1_0_0_1_1_0_0_1_1_0 n K p0 p1 p2 p3 p4 p5 (IntKind.i64.wrap (p6 + 1)) p7 p8 p9 p10 p11 p12 p13 p14
          else
            none
        else
          none
      else
        none
    else
      exitK K 6 ⟨slots 119 [(5, .pb 0 0), (9, .v (.sl (.pair (.int .i64) (.pair (.sl (.int .u64)) (.pair (.int .i64) (.pair (.int .i64) (.int .i64)))))) p0), (80, .v (.sl (.sl (.int .i64))) p1), (81, .v (.int .i64) p2), (82, .v (.int .i64) p3)], [.box [.v (.int .i64) p7, .v (.sl (.int .i64)) p8, .v (.sl (.int .i64)) p9, .v (.sl (.int .i64)) p10, .v (.sl (.int .i64)) p11, .v (.sl (.int .i64)) p12, .v (.int .i64) p13, .v (.sl (.sl (.int .i64))) p14]]⟩ := by kernel_rfl
theorem F14.c3 (k : Nat) : (F14.kt k [1, 1, 1, 1, 1, 1, 1, 0, 1, 0]).ret ⟨slots 119 [(4, .v .bool false)], []⟩ =
    some (.v .bool false) := by kernel_rfl
theorem F14.c4 (k : Nat) (p0 : (List (Int × ((List Int) × (Int × (Int × Int)))))) (p1 : Int) (p2 : (List Int)) (p3 : (List Int)) (p4 : (List Int)) (p5 : (List Int)) (p6 : (List Int)) (p7 : Int) (p8 : (List (List Int))) : exitK (F14.kt k [1, 1, 1, 1, 1, 1, 1, 1, 0, 1, 0]) 4 ⟨slots 119 [(5, .pb 0 0), (9, .v (.sl (.pair (.int .i64) (.pair (.sl (.int .u64)) (.pair (.int .i64) (.pair (.int .i64) (.int .i64)))))) p0)], [.box [.v (.int .i64) p1, .v (.sl (.int .i64)) p2, .v (.sl (.int .i64)) p3, .v (.sl (.int .i64)) p4, .v (.sl (.int .i64)) p5, .v (.sl (.int .i64)) p6, .v (.int .i64) p7, .v (.sl (.sl (.int .i64))) p8]]⟩ =
    bif filtB 13 16 (p1, (p2, (p3, (p4, (p5, (p6, (p7, p8))))))) p0 then
      bif (reifF (p1, (p2, (p3, (p4, (p5, (p6, (p7, p8))))))) p0).2 then
        bif Nat.ble ((reifF (p1, (p2, (p3, (p4, (p5, (p6, (p7, p8))))))) p0).1).length 1000 && ((reifF (p1, (p2, (p3, (p4, (p5, (p6, (p7, p8))))))) p0).1).all listB then
          bif Nat.ble p0.length 1000 && p0.all listB then
            bif Nat.ble (listsL ((reifF (p1, (p2, (p3, (p4, (p5, (p6, (p7, p8))))))) p0).1)).length 1000 && lensB (listsL ((reifF (p1, (p2, (p3, (p4, (p5, (p6, (p7, p8))))))) p0).1)) then
              some (.v .bool (sameL (listsL ((reifF (p1, (p2, (p3, (p4, (p5, (p6, (p7, p8))))))) p0).1)) (listsL p0)))
            else
              none
          else
            none
        else
          none
      else
        some (.v .bool false)
    else
      none := by kernel_rfl
theorem F14.c5 (n : Nat) (K : Conts) : (F14.k_l1_1_1_1_1_1_1_1_0_1_0 n K [1, 1, 0, 0, 1, 1, 0]).ret ⟨slots 119 [(4, .v .bool false)], []⟩ =
    K.ret ⟨slots 119 [(4, .v .bool false)], []⟩ := by kernel_rfl
theorem F14.c6 (n : Nat) (K : Conts) (p0 : (List (Int × ((List Int) × (Int × (Int × Int)))))) (p1 : (List (List Int))) (p2 : Int) (p3 : Int) (p4 : Int) (p5 : (List Int)) (p6 : (List Int)) (p7 : (List Int)) (p8 : (List Int)) (p9 : (List Int)) (p10 : Int) (p11 : (List (List Int))) : exitK (F14.k_l1_1_1_1_1_1_1_1_0_1_0 n K [1, 1, 0, 0, 1, 1, 0]) 6 ⟨slots 119 [(5, .pb 0 0), (9, .v (.sl (.pair (.int .i64) (.pair (.sl (.int .u64)) (.pair (.int .i64) (.pair (.int .i64) (.int .i64)))))) p0), (80, .v (.sl (.sl (.int .i64))) p1), (81, .v (.int .i64) p2), (82, .v (.int .i64) p3)], [.box [.v (.int .i64) p4, .v (.sl (.int .i64)) p5, .v (.sl (.int .i64)) p6, .v (.sl (.int .i64)) p7, .v (.sl (.int .i64)) p8, .v (.sl (.int .i64)) p9, .v (.int .i64) p10, .v (.sl (.sl (.int .i64))) p11]]⟩ =
    F14.l1_1_1_1_1_1_1_1_0_1_0 n K p0 p1 p2 (IntKind.i64.wrap (p3 + 1)) p4 p5 p6 p7 p8 p9 p10 p11 := by kernel_rfl
theorem F14.c7 (k : Nat) : (F14.kt k [1, 1, 1, 1, 1, 1, 1, 1, 0, 1, 0]).ret ⟨slots 119 [(4, .v .bool false)], []⟩ =
    some (.v .bool false) := by kernel_rfl

end Go.Proofs.YthdpbmcidebagaaGreatDoor.Ev
