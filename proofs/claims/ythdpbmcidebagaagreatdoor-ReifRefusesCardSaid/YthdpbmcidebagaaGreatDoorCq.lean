/-
Seat 'a': the functions as the evaluator runs them: printed by a program of mine, each equation by kernel_rfl.
Conditions: none.
-/
import Derived.Test.YthdpbmcidebagaaGreatDoorCg
set_option linter.unusedVariables false
set_option maxRecDepth 100000
namespace Go.Proofs.YthdpbmcidebagaaGreatDoor.Ev
open Go
/-! ### 15a: jigsaw/jigsawref10.Make -/
noncomputable def F15a.fn : Func := Go.Proofs.Tryz.f15
noncomputable def F15a.body : Code := bodyOf F15a.fn
noncomputable def F15a.E : Env := ⟨tt, [(26, h_conA), (44, h_smallL)], [(1, [1, 2, 3, 6]), (2, [2, 3, 6]), (3, [2, 3, 6, 8]), (4, [2, 3, 6, 8, 9]), (5, [2, 3, 6, 8, 9, 10, 300009]), (6, [2, 3, 6, 8, 9, 10]), (7, [2, 3, 6, 8, 9, 10]), (8, [2, 3, 6, 8, 9, 10, 11]), (9, [2, 3, 6, 8, 9, 10, 11, 48]), (10, [2, 3, 6, 8, 9, 10, 11]), (11, [2, 3, 6, 8, 9, 10, 12]), (12, [6, 8, 9])], [(0, [6, 8, 9]), (1, [2, 3, 6, 8, 9, 10])], some [6, 7], inv⟩
noncomputable def F15a.K0 : Conts := { nrm := endW F15a.E true F15a.fn.results.toList, ret := endW F15a.E true F15a.fn.results.toList, ex := [] }
noncomputable def F15a.kt (k : Nat) (q : List Nat) : Conts := contAt F15a.E k F15a.body F15a.K0 q
noncomputable def F15a.l1_1_1_1_0_1_0 (n : Nat) (K : Conts) (p0 : Int) (p1 : Int) (p2 : Int) (p3 : (List Int)) (p4 : (List Int)) (p5 : (List Int)) (p6 : Int) (p7 : Int) (p8 : (List (List Int))) (p9 : Int) (p10 : Int) (p11 : Int) (p12 : (List Int)) (p13 : (List Int)) (p14 : (List Int)) (p15 : (List Int)) (p16 : (List Int)) (p17 : Int) (p18 : (List (List Int))) (p19 : (List (List Int))) : Option AV := loopF F15a.E n (inLoop (subC [1, 1, 1, 1, 0, 1, 0] F15a.body)) K ⟨slots 63 [(2, .v (.int .i64) p0), (3, .pb 0 0), (6, .pb 1 0), (8, .pb 2 0), (9, .own 3), (10, .v (.int .i64) p1)], [.box [.v (.int .u8) p2, .v (.sl (.int .u8)) p3, .v (.sl (.int .u8)) p4, .v (.sl (.int .i8)) p5, .v (.int .i16) p6, .v (.int .u8) p7, .v (.sl (.sl (.int .i64))) p8], .box [.v (.int .i64) p9, .nl, .nl, .nl, .nl, .nl, .v (.int .i64) p10, .nl], .box [.v (.int .i64) p11, .v (.sl (.int .i64)) p12, .v (.sl (.int .i64)) p13, .v (.sl (.int .i64)) p14, .v (.sl (.int .i64)) p15, .v (.sl (.int .i64)) p16, .v (.int .i64) p17, .v (.sl (.sl (.int .i64))) p18], .row 30 (.sl (.int .i64)) p19]⟩
theorem F15a.start_eq (k : Nat) (a0 : ((Int × ((List Int) × ((List Int) × ((List Int) × (Int × Int))))) × (List (List Int)))) (a1 : Int) (a2 : Int) : callW F15a.E true F15a.fn k [.agg [.v (.int .u8) a0.1.1, .v (.sl (.int .u8)) a0.1.2.1, .v (.sl (.int .u8)) a0.1.2.2.1, .v (.sl (.int .i8)) a0.1.2.2.2.1, .v (.int .i16) a0.1.2.2.2.2.1, .v (.int .u8) a0.1.2.2.2.2.2, .v (.sl (.sl (.int .i64))) a0.2], .v (.int .i64) a1, .v (.int .i64) a2] =
    bif conAB (IntKind.u8.wrap (IntKind.i64.wrap (a1 - 1)), a0.1.2) 5 then
      F15a.l1_1_1_1_0_1_0 k (F15a.kt k [1, 1, 1, 1, 0, 1, 0]) a2 0 (IntKind.u8.wrap (IntKind.i64.wrap (a1 - 1))) a0.1.2.1 a0.1.2.2.1 a0.1.2.2.2.1 a0.1.2.2.2.2.1 a0.1.2.2.2.2.2 a0.2 (0 : Int) (0 : Int) ((conA (IntKind.u8.wrap (IntKind.i64.wrap (a1 - 1)), a0.1.2) 5).1) (((conA (IntKind.u8.wrap (IntKind.i64.wrap (a1 - 1)), a0.1.2) 5).2).1) ((((conA (IntKind.u8.wrap (IntKind.i64.wrap (a1 - 1)), a0.1.2) 5).2).2).1) (((((conA (IntKind.u8.wrap (IntKind.i64.wrap (a1 - 1)), a0.1.2) 5).2).2).2).1) ((((((conA (IntKind.u8.wrap (IntKind.i64.wrap (a1 - 1)), a0.1.2) 5).2).2).2).2).1) (((((((conA (IntKind.u8.wrap (IntKind.i64.wrap (a1 - 1)), a0.1.2) 5).2).2).2).2).2).1) ((((((((conA (IntKind.u8.wrap (IntKind.i64.wrap (a1 - 1)), a0.1.2) 5).2).2).2).2).2).2).1) ((((((((conA (IntKind.u8.wrap (IntKind.i64.wrap (a1 - 1)), a0.1.2) 5).2).2).2).2).2).2).2) []
    else
      none := by kernel_rfl
theorem F15a.l1_1_1_1_0_1_0_eq (n : Nat) (K : Conts) (p0 : Int) (p1 : Int) (p2 : Int) (p3 : (List Int)) (p4 : (List Int)) (p5 : (List Int)) (p6 : Int) (p7 : Int) (p8 : (List (List Int))) (p9 : Int) (p10 : Int) (p11 : Int) (p12 : (List Int)) (p13 : (List Int)) (p14 : (List Int)) (p15 : (List Int)) (p16 : (List Int)) (p17 : Int) (p18 : (List (List Int))) (p19 : (List (List Int))) : F15a.l1_1_1_1_0_1_0 (n + 1) K p0 p1 p2 p3 p4 p5 p6 p7 p8 p9 p10 p11 p12 p13 p14 p15 p16 p17 p18 p19 =
    bif decide (p1 < (IntKind.i64.wrap ((p12.length : Int) + (p13.length : Int)))) then
      bif decide (p1 < (p8.length : Int)) then
        bif decide (0 ≤ p1) && decide (p1 < p8.length) then
          bif decide (((p8.getD p1.toNat []).length : Int) > 0) then
            bif decide (0 ≤ p1) && decide (p1 < p8.length) then
              bif smallB (p8.getD p1.toNat []) 6 p0 then
                bif decide ((p19.length + [smallL (p8.getD p1.toNat []) 6 p0].length) * 24 ≤ LIM) then
                  F15a.l1_1_1_1_0_1_0 n K p0 (IntKind.i64.wrap (p1 + 1)) p2 p3 p4 p5 p6 p7 p8 p9 p10 p11 p12 p13 p14 p15 p16 p17 p18 (p19 ++ [smallL (p8.getD p1.toNat []) 6 p0])
                else
                  none
              else
                none
            else
              none
          else
            bif smallB [p1.tmod 3, 1] 6 p0 then
              bif decide ((p19.length + [smallL [p1.tmod 3, 1] 6 p0].length) * 24 ≤ LIM) then
                F15a.l1_1_1_1_0_1_0 n K p0 (IntKind.i64.wrap (p1 + 1)) p2 p3 p4 p5 p6 p7 p8 p9 p10 p11 p12 p13 p14 p15 p16 p17 p18 (p19 ++ [smallL [p1.tmod 3, 1] 6 p0])
              else
                none
            else
              none
        else
          none
      else
        bif smallB [p1.tmod 3, 1] 6 p0 then
          bif decide ((p19.length + [smallL [p1.tmod 3, 1] 6 p0].length) * 24 ≤ LIM) then
            F15a.l1_1_1_1_0_1_0 n K p0 (IntKind.i64.wrap (p1 + 1)) p2 p3 p4 p5 p6 p7 p8 p9 p10 p11 p12 p13 p14 p15 p16 p17 p18 (p19 ++ [smallL [p1.tmod 3, 1] 6 p0])
          else
            none
        else
          none
    else
      exitK K 0 ⟨slots 63 [(6, .pb 0 0), (8, .pb 1 0), (9, .own 2)], [.box [.v (.int .i64) p9, .nl, .nl, .nl, .nl, .nl, .v (.int .i64) p10, .nl], .box [.v (.int .i64) p11, .v (.sl (.int .i64)) p12, .v (.sl (.int .i64)) p13, .v (.sl (.int .i64)) p14, .v (.sl (.int .i64)) p15, .v (.sl (.int .i64)) p16, .v (.int .i64) p17, .v (.sl (.sl (.int .i64))) p18], .row 30 (.sl (.int .i64)) p19]⟩ := by kernel_rfl
theorem F15a.c0 (k : Nat) (p0 : Int) (p1 : Int) (p2 : Int) (p3 : (List Int)) (p4 : (List Int)) (p5 : (List Int)) (p6 : (List Int)) (p7 : (List Int)) (p8 : Int) (p9 : (List (List Int))) (p10 : (List (List Int))) : exitK (F15a.kt k [1, 1, 1, 1, 0, 1, 0]) 0 ⟨slots 63 [(6, .pb 0 0), (8, .pb 1 0), (9, .own 2)], [.box [.v (.int .i64) p0, .nl, .nl, .nl, .nl, .nl, .v (.int .i64) p1, .nl], .box [.v (.int .i64) p2, .v (.sl (.int .i64)) p3, .v (.sl (.int .i64)) p4, .v (.sl (.int .i64)) p5, .v (.sl (.int .i64)) p6, .v (.sl (.int .i64)) p7, .v (.int .i64) p8, .v (.sl (.sl (.int .i64))) p9], .row 30 (.sl (.int .i64)) p10]⟩ =
    some (.tup [.agg [.v (.int .i64) p2, .v (.sl (.int .i64)) p3, .v (.sl (.int .i64)) p4, .v (.sl (.int .i64)) p5, .v (.sl (.int .i64)) p6, .v (.sl (.int .i64)) p7, .v (.int .i64) p8, .v (.sl (.sl (.int .i64))) p9], .nw 30 (.sl (.int .i64)) p10]) := by kernel_rfl

/-! ### 4: jigsaw/jigsawlaw13.ElemRefuses -/
noncomputable def F4.fn : Func := Go.Proofs.Tryz.f4
noncomputable def F4.body : Code := bodyOf F4.fn
noncomputable def F4.E : Env := ⟨tt, [(15, h_makeA), (18, h_wakes18), (19, h_elemF), (20, h_doms20), (24, h_short24), (25, h_fitsR)], [(1, [2, 3, 4]), (2, [2, 4, 7, 8]), (3, [4, 7, 8, 23]), (4, [4, 7, 8, 23, 24]), (6, [4, 7, 8, 23, 31]), (8, [4, 7, 8, 23, 35]), (10, [4, 7, 8, 41]), (11, [4, 7, 8, 9]), (12, [7, 8]), (13, [7, 8, 10, 11]), (14, [8, 10, 11, 77]), (15, [10, 11])], [(0, [7, 8])], some [6], inv⟩
noncomputable def F4.K0 : Conts := { nrm := endW F4.E false F4.fn.results.toList, ret := endW F4.E false F4.fn.results.toList, ex := [] }
noncomputable def F4.kt (k : Nat) (q : List Nat) : Conts := contAt F4.E k F4.body F4.K0 q
noncomputable def F4.n1_1_1 (n : Nat) (K : Conts) (p0 : (List (List Int))) (p1 : Int) (p2 : (List Int)) (p3 : (List Int)) (p4 : (List Int)) (p5 : (List Int)) (p6 : (List Int)) (p7 : Int) (p8 : (List (List Int))) : Option AV := runC F4.E (loopF F4.E n) (subC [1, 1, 1] F4.body) K ⟨slots 100 [(7, .pb 0 0), (8, .v (.sl (.sl (.int .i64))) p0)], [.box [.v (.int .i64) p1, .v (.sl (.int .i64)) p2, .v (.sl (.int .i64)) p3, .v (.sl (.int .i64)) p4, .v (.sl (.int .i64)) p5, .v (.sl (.int .i64)) p6, .v (.int .i64) p7, .v (.sl (.sl (.int .i64))) p8]]⟩
noncomputable def F4.n1_1_1b (n : Nat) (K : Conts) (p0 : Int) (p1 : (List Int)) (p2 : (List Int)) (p3 : (List Int)) (p4 : (List Int)) (p5 : (List Int)) (p6 : Int) (p7 : (List (List Int))) (p8 : (List (List Int))) : Option AV := runC F4.E (loopF F4.E n) (subC [1, 1, 1] F4.body) K ⟨slots 100 [(7, .pb 0 0), (8, .own 1)], [.box [.v (.int .i64) p0, .v (.sl (.int .i64)) p1, .v (.sl (.int .i64)) p2, .v (.sl (.int .i64)) p3, .v (.sl (.int .i64)) p4, .v (.sl (.int .i64)) p5, .v (.int .i64) p6, .v (.sl (.sl (.int .i64))) p7], .row 30 (.sl (.int .i64)) p8]⟩
noncomputable def F4.n1_1_1c (n : Nat) (K : Conts) (p0 : Int) (p1 : (List Int)) (p2 : (List Int)) (p3 : (List Int)) (p4 : (List Int)) (p5 : (List Int)) (p6 : Int) (p7 : (List (List Int))) : Option AV := runC F4.E (loopF F4.E n) (subC [1, 1, 1] F4.body) K ⟨slots 100 [(7, .pb 0 0), (8, .own 1)], [.box [.v (.int .i64) p0, .v (.sl (.int .i64)) p1, .v (.sl (.int .i64)) p2, .v (.sl (.int .i64)) p3, .v (.sl (.int .i64)) p4, .v (.sl (.int .i64)) p5, .v (.int .i64) p6, .nl], .row 30 (.sl (.int .i64)) p7]⟩
theorem F4.start_eq (k : Nat) (a0 : ((Int × ((List Int) × ((List Int) × ((List Int) × (Int × Int))))) × (List (List Int)))) (a1 : (Int × ((List Int) × ((List Int) × ((List Int) × ((List Int) × ((List Int) × (Int × (List (List Int)))))))))) (a2 : Int) : callW F4.E false F4.fn k [.agg [.v (.int .u8) a0.1.1, .v (.sl (.int .u8)) a0.1.2.1, .v (.sl (.int .u8)) a0.1.2.2.1, .v (.sl (.int .i8)) a0.1.2.2.2.1, .v (.int .i16) a0.1.2.2.2.2.1, .v (.int .u8) a0.1.2.2.2.2.2, .v (.sl (.sl (.int .i64))) a0.2], .agg [.v (.int .i64) a1.1, .v (.sl (.int .i64)) a1.2.1, .v (.sl (.int .i64)) a1.2.2.1, .v (.sl (.int .i64)) a1.2.2.2.1, .v (.sl (.int .i64)) a1.2.2.2.2.1, .v (.sl (.int .i64)) a1.2.2.2.2.2.1, .v (.int .i64) a1.2.2.2.2.2.2.1, .v (.sl (.sl (.int .i64))) a1.2.2.2.2.2.2.2], .v (.int .u8) a2] =
    bif makeAB a0 (IntKind.i64.wrap (1 + ((IntKind.i64.wrap (shrW .u8 a2 3)).tmod 23))) 6 then
      bif decide ((a2.tmod 5) = 0) then
        bif decide (0 ≤ (IntKind.i64.wrap (((makeAL a0 (IntKind.i64.wrap (1 + ((IntKind.i64.wrap (shrW .u8 a2 3)).tmod 23))) 6).length : Int) - 1))) && decide ((IntKind.i64.wrap (((makeAL a0 (IntKind.i64.wrap (1 + ((IntKind.i64.wrap (shrW .u8 a2 3)).tmod 23))) 6).length : Int) - 1)) ≤ (makeAL a0 (IntKind.i64.wrap (1 + ((IntKind.i64.wrap (shrW .u8 a2 3)).tmod 23))) 6).length) then
          F4.n1_1_1 k (F4.kt k [1, 1, 1]) ((makeAL a0 (IntKind.i64.wrap (1 + ((IntKind.i64.wrap (shrW .u8 a2 3)).tmod 23))) 6).take ((IntKind.i64.wrap (((makeAL a0 (IntKind.i64.wrap (1 + ((IntKind.i64.wrap (shrW .u8 a2 3)).tmod 23))) 6).length : Int) - 1)).toNat)) ((makeAC a0 (IntKind.i64.wrap (1 + ((IntKind.i64.wrap (shrW .u8 a2 3)).tmod 23)))).1) (((makeAC a0 (IntKind.i64.wrap (1 + ((IntKind.i64.wrap (shrW .u8 a2 3)).tmod 23)))).2).1) ((((makeAC a0 (IntKind.i64.wrap (1 + ((IntKind.i64.wrap (shrW .u8 a2 3)).tmod 23)))).2).2).1) (((((makeAC a0 (IntKind.i64.wrap (1 + ((IntKind.i64.wrap (shrW .u8 a2 3)).tmod 23)))).2).2).2).1) ((((((makeAC a0 (IntKind.i64.wrap (1 + ((IntKind.i64.wrap (shrW .u8 a2 3)).tmod 23)))).2).2).2).2).1) (((((((makeAC a0 (IntKind.i64.wrap (1 + ((IntKind.i64.wrap (shrW .u8 a2 3)).tmod 23)))).2).2).2).2).2).1) ((((((((makeAC a0 (IntKind.i64.wrap (1 + ((IntKind.i64.wrap (shrW .u8 a2 3)).tmod 23)))).2).2).2).2).2).2).1) ((((((((makeAC a0 (IntKind.i64.wrap (1 + ((IntKind.i64.wrap (shrW .u8 a2 3)).tmod 23)))).2).2).2).2).2).2).2)
        else
          none
      else
        bif decide ((a2.tmod 5) = 1) then
          bif decide ((0 : Int) < (makeAL a0 (IntKind.i64.wrap (1 + ((IntKind.i64.wrap (shrW .u8 a2 3)).tmod 23))) 6).length) then
            F4.n1_1_1b k (F4.kt k [1, 1, 1]) ((makeAC a0 (IntKind.i64.wrap (1 + ((IntKind.i64.wrap (shrW .u8 a2 3)).tmod 23)))).1) (((makeAC a0 (IntKind.i64.wrap (1 + ((IntKind.i64.wrap (shrW .u8 a2 3)).tmod 23)))).2).1) ((((makeAC a0 (IntKind.i64.wrap (1 + ((IntKind.i64.wrap (shrW .u8 a2 3)).tmod 23)))).2).2).1) (((((makeAC a0 (IntKind.i64.wrap (1 + ((IntKind.i64.wrap (shrW .u8 a2 3)).tmod 23)))).2).2).2).1) ((((((makeAC a0 (IntKind.i64.wrap (1 + ((IntKind.i64.wrap (shrW .u8 a2 3)).tmod 23)))).2).2).2).2).1) (((((((makeAC a0 (IntKind.i64.wrap (1 + ((IntKind.i64.wrap (shrW .u8 a2 3)).tmod 23)))).2).2).2).2).2).1) ((((((((makeAC a0 (IntKind.i64.wrap (1 + ((IntKind.i64.wrap (shrW .u8 a2 3)).tmod 23)))).2).2).2).2).2).2).1) ((((((((makeAC a0 (IntKind.i64.wrap (1 + ((IntKind.i64.wrap (shrW .u8 a2 3)).tmod 23)))).2).2).2).2).2).2).2) ((makeAL a0 (IntKind.i64.wrap (1 + ((IntKind.i64.wrap (shrW .u8 a2 3)).tmod 23))) 6).set 0 [])
          else
            none
        else
          bif decide ((a2.tmod 5) = 2) then
            bif decide (((makeAL a0 (IntKind.i64.wrap (1 + ((IntKind.i64.wrap (shrW .u8 a2 3)).tmod 23))) 6).length + [[1]].length) * 24 ≤ LIM) then
              F4.n1_1_1b k (F4.kt k [1, 1, 1]) ((makeAC a0 (IntKind.i64.wrap (1 + ((IntKind.i64.wrap (shrW .u8 a2 3)).tmod 23)))).1) (((makeAC a0 (IntKind.i64.wrap (1 + ((IntKind.i64.wrap (shrW .u8 a2 3)).tmod 23)))).2).1) ((((makeAC a0 (IntKind.i64.wrap (1 + ((IntKind.i64.wrap (shrW .u8 a2 3)).tmod 23)))).2).2).1) (((((makeAC a0 (IntKind.i64.wrap (1 + ((IntKind.i64.wrap (shrW .u8 a2 3)).tmod 23)))).2).2).2).1) ((((((makeAC a0 (IntKind.i64.wrap (1 + ((IntKind.i64.wrap (shrW .u8 a2 3)).tmod 23)))).2).2).2).2).1) (((((((makeAC a0 (IntKind.i64.wrap (1 + ((IntKind.i64.wrap (shrW .u8 a2 3)).tmod 23)))).2).2).2).2).2).1) ((((((((makeAC a0 (IntKind.i64.wrap (1 + ((IntKind.i64.wrap (shrW .u8 a2 3)).tmod 23)))).2).2).2).2).2).2).1) ((((((((makeAC a0 (IntKind.i64.wrap (1 + ((IntKind.i64.wrap (shrW .u8 a2 3)).tmod 23)))).2).2).2).2).2).2).2) ((makeAL a0 (IntKind.i64.wrap (1 + ((IntKind.i64.wrap (shrW .u8 a2 3)).tmod 23))) 6) ++ [[1]])
            else
              none
          else
            bif decide ((a2.tmod 5) = 3) then
              F4.n1_1_1c k (F4.kt k [1, 1, 1]) a1.1 (a1.2.1.take 5) (a1.2.2.1.take 5) (a1.2.2.2.1.take 5) (a1.2.2.2.2.1.take 5) (a1.2.2.2.2.2.1.take 5) a1.2.2.2.2.2.2.1 (makeAL a0 (IntKind.i64.wrap (1 + ((IntKind.i64.wrap (shrW .u8 a2 3)).tmod 23))) 6)
            else
              F4.n1_1_1b k (F4.kt k [1, 1, 1]) ((makeAC a0 (IntKind.i64.wrap (1 + ((IntKind.i64.wrap (shrW .u8 a2 3)).tmod 23)))).1) (((makeAC a0 (IntKind.i64.wrap (1 + ((IntKind.i64.wrap (shrW .u8 a2 3)).tmod 23)))).2).1) ((((makeAC a0 (IntKind.i64.wrap (1 + ((IntKind.i64.wrap (shrW .u8 a2 3)).tmod 23)))).2).2).1) (((((makeAC a0 (IntKind.i64.wrap (1 + ((IntKind.i64.wrap (shrW .u8 a2 3)).tmod 23)))).2).2).2).1) ((((((makeAC a0 (IntKind.i64.wrap (1 + ((IntKind.i64.wrap (shrW .u8 a2 3)).tmod 23)))).2).2).2).2).1) (((((((makeAC a0 (IntKind.i64.wrap (1 + ((IntKind.i64.wrap (shrW .u8 a2 3)).tmod 23)))).2).2).2).2).2).1) ((((((((makeAC a0 (IntKind.i64.wrap (1 + ((IntKind.i64.wrap (shrW .u8 a2 3)).tmod 23)))).2).2).2).2).2).2).1) ((((((((makeAC a0 (IntKind.i64.wrap (1 + ((IntKind.i64.wrap (shrW .u8 a2 3)).tmod 23)))).2).2).2).2).2).2).2) (makeAL a0 (IntKind.i64.wrap (1 + ((IntKind.i64.wrap (shrW .u8 a2 3)).tmod 23))) 6)
    else
      none := by kernel_rfl
theorem F4.n1_1_1_eq (n : Nat) (K : Conts) (p0 : (List (List Int))) (p1 : Int) (p2 : (List Int)) (p3 : (List Int)) (p4 : (List Int)) (p5 : (List Int)) (p6 : (List Int)) (p7 : Int) (p8 : (List (List Int))) : F4.n1_1_1 n K p0 p1 p2 p3 p4 p5 p6 p7 p8 =
    bif Nat.ble p0.length 1000 then
      bif filtB 11 11 (p1, (p2, (p3, (p4, (p5, (p6, (p7, p8))))))) (domsL p0) then
        bif fitsB (p1, (p2, (p3, (p4, (p5, (p6, (p7, p8))))))) 11 11 then
          bif fitsR (p1, (p2, (p3, (p4, (p5, (p6, (p7, p8))))))) p0 11 11 then
            bif !((elemF (p1, (p2, (p3, (p4, (p5, (p6, (p7, p8))))))) (domsL p0)).2) then
              K.ret ⟨slots 100 [(6, .v .bool true)], []⟩
            else
              K.ret ⟨slots 100 [(6, .v .bool (decide ((((elemF (p1, (p2, (p3, (p4, (p5, (p6, (p7, p8))))))) (domsL p0)).1).length : Int) = (p0.length : Int))))], []⟩
          else
            bif !((elemF (p1, (p2, (p3, (p4, (p5, (p6, (p7, p8))))))) (domsL p0)).2) then
              K.ret ⟨slots 100 [(6, .v .bool (decide ((((elemF (p1, (p2, (p3, (p4, (p5, (p6, (p7, p8))))))) (domsL p0)).1).length : Int) = 0)))], []⟩
            else
              K.ret ⟨slots 100 [(6, .v .bool false)], []⟩
        else
          none
      else
        none
    else
      none := by kernel_rfl
theorem F4.n1_1_1b_eq (n : Nat) (K : Conts) (p0 : Int) (p1 : (List Int)) (p2 : (List Int)) (p3 : (List Int)) (p4 : (List Int)) (p5 : (List Int)) (p6 : Int) (p7 : (List (List Int))) (p8 : (List (List Int))) : F4.n1_1_1b n K p0 p1 p2 p3 p4 p5 p6 p7 p8 =
    bif Nat.ble p8.length 1000 then
      bif filtB 11 11 (p0, (p1, (p2, (p3, (p4, (p5, (p6, p7))))))) (domsL p8) then
        bif fitsB (p0, (p1, (p2, (p3, (p4, (p5, (p6, p7))))))) 11 11 then
          bif fitsR (p0, (p1, (p2, (p3, (p4, (p5, (p6, p7))))))) p8 11 11 then
            bif !((elemF (p0, (p1, (p2, (p3, (p4, (p5, (p6, p7))))))) (domsL p8)).2) then
              K.ret ⟨slots 100 [(6, .v .bool true)], []⟩
            else
              K.ret ⟨slots 100 [(6, .v .bool (decide ((((elemF (p0, (p1, (p2, (p3, (p4, (p5, (p6, p7))))))) (domsL p8)).1).length : Int) = (p8.length : Int))))], []⟩
          else
            bif !((elemF (p0, (p1, (p2, (p3, (p4, (p5, (p6, p7))))))) (domsL p8)).2) then
              K.ret ⟨slots 100 [(6, .v .bool (decide ((((elemF (p0, (p1, (p2, (p3, (p4, (p5, (p6, p7))))))) (domsL p8)).1).length : Int) = 0)))], []⟩
            else
              K.ret ⟨slots 100 [(6, .v .bool false)], []⟩
        else
          none
      else
        none
    else
      none := by kernel_rfl
theorem F4.n1_1_1c_eq (n : Nat) (K : Conts) (p0 : Int) (p1 : (List Int)) (p2 : (List Int)) (p3 : (List Int)) (p4 : (List Int)) (p5 : (List Int)) (p6 : Int) (p7 : (List (List Int))) : F4.n1_1_1c n K p0 p1 p2 p3 p4 p5 p6 p7 =
    bif Nat.ble p7.length 1000 then
      bif filtB 11 11 (p0, (p1, (p2, (p3, (p4, (p5, (p6, []))))))) (domsL p7) then
        bif fitsB (p0, (p1, (p2, (p3, (p4, (p5, (p6, []))))))) 11 11 then
          bif fitsR (p0, (p1, (p2, (p3, (p4, (p5, (p6, []))))))) p7 11 11 then
            bif !((elemF (p0, (p1, (p2, (p3, (p4, (p5, (p6, []))))))) (domsL p7)).2) then
              K.ret ⟨slots 100 [(6, .v .bool true)], []⟩
            else
              K.ret ⟨slots 100 [(6, .v .bool (decide ((((elemF (p0, (p1, (p2, (p3, (p4, (p5, (p6, []))))))) (domsL p7)).1).length : Int) = (p7.length : Int))))], []⟩
          else
            bif !((elemF (p0, (p1, (p2, (p3, (p4, (p5, (p6, []))))))) (domsL p7)).2) then
              K.ret ⟨slots 100 [(6, .v .bool (decide ((((elemF (p0, (p1, (p2, (p3, (p4, (p5, (p6, []))))))) (domsL p7)).1).length : Int) = 0)))], []⟩
            else
              K.ret ⟨slots 100 [(6, .v .bool false)], []⟩
        else
          none
      else
        none
    else
      none := by kernel_rfl
theorem F4.c0 (k : Nat) : (F4.kt k [1, 1, 1]).ret ⟨slots 100 [(6, .v .bool true)], []⟩ =
    some (.v .bool true) := by kernel_rfl
/-! ### 8: jigsaw/jigsawlaw15.ReifRefuses -/
noncomputable def F8.fn : Func := Go.Proofs.Tryz.f8
noncomputable def F8.body : Code := bodyOf F8.fn
noncomputable def F8.E : Env := ⟨tt, [(15, h_makeA), (25, h_fitsR), (33, h_wakes33), (34, h_reifF), (35, h_doms35), (37, h_short37)], [(1, [2, 3, 4]), (2, [2, 4, 7, 8]), (3, [4, 7, 8, 23]), (4, [4, 7, 8, 23, 24]), (6, [4, 7, 8, 23, 31]), (8, [4, 7, 8, 23, 35]), (10, [4, 7, 8, 41]), (11, [4, 7, 8, 9]), (12, [7, 8]), (13, [7, 8, 10, 11]), (14, [8, 10, 11, 77]), (15, [10, 11])], [(0, [7, 8])], some [6], inv⟩
noncomputable def F8.K0 : Conts := { nrm := endW F8.E false F8.fn.results.toList, ret := endW F8.E false F8.fn.results.toList, ex := [] }
noncomputable def F8.kt (k : Nat) (q : List Nat) : Conts := contAt F8.E k F8.body F8.K0 q
noncomputable def F8.n1_1_1 (n : Nat) (K : Conts) (p0 : (List (List Int))) (p1 : Int) (p2 : (List Int)) (p3 : (List Int)) (p4 : (List Int)) (p5 : (List Int)) (p6 : (List Int)) (p7 : Int) (p8 : (List (List Int))) : Option AV := runC F8.E (loopF F8.E n) (subC [1, 1, 1] F8.body) K ⟨slots 100 [(7, .pb 0 0), (8, .v (.sl (.sl (.int .i64))) p0)], [.box [.v (.int .i64) p1, .v (.sl (.int .i64)) p2, .v (.sl (.int .i64)) p3, .v (.sl (.int .i64)) p4, .v (.sl (.int .i64)) p5, .v (.sl (.int .i64)) p6, .v (.int .i64) p7, .v (.sl (.sl (.int .i64))) p8]]⟩
noncomputable def F8.n1_1_1b (n : Nat) (K : Conts) (p0 : Int) (p1 : (List Int)) (p2 : (List Int)) (p3 : (List Int)) (p4 : (List Int)) (p5 : (List Int)) (p6 : Int) (p7 : (List (List Int))) (p8 : (List (List Int))) : Option AV := runC F8.E (loopF F8.E n) (subC [1, 1, 1] F8.body) K ⟨slots 100 [(7, .pb 0 0), (8, .own 1)], [.box [.v (.int .i64) p0, .v (.sl (.int .i64)) p1, .v (.sl (.int .i64)) p2, .v (.sl (.int .i64)) p3, .v (.sl (.int .i64)) p4, .v (.sl (.int .i64)) p5, .v (.int .i64) p6, .v (.sl (.sl (.int .i64))) p7], .row 30 (.sl (.int .i64)) p8]⟩
noncomputable def F8.n1_1_1c (n : Nat) (K : Conts) (p0 : Int) (p1 : (List Int)) (p2 : (List Int)) (p3 : (List Int)) (p4 : (List Int)) (p5 : (List Int)) (p6 : Int) (p7 : (List (List Int))) : Option AV := runC F8.E (loopF F8.E n) (subC [1, 1, 1] F8.body) K ⟨slots 100 [(7, .pb 0 0), (8, .own 1)], [.box [.v (.int .i64) p0, .v (.sl (.int .i64)) p1, .v (.sl (.int .i64)) p2, .v (.sl (.int .i64)) p3, .v (.sl (.int .i64)) p4, .v (.sl (.int .i64)) p5, .v (.int .i64) p6, .nl], .row 30 (.sl (.int .i64)) p7]⟩
theorem F8.start_eq (k : Nat) (a0 : ((Int × ((List Int) × ((List Int) × ((List Int) × (Int × Int))))) × (List (List Int)))) (a1 : (Int × ((List Int) × ((List Int) × ((List Int) × ((List Int) × ((List Int) × (Int × (List (List Int)))))))))) (a2 : Int) : callW F8.E false F8.fn k [.agg [.v (.int .u8) a0.1.1, .v (.sl (.int .u8)) a0.1.2.1, .v (.sl (.int .u8)) a0.1.2.2.1, .v (.sl (.int .i8)) a0.1.2.2.2.1, .v (.int .i16) a0.1.2.2.2.2.1, .v (.int .u8) a0.1.2.2.2.2.2, .v (.sl (.sl (.int .i64))) a0.2], .agg [.v (.int .i64) a1.1, .v (.sl (.int .i64)) a1.2.1, .v (.sl (.int .i64)) a1.2.2.1, .v (.sl (.int .i64)) a1.2.2.2.1, .v (.sl (.int .i64)) a1.2.2.2.2.1, .v (.sl (.int .i64)) a1.2.2.2.2.2.1, .v (.int .i64) a1.2.2.2.2.2.2.1, .v (.sl (.sl (.int .i64))) a1.2.2.2.2.2.2.2], .v (.int .u8) a2] =
    bif makeAB a0 (IntKind.i64.wrap (1 + ((IntKind.i64.wrap (shrW .u8 a2 3)).tmod 23))) 6 then
      bif decide ((a2.tmod 5) = 0) then
        bif decide (0 ≤ (IntKind.i64.wrap (((makeAL a0 (IntKind.i64.wrap (1 + ((IntKind.i64.wrap (shrW .u8 a2 3)).tmod 23))) 6).length : Int) - 1))) && decide ((IntKind.i64.wrap (((makeAL a0 (IntKind.i64.wrap (1 + ((IntKind.i64.wrap (shrW .u8 a2 3)).tmod 23))) 6).length : Int) - 1)) ≤ (makeAL a0 (IntKind.i64.wrap (1 + ((IntKind.i64.wrap (shrW .u8 a2 3)).tmod 23))) 6).length) then
          F8.n1_1_1 k (F8.kt k [1, 1, 1]) ((makeAL a0 (IntKind.i64.wrap (1 + ((IntKind.i64.wrap (shrW .u8 a2 3)).tmod 23))) 6).take ((IntKind.i64.wrap (((makeAL a0 (IntKind.i64.wrap (1 + ((IntKind.i64.wrap (shrW .u8 a2 3)).tmod 23))) 6).length : Int) - 1)).toNat)) ((makeAC a0 (IntKind.i64.wrap (1 + ((IntKind.i64.wrap (shrW .u8 a2 3)).tmod 23)))).1) (((makeAC a0 (IntKind.i64.wrap (1 + ((IntKind.i64.wrap (shrW .u8 a2 3)).tmod 23)))).2).1) ((((makeAC a0 (IntKind.i64.wrap (1 + ((IntKind.i64.wrap (shrW .u8 a2 3)).tmod 23)))).2).2).1) (((((makeAC a0 (IntKind.i64.wrap (1 + ((IntKind.i64.wrap (shrW .u8 a2 3)).tmod 23)))).2).2).2).1) ((((((makeAC a0 (IntKind.i64.wrap (1 + ((IntKind.i64.wrap (shrW .u8 a2 3)).tmod 23)))).2).2).2).2).1) (((((((makeAC a0 (IntKind.i64.wrap (1 + ((IntKind.i64.wrap (shrW .u8 a2 3)).tmod 23)))).2).2).2).2).2).1) ((((((((makeAC a0 (IntKind.i64.wrap (1 + ((IntKind.i64.wrap (shrW .u8 a2 3)).tmod 23)))).2).2).2).2).2).2).1) ((((((((makeAC a0 (IntKind.i64.wrap (1 + ((IntKind.i64.wrap (shrW .u8 a2 3)).tmod 23)))).2).2).2).2).2).2).2)
        else
          none
      else
        bif decide ((a2.tmod 5) = 1) then
          bif decide ((0 : Int) < (makeAL a0 (IntKind.i64.wrap (1 + ((IntKind.i64.wrap (shrW .u8 a2 3)).tmod 23))) 6).length) then
            F8.n1_1_1b k (F8.kt k [1, 1, 1]) ((makeAC a0 (IntKind.i64.wrap (1 + ((IntKind.i64.wrap (shrW .u8 a2 3)).tmod 23)))).1) (((makeAC a0 (IntKind.i64.wrap (1 + ((IntKind.i64.wrap (shrW .u8 a2 3)).tmod 23)))).2).1) ((((makeAC a0 (IntKind.i64.wrap (1 + ((IntKind.i64.wrap (shrW .u8 a2 3)).tmod 23)))).2).2).1) (((((makeAC a0 (IntKind.i64.wrap (1 + ((IntKind.i64.wrap (shrW .u8 a2 3)).tmod 23)))).2).2).2).1) ((((((makeAC a0 (IntKind.i64.wrap (1 + ((IntKind.i64.wrap (shrW .u8 a2 3)).tmod 23)))).2).2).2).2).1) (((((((makeAC a0 (IntKind.i64.wrap (1 + ((IntKind.i64.wrap (shrW .u8 a2 3)).tmod 23)))).2).2).2).2).2).1) ((((((((makeAC a0 (IntKind.i64.wrap (1 + ((IntKind.i64.wrap (shrW .u8 a2 3)).tmod 23)))).2).2).2).2).2).2).1) ((((((((makeAC a0 (IntKind.i64.wrap (1 + ((IntKind.i64.wrap (shrW .u8 a2 3)).tmod 23)))).2).2).2).2).2).2).2) ((makeAL a0 (IntKind.i64.wrap (1 + ((IntKind.i64.wrap (shrW .u8 a2 3)).tmod 23))) 6).set 0 [])
          else
            none
        else
          bif decide ((a2.tmod 5) = 2) then
            bif decide (((makeAL a0 (IntKind.i64.wrap (1 + ((IntKind.i64.wrap (shrW .u8 a2 3)).tmod 23))) 6).length + [[1]].length) * 24 ≤ LIM) then
              F8.n1_1_1b k (F8.kt k [1, 1, 1]) ((makeAC a0 (IntKind.i64.wrap (1 + ((IntKind.i64.wrap (shrW .u8 a2 3)).tmod 23)))).1) (((makeAC a0 (IntKind.i64.wrap (1 + ((IntKind.i64.wrap (shrW .u8 a2 3)).tmod 23)))).2).1) ((((makeAC a0 (IntKind.i64.wrap (1 + ((IntKind.i64.wrap (shrW .u8 a2 3)).tmod 23)))).2).2).1) (((((makeAC a0 (IntKind.i64.wrap (1 + ((IntKind.i64.wrap (shrW .u8 a2 3)).tmod 23)))).2).2).2).1) ((((((makeAC a0 (IntKind.i64.wrap (1 + ((IntKind.i64.wrap (shrW .u8 a2 3)).tmod 23)))).2).2).2).2).1) (((((((makeAC a0 (IntKind.i64.wrap (1 + ((IntKind.i64.wrap (shrW .u8 a2 3)).tmod 23)))).2).2).2).2).2).1) ((((((((makeAC a0 (IntKind.i64.wrap (1 + ((IntKind.i64.wrap (shrW .u8 a2 3)).tmod 23)))).2).2).2).2).2).2).1) ((((((((makeAC a0 (IntKind.i64.wrap (1 + ((IntKind.i64.wrap (shrW .u8 a2 3)).tmod 23)))).2).2).2).2).2).2).2) ((makeAL a0 (IntKind.i64.wrap (1 + ((IntKind.i64.wrap (shrW .u8 a2 3)).tmod 23))) 6) ++ [[1]])
            else
              none
          else
            bif decide ((a2.tmod 5) = 3) then
              F8.n1_1_1c k (F8.kt k [1, 1, 1]) a1.1 (a1.2.1.take 5) (a1.2.2.1.take 5) (a1.2.2.2.1.take 5) (a1.2.2.2.2.1.take 5) (a1.2.2.2.2.2.1.take 5) a1.2.2.2.2.2.2.1 (makeAL a0 (IntKind.i64.wrap (1 + ((IntKind.i64.wrap (shrW .u8 a2 3)).tmod 23))) 6)
            else
              F8.n1_1_1b k (F8.kt k [1, 1, 1]) ((makeAC a0 (IntKind.i64.wrap (1 + ((IntKind.i64.wrap (shrW .u8 a2 3)).tmod 23)))).1) (((makeAC a0 (IntKind.i64.wrap (1 + ((IntKind.i64.wrap (shrW .u8 a2 3)).tmod 23)))).2).1) ((((makeAC a0 (IntKind.i64.wrap (1 + ((IntKind.i64.wrap (shrW .u8 a2 3)).tmod 23)))).2).2).1) (((((makeAC a0 (IntKind.i64.wrap (1 + ((IntKind.i64.wrap (shrW .u8 a2 3)).tmod 23)))).2).2).2).1) ((((((makeAC a0 (IntKind.i64.wrap (1 + ((IntKind.i64.wrap (shrW .u8 a2 3)).tmod 23)))).2).2).2).2).1) (((((((makeAC a0 (IntKind.i64.wrap (1 + ((IntKind.i64.wrap (shrW .u8 a2 3)).tmod 23)))).2).2).2).2).2).1) ((((((((makeAC a0 (IntKind.i64.wrap (1 + ((IntKind.i64.wrap (shrW .u8 a2 3)).tmod 23)))).2).2).2).2).2).2).1) ((((((((makeAC a0 (IntKind.i64.wrap (1 + ((IntKind.i64.wrap (shrW .u8 a2 3)).tmod 23)))).2).2).2).2).2).2).2) (makeAL a0 (IntKind.i64.wrap (1 + ((IntKind.i64.wrap (shrW .u8 a2 3)).tmod 23))) 6)
    else
      none := by kernel_rfl
theorem F8.n1_1_1_eq (n : Nat) (K : Conts) (p0 : (List (List Int))) (p1 : Int) (p2 : (List Int)) (p3 : (List Int)) (p4 : (List Int)) (p5 : (List Int)) (p6 : (List Int)) (p7 : Int) (p8 : (List (List Int))) : F8.n1_1_1 n K p0 p1 p2 p3 p4 p5 p6 p7 p8 =
    bif Nat.ble p0.length 1000 then
      bif filtB 13 16 (p1, (p2, (p3, (p4, (p5, (p6, (p7, p8))))))) (domsL p0) then
        bif fitsB (p1, (p2, (p3, (p4, (p5, (p6, (p7, p8))))))) 13 16 then
          bif fitsR (p1, (p2, (p3, (p4, (p5, (p6, (p7, p8))))))) p0 13 16 then
            bif !((reifF (p1, (p2, (p3, (p4, (p5, (p6, (p7, p8))))))) (domsL p0)).2) then
              K.ret ⟨slots 100 [(6, .v .bool true)], []⟩
            else
              K.ret ⟨slots 100 [(6, .v .bool (decide ((((reifF (p1, (p2, (p3, (p4, (p5, (p6, (p7, p8))))))) (domsL p0)).1).length : Int) = (p0.length : Int))))], []⟩
          else
            bif !((reifF (p1, (p2, (p3, (p4, (p5, (p6, (p7, p8))))))) (domsL p0)).2) then
              K.ret ⟨slots 100 [(6, .v .bool (decide ((((reifF (p1, (p2, (p3, (p4, (p5, (p6, (p7, p8))))))) (domsL p0)).1).length : Int) = 0)))], []⟩
            else
              K.ret ⟨slots 100 [(6, .v .bool false)], []⟩
        else
          none
      else
        none
    else
      none := by kernel_rfl
theorem F8.n1_1_1b_eq (n : Nat) (K : Conts) (p0 : Int) (p1 : (List Int)) (p2 : (List Int)) (p3 : (List Int)) (p4 : (List Int)) (p5 : (List Int)) (p6 : Int) (p7 : (List (List Int))) (p8 : (List (List Int))) : F8.n1_1_1b n K p0 p1 p2 p3 p4 p5 p6 p7 p8 =
    bif Nat.ble p8.length 1000 then
      bif filtB 13 16 (p0, (p1, (p2, (p3, (p4, (p5, (p6, p7))))))) (domsL p8) then
        bif fitsB (p0, (p1, (p2, (p3, (p4, (p5, (p6, p7))))))) 13 16 then
          bif fitsR (p0, (p1, (p2, (p3, (p4, (p5, (p6, p7))))))) p8 13 16 then
            bif !((reifF (p0, (p1, (p2, (p3, (p4, (p5, (p6, p7))))))) (domsL p8)).2) then
              K.ret ⟨slots 100 [(6, .v .bool true)], []⟩
            else
              K.ret ⟨slots 100 [(6, .v .bool (decide ((((reifF (p0, (p1, (p2, (p3, (p4, (p5, (p6, p7))))))) (domsL p8)).1).length : Int) = (p8.length : Int))))], []⟩
          else
            bif !((reifF (p0, (p1, (p2, (p3, (p4, (p5, (p6, p7))))))) (domsL p8)).2) then
              K.ret ⟨slots 100 [(6, .v .bool (decide ((((reifF (p0, (p1, (p2, (p3, (p4, (p5, (p6, p7))))))) (domsL p8)).1).length : Int) = 0)))], []⟩
            else
              K.ret ⟨slots 100 [(6, .v .bool false)], []⟩
        else
          none
      else
        none
    else
      none := by kernel_rfl
theorem F8.n1_1_1c_eq (n : Nat) (K : Conts) (p0 : Int) (p1 : (List Int)) (p2 : (List Int)) (p3 : (List Int)) (p4 : (List Int)) (p5 : (List Int)) (p6 : Int) (p7 : (List (List Int))) : F8.n1_1_1c n K p0 p1 p2 p3 p4 p5 p6 p7 =
    bif Nat.ble p7.length 1000 then
      bif filtB 13 16 (p0, (p1, (p2, (p3, (p4, (p5, (p6, []))))))) (domsL p7) then
        bif fitsB (p0, (p1, (p2, (p3, (p4, (p5, (p6, []))))))) 13 16 then
          bif fitsR (p0, (p1, (p2, (p3, (p4, (p5, (p6, []))))))) p7 13 16 then
            bif !((reifF (p0, (p1, (p2, (p3, (p4, (p5, (p6, []))))))) (domsL p7)).2) then
              K.ret ⟨slots 100 [(6, .v .bool true)], []⟩
            else
              K.ret ⟨slots 100 [(6, .v .bool (decide ((((reifF (p0, (p1, (p2, (p3, (p4, (p5, (p6, []))))))) (domsL p7)).1).length : Int) = (p7.length : Int))))], []⟩
          else
            bif !((reifF (p0, (p1, (p2, (p3, (p4, (p5, (p6, []))))))) (domsL p7)).2) then
              K.ret ⟨slots 100 [(6, .v .bool (decide ((((reifF (p0, (p1, (p2, (p3, (p4, (p5, (p6, []))))))) (domsL p7)).1).length : Int) = 0)))], []⟩
            else
              K.ret ⟨slots 100 [(6, .v .bool false)], []⟩
        else
          none
      else
        none
    else
      none := by kernel_rfl
theorem F8.c0 (k : Nat) : (F8.kt k [1, 1, 1]).ret ⟨slots 100 [(6, .v .bool true)], []⟩ =
    some (.v .bool true) := by kernel_rfl
end Go.Proofs.YthdpbmcidebagaaGreatDoor.Ev
