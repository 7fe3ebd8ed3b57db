/-
The functions as the evaluator runs them: printed by a program of mine, each equation by kernel_rfl.
Conditions: none.
-/
import Derived.Test.YtnojoaghcbljfaaGreatDoorCg
set_option linter.unusedVariables false
set_option linter.unusedSimpArgs false
set_option maxRecDepth 100000
namespace Go.Proofs.YtnojoaghcbljfaaGreatDoor.Ev
open Go
/-! ### 15a: jigsaw/jigsawref10.Make -/
noncomputable def F15a.fn : Func := Go.Proofs.Tryz.f14
noncomputable def F15a.body : Code := bodyOf F15a.fn
noncomputable def F15a.E : Env := ⟨tt, [(34, h_conA), (46, h_smallL)], [(1, [1, 2, 3, 6]), (2, [2, 3, 6]), (3, [2, 3, 6, 8]), (4, [2, 3, 6, 8, 9]), (5, [2, 3, 6, 8, 9, 10, 300009]), (6, [2, 3, 6, 8, 9, 10]), (7, [2, 3, 6, 8, 9, 10]), (8, [2, 3, 6, 8, 9, 10, 11]), (9, [2, 3, 6, 8, 9, 10, 11, 48]), (10, [2, 3, 6, 8, 9, 10, 11]), (11, [2, 3, 6, 8, 9, 10, 12]), (12, [6, 8, 9])], [(0, [6, 8, 9]), (1, [2, 3, 6, 8, 9, 10])], some [6, 7], inv⟩
noncomputable def F15a.K0 : Conts := { nrm := endW F15a.E true F15a.fn.results.toList, ret := endW F15a.E true F15a.fn.results.toList, ex := [] }
noncomputable def F15a.kt (k : Nat) (q : List Nat) : Conts := contAt F15a.E k F15a.body F15a.K0 q
noncomputable def F15a.l1_1_1_1_0_1_0 (n : Nat) (K : Conts) (p0 : Int) (p1 : Int) (p2 : Int) (p3 : (List Int)) (p4 : (List Int)) (p5 : (List Int)) (p6 : Int) (p7 : Int) (p8 : (List (List Int))) (p9 : Int) (p10 : Int) (p11 : Int) (p12 : (List Int)) (p13 : (List Int)) (p14 : (List Int)) (p15 : (List Int)) (p16 : (List Int)) (p17 : Int) (p18 : (List (List Int))) (p19 : (List (List Int))) : Option AV := loopF F15a.E n (inLoop (subC [1, 1, 1, 1, 0, 1, 0] F15a.body)) K ⟨slots 63 [(2, .v (.int .i64) p0), (3, .pb 0 0), (6, .pb 1 0), (8, .pb 2 0), (9, .own 3), (10, .v (.int .i64) p1)], [.box [.v (.int .u8) p2, .v (.sl (.int .u8)) p3, .v (.sl (.int .u8)) p4, .v (.sl (.int .i8)) p5, .v (.int .i16) p6, .v (.int .u8) p7, .v (.sl (.sl (.int .i64))) p8], .box [.v (.int .i64) p9, .nl, .nl, .nl, .nl, .nl, .v (.int .i64) p10, .nl], .box [.v (.int .i64) p11, .v (.sl (.int .i64)) p12, .v (.sl (.int .i64)) p13, .v (.sl (.int .i64)) p14, .v (.sl (.int .i64)) p15, .v (.sl (.int .i64)) p16, .v (.int .i64) p17, .v (.sl (.sl (.int .i64))) p18], .row 30 (.sl (.int .i64)) p19]⟩
theorem F15a.start_eq (k : Nat) (a0 : ((Int × ((List Int) × ((List Int) × ((List Int) × (Int × Int))))) × (List (List Int)))) (a1 : Int) (a2 : Int) : callW F15a.E true F15a.fn k [.agg [.v (.int .u8) a0.1.1, .v (.sl (.int .u8)) a0.1.2.1, .v (.sl (.int .u8)) a0.1.2.2.1, .v (.sl (.int .i8)) a0.1.2.2.2.1, .v (.int .i16) a0.1.2.2.2.2.1, .v (.int .u8) a0.1.2.2.2.2.2, .v (.sl (.sl (.int .i64))) a0.2], .v (.int .i64) a1, .v (.int .i64) a2] =
    bif conAB (IntKind.u8.wrap (IntKind.i64.wrap (a1 - 1)), a0.1.2) 5 then
      F15a.l1_1_1_1_0_1_0 k (F15a.kt k [1, 1, 1, 1, 0, 1, 0]) a2 0 (IntKind.u8.wrap (IntKind.i64.wrap (a1 - 1))) a0.1.2.1 a0.1.2.2.1 a0.1.2.2.2.1 a0.1.2.2.2.2.1 a0.1.2.2.2.2.2 a0.2 (0 : Int) (0 : Int) ((conA (IntKind.u8.wrap (IntKind.i64.wrap (a1 - 1)), a0.1.2) 5).1) (((conA (IntKind.u8.wrap (IntKind.i64.wrap (a1 - 1)), a0.1.2) 5).2).1) ((((conA (IntKind.u8.wrap (IntKind.i64.wrap (a1 - 1)), a0.1.2) 5).2).2).1) (((((conA (IntKind.u8.wrap (IntKind.i64.wrap (a1 - 1)), a0.1.2) 5).2).2).2).1) ((((((conA (IntKind.u8.wrap (IntKind.i64.wrap (a1 - 1)), a0.1.2) 5).2).2).2).2).1) (((((((conA (IntKind.u8.wrap (IntKind.i64.wrap (a1 - 1)), a0.1.2) 5).2).2).2).2).2).1) ((((((((conA (IntKind.u8.wrap (IntKind.i64.wrap (a1 - 1)), a0.1.2) 5).2).2).2).2).2).2).1) ((((((((conA (IntKind.u8.wrap (IntKind.i64.wrap (a1 - 1)), a0.1.2) 5).2).2).2).2).2).2).2) []
    else
      none := by kernel_rfl
theorem F15a.l1_1_1_1_0_1_0_eq (n : Nat) (K : Conts) (p0 : Int) (p1 : Int) (p2 : Int) (p3 : (List Int)) (p4 : (List Int)) (p5 : (List Int)) (p6 : Int) (p7 : Int) (p8 : (List (List Int))) (p9 : Int) (p10 : Int) (p11 : Int) (p12 : (List Int)) (p13 : (List Int)) (p14 : (List Int)) (p15 : (List Int)) (p16 : (List Int)) (p17 : Int) (p18 : (List (List Int))) (p19 : (List (List Int))) : F15a.l1_1_1_1_0_1_0 (n + 1) K p0 p1 p2 p3 p4 p5 p6 p7 p8 p9 p10 p11 p12 p13 p14 p15 p16 p17 p18 p19 =
    bif decide (p1 < (IntKind.i64.wrap ((p12.length : Int) + (p13.length : Int)))) then
      bif decide (p1 < (p8.length : Int)) then
        bif decide (0 ≤ p1) && decide (p1 < p8.length) then
          bif decide (((p8.getD p1.toNat []).length : Int) > 0) then
            bif decide (0 ≤ p1) && decide (p1 < p8.length) then
              bif smallB (p8.getD p1.toNat []) 6 p0 then
                bif decide ((p19.length + [smallL (p8.getD p1.toNat []) 6 p0].length) * 24 ≤ LIM) then
                  F15a.l1_1_1_1_0_1_0 n K p0 (IntKind.i64.wrap (p1 + 1)) p2 p3 p4 p5 p6 p7 p8 p9 p10 p11 p12 p13 p14 p15 p16 p17 p18 (p19 ++ [smallL (p8.getD p1.toNat []) 6 p0])
                else
                  none
              else
                none
            else
              none
          else
            bif smallB [p1.tmod 3, 1] 6 p0 then
              bif decide ((p19.length + [smallL [p1.tmod 3, 1] 6 p0].length) * 24 ≤ LIM) then
                F15a.l1_1_1_1_0_1_0 n K p0 (IntKind.i64.wrap (p1 + 1)) p2 p3 p4 p5 p6 p7 p8 p9 p10 p11 p12 p13 p14 p15 p16 p17 p18 (p19 ++ [smallL [p1.tmod 3, 1] 6 p0])
              else
                none
            else
              none
        else
          none
      else
        bif smallB [p1.tmod 3, 1] 6 p0 then
          bif decide ((p19.length + [smallL [p1.tmod 3, 1] 6 p0].length) * 24 ≤ LIM) then
            F15a.l1_1_1_1_0_1_0 n K p0 (IntKind.i64.wrap (p1 + 1)) p2 p3 p4 p5 p6 p7 p8 p9 p10 p11 p12 p13 p14 p15 p16 p17 p18 (p19 ++ [smallL [p1.tmod 3, 1] 6 p0])
          else
            none
        else
          none
    else
      exitK K 0 ⟨slots 63 [(6, .pb 0 0), (8, .pb 1 0), (9, .own 2)], [.box [.v (.int .i64) p9, .nl, .nl, .nl, .nl, .nl, .v (.int .i64) p10, .nl], .box [.v (.int .i64) p11, .v (.sl (.int .i64)) p12, .v (.sl (.int .i64)) p13, .v (.sl (.int .i64)) p14, .v (.sl (.int .i64)) p15, .v (.sl (.int .i64)) p16, .v (.int .i64) p17, .v (.sl (.sl (.int .i64))) p18], .row 30 (.sl (.int .i64)) p19]⟩ := by kernel_rfl
theorem F15a.c0 (k : Nat) (p0 : Int) (p1 : Int) (p2 : Int) (p3 : (List Int)) (p4 : (List Int)) (p5 : (List Int)) (p6 : (List Int)) (p7 : (List Int)) (p8 : Int) (p9 : (List (List Int))) (p10 : (List (List Int))) : exitK (F15a.kt k [1, 1, 1, 1, 0, 1, 0]) 0 ⟨slots 63 [(6, .pb 0 0), (8, .pb 1 0), (9, .own 2)], [.box [.v (.int .i64) p0, .nl, .nl, .nl, .nl, .nl, .v (.int .i64) p1, .nl], .box [.v (.int .i64) p2, .v (.sl (.int .i64)) p3, .v (.sl (.int .i64)) p4, .v (.sl (.int .i64)) p5, .v (.sl (.int .i64)) p6, .v (.sl (.int .i64)) p7, .v (.int .i64) p8, .v (.sl (.sl (.int .i64))) p9], .row 30 (.sl (.int .i64)) p10]⟩ =
    some (.tup [.agg [.v (.int .i64) p2, .v (.sl (.int .i64)) p3, .v (.sl (.int .i64)) p4, .v (.sl (.int .i64)) p5, .v (.sl (.int .i64)) p6, .v (.sl (.int .i64)) p7, .v (.int .i64) p8, .v (.sl (.sl (.int .i64))) p9], .nw 30 (.sl (.int .i64)) p10]) := by kernel_rfl

end Go.Proofs.YtnojoaghcbljfaaGreatDoor.Ev
