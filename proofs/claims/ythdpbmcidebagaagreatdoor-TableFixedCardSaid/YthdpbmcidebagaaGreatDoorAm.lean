/-
Seat 'a': the functions as the evaluator runs them: printed by a program of mine, each equation by kernel_rfl.
Conditions: none.
-/
import Derived.Test.YthdpbmcidebagaaGreatDoorAa
set_option linter.unusedVariables false
set_option maxRecDepth 100000
namespace Go.Proofs.YthdpbmcidebagaaGreatDoor.Ev
open Go
/-! ### 26k11: jigsaw/jigsawref06.Make -/
noncomputable def F26k11.fn : Func := Go.Proofs.Tryz.f26
noncomputable def F26k11.E : Env := ⟨tt, [(52, h_shapes), (53, h_hasB), (54, h_placesL), (55, h_numbersL)], [(1, [1, 2, 4]), (2, [1, 2, 4, 5]), (3, [1, 2, 4, 5, 6]), (4, [1, 2, 4, 5, 6, 7]), (5, [1, 2, 4, 5, 6, 7, 28]), (6, [1, 2, 4, 5, 6, 7]), (7, [1, 2, 4, 5, 6, 7, 30]), (8, [1, 2, 4, 5, 6, 7]), (9, [1, 2, 4, 5, 6, 7, 33]), (10, [1, 2, 4, 5, 6, 7]), (11, [1, 2, 4, 5, 6, 7]), (12, [1, 2, 4, 5, 6, 7, 44]), (13, [1, 2, 4, 5, 6, 7]), (14, [1, 2, 4, 5, 6, 7, 52]), (15, [2, 4, 5, 6, 7]), (16, [2, 4, 5, 6, 7, 61]), (17, [2, 4, 5, 6, 7]), (18, [2, 4, 5, 6, 7, 69]), (19, [2, 4, 5, 6, 7]), (20, [2, 4, 5, 7, 81]), (21, [2, 4, 5, 7]), (22, [2, 4, 5, 7, 89]), (23, [2, 4, 5, 7]), (24, [2, 4, 5, 7]), (25, [2, 4, 5, 7, 103]), (26, [2, 4, 5, 7]), (27, [2, 4, 5, 7, 110]), (28, [2, 4, 5, 7]), (29, [2, 4, 5, 7, 8]), (30, [2, 4, 5, 7, 8, 9]), (31, [2, 4, 5, 7, 8, 9]), (32, [2, 4, 5, 7, 8, 9]), (33, [2, 4, 5, 7, 8]), (34, [2, 4, 5, 7, 8]), (35, [2, 4, 5, 7, 8, 10]), (36, [2, 4, 5, 7, 8, 10]), (37, [2, 4, 5, 7, 8, 10]), (38, [2, 4, 5, 7]), (39, [2, 4, 5, 7, 162]), (40, [2, 4, 5, 7, 11]), (41, [2, 4, 5, 7, 11, 12]), (42, [2, 4, 5, 7, 11, 12]), (43, [2, 4, 5, 7, 11, 12]), (44, [4, 5])], [(0, [2, 4, 5, 7, 8]), (1, [2, 4, 5, 7, 8, 9]), (2, [2, 4, 5, 7]), (3, [2, 4, 5, 7, 8, 10]), (4, [4, 5]), (5, [2, 4, 5, 7, 11, 12])], some [4], inv⟩
theorem F26k11.start_eq (k : Nat) (z : ((List Int) × ((List Int) × ((List Int) × (Int × Int))))) (a1 : Int) : callW F26k11.E false F26k11.fn k [.agg [.v (.int .u8) (10 : Int), .v (.sl (.int .u8)) z.1, .v (.sl (.int .u8)) z.2.1, .v (.sl (.int .i8)) z.2.2.1, .v (.int .i16) z.2.2.2.1, .v (.int .u8) z.2.2.2.2], .v (.int .i64) a1] =
    bif decide ((11 : Int) < shapesL.length) then
      bif decide ((z.1.length : Int) < 1) then
        bif placesB z.1 2 a1 then
          bif numbersB z.2.2.1 0 2 (-1 : Int) 5 then
            bif numbersB z.2.2.1 0 (IntKind.i64.wrap (1 + ((z.2.2.1.length : Int).tmod 5))) (-1 : Int) 5 then
              some (.agg [.v (.int .i64) (11 : Int), .v (.sl (.int .i64)) (placesL z.1 2 a1), .nl, .v (.sl (.int .i64)) (numbersL z.2.2.1 0 (IntKind.i64.wrap (1 + ((z.2.2.1.length : Int).tmod 5))) (-1 : Int) 5), .nl, .nl, .v (.int .i64) (0 : Int), .nl])
            else
              none
          else
            none
        else
          none
      else
        bif decide ((z.1.length : Int) > 4) then
          bif placesB z.1 2 a1 then
            bif numbersB z.2.2.1 0 2 (-1 : Int) 5 then
              bif numbersB z.2.2.1 0 (IntKind.i64.wrap (1 + ((z.2.2.1.length : Int).tmod 5))) (-1 : Int) 5 then
                some (.agg [.v (.int .i64) (11 : Int), .v (.sl (.int .i64)) (placesL z.1 2 a1), .nl, .v (.sl (.int .i64)) (numbersL z.2.2.1 0 (IntKind.i64.wrap (1 + ((z.2.2.1.length : Int).tmod 5))) (-1 : Int) 5), .nl, .nl, .v (.int .i64) (0 : Int), .nl])
              else
                none
            else
              none
          else
            none
        else
          bif placesB z.1 2 a1 then
            bif numbersB z.2.2.1 0 2 (-1 : Int) 5 then
              bif numbersB z.2.2.1 0 (IntKind.i64.wrap (1 + ((z.2.2.1.length : Int).tmod 5))) (-1 : Int) 5 then
                some (.agg [.v (.int .i64) (11 : Int), .v (.sl (.int .i64)) (placesL z.1 2 a1), .nl, .v (.sl (.int .i64)) (numbersL z.2.2.1 0 (IntKind.i64.wrap (1 + ((z.2.2.1.length : Int).tmod 5))) (-1 : Int) 5), .nl, .nl, .v (.int .i64) (0 : Int), .nl])
              else
                none
            else
              none
          else
            none
    else
      none := by kernel_rfl

/-! ### 26k13: jigsaw/jigsawref06.Make -/
noncomputable def F26k13.fn : Func := Go.Proofs.Tryz.f26
noncomputable def F26k13.E : Env := ⟨tt, [(52, h_shapes), (53, h_hasB), (54, h_placesL)], [(1, [1, 2, 4]), (2, [1, 2, 4, 5]), (3, [1, 2, 4, 5, 6]), (4, [1, 2, 4, 5, 6, 7]), (5, [1, 2, 4, 5, 6, 7, 28]), (6, [1, 2, 4, 5, 6, 7]), (7, [1, 2, 4, 5, 6, 7, 30]), (8, [1, 2, 4, 5, 6, 7]), (9, [1, 2, 4, 5, 6, 7, 33]), (10, [1, 2, 4, 5, 6, 7]), (11, [1, 2, 4, 5, 6, 7]), (12, [1, 2, 4, 5, 6, 7, 44]), (13, [1, 2, 4, 5, 6, 7]), (14, [1, 2, 4, 5, 6, 7, 52]), (15, [2, 4, 5, 6, 7]), (16, [2, 4, 5, 6, 7, 61]), (17, [2, 4, 5, 6, 7]), (18, [2, 4, 5, 6, 7, 69]), (19, [2, 4, 5, 6, 7]), (20, [2, 4, 5, 7, 81]), (21, [2, 4, 5, 7]), (22, [2, 4, 5, 7, 89]), (23, [2, 4, 5, 7]), (24, [2, 4, 5, 7]), (25, [2, 4, 5, 7, 103]), (26, [2, 4, 5, 7]), (27, [2, 4, 5, 7, 110]), (28, [2, 4, 5, 7]), (29, [2, 4, 5, 7, 8]), (30, [2, 4, 5, 7, 8, 9]), (31, [2, 4, 5, 7, 8, 9]), (32, [2, 4, 5, 7, 8, 9]), (33, [2, 4, 5, 7, 8]), (34, [2, 4, 5, 7, 8]), (35, [2, 4, 5, 7, 8, 10]), (36, [2, 4, 5, 7, 8, 10]), (37, [2, 4, 5, 7, 8, 10]), (38, [2, 4, 5, 7]), (39, [2, 4, 5, 7, 162]), (40, [2, 4, 5, 7, 11]), (41, [2, 4, 5, 7, 11, 12]), (42, [2, 4, 5, 7, 11, 12]), (43, [2, 4, 5, 7, 11, 12]), (44, [4, 5])], [(0, [2, 4, 5, 7, 8]), (1, [2, 4, 5, 7, 8, 9]), (2, [2, 4, 5, 7]), (3, [2, 4, 5, 7, 8, 10]), (4, [4, 5]), (5, [2, 4, 5, 7, 11, 12])], some [4], inv⟩
theorem F26k13.start_eq (k : Nat) (z : ((List Int) × ((List Int) × ((List Int) × (Int × Int))))) (a1 : Int) : callW F26k13.E false F26k13.fn k [.agg [.v (.int .u8) (12 : Int), .v (.sl (.int .u8)) z.1, .v (.sl (.int .u8)) z.2.1, .v (.sl (.int .i8)) z.2.2.1, .v (.int .i16) z.2.2.2.1, .v (.int .u8) z.2.2.2.2], .v (.int .i64) a1] =
    bif decide ((13 : Int) < shapesL.length) then
      bif decide ((z.1.length : Int) < 1) then
        bif placesB z.1 1 a1 then
          bif placesB z.2.1 1 a1 then
            some (.agg [.v (.int .i64) (13 : Int), .v (.sl (.int .i64)) (placesL z.1 1 a1), .v (.sl (.int .i64)) (placesL z.2.1 1 a1), .nl, .nl, .nl, .v (.int .i64) ((IntKind.i64.wrap z.2.2.2.1).tmod 12), .nl])
          else
            none
        else
          none
      else
        bif decide ((z.1.length : Int) > 4) then
          bif placesB z.1 1 a1 then
            bif placesB z.2.1 1 a1 then
              some (.agg [.v (.int .i64) (13 : Int), .v (.sl (.int .i64)) (placesL z.1 1 a1), .v (.sl (.int .i64)) (placesL z.2.1 1 a1), .nl, .nl, .nl, .v (.int .i64) ((IntKind.i64.wrap z.2.2.2.1).tmod 12), .nl])
            else
              none
          else
            none
        else
          bif placesB z.1 1 a1 then
            bif placesB z.2.1 1 a1 then
              some (.agg [.v (.int .i64) (13 : Int), .v (.sl (.int .i64)) (placesL z.1 1 a1), .v (.sl (.int .i64)) (placesL z.2.1 1 a1), .nl, .nl, .nl, .v (.int .i64) ((IntKind.i64.wrap z.2.2.2.1).tmod 12), .nl])
            else
              none
          else
            none
    else
      none := by kernel_rfl

/-! ### 26k14: jigsaw/jigsawref06.Make -/
noncomputable def F26k14.fn : Func := Go.Proofs.Tryz.f26
noncomputable def F26k14.E : Env := ⟨tt, [(52, h_shapes), (53, h_hasB), (54, h_placesL)], [(1, [1, 2, 4]), (2, [1, 2, 4, 5]), (3, [1, 2, 4, 5, 6]), (4, [1, 2, 4, 5, 6, 7]), (5, [1, 2, 4, 5, 6, 7, 28]), (6, [1, 2, 4, 5, 6, 7]), (7, [1, 2, 4, 5, 6, 7, 30]), (8, [1, 2, 4, 5, 6, 7]), (9, [1, 2, 4, 5, 6, 7, 33]), (10, [1, 2, 4, 5, 6, 7]), (11, [1, 2, 4, 5, 6, 7]), (12, [1, 2, 4, 5, 6, 7, 44]), (13, [1, 2, 4, 5, 6, 7]), (14, [1, 2, 4, 5, 6, 7, 52]), (15, [2, 4, 5, 6, 7]), (16, [2, 4, 5, 6, 7, 61]), (17, [2, 4, 5, 6, 7]), (18, [2, 4, 5, 6, 7, 69]), (19, [2, 4, 5, 6, 7]), (20, [2, 4, 5, 7, 81]), (21, [2, 4, 5, 7]), (22, [2, 4, 5, 7, 89]), (23, [2, 4, 5, 7]), (24, [2, 4, 5, 7]), (25, [2, 4, 5, 7, 103]), (26, [2, 4, 5, 7]), (27, [2, 4, 5, 7, 110]), (28, [2, 4, 5, 7]), (29, [2, 4, 5, 7, 8]), (30, [2, 4, 5, 7, 8, 9]), (31, [2, 4, 5, 7, 8, 9]), (32, [2, 4, 5, 7, 8, 9]), (33, [2, 4, 5, 7, 8]), (34, [2, 4, 5, 7, 8]), (35, [2, 4, 5, 7, 8, 10]), (36, [2, 4, 5, 7, 8, 10]), (37, [2, 4, 5, 7, 8, 10]), (38, [2, 4, 5, 7]), (39, [2, 4, 5, 7, 162]), (40, [2, 4, 5, 7, 11]), (41, [2, 4, 5, 7, 11, 12]), (42, [2, 4, 5, 7, 11, 12]), (43, [2, 4, 5, 7, 11, 12]), (44, [4, 5])], [(0, [2, 4, 5, 7, 8]), (1, [2, 4, 5, 7, 8, 9]), (2, [2, 4, 5, 7]), (3, [2, 4, 5, 7, 8, 10]), (4, [4, 5]), (5, [2, 4, 5, 7, 11, 12])], some [4], inv⟩
theorem F26k14.start_eq (k : Nat) (z : ((List Int) × ((List Int) × ((List Int) × (Int × Int))))) (a1 : Int) : callW F26k14.E false F26k14.fn k [.agg [.v (.int .u8) (13 : Int), .v (.sl (.int .u8)) z.1, .v (.sl (.int .u8)) z.2.1, .v (.sl (.int .i8)) z.2.2.1, .v (.int .i16) z.2.2.2.1, .v (.int .u8) z.2.2.2.2], .v (.int .i64) a1] =
    bif decide ((14 : Int) < shapesL.length) then
      bif decide ((z.1.length : Int) < 1) then
        bif placesB z.1 1 a1 then
          bif placesB z.2.1 1 a1 then
            some (.agg [.v (.int .i64) (14 : Int), .v (.sl (.int .i64)) (placesL z.1 1 a1), .v (.sl (.int .i64)) (placesL z.2.1 1 a1), .nl, .nl, .nl, .v (.int .i64) ((IntKind.i64.wrap z.2.2.2.1).tmod 12), .nl])
          else
            none
        else
          none
      else
        bif decide ((z.1.length : Int) > 4) then
          bif placesB z.1 1 a1 then
            bif placesB z.2.1 1 a1 then
              some (.agg [.v (.int .i64) (14 : Int), .v (.sl (.int .i64)) (placesL z.1 1 a1), .v (.sl (.int .i64)) (placesL z.2.1 1 a1), .nl, .nl, .nl, .v (.int .i64) ((IntKind.i64.wrap z.2.2.2.1).tmod 12), .nl])
            else
              none
          else
            none
        else
          bif placesB z.1 1 a1 then
            bif placesB z.2.1 1 a1 then
              some (.agg [.v (.int .i64) (14 : Int), .v (.sl (.int .i64)) (placesL z.1 1 a1), .v (.sl (.int .i64)) (placesL z.2.1 1 a1), .nl, .nl, .nl, .v (.int .i64) ((IntKind.i64.wrap z.2.2.2.1).tmod 12), .nl])
            else
              none
          else
            none
    else
      none := by kernel_rfl

/-! ### 26k15: jigsaw/jigsawref06.Make -/
noncomputable def F26k15.fn : Func := Go.Proofs.Tryz.f26
noncomputable def F26k15.E : Env := ⟨tt, [(52, h_shapes), (53, h_hasB), (54, h_placesL)], [(1, [1, 2, 4]), (2, [1, 2, 4, 5]), (3, [1, 2, 4, 5, 6]), (4, [1, 2, 4, 5, 6, 7]), (5, [1, 2, 4, 5, 6, 7, 28]), (6, [1, 2, 4, 5, 6, 7]), (7, [1, 2, 4, 5, 6, 7, 30]), (8, [1, 2, 4, 5, 6, 7]), (9, [1, 2, 4, 5, 6, 7, 33]), (10, [1, 2, 4, 5, 6, 7]), (11, [1, 2, 4, 5, 6, 7]), (12, [1, 2, 4, 5, 6, 7, 44]), (13, [1, 2, 4, 5, 6, 7]), (14, [1, 2, 4, 5, 6, 7, 52]), (15, [2, 4, 5, 6, 7]), (16, [2, 4, 5, 6, 7, 61]), (17, [2, 4, 5, 6, 7]), (18, [2, 4, 5, 6, 7, 69]), (19, [2, 4, 5, 6, 7]), (20, [2, 4, 5, 7, 81]), (21, [2, 4, 5, 7]), (22, [2, 4, 5, 7, 89]), (23, [2, 4, 5, 7]), (24, [2, 4, 5, 7]), (25, [2, 4, 5, 7, 103]), (26, [2, 4, 5, 7]), (27, [2, 4, 5, 7, 110]), (28, [2, 4, 5, 7]), (29, [2, 4, 5, 7, 8]), (30, [2, 4, 5, 7, 8, 9]), (31, [2, 4, 5, 7, 8, 9]), (32, [2, 4, 5, 7, 8, 9]), (33, [2, 4, 5, 7, 8]), (34, [2, 4, 5, 7, 8]), (35, [2, 4, 5, 7, 8, 10]), (36, [2, 4, 5, 7, 8, 10]), (37, [2, 4, 5, 7, 8, 10]), (38, [2, 4, 5, 7]), (39, [2, 4, 5, 7, 162]), (40, [2, 4, 5, 7, 11]), (41, [2, 4, 5, 7, 11, 12]), (42, [2, 4, 5, 7, 11, 12]), (43, [2, 4, 5, 7, 11, 12]), (44, [4, 5])], [(0, [2, 4, 5, 7, 8]), (1, [2, 4, 5, 7, 8, 9]), (2, [2, 4, 5, 7]), (3, [2, 4, 5, 7, 8, 10]), (4, [4, 5]), (5, [2, 4, 5, 7, 11, 12])], some [4], inv⟩
theorem F26k15.start_eq (k : Nat) (z : ((List Int) × ((List Int) × ((List Int) × (Int × Int))))) (a1 : Int) : callW F26k15.E false F26k15.fn k [.agg [.v (.int .u8) (14 : Int), .v (.sl (.int .u8)) z.1, .v (.sl (.int .u8)) z.2.1, .v (.sl (.int .i8)) z.2.2.1, .v (.int .i16) z.2.2.2.1, .v (.int .u8) z.2.2.2.2], .v (.int .i64) a1] =
    bif decide ((15 : Int) < shapesL.length) then
      bif decide ((z.1.length : Int) < 1) then
        bif placesB z.1 1 a1 then
          bif placesB z.2.1 1 a1 then
            some (.agg [.v (.int .i64) (15 : Int), .v (.sl (.int .i64)) (placesL z.1 1 a1), .v (.sl (.int .i64)) (placesL z.2.1 1 a1), .nl, .nl, .nl, .v (.int .i64) ((IntKind.i64.wrap z.2.2.2.1).tmod 12), .nl])
          else
            none
        else
          none
      else
        bif decide ((z.1.length : Int) > 4) then
          bif placesB z.1 1 a1 then
            bif placesB z.2.1 1 a1 then
              some (.agg [.v (.int .i64) (15 : Int), .v (.sl (.int .i64)) (placesL z.1 1 a1), .v (.sl (.int .i64)) (placesL z.2.1 1 a1), .nl, .nl, .nl, .v (.int .i64) ((IntKind.i64.wrap z.2.2.2.1).tmod 12), .nl])
            else
              none
          else
            none
        else
          bif placesB z.1 1 a1 then
            bif placesB z.2.1 1 a1 then
              some (.agg [.v (.int .i64) (15 : Int), .v (.sl (.int .i64)) (placesL z.1 1 a1), .v (.sl (.int .i64)) (placesL z.2.1 1 a1), .nl, .nl, .nl, .v (.int .i64) ((IntKind.i64.wrap z.2.2.2.1).tmod 12), .nl])
            else
              none
          else
            none
    else
      none := by kernel_rfl

/-! ### 26k16: jigsaw/jigsawref06.Make -/
noncomputable def F26k16.fn : Func := Go.Proofs.Tryz.f26
noncomputable def F26k16.E : Env := ⟨tt, [(52, h_shapes), (53, h_hasB), (54, h_placesL)], [(1, [1, 2, 4]), (2, [1, 2, 4, 5]), (3, [1, 2, 4, 5, 6]), (4, [1, 2, 4, 5, 6, 7]), (5, [1, 2, 4, 5, 6, 7, 28]), (6, [1, 2, 4, 5, 6, 7]), (7, [1, 2, 4, 5, 6, 7, 30]), (8, [1, 2, 4, 5, 6, 7]), (9, [1, 2, 4, 5, 6, 7, 33]), (10, [1, 2, 4, 5, 6, 7]), (11, [1, 2, 4, 5, 6, 7]), (12, [1, 2, 4, 5, 6, 7, 44]), (13, [1, 2, 4, 5, 6, 7]), (14, [1, 2, 4, 5, 6, 7, 52]), (15, [2, 4, 5, 6, 7]), (16, [2, 4, 5, 6, 7, 61]), (17, [2, 4, 5, 6, 7]), (18, [2, 4, 5, 6, 7, 69]), (19, [2, 4, 5, 6, 7]), (20, [2, 4, 5, 7, 81]), (21, [2, 4, 5, 7]), (22, [2, 4, 5, 7, 89]), (23, [2, 4, 5, 7]), (24, [2, 4, 5, 7]), (25, [2, 4, 5, 7, 103]), (26, [2, 4, 5, 7]), (27, [2, 4, 5, 7, 110]), (28, [2, 4, 5, 7]), (29, [2, 4, 5, 7, 8]), (30, [2, 4, 5, 7, 8, 9]), (31, [2, 4, 5, 7, 8, 9]), (32, [2, 4, 5, 7, 8, 9]), (33, [2, 4, 5, 7, 8]), (34, [2, 4, 5, 7, 8]), (35, [2, 4, 5, 7, 8, 10]), (36, [2, 4, 5, 7, 8, 10]), (37, [2, 4, 5, 7, 8, 10]), (38, [2, 4, 5, 7]), (39, [2, 4, 5, 7, 162]), (40, [2, 4, 5, 7, 11]), (41, [2, 4, 5, 7, 11, 12]), (42, [2, 4, 5, 7, 11, 12]), (43, [2, 4, 5, 7, 11, 12]), (44, [4, 5])], [(0, [2, 4, 5, 7, 8]), (1, [2, 4, 5, 7, 8, 9]), (2, [2, 4, 5, 7]), (3, [2, 4, 5, 7, 8, 10]), (4, [4, 5]), (5, [2, 4, 5, 7, 11, 12])], some [4], inv⟩
theorem F26k16.start_eq (k : Nat) (z : ((List Int) × ((List Int) × ((List Int) × (Int × Int))))) (a1 : Int) : callW F26k16.E false F26k16.fn k [.agg [.v (.int .u8) (15 : Int), .v (.sl (.int .u8)) z.1, .v (.sl (.int .u8)) z.2.1, .v (.sl (.int .i8)) z.2.2.1, .v (.int .i16) z.2.2.2.1, .v (.int .u8) z.2.2.2.2], .v (.int .i64) a1] =
    bif decide ((16 : Int) < shapesL.length) then
      bif decide ((z.1.length : Int) < 1) then
        bif placesB z.1 1 a1 then
          bif placesB z.2.1 1 a1 then
            some (.agg [.v (.int .i64) (16 : Int), .v (.sl (.int .i64)) (placesL z.1 1 a1), .v (.sl (.int .i64)) (placesL z.2.1 1 a1), .nl, .nl, .nl, .v (.int .i64) ((IntKind.i64.wrap z.2.2.2.1).tmod 12), .nl])
          else
            none
        else
          none
      else
        bif decide ((z.1.length : Int) > 4) then
          bif placesB z.1 1 a1 then
            bif placesB z.2.1 1 a1 then
              some (.agg [.v (.int .i64) (16 : Int), .v (.sl (.int .i64)) (placesL z.1 1 a1), .v (.sl (.int .i64)) (placesL z.2.1 1 a1), .nl, .nl, .nl, .v (.int .i64) ((IntKind.i64.wrap z.2.2.2.1).tmod 12), .nl])
            else
              none
          else
            none
        else
          bif placesB z.1 1 a1 then
            bif placesB z.2.1 1 a1 then
              some (.agg [.v (.int .i64) (16 : Int), .v (.sl (.int .i64)) (placesL z.1 1 a1), .v (.sl (.int .i64)) (placesL z.2.1 1 a1), .nl, .nl, .nl, .v (.int .i64) ((IntKind.i64.wrap z.2.2.2.1).tmod 12), .nl])
            else
              none
          else
            none
    else
      none := by kernel_rfl

end Go.Proofs.YthdpbmcidebagaaGreatDoor.Ev
