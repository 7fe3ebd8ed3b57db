/-
The functions as the evaluator runs them: printed by a program of mine, each equation by kernel_rfl.
Conditions: none.
The functions as the evaluator runs them: printed by a program of mine, each equation by kernel_rfl.
Conditions: none.
The functions as the evaluator runs them: printed by a program of mine, each equation by kernel_rfl.
Conditions: none.
The functions as the evaluator runs them: printed by a program of mine, each equation by kernel_rfl.
Conditions: none.
-/
import Derived.Test.YtlfdikofmfhefaaGreatDoorAa
import Derived.Test.YtlfdikofmfhefaaGreatDoorAm4
set_option linter.unusedVariables false
set_option linter.unusedSimpArgs false
set_option maxRecDepth 100000
namespace Go.Proofs.YtlfdikofmfhefaaGreatDoor.Ev
open Go
noncomputable def F26k13.fn : Func := Go.Proofs.Tryz.f34
noncomputable def F26k13.body : Code := bodyOf F26k13.fn
noncomputable def F26k13.E : Env := ⟨tt, [(62, h_shapes), (71, h_hasB), (72, h_placesL)], [(1, [1, 2, 4]), (2, [1, 2, 4, 5]), (3, [1, 2, 4, 5, 6]), (4, [1, 2, 4, 5, 6, 7]), (5, [1, 2, 4, 5, 6, 7, 28]), (6, [1, 2, 4, 5, 6, 7]), (7, [1, 2, 4, 5, 6, 7, 30]), (8, [1, 2, 4, 5, 6, 7]), (9, [1, 2, 4, 5, 6, 7, 33]), (10, [1, 2, 4, 5, 6, 7]), (11, [1, 2, 4, 5, 6, 7]), (12, [1, 2, 4, 5, 6, 7, 44]), (13, [1, 2, 4, 5, 6, 7]), (14, [1, 2, 4, 5, 6, 7, 52]), (15, [2, 4, 5, 6, 7]), (16, [2, 4, 5, 6, 7, 61]), (17, [2, 4, 5, 6, 7]), (18, [2, 4, 5, 6, 7, 69]), (19, [2, 4, 5, 6, 7]), (20, [2, 4, 5, 7, 81]), (21, [2, 4, 5, 7]), (22, [2, 4, 5, 7, 89]), (23, [2, 4, 5, 7]), (24, [2, 4, 5, 7]), (25, [2, 4, 5, 7, 103]), (26, [2, 4, 5, 7]), (27, [2, 4, 5, 7, 110]), (28, [2, 4, 5, 7]), (29, [2, 4, 5, 7, 8]), (30, [2, 4, 5, 7, 8, 9]), (31, [2, 4, 5, 7, 8, 9]), (32, [2, 4, 5, 7, 8, 9]), (33, [2, 4, 5, 7, 8]), (34, [2, 4, 5, 7, 8]), (35, [2, 4, 5, 7, 8, 10]), (36, [2, 4, 5, 7, 8, 10]), (37, [2, 4, 5, 7, 8, 10]), (38, [2, 4, 5, 7]), (39, [2, 4, 5, 7, 162]), (40, [2, 4, 5, 7, 11]), (41, [2, 4, 5, 7, 11, 12]), (42, [2, 4, 5, 7, 11, 12]), (43, [2, 4, 5, 7, 11, 12]), (44, [4, 5])], [(0, [2, 4, 5, 7, 8]), (1, [2, 4, 5, 7, 8, 9]), (2, [2, 4, 5, 7]), (3, [2, 4, 5, 7, 8, 10]), (4, [4, 5]), (5, [2, 4, 5, 7, 11, 12])], some [4], inv, []⟩
noncomputable def F26k13.K0 : Conts := { nrm := endW F26k13.E false F26k13.fn.results.toList, ret := endW F26k13.E false F26k13.fn.results.toList, ex := [] }
noncomputable def F26k13.kt (k : Nat) (q : List Nat) : Conts := contAt F26k13.E k F26k13.body F26k13.K0 q
noncomputable def F26k13.n1_1 (n : Nat) (K : Conts) (p0 p1 : Int) (p2 p3 p4 : List Int) (p5 p6 p7 p8 p9 p10 : Int) : Option AV := runC F26k13.E (loopF F26k13.E n) (subC [1,1] F26k13.body) K ⟨slots 186 [(1, .v (.int .i64) p0), (2, .pb 0 0), (4, .pb 1 0), (5, .pb 2 0)], [.box [.v (.int .u8) p1, .v (.sl (.int .u8)) p2, .v (.sl (.int .u8)) p3, .v (.sl (.int .i8)) p4, .v (.int .i16) p5, .v (.int .u8) p6], .box [.v (.int .i64) p7, .nl, .nl, .nl, .nl, .nl, .v (.int .i64) p8, .nl], .box [.v (.int .i64) p9, .nl, .nl, .nl, .nl, .nl, .v (.int .i64) p10, .nl]]⟩
theorem F26k13.start_eq (k : Nat) (m : Int) (z : (List Int) × ((List Int) × ((List Int) × (Int × Int)))) (a1 : Int) (hm : IntKind.i64.wrap (1 + ((IntKind.i64.wrap m).tmod 23)) = (13 : Int)) : callW F26k13.E false F26k13.fn k [.agg [.v (.int .u8) m, .v (.sl (.int .u8)) z.1, .v (.sl (.int .u8)) z.2.1, .v (.sl (.int .i8)) z.2.2.1, .v (.int .i16) z.2.2.2.1, .v (.int .u8) z.2.2.2.2], .v (.int .i64) a1] =
  bif decide ((13 : Int) < shapesL.length) then
   bif decide ((z.1.length : Int) < 1) then
    bif placesB z.1 1 a1 then
     bif placesB z.2.1 1 a1 then
      some (.agg [.v (.int .i64) (13 : Int), .v (.sl (.int .i64)) (placesL z.1 1 a1), .v (.sl (.int .i64)) (placesL z.2.1 1 a1), .nl, .nl, .nl, .v (.int .i64) ((IntKind.i64.wrap z.2.2.2.1).tmod 12), .nl])
     else
      none
    else
     none
   else
    bif decide ((z.1.length : Int) > 4) then
     bif placesB z.1 1 a1 then
      bif placesB z.2.1 1 a1 then
       some (.agg [.v (.int .i64) (13 : Int), .v (.sl (.int .i64)) (placesL z.1 1 a1), .v (.sl (.int .i64)) (placesL z.2.1 1 a1), .nl, .nl, .nl, .v (.int .i64) ((IntKind.i64.wrap z.2.2.2.1).tmod 12), .nl])
      else
       none
     else
      none
    else
     bif placesB z.1 1 a1 then
      bif placesB z.2.1 1 a1 then
       some (.agg [.v (.int .i64) (13 : Int), .v (.sl (.int .i64)) (placesL z.1 1 a1), .v (.sl (.int .i64)) (placesL z.2.1 1 a1), .nl, .nl, .nl, .v (.int .i64) ((IntKind.i64.wrap z.2.2.2.1).tmod 12), .nl])
      else
       none
     else
      none
  else
   none :=
 (show callW F26k13.E false F26k13.fn k [.agg [.v (.int .u8) m, .v (.sl (.int .u8)) z.1, .v (.sl (.int .u8)) z.2.1, .v (.sl (.int .i8)) z.2.2.1, .v (.int .i16) z.2.2.2.1, .v (.int .u8) z.2.2.2.2], .v (.int .i64) a1] = F26k13.n1_1 k (F26k13.kt k [1, 1]) a1 m z.1 z.2.1 z.2.2.1 z.2.2.2.1 z.2.2.2.2 (0 : Int) (0 : Int) (IntKind.i64.wrap (1 + ((IntKind.i64.wrap m).tmod 23))) (0 : Int) by kernel_rfl).trans ((congrArg (fun x : Int => F26k13.n1_1 k (F26k13.kt k [1, 1]) a1 m z.1 z.2.1 z.2.2.1 z.2.2.2.1 z.2.2.2.2 (0 : Int) (0 : Int) x (0 : Int)) hm).trans (by kernel_rfl))
noncomputable def F26k14.fn : Func := Go.Proofs.Tryz.f34
noncomputable def F26k14.body : Code := bodyOf F26k14.fn
noncomputable def F26k14.E : Env := ⟨tt, [(62, h_shapes), (71, h_hasB), (72, h_placesL)], [(1, [1, 2, 4]), (2, [1, 2, 4, 5]), (3, [1, 2, 4, 5, 6]), (4, [1, 2, 4, 5, 6, 7]), (5, [1, 2, 4, 5, 6, 7, 28]), (6, [1, 2, 4, 5, 6, 7]), (7, [1, 2, 4, 5, 6, 7, 30]), (8, [1, 2, 4, 5, 6, 7]), (9, [1, 2, 4, 5, 6, 7, 33]), (10, [1, 2, 4, 5, 6, 7]), (11, [1, 2, 4, 5, 6, 7]), (12, [1, 2, 4, 5, 6, 7, 44]), (13, [1, 2, 4, 5, 6, 7]), (14, [1, 2, 4, 5, 6, 7, 52]), (15, [2, 4, 5, 6, 7]), (16, [2, 4, 5, 6, 7, 61]), (17, [2, 4, 5, 6, 7]), (18, [2, 4, 5, 6, 7, 69]), (19, [2, 4, 5, 6, 7]), (20, [2, 4, 5, 7, 81]), (21, [2, 4, 5, 7]), (22, [2, 4, 5, 7, 89]), (23, [2, 4, 5, 7]), (24, [2, 4, 5, 7]), (25, [2, 4, 5, 7, 103]), (26, [2, 4, 5, 7]), (27, [2, 4, 5, 7, 110]), (28, [2, 4, 5, 7]), (29, [2, 4, 5, 7, 8]), (30, [2, 4, 5, 7, 8, 9]), (31, [2, 4, 5, 7, 8, 9]), (32, [2, 4, 5, 7, 8, 9]), (33, [2, 4, 5, 7, 8]), (34, [2, 4, 5, 7, 8]), (35, [2, 4, 5, 7, 8, 10]), (36, [2, 4, 5, 7, 8, 10]), (37, [2, 4, 5, 7, 8, 10]), (38, [2, 4, 5, 7]), (39, [2, 4, 5, 7, 162]), (40, [2, 4, 5, 7, 11]), (41, [2, 4, 5, 7, 11, 12]), (42, [2, 4, 5, 7, 11, 12]), (43, [2, 4, 5, 7, 11, 12]), (44, [4, 5])], [(0, [2, 4, 5, 7, 8]), (1, [2, 4, 5, 7, 8, 9]), (2, [2, 4, 5, 7]), (3, [2, 4, 5, 7, 8, 10]), (4, [4, 5]), (5, [2, 4, 5, 7, 11, 12])], some [4], inv, []⟩
noncomputable def F26k14.K0 : Conts := { nrm := endW F26k14.E false F26k14.fn.results.toList, ret := endW F26k14.E false F26k14.fn.results.toList, ex := [] }
noncomputable def F26k14.kt (k : Nat) (q : List Nat) : Conts := contAt F26k14.E k F26k14.body F26k14.K0 q
noncomputable def F26k14.n1_1 (n : Nat) (K : Conts) (p0 p1 : Int) (p2 p3 p4 : List Int) (p5 p6 p7 p8 p9 p10 : Int) : Option AV := runC F26k14.E (loopF F26k14.E n) (subC [1,1] F26k14.body) K ⟨slots 186 [(1, .v (.int .i64) p0), (2, .pb 0 0), (4, .pb 1 0), (5, .pb 2 0)], [.box [.v (.int .u8) p1, .v (.sl (.int .u8)) p2, .v (.sl (.int .u8)) p3, .v (.sl (.int .i8)) p4, .v (.int .i16) p5, .v (.int .u8) p6], .box [.v (.int .i64) p7, .nl, .nl, .nl, .nl, .nl, .v (.int .i64) p8, .nl], .box [.v (.int .i64) p9, .nl, .nl, .nl, .nl, .nl, .v (.int .i64) p10, .nl]]⟩
theorem F26k14.start_eq (k : Nat) (m : Int) (z : (List Int) × ((List Int) × ((List Int) × (Int × Int)))) (a1 : Int) (hm : IntKind.i64.wrap (1 + ((IntKind.i64.wrap m).tmod 23)) = (14 : Int)) : callW F26k14.E false F26k14.fn k [.agg [.v (.int .u8) m, .v (.sl (.int .u8)) z.1, .v (.sl (.int .u8)) z.2.1, .v (.sl (.int .i8)) z.2.2.1, .v (.int .i16) z.2.2.2.1, .v (.int .u8) z.2.2.2.2], .v (.int .i64) a1] =
  bif decide ((14 : Int) < shapesL.length) then
   bif decide ((z.1.length : Int) < 1) then
    bif placesB z.1 1 a1 then
     bif placesB z.2.1 1 a1 then
      some (.agg [.v (.int .i64) (14 : Int), .v (.sl (.int .i64)) (placesL z.1 1 a1), .v (.sl (.int .i64)) (placesL z.2.1 1 a1), .nl, .nl, .nl, .v (.int .i64) ((IntKind.i64.wrap z.2.2.2.1).tmod 12), .nl])
     else
      none
    else
     none
   else
    bif decide ((z.1.length : Int) > 4) then
     bif placesB z.1 1 a1 then
      bif placesB z.2.1 1 a1 then
       some (.agg [.v (.int .i64) (14 : Int), .v (.sl (.int .i64)) (placesL z.1 1 a1), .v (.sl (.int .i64)) (placesL z.2.1 1 a1), .nl, .nl, .nl, .v (.int .i64) ((IntKind.i64.wrap z.2.2.2.1).tmod 12), .nl])
      else
       none
     else
      none
    else
     bif placesB z.1 1 a1 then
      bif placesB z.2.1 1 a1 then
       some (.agg [.v (.int .i64) (14 : Int), .v (.sl (.int .i64)) (placesL z.1 1 a1), .v (.sl (.int .i64)) (placesL z.2.1 1 a1), .nl, .nl, .nl, .v (.int .i64) ((IntKind.i64.wrap z.2.2.2.1).tmod 12), .nl])
      else
       none
     else
      none
  else
   none :=
 (show callW F26k14.E false F26k14.fn k [.agg [.v (.int .u8) m, .v (.sl (.int .u8)) z.1, .v (.sl (.int .u8)) z.2.1, .v (.sl (.int .i8)) z.2.2.1, .v (.int .i16) z.2.2.2.1, .v (.int .u8) z.2.2.2.2], .v (.int .i64) a1] = F26k14.n1_1 k (F26k14.kt k [1, 1]) a1 m z.1 z.2.1 z.2.2.1 z.2.2.2.1 z.2.2.2.2 (0 : Int) (0 : Int) (IntKind.i64.wrap (1 + ((IntKind.i64.wrap m).tmod 23))) (0 : Int) by kernel_rfl).trans ((congrArg (fun x : Int => F26k14.n1_1 k (F26k14.kt k [1, 1]) a1 m z.1 z.2.1 z.2.2.1 z.2.2.2.1 z.2.2.2.2 (0 : Int) (0 : Int) x (0 : Int)) hm).trans (by kernel_rfl))
noncomputable def F26k15.fn : Func := Go.Proofs.Tryz.f34
noncomputable def F26k15.body : Code := bodyOf F26k15.fn
noncomputable def F26k15.E : Env := ⟨tt, [(62, h_shapes), (71, h_hasB), (72, h_placesL)], [(1, [1, 2, 4]), (2, [1, 2, 4, 5]), (3, [1, 2, 4, 5, 6]), (4, [1, 2, 4, 5, 6, 7]), (5, [1, 2, 4, 5, 6, 7, 28]), (6, [1, 2, 4, 5, 6, 7]), (7, [1, 2, 4, 5, 6, 7, 30]), (8, [1, 2, 4, 5, 6, 7]), (9, [1, 2, 4, 5, 6, 7, 33]), (10, [1, 2, 4, 5, 6, 7]), (11, [1, 2, 4, 5, 6, 7]), (12, [1, 2, 4, 5, 6, 7, 44]), (13, [1, 2, 4, 5, 6, 7]), (14, [1, 2, 4, 5, 6, 7, 52]), (15, [2, 4, 5, 6, 7]), (16, [2, 4, 5, 6, 7, 61]), (17, [2, 4, 5, 6, 7]), (18, [2, 4, 5, 6, 7, 69]), (19, [2, 4, 5, 6, 7]), (20, [2, 4, 5, 7, 81]), (21, [2, 4, 5, 7]), (22, [2, 4, 5, 7, 89]), (23, [2, 4, 5, 7]), (24, [2, 4, 5, 7]), (25, [2, 4, 5, 7, 103]), (26, [2, 4, 5, 7]), (27, [2, 4, 5, 7, 110]), (28, [2, 4, 5, 7]), (29, [2, 4, 5, 7, 8]), (30, [2, 4, 5, 7, 8, 9]), (31, [2, 4, 5, 7, 8, 9]), (32, [2, 4, 5, 7, 8, 9]), (33, [2, 4, 5, 7, 8]), (34, [2, 4, 5, 7, 8]), (35, [2, 4, 5, 7, 8, 10]), (36, [2, 4, 5, 7, 8, 10]), (37, [2, 4, 5, 7, 8, 10]), (38, [2, 4, 5, 7]), (39, [2, 4, 5, 7, 162]), (40, [2, 4, 5, 7, 11]), (41, [2, 4, 5, 7, 11, 12]), (42, [2, 4, 5, 7, 11, 12]), (43, [2, 4, 5, 7, 11, 12]), (44, [4, 5])], [(0, [2, 4, 5, 7, 8]), (1, [2, 4, 5, 7, 8, 9]), (2, [2, 4, 5, 7]), (3, [2, 4, 5, 7, 8, 10]), (4, [4, 5]), (5, [2, 4, 5, 7, 11, 12])], some [4], inv, []⟩
noncomputable def F26k15.K0 : Conts := { nrm := endW F26k15.E false F26k15.fn.results.toList, ret := endW F26k15.E false F26k15.fn.results.toList, ex := [] }
noncomputable def F26k15.kt (k : Nat) (q : List Nat) : Conts := contAt F26k15.E k F26k15.body F26k15.K0 q
noncomputable def F26k15.n1_1 (n : Nat) (K : Conts) (p0 p1 : Int) (p2 p3 p4 : List Int) (p5 p6 p7 p8 p9 p10 : Int) : Option AV := runC F26k15.E (loopF F26k15.E n) (subC [1,1] F26k15.body) K ⟨slots 186 [(1, .v (.int .i64) p0), (2, .pb 0 0), (4, .pb 1 0), (5, .pb 2 0)], [.box [.v (.int .u8) p1, .v (.sl (.int .u8)) p2, .v (.sl (.int .u8)) p3, .v (.sl (.int .i8)) p4, .v (.int .i16) p5, .v (.int .u8) p6], .box [.v (.int .i64) p7, .nl, .nl, .nl, .nl, .nl, .v (.int .i64) p8, .nl], .box [.v (.int .i64) p9, .nl, .nl, .nl, .nl, .nl, .v (.int .i64) p10, .nl]]⟩
theorem F26k15.start_eq (k : Nat) (m : Int) (z : (List Int) × ((List Int) × ((List Int) × (Int × Int)))) (a1 : Int) (hm : IntKind.i64.wrap (1 + ((IntKind.i64.wrap m).tmod 23)) = (15 : Int)) : callW F26k15.E false F26k15.fn k [.agg [.v (.int .u8) m, .v (.sl (.int .u8)) z.1, .v (.sl (.int .u8)) z.2.1, .v (.sl (.int .i8)) z.2.2.1, .v (.int .i16) z.2.2.2.1, .v (.int .u8) z.2.2.2.2], .v (.int .i64) a1] =
  bif decide ((15 : Int) < shapesL.length) then
   bif decide ((z.1.length : Int) < 1) then
    bif placesB z.1 1 a1 then
     bif placesB z.2.1 1 a1 then
      some (.agg [.v (.int .i64) (15 : Int), .v (.sl (.int .i64)) (placesL z.1 1 a1), .v (.sl (.int .i64)) (placesL z.2.1 1 a1), .nl, .nl, .nl, .v (.int .i64) ((IntKind.i64.wrap z.2.2.2.1).tmod 12), .nl])
     else
      none
    else
     none
   else
    bif decide ((z.1.length : Int) > 4) then
     bif placesB z.1 1 a1 then
      bif placesB z.2.1 1 a1 then
       some (.agg [.v (.int .i64) (15 : Int), .v (.sl (.int .i64)) (placesL z.1 1 a1), .v (.sl (.int .i64)) (placesL z.2.1 1 a1), .nl, .nl, .nl, .v (.int .i64) ((IntKind.i64.wrap z.2.2.2.1).tmod 12), .nl])
      else
       none
     else
      none
    else
     bif placesB z.1 1 a1 then
      bif placesB z.2.1 1 a1 then
       some (.agg [.v (.int .i64) (15 : Int), .v (.sl (.int .i64)) (placesL z.1 1 a1), .v (.sl (.int .i64)) (placesL z.2.1 1 a1), .nl, .nl, .nl, .v (.int .i64) ((IntKind.i64.wrap z.2.2.2.1).tmod 12), .nl])
      else
       none
     else
      none
  else
   none :=
 (show callW F26k15.E false F26k15.fn k [.agg [.v (.int .u8) m, .v (.sl (.int .u8)) z.1, .v (.sl (.int .u8)) z.2.1, .v (.sl (.int .i8)) z.2.2.1, .v (.int .i16) z.2.2.2.1, .v (.int .u8) z.2.2.2.2], .v (.int .i64) a1] = F26k15.n1_1 k (F26k15.kt k [1, 1]) a1 m z.1 z.2.1 z.2.2.1 z.2.2.2.1 z.2.2.2.2 (0 : Int) (0 : Int) (IntKind.i64.wrap (1 + ((IntKind.i64.wrap m).tmod 23))) (0 : Int) by kernel_rfl).trans ((congrArg (fun x : Int => F26k15.n1_1 k (F26k15.kt k [1, 1]) a1 m z.1 z.2.1 z.2.2.1 z.2.2.2.1 z.2.2.2.2 (0 : Int) (0 : Int) x (0 : Int)) hm).trans (by kernel_rfl))
noncomputable def F26k16.fn : Func := Go.Proofs.Tryz.f34
noncomputable def F26k16.body : Code := bodyOf F26k16.fn
noncomputable def F26k16.E : Env := ⟨tt, [(62, h_shapes), (71, h_hasB), (72, h_placesL)], [(1, [1, 2, 4]), (2, [1, 2, 4, 5]), (3, [1, 2, 4, 5, 6]), (4, [1, 2, 4, 5, 6, 7]), (5, [1, 2, 4, 5, 6, 7, 28]), (6, [1, 2, 4, 5, 6, 7]), (7, [1, 2, 4, 5, 6, 7, 30]), (8, [1, 2, 4, 5, 6, 7]), (9, [1, 2, 4, 5, 6, 7, 33]), (10, [1, 2, 4, 5, 6, 7]), (11, [1, 2, 4, 5, 6, 7]), (12, [1, 2, 4, 5, 6, 7, 44]), (13, [1, 2, 4, 5, 6, 7]), (14, [1, 2, 4, 5, 6, 7, 52]), (15, [2, 4, 5, 6, 7]), (16, [2, 4, 5, 6, 7, 61]), (17, [2, 4, 5, 6, 7]), (18, [2, 4, 5, 6, 7, 69]), (19, [2, 4, 5, 6, 7]), (20, [2, 4, 5, 7, 81]), (21, [2, 4, 5, 7]), (22, [2, 4, 5, 7, 89]), (23, [2, 4, 5, 7]), (24, [2, 4, 5, 7]), (25, [2, 4, 5, 7, 103]), (26, [2, 4, 5, 7]), (27, [2, 4, 5, 7, 110]), (28, [2, 4, 5, 7]), (29, [2, 4, 5, 7, 8]), (30, [2, 4, 5, 7, 8, 9]), (31, [2, 4, 5, 7, 8, 9]), (32, [2, 4, 5, 7, 8, 9]), (33, [2, 4, 5, 7, 8]), (34, [2, 4, 5, 7, 8]), (35, [2, 4, 5, 7, 8, 10]), (36, [2, 4, 5, 7, 8, 10]), (37, [2, 4, 5, 7, 8, 10]), (38, [2, 4, 5, 7]), (39, [2, 4, 5, 7, 162]), (40, [2, 4, 5, 7, 11]), (41, [2, 4, 5, 7, 11, 12]), (42, [2, 4, 5, 7, 11, 12]), (43, [2, 4, 5, 7, 11, 12]), (44, [4, 5])], [(0, [2, 4, 5, 7, 8]), (1, [2, 4, 5, 7, 8, 9]), (2, [2, 4, 5, 7]), (3, [2, 4, 5, 7, 8, 10]), (4, [4, 5]), (5, [2, 4, 5, 7, 11, 12])], some [4], inv, []⟩
noncomputable def F26k16.K0 : Conts := { nrm := endW F26k16.E false F26k16.fn.results.toList, ret := endW F26k16.E false F26k16.fn.results.toList, ex := [] }
noncomputable def F26k16.kt (k : Nat) (q : List Nat) : Conts := contAt F26k16.E k F26k16.body F26k16.K0 q
noncomputable def F26k16.n1_1 (n : Nat) (K : Conts) (p0 p1 : Int) (p2 p3 p4 : List Int) (p5 p6 p7 p8 p9 p10 : Int) : Option AV := runC F26k16.E (loopF F26k16.E n) (subC [1,1] F26k16.body) K ⟨slots 186 [(1, .v (.int .i64) p0), (2, .pb 0 0), (4, .pb 1 0), (5, .pb 2 0)], [.box [.v (.int .u8) p1, .v (.sl (.int .u8)) p2, .v (.sl (.int .u8)) p3, .v (.sl (.int .i8)) p4, .v (.int .i16) p5, .v (.int .u8) p6], .box [.v (.int .i64) p7, .nl, .nl, .nl, .nl, .nl, .v (.int .i64) p8, .nl], .box [.v (.int .i64) p9, .nl, .nl, .nl, .nl, .nl, .v (.int .i64) p10, .nl]]⟩
theorem F26k16.start_eq (k : Nat) (m : Int) (z : (List Int) × ((List Int) × ((List Int) × (Int × Int)))) (a1 : Int) (hm : IntKind.i64.wrap (1 + ((IntKind.i64.wrap m).tmod 23)) = (16 : Int)) : callW F26k16.E false F26k16.fn k [.agg [.v (.int .u8) m, .v (.sl (.int .u8)) z.1, .v (.sl (.int .u8)) z.2.1, .v (.sl (.int .i8)) z.2.2.1, .v (.int .i16) z.2.2.2.1, .v (.int .u8) z.2.2.2.2], .v (.int .i64) a1] =
  bif decide ((16 : Int) < shapesL.length) then
   bif decide ((z.1.length : Int) < 1) then
    bif placesB z.1 1 a1 then
     bif placesB z.2.1 1 a1 then
      some (.agg [.v (.int .i64) (16 : Int), .v (.sl (.int .i64)) (placesL z.1 1 a1), .v (.sl (.int .i64)) (placesL z.2.1 1 a1), .nl, .nl, .nl, .v (.int .i64) ((IntKind.i64.wrap z.2.2.2.1).tmod 12), .nl])
     else
      none
    else
     none
   else
    bif decide ((z.1.length : Int) > 4) then
     bif placesB z.1 1 a1 then
      bif placesB z.2.1 1 a1 then
       some (.agg [.v (.int .i64) (16 : Int), .v (.sl (.int .i64)) (placesL z.1 1 a1), .v (.sl (.int .i64)) (placesL z.2.1 1 a1), .nl, .nl, .nl, .v (.int .i64) ((IntKind.i64.wrap z.2.2.2.1).tmod 12), .nl])
      else
       none
     else
      none
    else
     bif placesB z.1 1 a1 then
      bif placesB z.2.1 1 a1 then
       some (.agg [.v (.int .i64) (16 : Int), .v (.sl (.int .i64)) (placesL z.1 1 a1), .v (.sl (.int .i64)) (placesL z.2.1 1 a1), .nl, .nl, .nl, .v (.int .i64) ((IntKind.i64.wrap z.2.2.2.1).tmod 12), .nl])
      else
       none
     else
      none
  else
   none :=
 (show callW F26k16.E false F26k16.fn k [.agg [.v (.int .u8) m, .v (.sl (.int .u8)) z.1, .v (.sl (.int .u8)) z.2.1, .v (.sl (.int .i8)) z.2.2.1, .v (.int .i16) z.2.2.2.1, .v (.int .u8) z.2.2.2.2], .v (.int .i64) a1] = F26k16.n1_1 k (F26k16.kt k [1, 1]) a1 m z.1 z.2.1 z.2.2.1 z.2.2.2.1 z.2.2.2.2 (0 : Int) (0 : Int) (IntKind.i64.wrap (1 + ((IntKind.i64.wrap m).tmod 23))) (0 : Int) by kernel_rfl).trans ((congrArg (fun x : Int => F26k16.n1_1 k (F26k16.kt k [1, 1]) a1 m z.1 z.2.1 z.2.2.1 z.2.2.2.1 z.2.2.2.2 (0 : Int) (0 : Int) x (0 : Int)) hm).trans (by kernel_rfl))
noncomputable def F26k17.fn : Func := Go.Proofs.Tryz.f34
noncomputable def F26k17.body : Code := bodyOf F26k17.fn
noncomputable def F26k17.E : Env := ⟨tt, [(62, h_shapes), (71, h_hasB), (72, h_placesL)], [(1, [1, 2, 4]), (2, [1, 2, 4, 5]), (3, [1, 2, 4, 5, 6]), (4, [1, 2, 4, 5, 6, 7]), (5, [1, 2, 4, 5, 6, 7, 28]), (6, [1, 2, 4, 5, 6, 7]), (7, [1, 2, 4, 5, 6, 7, 30]), (8, [1, 2, 4, 5, 6, 7]), (9, [1, 2, 4, 5, 6, 7, 33]), (10, [1, 2, 4, 5, 6, 7]), (11, [1, 2, 4, 5, 6, 7]), (12, [1, 2, 4, 5, 6, 7, 44]), (13, [1, 2, 4, 5, 6, 7]), (14, [1, 2, 4, 5, 6, 7, 52]), (15, [2, 4, 5, 6, 7]), (16, [2, 4, 5, 6, 7, 61]), (17, [2, 4, 5, 6, 7]), (18, [2, 4, 5, 6, 7, 69]), (19, [2, 4, 5, 6, 7]), (20, [2, 4, 5, 7, 81]), (21, [2, 4, 5, 7]), (22, [2, 4, 5, 7, 89]), (23, [2, 4, 5, 7]), (24, [2, 4, 5, 7]), (25, [2, 4, 5, 7, 103]), (26, [2, 4, 5, 7]), (27, [2, 4, 5, 7, 110]), (28, [2, 4, 5, 7]), (29, [2, 4, 5, 7, 8]), (30, [2, 4, 5, 7, 8, 9]), (31, [2, 4, 5, 7, 8, 9]), (32, [2, 4, 5, 7, 8, 9]), (33, [2, 4, 5, 7, 8]), (34, [2, 4, 5, 7, 8]), (35, [2, 4, 5, 7, 8, 10]), (36, [2, 4, 5, 7, 8, 10]), (37, [2, 4, 5, 7, 8, 10]), (38, [2, 4, 5, 7]), (39, [2, 4, 5, 7, 162]), (40, [2, 4, 5, 7, 11]), (41, [2, 4, 5, 7, 11, 12]), (42, [2, 4, 5, 7, 11, 12]), (43, [2, 4, 5, 7, 11, 12]), (44, [4, 5])], [(0, [2, 4, 5, 7, 8]), (1, [2, 4, 5, 7, 8, 9]), (2, [2, 4, 5, 7]), (3, [2, 4, 5, 7, 8, 10]), (4, [4, 5]), (5, [2, 4, 5, 7, 11, 12])], some [4], inv, []⟩
noncomputable def F26k17.K0 : Conts := { nrm := endW F26k17.E false F26k17.fn.results.toList, ret := endW F26k17.E false F26k17.fn.results.toList, ex := [] }
noncomputable def F26k17.kt (k : Nat) (q : List Nat) : Conts := contAt F26k17.E k F26k17.body F26k17.K0 q
noncomputable def F26k17.n1_1 (n : Nat) (K : Conts) (p0 p1 : Int) (p2 p3 p4 : List Int) (p5 p6 p7 p8 p9 p10 : Int) : Option AV := runC F26k17.E (loopF F26k17.E n) (subC [1,1] F26k17.body) K ⟨slots 186 [(1, .v (.int .i64) p0), (2, .pb 0 0), (4, .pb 1 0), (5, .pb 2 0)], [.box [.v (.int .u8) p1, .v (.sl (.int .u8)) p2, .v (.sl (.int .u8)) p3, .v (.sl (.int .i8)) p4, .v (.int .i16) p5, .v (.int .u8) p6], .box [.v (.int .i64) p7, .nl, .nl, .nl, .nl, .nl, .v (.int .i64) p8, .nl], .box [.v (.int .i64) p9, .nl, .nl, .nl, .nl, .nl, .v (.int .i64) p10, .nl]]⟩
theorem F26k17.start_eq (k : Nat) (m : Int) (z : (List Int) × ((List Int) × ((List Int) × (Int × Int)))) (a1 : Int) (hm : IntKind.i64.wrap (1 + ((IntKind.i64.wrap m).tmod 23)) = (17 : Int)) : callW F26k17.E false F26k17.fn k [.agg [.v (.int .u8) m, .v (.sl (.int .u8)) z.1, .v (.sl (.int .u8)) z.2.1, .v (.sl (.int .i8)) z.2.2.1, .v (.int .i16) z.2.2.2.1, .v (.int .u8) z.2.2.2.2], .v (.int .i64) a1] =
  bif decide ((17 : Int) < shapesL.length) then
   bif decide ((z.1.length : Int) < 1) then
    bif placesB z.1 1 a1 then
     some (.agg [.v (.int .i64) (17 : Int), .v (.sl (.int .i64)) (placesL z.1 1 a1), .nl, .nl, .nl, .nl, .v (.int .i64) (0 : Int), .nl])
    else
     none
   else
    bif decide ((z.1.length : Int) > 4) then
     bif placesB z.1 4 a1 then
      some (.agg [.v (.int .i64) (17 : Int), .v (.sl (.int .i64)) (placesL z.1 4 a1), .nl, .nl, .nl, .nl, .v (.int .i64) (0 : Int), .nl])
     else
      none
    else
     bif placesB z.1 (z.1.length : Int) a1 then
      some (.agg [.v (.int .i64) (17 : Int), .v (.sl (.int .i64)) (placesL z.1 (z.1.length : Int) a1), .nl, .nl, .nl, .nl, .v (.int .i64) (0 : Int), .nl])
     else
      none
  else
   none :=
 (show callW F26k17.E false F26k17.fn k [.agg [.v (.int .u8) m, .v (.sl (.int .u8)) z.1, .v (.sl (.int .u8)) z.2.1, .v (.sl (.int .i8)) z.2.2.1, .v (.int .i16) z.2.2.2.1, .v (.int .u8) z.2.2.2.2], .v (.int .i64) a1] = F26k17.n1_1 k (F26k17.kt k [1, 1]) a1 m z.1 z.2.1 z.2.2.1 z.2.2.2.1 z.2.2.2.2 (0 : Int) (0 : Int) (IntKind.i64.wrap (1 + ((IntKind.i64.wrap m).tmod 23))) (0 : Int) by kernel_rfl).trans ((congrArg (fun x : Int => F26k17.n1_1 k (F26k17.kt k [1, 1]) a1 m z.1 z.2.1 z.2.2.1 z.2.2.2.1 z.2.2.2.2 (0 : Int) (0 : Int) x (0 : Int)) hm).trans (by kernel_rfl))
noncomputable def F26k18.fn : Func := Go.Proofs.Tryz.f34
noncomputable def F26k18.body : Code := bodyOf F26k18.fn
noncomputable def F26k18.E : Env := ⟨tt, [(62, h_shapes), (71, h_hasB), (72, h_placesL), (73, h_numbersL)], [(1, [1, 2, 4]), (2, [1, 2, 4, 5]), (3, [1, 2, 4, 5, 6]), (4, [1, 2, 4, 5, 6, 7]), (5, [1, 2, 4, 5, 6, 7, 28]), (6, [1, 2, 4, 5, 6, 7]), (7, [1, 2, 4, 5, 6, 7, 30]), (8, [1, 2, 4, 5, 6, 7]), (9, [1, 2, 4, 5, 6, 7, 33]), (10, [1, 2, 4, 5, 6, 7]), (11, [1, 2, 4, 5, 6, 7]), (12, [1, 2, 4, 5, 6, 7, 44]), (13, [1, 2, 4, 5, 6, 7]), (14, [1, 2, 4, 5, 6, 7, 52]), (15, [2, 4, 5, 6, 7]), (16, [2, 4, 5, 6, 7, 61]), (17, [2, 4, 5, 6, 7]), (18, [2, 4, 5, 6, 7, 69]), (19, [2, 4, 5, 6, 7]), (20, [2, 4, 5, 7, 81]), (21, [2, 4, 5, 7]), (22, [2, 4, 5, 7, 89]), (23, [2, 4, 5, 7]), (24, [2, 4, 5, 7]), (25, [2, 4, 5, 7, 103]), (26, [2, 4, 5, 7]), (27, [2, 4, 5, 7, 110]), (28, [2, 4, 5, 7]), (29, [2, 4, 5, 7, 8]), (30, [2, 4, 5, 7, 8, 9]), (31, [2, 4, 5, 7, 8, 9]), (32, [2, 4, 5, 7, 8, 9]), (33, [2, 4, 5, 7, 8]), (34, [2, 4, 5, 7, 8]), (35, [2, 4, 5, 7, 8, 10]), (36, [2, 4, 5, 7, 8, 10]), (37, [2, 4, 5, 7, 8, 10]), (38, [2, 4, 5, 7]), (39, [2, 4, 5, 7, 162]), (40, [2, 4, 5, 7, 11]), (41, [2, 4, 5, 7, 11, 12, 800290005]), (42, [2, 4, 5, 7, 11, 12]), (43, [2, 4, 5, 7, 11, 12]), (44, [4, 5])], [(0, [2, 4, 5, 7, 8]), (1, [2, 4, 5, 7, 8, 9]), (2, [2, 4, 5, 7]), (3, [2, 4, 5, 7, 8, 10]), (4, [4, 5]), (5, [2, 4, 5, 7, 11, 12])], some [4], inv, []⟩
noncomputable def F26k18.K0 : Conts := { nrm := endW F26k18.E false F26k18.fn.results.toList, ret := endW F26k18.E false F26k18.fn.results.toList, ex := [] }
noncomputable def F26k18.kt (k : Nat) (q : List Nat) : Conts := contAt F26k18.E k F26k18.body F26k18.K0 q
noncomputable def F26k18.n1_1 (n : Nat) (K : Conts) (p0 p1 : Int) (p2 p3 p4 : List Int) (p5 p6 p7 p8 p9 p10 : Int) : Option AV := runC F26k18.E (loopF F26k18.E n) (subC [1,1] F26k18.body) K ⟨slots 186 [(1, .v (.int .i64) p0), (2, .pb 0 0), (4, .pb 1 0), (5, .pb 2 0)], [.box [.v (.int .u8) p1, .v (.sl (.int .u8)) p2, .v (.sl (.int .u8)) p3, .v (.sl (.int .i8)) p4, .v (.int .i16) p5, .v (.int .u8) p6], .box [.v (.int .i64) p7, .nl, .nl, .nl, .nl, .nl, .v (.int .i64) p8, .nl], .box [.v (.int .i64) p9, .nl, .nl, .nl, .nl, .nl, .v (.int .i64) p10, .nl]]⟩
noncomputable def F26k18.l1_1_1_1_1_1_1_1_1_1_1_1_1_1_1_0_1_0_1_1_0 (n : Nat) (K : Conts) (p0 p1 p2 p3 : Int) (p4 p5 p6 : List Int) (p7 p8 p9 p10 p11 : Int) (p12 : List Int) (p13 : Int) (p14 : List (List Int)) : Option AV := loopF F26k18.E n (inLoop (subC [1,1,1,1,1,1,1,1,1,1,1,1,1,1,1,0,1,0,1,1,0] F26k18.body)) K ⟨slots 186 [(2, .pb 0 0), (4, .pb 1 0), (5, .pb 2 0), (7, .v (.int .i64) p0), (11, .v (.int .i64) p1), (12, .v (.int .i64) p2)], [.box [.v (.int .u8) p3, .v (.sl (.int .u8)) p4, .v (.sl (.int .u8)) p5, .v (.sl (.int .i8)) p6, .v (.int .i16) p7, .v (.int .u8) p8], .box [.v (.int .i64) p9, .nl, .nl, .nl, .nl, .nl, .v (.int .i64) p10, .nl], .box [.v (.int .i64) p11, .v (.sl (.int .i64)) p12, .nl, .nl, .nl, .nl, .v (.int .i64) p13, .own 3], .row 29 (.sl (.int .i64)) p14]⟩
theorem F26k18.start_eq (k : Nat) (m : Int) (z : (List Int) × ((List Int) × ((List Int) × (Int × Int)))) (a1 : Int) (hm : IntKind.i64.wrap (1 + ((IntKind.i64.wrap m).tmod 23)) = (18 : Int)) : callW F26k18.E false F26k18.fn k [.agg [.v (.int .u8) m, .v (.sl (.int .u8)) z.1, .v (.sl (.int .u8)) z.2.1, .v (.sl (.int .i8)) z.2.2.1, .v (.int .i16) z.2.2.2.1, .v (.int .u8) z.2.2.2.2], .v (.int .i64) a1] =
  bif decide ((18 : Int) < shapesL.length) then
   bif decide ((z.1.length : Int) < 1) then
    bif placesB z.1 1 a1 then
     F26k18.l1_1_1_1_1_1_1_1_1_1_1_1_1_1_1_0_1_0_1_1_0 k (F26k18.kt k [1, 1, 1, 1, 1, 1, 1, 1, 1, 1, 1, 1, 1, 1, 1, 0, 1, 0, 1, 1, 0]) 1 (IntKind.i64.wrap (1 + ((z.2.2.1.length : Int).tmod 6))) 0 m z.1 z.2.1 z.2.2.1 z.2.2.2.1 z.2.2.2.2 (0 : Int) (0 : Int) 18 (placesL z.1 1 a1) (0 : Int) []
    else
     none
   else
    bif decide ((z.1.length : Int) > 4) then
     bif placesB z.1 4 a1 then
      F26k18.l1_1_1_1_1_1_1_1_1_1_1_1_1_1_1_0_1_0_1_1_0 k (F26k18.kt k [1, 1, 1, 1, 1, 1, 1, 1, 1, 1, 1, 1, 1, 1, 1, 0, 1, 0, 1, 1, 0]) 4 (IntKind.i64.wrap (1 + ((z.2.2.1.length : Int).tmod 6))) 0 m z.1 z.2.1 z.2.2.1 z.2.2.2.1 z.2.2.2.2 (0 : Int) (0 : Int) 18 (placesL z.1 4 a1) (0 : Int) []
     else
      none
    else
     bif placesB z.1 (z.1.length : Int) a1 then
      F26k18.l1_1_1_1_1_1_1_1_1_1_1_1_1_1_1_0_1_0_1_1_0 k (F26k18.kt k [1, 1, 1, 1, 1, 1, 1, 1, 1, 1, 1, 1, 1, 1, 1, 0, 1, 0, 1, 1, 0]) (z.1.length : Int) (IntKind.i64.wrap (1 + ((z.2.2.1.length : Int).tmod 6))) 0 m z.1 z.2.1 z.2.2.1 z.2.2.2.1 z.2.2.2.2 (0 : Int) (0 : Int) 18 (placesL z.1 (z.1.length : Int) a1) (0 : Int) []
     else
      none
  else
   none :=
 (show callW F26k18.E false F26k18.fn k [.agg [.v (.int .u8) m, .v (.sl (.int .u8)) z.1, .v (.sl (.int .u8)) z.2.1, .v (.sl (.int .i8)) z.2.2.1, .v (.int .i16) z.2.2.2.1, .v (.int .u8) z.2.2.2.2], .v (.int .i64) a1] = F26k18.n1_1 k (F26k18.kt k [1, 1]) a1 m z.1 z.2.1 z.2.2.1 z.2.2.2.1 z.2.2.2.2 (0 : Int) (0 : Int) (IntKind.i64.wrap (1 + ((IntKind.i64.wrap m).tmod 23))) (0 : Int) by kernel_rfl).trans ((congrArg (fun x : Int => F26k18.n1_1 k (F26k18.kt k [1, 1]) a1 m z.1 z.2.1 z.2.2.1 z.2.2.2.1 z.2.2.2.2 (0 : Int) (0 : Int) x (0 : Int)) hm).trans (by kernel_rfl))
theorem F26k18.l1_1_1_1_1_1_1_1_1_1_1_1_1_1_1_0_1_0_1_1_0_eq (n : Nat) (K : Conts) (p0 p1 p2 p3 : Int) (p4 p5 p6 : List Int) (p7 p8 p9 p10 p11 : Int) (p12 : List Int) (p13 : Int) (p14 : List (List Int)) : F26k18.l1_1_1_1_1_1_1_1_1_1_1_1_1_1_1_0_1_0_1_1_0 (n + 1) K p0 p1 p2 p3 p4 p5 p6 p7 p8 p9 p10 p11 p12 p13 p14 =
 bif decide (p2 < p1) then
 bif numbersB p6 (IntKind.i64.wrap (p2 * p0)) p0 (-1 : Int) 4 then
 bif decide ((p14.length + [numbersL p6 (IntKind.i64.wrap (p2 * p0)) p0 (-1 : Int) 4].length) * 24 ≤ LIM) then
 F26k18.l1_1_1_1_1_1_1_1_1_1_1_1_1_1_1_0_1_0_1_1_0 n K p0 p1 (IntKind.i64.wrap (p2 + 1)) p3 p4 p5 p6 p7 p8 p9 p10 p11 p12 p13 (p14 ++ [numbersL p6 (IntKind.i64.wrap (p2 * p0)) p0 (-1 : Int) 4])
 else
 none
 else
 none
 else
 exitK K 4 ⟨slots 186 [(4, .pb 0 0), (5, .pb 1 0)], [.box [.v (.int .i64) p9, .nl, .nl, .nl, .nl, .nl, .v (.int .i64) p10, .nl], .box [.v (.int .i64) p11, .v (.sl (.int .i64)) p12, .nl, .nl, .nl, .nl, .v (.int .i64) p13, .own 2], .row 29 (.sl (.int .i64)) p14]⟩ := by kernel_rfl
theorem F26k18.c0 (k : Nat) (p0 p1 p2 : Int) (p3 : List Int) (p4 : Int) (p5 : List (List Int)) : exitK (F26k18.kt k [1,1,1,1,1,1,1,1,1,1,1,1,1,1,1,0,1,0,1,1,0]) 4 ⟨slots 186 [(4, .pb 0 0), (5, .pb 1 0)], [.box [.v (.int .i64) p0, .nl, .nl, .nl, .nl, .nl, .v (.int .i64) p1, .nl], .box [.v (.int .i64) p2, .v (.sl (.int .i64)) p3, .nl, .nl, .nl, .nl, .v (.int .i64) p4, .own 2], .row 29 (.sl (.int .i64)) p5]⟩ =
 some (.agg [.v (.int .i64) p2, .v (.sl (.int .i64)) p3, .nl, .nl, .nl, .nl, .v (.int .i64) p4, .v (.sl (.sl (.int .i64))) p5]) := by kernel_rfl
end Go.Proofs.YtlfdikofmfhefaaGreatDoor.Ev
set_option linter.unusedVariables false
set_option linter.unusedSimpArgs false
set_option maxRecDepth 100000
namespace Go.Proofs.YtlfdikofmfhefaaGreatDoor.Ev
open Go
noncomputable def F26k19.fn : Func := Go.Proofs.Tryz.f34
noncomputable def F26k19.body : Code := bodyOf F26k19.fn
noncomputable def F26k19.E : Env := ⟨tt, [(62, h_shapes), (71, h_hasB), (72, h_placesL), (73, h_numbersL)], [(1, [1, 2, 4]), (2, [1, 2, 4, 5]), (3, [1, 2, 4, 5, 6]), (4, [1, 2, 4, 5, 6, 7]), (5, [1, 2, 4, 5, 6, 7, 28]), (6, [1, 2, 4, 5, 6, 7]), (7, [1, 2, 4, 5, 6, 7, 30]), (8, [1, 2, 4, 5, 6, 7]), (9, [1, 2, 4, 5, 6, 7, 33]), (10, [1, 2, 4, 5, 6, 7]), (11, [1, 2, 4, 5, 6, 7]), (12, [1, 2, 4, 5, 6, 7, 44]), (13, [1, 2, 4, 5, 6, 7]), (14, [1, 2, 4, 5, 6, 7, 52]), (15, [2, 4, 5, 6, 7]), (16, [2, 4, 5, 6, 7, 61]), (17, [2, 4, 5, 6, 7]), (18, [2, 4, 5, 6, 7, 69]), (19, [2, 4, 5, 6, 7]), (20, [2, 4, 5, 7, 81]), (21, [2, 4, 5, 7]), (22, [2, 4, 5, 7, 89]), (23, [2, 4, 5, 7]), (24, [2, 4, 5, 7]), (25, [2, 4, 5, 7, 103]), (26, [2, 4, 5, 7]), (27, [2, 4, 5, 7, 110]), (28, [2, 4, 5, 7]), (29, [2, 4, 5, 7, 8]), (30, [2, 4, 5, 7, 8, 9]), (31, [2, 4, 5, 7, 8, 9]), (32, [2, 4, 5, 7, 8, 9]), (33, [2, 4, 5, 7, 8]), (34, [2, 4, 5, 7, 8]), (35, [2, 4, 5, 7, 8, 10]), (36, [2, 4, 5, 7, 8, 10]), (37, [2, 4, 5, 7, 8, 10]), (38, [2, 4, 5, 7]), (39, [2, 4, 5, 7, 162]), (40, [2, 4, 5, 7, 11]), (41, [2, 4, 5, 7, 11, 12]), (42, [2, 4, 5, 7, 11, 12]), (43, [2, 4, 5, 7, 11, 12]), (44, [4, 5])], [(0, [2, 4, 5, 7, 8]), (1, [2, 4, 5, 7, 8, 9]), (2, [2, 4, 5, 7]), (3, [2, 4, 5, 7, 8, 10]), (4, [4, 5]), (5, [2, 4, 5, 7, 11, 12])], some [4], inv, []⟩
noncomputable def F26k19.K0 : Conts := { nrm := endW F26k19.E false F26k19.fn.results.toList, ret := endW F26k19.E false F26k19.fn.results.toList, ex := [] }
noncomputable def F26k19.kt (k : Nat) (q : List Nat) : Conts := contAt F26k19.E k F26k19.body F26k19.K0 q
noncomputable def F26k19.n1_1 (n : Nat) (K : Conts) (p0 p1 : Int) (p2 p3 p4 : List Int) (p5 p6 p7 p8 p9 p10 : Int) : Option AV := runC F26k19.E (loopF F26k19.E n) (subC [1,1] F26k19.body) K ⟨slots 186 [(1, .v (.int .i64) p0), (2, .pb 0 0), (4, .pb 1 0), (5, .pb 2 0)], [.box [.v (.int .u8) p1, .v (.sl (.int .u8)) p2, .v (.sl (.int .u8)) p3, .v (.sl (.int .i8)) p4, .v (.int .i16) p5, .v (.int .u8) p6], .box [.v (.int .i64) p7, .nl, .nl, .nl, .nl, .nl, .v (.int .i64) p8, .nl], .box [.v (.int .i64) p9, .nl, .nl, .nl, .nl, .nl, .v (.int .i64) p10, .nl]]⟩
theorem F26k19.start_eq (k : Nat) (m : Int) (z : (List Int) × ((List Int) × ((List Int) × (Int × Int)))) (a1 : Int) (hm : IntKind.i64.wrap (1 + ((IntKind.i64.wrap m).tmod 23)) = (19 : Int)) : callW F26k19.E false F26k19.fn k [.agg [.v (.int .u8) m, .v (.sl (.int .u8)) z.1, .v (.sl (.int .u8)) z.2.1, .v (.sl (.int .i8)) z.2.2.1, .v (.int .i16) z.2.2.2.1, .v (.int .u8) z.2.2.2.2], .v (.int .i64) a1] =
  bif decide ((19 : Int) < shapesL.length) then
   bif decide ((z.1.length : Int) < 1) then
    bif placesB z.1 1 a1 then
     bif numbersB z.2.2.1 0 1 (-1 : Int) 5 then
      bif numbersB z.2.2.1 0 1 0 4 then
       bif numbersB z.2.2.1 1 1 0 4 then
        bif decide (((IntKind.i64.wrap z.2.2.2.1).tmod 12) < 0) then
         some (.agg [.v (.int .i64) (19 : Int), .v (.sl (.int .i64)) (placesL z.1 1 a1), .nl, .v (.sl (.int .i64)) (numbersL z.2.2.1 0 1 0 4), .v (.sl (.int .i64)) (numbersL z.2.2.1 1 1 0 4), .nl, .v (.int .i64) (IntKind.i64.wrap (0 - ((IntKind.i64.wrap z.2.2.2.1).tmod 12))), .nl])
        else
         some (.agg [.v (.int .i64) (19 : Int), .v (.sl (.int .i64)) (placesL z.1 1 a1), .nl, .v (.sl (.int .i64)) (numbersL z.2.2.1 0 1 0 4), .v (.sl (.int .i64)) (numbersL z.2.2.1 1 1 0 4), .nl, .v (.int .i64) ((IntKind.i64.wrap z.2.2.2.1).tmod 12), .nl])
       else
        none
      else
       none
     else
      none
    else
     none
   else
    bif decide ((z.1.length : Int) > 4) then
     bif placesB z.1 4 a1 then
      bif numbersB z.2.2.1 0 4 (-1 : Int) 5 then
       bif numbersB z.2.2.1 0 4 0 4 then
        bif numbersB z.2.2.1 4 4 0 4 then
         bif decide (((IntKind.i64.wrap z.2.2.2.1).tmod 12) < 0) then
          some (.agg [.v (.int .i64) (19 : Int), .v (.sl (.int .i64)) (placesL z.1 4 a1), .nl, .v (.sl (.int .i64)) (numbersL z.2.2.1 0 4 0 4), .v (.sl (.int .i64)) (numbersL z.2.2.1 4 4 0 4), .nl, .v (.int .i64) (IntKind.i64.wrap (0 - ((IntKind.i64.wrap z.2.2.2.1).tmod 12))), .nl])
         else
          some (.agg [.v (.int .i64) (19 : Int), .v (.sl (.int .i64)) (placesL z.1 4 a1), .nl, .v (.sl (.int .i64)) (numbersL z.2.2.1 0 4 0 4), .v (.sl (.int .i64)) (numbersL z.2.2.1 4 4 0 4), .nl, .v (.int .i64) ((IntKind.i64.wrap z.2.2.2.1).tmod 12), .nl])
        else
         none
       else
        none
      else
       none
     else
      none
    else
     bif placesB z.1 (z.1.length : Int) a1 then
      bif numbersB z.2.2.1 0 (z.1.length : Int) (-1 : Int) 5 then
       bif numbersB z.2.2.1 0 (z.1.length : Int) 0 4 then
        bif numbersB z.2.2.1 (z.1.length : Int) (z.1.length : Int) 0 4 then
         bif decide (((IntKind.i64.wrap z.2.2.2.1).tmod 12) < 0) then
          some (.agg [.v (.int .i64) (19 : Int), .v (.sl (.int .i64)) (placesL z.1 (z.1.length : Int) a1), .nl, .v (.sl (.int .i64)) (numbersL z.2.2.1 0 (z.1.length : Int) 0 4), .v (.sl (.int .i64)) (numbersL z.2.2.1 (z.1.length : Int) (z.1.length : Int) 0 4), .nl, .v (.int .i64) (IntKind.i64.wrap (0 - ((IntKind.i64.wrap z.2.2.2.1).tmod 12))), .nl])
         else
          some (.agg [.v (.int .i64) (19 : Int), .v (.sl (.int .i64)) (placesL z.1 (z.1.length : Int) a1), .nl, .v (.sl (.int .i64)) (numbersL z.2.2.1 0 (z.1.length : Int) 0 4), .v (.sl (.int .i64)) (numbersL z.2.2.1 (z.1.length : Int) (z.1.length : Int) 0 4), .nl, .v (.int .i64) ((IntKind.i64.wrap z.2.2.2.1).tmod 12), .nl])
        else
         none
       else
        none
      else
       none
     else
      none
  else
   none :=
 (show callW F26k19.E false F26k19.fn k [.agg [.v (.int .u8) m, .v (.sl (.int .u8)) z.1, .v (.sl (.int .u8)) z.2.1, .v (.sl (.int .i8)) z.2.2.1, .v (.int .i16) z.2.2.2.1, .v (.int .u8) z.2.2.2.2], .v (.int .i64) a1] = F26k19.n1_1 k (F26k19.kt k [1, 1]) a1 m z.1 z.2.1 z.2.2.1 z.2.2.2.1 z.2.2.2.2 (0 : Int) (0 : Int) (IntKind.i64.wrap (1 + ((IntKind.i64.wrap m).tmod 23))) (0 : Int) by kernel_rfl).trans ((congrArg (fun x : Int => F26k19.n1_1 k (F26k19.kt k [1, 1]) a1 m z.1 z.2.1 z.2.2.1 z.2.2.2.1 z.2.2.2.2 (0 : Int) (0 : Int) x (0 : Int)) hm).trans (by kernel_rfl))
noncomputable def F26k20.fn : Func := Go.Proofs.Tryz.f34
noncomputable def F26k20.body : Code := bodyOf F26k20.fn
noncomputable def F26k20.E : Env := ⟨tt, [(62, h_shapes), (71, h_hasB), (72, h_placesL)], [(1, [1, 2, 4]), (2, [1, 2, 4, 5]), (3, [1, 2, 4, 5, 6]), (4, [1, 2, 4, 5, 6, 7]), (5, [1, 2, 4, 5, 6, 7, 28]), (6, [1, 2, 4, 5, 6, 7]), (7, [1, 2, 4, 5, 6, 7, 30]), (8, [1, 2, 4, 5, 6, 7]), (9, [1, 2, 4, 5, 6, 7, 33]), (10, [1, 2, 4, 5, 6, 7]), (11, [1, 2, 4, 5, 6, 7]), (12, [1, 2, 4, 5, 6, 7, 44]), (13, [1, 2, 4, 5, 6, 7]), (14, [1, 2, 4, 5, 6, 7, 52]), (15, [2, 4, 5, 6, 7]), (16, [2, 4, 5, 6, 7, 61]), (17, [2, 4, 5, 6, 7]), (18, [2, 4, 5, 6, 7, 69]), (19, [2, 4, 5, 6, 7]), (20, [2, 4, 5, 7, 81]), (21, [2, 4, 5, 7]), (22, [2, 4, 5, 7, 89]), (23, [2, 4, 5, 7]), (24, [2, 4, 5, 7]), (25, [2, 4, 5, 7, 103]), (26, [2, 4, 5, 7]), (27, [2, 4, 5, 7, 110]), (28, [2, 4, 5, 7]), (29, [2, 4, 5, 7, 8]), (30, [2, 4, 5, 7, 8, 9]), (31, [2, 4, 5, 7, 8, 9]), (32, [2, 4, 5, 7, 8, 9]), (33, [2, 4, 5, 7, 8]), (34, [2, 4, 5, 7, 8]), (35, [2, 4, 5, 7, 8, 10]), (36, [2, 4, 5, 7, 8, 10]), (37, [2, 4, 5, 7, 8, 10]), (38, [2, 4, 5, 7]), (39, [2, 4, 5, 7, 162]), (40, [2, 4, 5, 7, 11]), (41, [2, 4, 5, 7, 11, 12]), (42, [2, 4, 5, 7, 11, 12]), (43, [2, 4, 5, 7, 11, 12]), (44, [4, 5])], [(0, [2, 4, 5, 7, 8]), (1, [2, 4, 5, 7, 8, 9]), (2, [2, 4, 5, 7]), (3, [2, 4, 5, 7, 8, 10]), (4, [4, 5]), (5, [2, 4, 5, 7, 11, 12])], some [4], inv, []⟩
noncomputable def F26k20.K0 : Conts := { nrm := endW F26k20.E false F26k20.fn.results.toList, ret := endW F26k20.E false F26k20.fn.results.toList, ex := [] }
noncomputable def F26k20.kt (k : Nat) (q : List Nat) : Conts := contAt F26k20.E k F26k20.body F26k20.K0 q
noncomputable def F26k20.n1_1 (n : Nat) (K : Conts) (p0 p1 : Int) (p2 p3 p4 : List Int) (p5 p6 p7 p8 p9 p10 : Int) : Option AV := runC F26k20.E (loopF F26k20.E n) (subC [1,1] F26k20.body) K ⟨slots 186 [(1, .v (.int .i64) p0), (2, .pb 0 0), (4, .pb 1 0), (5, .pb 2 0)], [.box [.v (.int .u8) p1, .v (.sl (.int .u8)) p2, .v (.sl (.int .u8)) p3, .v (.sl (.int .i8)) p4, .v (.int .i16) p5, .v (.int .u8) p6], .box [.v (.int .i64) p7, .nl, .nl, .nl, .nl, .nl, .v (.int .i64) p8, .nl], .box [.v (.int .i64) p9, .nl, .nl, .nl, .nl, .nl, .v (.int .i64) p10, .nl]]⟩
theorem F26k20.start_eq (k : Nat) (m : Int) (z : (List Int) × ((List Int) × ((List Int) × (Int × Int)))) (a1 : Int) (hm : IntKind.i64.wrap (1 + ((IntKind.i64.wrap m).tmod 23)) = (20 : Int)) : callW F26k20.E false F26k20.fn k [.agg [.v (.int .u8) m, .v (.sl (.int .u8)) z.1, .v (.sl (.int .u8)) z.2.1, .v (.sl (.int .i8)) z.2.2.1, .v (.int .i16) z.2.2.2.1, .v (.int .u8) z.2.2.2.2], .v (.int .i64) a1] =
  bif decide ((20 : Int) < shapesL.length) then
   bif decide ((z.1.length : Int) < 1) then
    bif placesB z.1 1 a1 then
     some (.agg [.v (.int .i64) (20 : Int), .v (.sl (.int .i64)) (placesL z.1 1 a1), .nl, .nl, .nl, .nl, .v (.int .i64) (0 : Int), .nl])
    else
     none
   else
    bif decide ((z.1.length : Int) > 4) then
     bif placesB z.1 4 a1 then
      some (.agg [.v (.int .i64) (20 : Int), .v (.sl (.int .i64)) (placesL z.1 4 a1), .nl, .nl, .nl, .nl, .v (.int .i64) (0 : Int), .nl])
     else
      none
    else
     bif placesB z.1 (z.1.length : Int) a1 then
      some (.agg [.v (.int .i64) (20 : Int), .v (.sl (.int .i64)) (placesL z.1 (z.1.length : Int) a1), .nl, .nl, .nl, .nl, .v (.int .i64) (0 : Int), .nl])
     else
      none
  else
   none :=
 (show callW F26k20.E false F26k20.fn k [.agg [.v (.int .u8) m, .v (.sl (.int .u8)) z.1, .v (.sl (.int .u8)) z.2.1, .v (.sl (.int .i8)) z.2.2.1, .v (.int .i16) z.2.2.2.1, .v (.int .u8) z.2.2.2.2], .v (.int .i64) a1] = F26k20.n1_1 k (F26k20.kt k [1, 1]) a1 m z.1 z.2.1 z.2.2.1 z.2.2.2.1 z.2.2.2.2 (0 : Int) (0 : Int) (IntKind.i64.wrap (1 + ((IntKind.i64.wrap m).tmod 23))) (0 : Int) by kernel_rfl).trans ((congrArg (fun x : Int => F26k20.n1_1 k (F26k20.kt k [1, 1]) a1 m z.1 z.2.1 z.2.2.1 z.2.2.2.1 z.2.2.2.2 (0 : Int) (0 : Int) x (0 : Int)) hm).trans (by kernel_rfl))
noncomputable def F26k22.fn : Func := Go.Proofs.Tryz.f34
noncomputable def F26k22.body : Code := bodyOf F26k22.fn
noncomputable def F26k22.E : Env := ⟨tt, [(62, h_shapes), (71, h_hasB), (72, h_placesL)], [(1, [1, 2, 4]), (2, [1, 2, 4, 5]), (3, [1, 2, 4, 5, 6]), (4, [1, 2, 4, 5, 6, 7]), (5, [1, 2, 4, 5, 6, 7, 28]), (6, [1, 2, 4, 5, 6, 7]), (7, [1, 2, 4, 5, 6, 7, 30]), (8, [1, 2, 4, 5, 6, 7]), (9, [1, 2, 4, 5, 6, 7, 33]), (10, [1, 2, 4, 5, 6, 7]), (11, [1, 2, 4, 5, 6, 7]), (12, [1, 2, 4, 5, 6, 7, 44]), (13, [1, 2, 4, 5, 6, 7]), (14, [1, 2, 4, 5, 6, 7, 52]), (15, [2, 4, 5, 6, 7]), (16, [2, 4, 5, 6, 7, 61]), (17, [2, 4, 5, 6, 7]), (18, [2, 4, 5, 6, 7, 69]), (19, [2, 4, 5, 6, 7]), (20, [2, 4, 5, 7, 81]), (21, [2, 4, 5, 7]), (22, [2, 4, 5, 7, 89]), (23, [2, 4, 5, 7]), (24, [2, 4, 5, 7]), (25, [2, 4, 5, 7, 103]), (26, [2, 4, 5, 7]), (27, [2, 4, 5, 7, 110]), (28, [2, 4, 5, 7]), (29, [2, 4, 5, 7, 8]), (30, [2, 4, 5, 7, 8, 9]), (31, [2, 4, 5, 7, 8, 9]), (32, [2, 4, 5, 7, 8, 9]), (33, [2, 4, 5, 7, 8]), (34, [2, 4, 5, 7, 8]), (35, [2, 4, 5, 7, 8, 10]), (36, [2, 4, 5, 7, 8, 10]), (37, [2, 4, 5, 7, 8, 10]), (38, [2, 4, 5, 7]), (39, [2, 4, 5, 7, 162]), (40, [2, 4, 5, 7, 11]), (41, [2, 4, 5, 7, 11, 12]), (42, [2, 4, 5, 7, 11, 12]), (43, [2, 4, 5, 7, 11, 12]), (44, [4, 5])], [(0, [2, 4, 5, 7, 8]), (1, [2, 4, 5, 7, 8, 9]), (2, [2, 4, 5, 7]), (3, [2, 4, 5, 7, 8, 10]), (4, [4, 5]), (5, [2, 4, 5, 7, 11, 12])], some [4], inv, []⟩
noncomputable def F26k22.K0 : Conts := { nrm := endW F26k22.E false F26k22.fn.results.toList, ret := endW F26k22.E false F26k22.fn.results.toList, ex := [] }
noncomputable def F26k22.kt (k : Nat) (q : List Nat) : Conts := contAt F26k22.E k F26k22.body F26k22.K0 q
noncomputable def F26k22.n1_1 (n : Nat) (K : Conts) (p0 p1 : Int) (p2 p3 p4 : List Int) (p5 p6 p7 p8 p9 p10 : Int) : Option AV := runC F26k22.E (loopF F26k22.E n) (subC [1,1] F26k22.body) K ⟨slots 186 [(1, .v (.int .i64) p0), (2, .pb 0 0), (4, .pb 1 0), (5, .pb 2 0)], [.box [.v (.int .u8) p1, .v (.sl (.int .u8)) p2, .v (.sl (.int .u8)) p3, .v (.sl (.int .i8)) p4, .v (.int .i16) p5, .v (.int .u8) p6], .box [.v (.int .i64) p7, .nl, .nl, .nl, .nl, .nl, .v (.int .i64) p8, .nl], .box [.v (.int .i64) p9, .nl, .nl, .nl, .nl, .nl, .v (.int .i64) p10, .nl]]⟩
theorem F26k22.start_eq (k : Nat) (m : Int) (z : (List Int) × ((List Int) × ((List Int) × (Int × Int)))) (a1 : Int) (hm : IntKind.i64.wrap (1 + ((IntKind.i64.wrap m).tmod 23)) = (22 : Int)) : callW F26k22.E false F26k22.fn k [.agg [.v (.int .u8) m, .v (.sl (.int .u8)) z.1, .v (.sl (.int .u8)) z.2.1, .v (.sl (.int .i8)) z.2.2.1, .v (.int .i16) z.2.2.2.1, .v (.int .u8) z.2.2.2.2], .v (.int .i64) a1] =
  bif decide ((22 : Int) < shapesL.length) then
   bif decide ((z.1.length : Int) < 1) then
    bif placesB z.1 1 a1 then
     bif placesB z.2.1 1 a1 then
      some (.agg [.v (.int .i64) (22 : Int), .v (.sl (.int .i64)) (placesL z.1 1 a1), .v (.sl (.int .i64)) (placesL z.2.1 1 a1), .nl, .nl, .nl, .v (.int .i64) (0 : Int), .nl])
     else
      none
    else
     none
   else
    bif decide ((z.1.length : Int) > 4) then
     bif placesB z.1 4 a1 then
      bif placesB z.2.1 4 a1 then
       some (.agg [.v (.int .i64) (22 : Int), .v (.sl (.int .i64)) (placesL z.1 4 a1), .v (.sl (.int .i64)) (placesL z.2.1 4 a1), .nl, .nl, .nl, .v (.int .i64) (0 : Int), .nl])
      else
       none
     else
      none
    else
     bif placesB z.1 (z.1.length : Int) a1 then
      bif placesB z.2.1 (z.1.length : Int) a1 then
       some (.agg [.v (.int .i64) (22 : Int), .v (.sl (.int .i64)) (placesL z.1 (z.1.length : Int) a1), .v (.sl (.int .i64)) (placesL z.2.1 (z.1.length : Int) a1), .nl, .nl, .nl, .v (.int .i64) (0 : Int), .nl])
      else
       none
     else
      none
  else
   none :=
 (show callW F26k22.E false F26k22.fn k [.agg [.v (.int .u8) m, .v (.sl (.int .u8)) z.1, .v (.sl (.int .u8)) z.2.1, .v (.sl (.int .i8)) z.2.2.1, .v (.int .i16) z.2.2.2.1, .v (.int .u8) z.2.2.2.2], .v (.int .i64) a1] = F26k22.n1_1 k (F26k22.kt k [1, 1]) a1 m z.1 z.2.1 z.2.2.1 z.2.2.2.1 z.2.2.2.2 (0 : Int) (0 : Int) (IntKind.i64.wrap (1 + ((IntKind.i64.wrap m).tmod 23))) (0 : Int) by kernel_rfl).trans ((congrArg (fun x : Int => F26k22.n1_1 k (F26k22.kt k [1, 1]) a1 m z.1 z.2.1 z.2.2.1 z.2.2.2.1 z.2.2.2.2 (0 : Int) (0 : Int) x (0 : Int)) hm).trans (by kernel_rfl))
noncomputable def F26k23.fn : Func := Go.Proofs.Tryz.f34
noncomputable def F26k23.body : Code := bodyOf F26k23.fn
noncomputable def F26k23.E : Env := ⟨tt, [(62, h_shapes), (71, h_hasB), (72, h_placesL)], [(1, [1, 2, 4]), (2, [1, 2, 4, 5]), (3, [1, 2, 4, 5, 6]), (4, [1, 2, 4, 5, 6, 7]), (5, [1, 2, 4, 5, 6, 7, 28]), (6, [1, 2, 4, 5, 6, 7]), (7, [1, 2, 4, 5, 6, 7, 30]), (8, [1, 2, 4, 5, 6, 7]), (9, [1, 2, 4, 5, 6, 7, 33]), (10, [1, 2, 4, 5, 6, 7]), (11, [1, 2, 4, 5, 6, 7]), (12, [1, 2, 4, 5, 6, 7, 44]), (13, [1, 2, 4, 5, 6, 7]), (14, [1, 2, 4, 5, 6, 7, 52]), (15, [2, 4, 5, 6, 7]), (16, [2, 4, 5, 6, 7, 61]), (17, [2, 4, 5, 6, 7]), (18, [2, 4, 5, 6, 7, 69]), (19, [2, 4, 5, 6, 7]), (20, [2, 4, 5, 7, 81]), (21, [2, 4, 5, 7]), (22, [2, 4, 5, 7, 89]), (23, [2, 4, 5, 7]), (24, [2, 4, 5, 7]), (25, [2, 4, 5, 7, 103]), (26, [2, 4, 5, 7]), (27, [2, 4, 5, 7, 110]), (28, [2, 4, 5, 7]), (29, [2, 4, 5, 7, 8]), (30, [2, 4, 5, 7, 8, 9]), (31, [2, 4, 5, 7, 8, 9]), (32, [2, 4, 5, 7, 8, 9]), (33, [2, 4, 5, 7, 8]), (34, [2, 4, 5, 7, 8]), (35, [2, 4, 5, 7, 8, 10]), (36, [2, 4, 5, 7, 8, 10]), (37, [2, 4, 5, 7, 8, 10]), (38, [2, 4, 5, 7]), (39, [2, 4, 5, 7, 162]), (40, [2, 4, 5, 7, 11]), (41, [2, 4, 5, 7, 11, 12]), (42, [2, 4, 5, 7, 11, 12]), (43, [2, 4, 5, 7, 11, 12]), (44, [4, 5])], [(0, [2, 4, 5, 7, 8]), (1, [2, 4, 5, 7, 8, 9]), (2, [2, 4, 5, 7]), (3, [2, 4, 5, 7, 8, 10]), (4, [4, 5]), (5, [2, 4, 5, 7, 11, 12])], some [4], inv, []⟩
noncomputable def F26k23.K0 : Conts := { nrm := endW F26k23.E false F26k23.fn.results.toList, ret := endW F26k23.E false F26k23.fn.results.toList, ex := [] }
noncomputable def F26k23.kt (k : Nat) (q : List Nat) : Conts := contAt F26k23.E k F26k23.body F26k23.K0 q
noncomputable def F26k23.n1_1 (n : Nat) (K : Conts) (p0 p1 : Int) (p2 p3 p4 : List Int) (p5 p6 p7 p8 p9 p10 : Int) : Option AV := runC F26k23.E (loopF F26k23.E n) (subC [1,1] F26k23.body) K ⟨slots 186 [(1, .v (.int .i64) p0), (2, .pb 0 0), (4, .pb 1 0), (5, .pb 2 0)], [.box [.v (.int .u8) p1, .v (.sl (.int .u8)) p2, .v (.sl (.int .u8)) p3, .v (.sl (.int .i8)) p4, .v (.int .i16) p5, .v (.int .u8) p6], .box [.v (.int .i64) p7, .nl, .nl, .nl, .nl, .nl, .v (.int .i64) p8, .nl], .box [.v (.int .i64) p9, .nl, .nl, .nl, .nl, .nl, .v (.int .i64) p10, .nl]]⟩
theorem F26k23.start_eq (k : Nat) (m : Int) (z : (List Int) × ((List Int) × ((List Int) × (Int × Int)))) (a1 : Int) (hm : IntKind.i64.wrap (1 + ((IntKind.i64.wrap m).tmod 23)) = (23 : Int)) : callW F26k23.E false F26k23.fn k [.agg [.v (.int .u8) m, .v (.sl (.int .u8)) z.1, .v (.sl (.int .u8)) z.2.1, .v (.sl (.int .i8)) z.2.2.1, .v (.int .i16) z.2.2.2.1, .v (.int .u8) z.2.2.2.2], .v (.int .i64) a1] =
  bif decide ((23 : Int) < shapesL.length) then
   bif decide ((z.1.length : Int) < 1) then
    bif placesB z.1 1 a1 then
     bif placesB z.2.1 1 a1 then
      some (.agg [.v (.int .i64) (23 : Int), .v (.sl (.int .i64)) (placesL z.1 1 a1), .v (.sl (.int .i64)) (placesL z.2.1 1 a1), .nl, .nl, .nl, .v (.int .i64) (0 : Int), .nl])
     else
      none
    else
     none
   else
    bif decide ((z.1.length : Int) > 4) then
     bif placesB z.1 4 a1 then
      bif placesB z.2.1 4 a1 then
       some (.agg [.v (.int .i64) (23 : Int), .v (.sl (.int .i64)) (placesL z.1 4 a1), .v (.sl (.int .i64)) (placesL z.2.1 4 a1), .nl, .nl, .nl, .v (.int .i64) (0 : Int), .nl])
      else
       none
     else
      none
    else
     bif placesB z.1 (z.1.length : Int) a1 then
      bif placesB z.2.1 (z.1.length : Int) a1 then
       some (.agg [.v (.int .i64) (23 : Int), .v (.sl (.int .i64)) (placesL z.1 (z.1.length : Int) a1), .v (.sl (.int .i64)) (placesL z.2.1 (z.1.length : Int) a1), .nl, .nl, .nl, .v (.int .i64) (0 : Int), .nl])
      else
       none
     else
      none
  else
   none :=
 (show callW F26k23.E false F26k23.fn k [.agg [.v (.int .u8) m, .v (.sl (.int .u8)) z.1, .v (.sl (.int .u8)) z.2.1, .v (.sl (.int .i8)) z.2.2.1, .v (.int .i16) z.2.2.2.1, .v (.int .u8) z.2.2.2.2], .v (.int .i64) a1] = F26k23.n1_1 k (F26k23.kt k [1, 1]) a1 m z.1 z.2.1 z.2.2.1 z.2.2.2.1 z.2.2.2.2 (0 : Int) (0 : Int) (IntKind.i64.wrap (1 + ((IntKind.i64.wrap m).tmod 23))) (0 : Int) by kernel_rfl).trans ((congrArg (fun x : Int => F26k23.n1_1 k (F26k23.kt k [1, 1]) a1 m z.1 z.2.1 z.2.2.1 z.2.2.2.1 z.2.2.2.2 (0 : Int) (0 : Int) x (0 : Int)) hm).trans (by kernel_rfl))
end Go.Proofs.YtlfdikofmfhefaaGreatDoor.Ev
set_option linter.unusedVariables false
set_option linter.unusedSimpArgs false
set_option maxRecDepth 100000
namespace Go.Proofs.YtlfdikofmfhefaaGreatDoor.Ev
open Go
end Go.Proofs.YtlfdikofmfhefaaGreatDoor.Ev
set_option linter.unusedVariables false
set_option linter.unusedSimpArgs false
set_option maxRecDepth 100000
namespace Go.Proofs.YtlfdikofmfhefaaGreatDoor.Ev
open Go
noncomputable def F26k21.fn : Func := Go.Proofs.Tryz.f34
noncomputable def F26k21.body : Code := bodyOf F26k21.fn
noncomputable def F26k21.E : Env := ⟨tt, [(62, h_shapes), (71, h_hasB), (72, h_placesL), (73, h_numbersL)], [(1, [1, 2, 4]), (2, [1, 2, 4, 5]), (3, [1, 2, 4, 5, 6]), (4, [1, 2, 4, 5, 6, 7]), (5, [1, 2, 4, 5, 6, 7, 28]), (6, [1, 2, 4, 5, 6, 7]), (7, [1, 2, 4, 5, 6, 7, 30]), (8, [1, 2, 4, 5, 6, 7]), (9, [1, 2, 4, 5, 6, 7, 33]), (10, [1, 2, 4, 5, 6, 7]), (11, [1, 2, 4, 5, 6, 7]), (12, [1, 2, 4, 5, 6, 7, 44]), (13, [1, 2, 4, 5, 6, 7]), (14, [1, 2, 4, 5, 6, 7, 52]), (15, [2, 4, 5, 6, 7]), (16, [2, 4, 5, 6, 7, 61]), (17, [2, 4, 5, 6, 7]), (18, [2, 4, 5, 6, 7, 69]), (19, [2, 4, 5, 6, 7]), (20, [2, 4, 5, 7, 81]), (21, [2, 4, 5, 7]), (22, [2, 4, 5, 7, 89]), (23, [2, 4, 5, 7]), (24, [2, 4, 5, 7]), (25, [2, 4, 5, 7, 103]), (26, [2, 4, 5, 7]), (27, [2, 4, 5, 7, 110]), (28, [2, 4, 5, 7]), (29, [2, 4, 5, 7, 8]), (30, [2, 4, 5, 7, 8, 9, 400030005]), (31, [2, 4, 5, 7, 8, 9]), (32, [2, 4, 5, 7, 8, 9]), (33, [2, 4, 5, 7, 8]), (34, [2, 4, 5, 7, 8]), (35, [2, 4, 5, 7, 8, 10, 600030005]), (36, [2, 4, 5, 7, 8, 10]), (37, [2, 4, 5, 7, 8, 10]), (38, [2, 4, 5, 7]), (39, [2, 4, 5, 7, 162]), (40, [2, 4, 5, 7, 11]), (41, [2, 4, 5, 7, 11, 12, 800290005]), (42, [2, 4, 5, 7, 11, 12]), (43, [2, 4, 5, 7, 11, 12]), (44, [4, 5])], [(0, [2, 4, 5, 7, 8]), (1, [2, 4, 5, 7, 8, 9]), (2, [2, 4, 5, 7]), (3, [2, 4, 5, 7, 8, 10]), (4, [4, 5]), (5, [2, 4, 5, 7, 11, 12])], some [4], inv, []⟩
noncomputable def F26k21.K0 : Conts := { nrm := endW F26k21.E false F26k21.fn.results.toList, ret := endW F26k21.E false F26k21.fn.results.toList, ex := [] }
noncomputable def F26k21.kt (k : Nat) (q : List Nat) : Conts := contAt F26k21.E k F26k21.body F26k21.K0 q
noncomputable def F26k21.n1_1 (n : Nat) (K : Conts) (p0 p1 : Int) (p2 p3 p4 : List Int) (p5 p6 p7 p8 p9 p10 : Int) : Option AV := runC F26k21.E (loopF F26k21.E n) (subC [1,1] F26k21.body) K ⟨slots 186 [(1, .v (.int .i64) p0), (2, .pb 0 0), (4, .pb 1 0), (5, .pb 2 0)], [.box [.v (.int .u8) p1, .v (.sl (.int .u8)) p2, .v (.sl (.int .u8)) p3, .v (.sl (.int .i8)) p4, .v (.int .i16) p5, .v (.int .u8) p6], .box [.v (.int .i64) p7, .nl, .nl, .nl, .nl, .nl, .v (.int .i64) p8, .nl], .box [.v (.int .i64) p9, .nl, .nl, .nl, .nl, .nl, .v (.int .i64) p10, .nl]]⟩
noncomputable def F26k21.l1_1_1_1_1_1_1_1_1_1_1_1_1_1_0_1_0_1_1_0_1_0 (n : Nat) (K : Conts) (p0 p1 p2 p3 : Int) (p4 p5 p6 : List Int) (p7 p8 p9 p10 p11 : Int) (p12 : List Int) (p13 : Int) (p14 : List Int) : Option AV := loopF F26k21.E n (inLoop (subC [1,1,1,1,1,1,1,1,1,1,1,1,1,1,0,1,0,1,1,0,1,0] F26k21.body)) K ⟨slots 186 [(2, .pb 0 0), (4, .pb 1 0), (5, .pb 2 0), (7, .v (.int .i64) p0), (8, .v (.int .i64) p1), (9, .v (.int .i64) p2)], [.box [.v (.int .u8) p3, .v (.sl (.int .u8)) p4, .v (.sl (.int .u8)) p5, .v (.sl (.int .i8)) p6, .v (.int .i16) p7, .v (.int .u8) p8], .box [.v (.int .i64) p9, .nl, .nl, .nl, .nl, .nl, .v (.int .i64) p10, .nl], .box [.v (.int .i64) p11, .v (.sl (.int .i64)) p12, .nl, .own 3, .nl, .nl, .v (.int .i64) p13, .nl], .row 3 (.int .i64) p14]⟩
noncomputable def F26k21.l1_1_1_1_1_1_1_1_1_1_1_1_1_1_0_1_0_1_1_1_1_1_0 (n : Nat) (K : Conts) (p0 p1 p2 p3 : Int) (p4 p5 p6 : List Int) (p7 p8 p9 p10 p11 : Int) (p12 p13 : List Int) (p14 : Int) (p15 p16 : List Int) : Option AV := loopF F26k21.E n (inLoop (subC [1,1,1,1,1,1,1,1,1,1,1,1,1,1,0,1,0,1,1,1,1,1,0] F26k21.body)) K ⟨slots 186 [(2, .pb 0 0), (4, .pb 1 0), (5, .pb 2 0), (7, .v (.int .i64) p0), (8, .v (.int .i64) p1), (10, .v (.int .i64) p2)], [.box [.v (.int .u8) p3, .v (.sl (.int .u8)) p4, .v (.sl (.int .u8)) p5, .v (.sl (.int .i8)) p6, .v (.int .i16) p7, .v (.int .u8) p8], .box [.v (.int .i64) p9, .nl, .nl, .nl, .nl, .nl, .v (.int .i64) p10, .nl], .box [.v (.int .i64) p11, .v (.sl (.int .i64)) p12, .nl, .own 3, .v (.sl (.int .i64)) p13, .own 4, .v (.int .i64) p14, .nl], .row 3 (.int .i64) p15, .row 3 (.int .i64) p16]⟩
noncomputable def F26k21.l1_1_1_1_1_1_1_1_1_1_1_1_1_1_1_0_1_0_1_1_0 (n : Nat) (K : Conts) (p0 p1 p2 p3 : Int) (p4 p5 p6 : List Int) (p7 p8 p9 p10 p11 : Int) (p12 p13 : List Int) (p14 : Int) (p15 p16 : List Int) (p17 : List (List Int)) : Option AV := loopF F26k21.E n (inLoop (subC [1,1,1,1,1,1,1,1,1,1,1,1,1,1,1,0,1,0,1,1,0] F26k21.body)) K ⟨slots 186 [(2, .pb 0 0), (4, .pb 1 0), (5, .pb 2 0), (7, .v (.int .i64) p0), (11, .v (.int .i64) p1), (12, .v (.int .i64) p2)], [.box [.v (.int .u8) p3, .v (.sl (.int .u8)) p4, .v (.sl (.int .u8)) p5, .v (.sl (.int .i8)) p6, .v (.int .i16) p7, .v (.int .u8) p8], .box [.v (.int .i64) p9, .nl, .nl, .nl, .nl, .nl, .v (.int .i64) p10, .nl], .box [.v (.int .i64) p11, .v (.sl (.int .i64)) p12, .nl, .own 3, .v (.sl (.int .i64)) p13, .own 4, .v (.int .i64) p14, .own 5], .row 3 (.int .i64) p15, .row 3 (.int .i64) p16, .row 29 (.sl (.int .i64)) p17]⟩
theorem F26k21.start_eq (k : Nat) (m : Int) (z : (List Int) × ((List Int) × ((List Int) × (Int × Int)))) (a1 : Int) (hm : IntKind.i64.wrap (1 + ((IntKind.i64.wrap m).tmod 23)) = (21 : Int)) : callW F26k21.E false F26k21.fn k [.agg [.v (.int .u8) m, .v (.sl (.int .u8)) z.1, .v (.sl (.int .u8)) z.2.1, .v (.sl (.int .i8)) z.2.2.1, .v (.int .i16) z.2.2.2.1, .v (.int .u8) z.2.2.2.2], .v (.int .i64) a1] =
  bif decide ((21 : Int) < shapesL.length) then
   bif decide ((z.1.length : Int) < 1) then
    bif placesB z.1 1 a1 then
     bif numbersB z.2.2.1 0 1 (-1 : Int) 5 then
      F26k21.l1_1_1_1_1_1_1_1_1_1_1_1_1_1_0_1_0_1_1_0_1_0 k (F26k21.kt k [1, 1, 1, 1, 1, 1, 1, 1, 1, 1, 1, 1, 1, 1, 0, 1, 0, 1, 1, 0, 1, 0]) 1 (IntKind.i64.wrap (1 + ((z.2.2.1.length : Int).tmod 3))) 0 m z.1 z.2.1 z.2.2.1 z.2.2.2.1 z.2.2.2.2 (0 : Int) (0 : Int) 21 (placesL z.1 1 a1) (0 : Int) []
     else
      none
    else
     none
   else
    bif decide ((z.1.length : Int) > 4) then
     bif placesB z.1 4 a1 then
      bif numbersB z.2.2.1 0 4 (-1 : Int) 5 then
       F26k21.l1_1_1_1_1_1_1_1_1_1_1_1_1_1_0_1_0_1_1_0_1_0 k (F26k21.kt k [1, 1, 1, 1, 1, 1, 1, 1, 1, 1, 1, 1, 1, 1, 0, 1, 0, 1, 1, 0, 1, 0]) 4 (IntKind.i64.wrap (1 + ((z.2.2.1.length : Int).tmod 3))) 0 m z.1 z.2.1 z.2.2.1 z.2.2.2.1 z.2.2.2.2 (0 : Int) (0 : Int) 21 (placesL z.1 4 a1) (0 : Int) []
      else
       none
     else
      none
    else
     bif placesB z.1 (z.1.length : Int) a1 then
      bif numbersB z.2.2.1 0 (z.1.length : Int) (-1 : Int) 5 then
       F26k21.l1_1_1_1_1_1_1_1_1_1_1_1_1_1_0_1_0_1_1_0_1_0 k (F26k21.kt k [1, 1, 1, 1, 1, 1, 1, 1, 1, 1, 1, 1, 1, 1, 0, 1, 0, 1, 1, 0, 1, 0]) (z.1.length : Int) (IntKind.i64.wrap (1 + ((z.2.2.1.length : Int).tmod 3))) 0 m z.1 z.2.1 z.2.2.1 z.2.2.2.1 z.2.2.2.2 (0 : Int) (0 : Int) 21 (placesL z.1 (z.1.length : Int) a1) (0 : Int) []
      else
       none
     else
      none
  else
   none :=
 (show callW F26k21.E false F26k21.fn k [.agg [.v (.int .u8) m, .v (.sl (.int .u8)) z.1, .v (.sl (.int .u8)) z.2.1, .v (.sl (.int .i8)) z.2.2.1, .v (.int .i16) z.2.2.2.1, .v (.int .u8) z.2.2.2.2], .v (.int .i64) a1] = F26k21.n1_1 k (F26k21.kt k [1, 1]) a1 m z.1 z.2.1 z.2.2.1 z.2.2.2.1 z.2.2.2.2 (0 : Int) (0 : Int) (IntKind.i64.wrap (1 + ((IntKind.i64.wrap m).tmod 23))) (0 : Int) by kernel_rfl).trans ((congrArg (fun x : Int => F26k21.n1_1 k (F26k21.kt k [1, 1]) a1 m z.1 z.2.1 z.2.2.1 z.2.2.2.1 z.2.2.2.2 (0 : Int) (0 : Int) x (0 : Int)) hm).trans (by kernel_rfl))
theorem F26k21.l1_1_1_1_1_1_1_1_1_1_1_1_1_1_0_1_0_1_1_0_1_0_eq (n : Nat) (K : Conts) (p0 p1 p2 p3 : Int) (p4 p5 p6 : List Int) (p7 p8 p9 p10 p11 : Int) (p12 : List Int) (p13 : Int) (p14 : List Int) : F26k21.l1_1_1_1_1_1_1_1_1_1_1_1_1_1_0_1_0_1_1_0_1_0 (n + 1) K p0 p1 p2 p3 p4 p5 p6 p7 p8 p9 p10 p11 p12 p13 p14 =
 bif decide (p2 < p1) then
 bif decide ((p14.length + [IntKind.i64.wrap (((IntKind.i64.wrap p7).tmod 3) + p2)].length) * 8 ≤ LIM) then
 F26k21.l1_1_1_1_1_1_1_1_1_1_1_1_1_1_0_1_0_1_1_0_1_0 n K p0 p1 (IntKind.i64.wrap (p2 + 1)) p3 p4 p5 p6 p7 p8 p9 p10 p11 p12 p13 (p14 ++ [IntKind.i64.wrap (((IntKind.i64.wrap p7).tmod 3) + p2)])
 else
 none
 else
 exitK K 0 ⟨slots 186 [(2, .pb 0 0), (4, .pb 1 0), (5, .pb 2 0), (7, .v (.int .i64) p0), (8, .v (.int .i64) p1)], [.box [.v (.int .u8) p3, .v (.sl (.int .u8)) p4, .v (.sl (.int .u8)) p5, .v (.sl (.int .i8)) p6, .v (.int .i16) p7, .v (.int .u8) p8], .box [.v (.int .i64) p9, .nl, .nl, .nl, .nl, .nl, .v (.int .i64) p10, .nl], .box [.v (.int .i64) p11, .v (.sl (.int .i64)) p12, .nl, .own 3, .nl, .nl, .v (.int .i64) p13, .nl], .row 3 (.int .i64) p14]⟩ := by kernel_rfl
theorem F26k21.c0 (k : Nat) (p0 p1 p2 : Int) (p3 p4 p5 : List Int) (p6 p7 p8 p9 p10 : Int) (p11 : List Int) (p12 : Int) (p13 : List Int) : exitK (F26k21.kt k [1,1,1,1,1,1,1,1,1,1,1,1,1,1,0,1,0,1,1,0,1,0]) 0 ⟨slots 186 [(2, .pb 0 0), (4, .pb 1 0), (5, .pb 2 0), (7, .v (.int .i64) p0), (8, .v (.int .i64) p1)], [.box [.v (.int .u8) p2, .v (.sl (.int .u8)) p3, .v (.sl (.int .u8)) p4, .v (.sl (.int .i8)) p5, .v (.int .i16) p6, .v (.int .u8) p7], .box [.v (.int .i64) p8, .nl, .nl, .nl, .nl, .nl, .v (.int .i64) p9, .nl], .box [.v (.int .i64) p10, .v (.sl (.int .i64)) p11, .nl, .own 3, .nl, .nl, .v (.int .i64) p12, .nl], .row 3 (.int .i64) p13]⟩ =
 bif numbersB p5 0 p1 0 2 then
 F26k21.l1_1_1_1_1_1_1_1_1_1_1_1_1_1_0_1_0_1_1_1_1_1_0 k (F26k21.kt k [1,1,1,1,1,1,1,1,1,1,1,1,1,1,0,1,0,1,1,1,1,1,0]) p0 p1 0 p2 p3 p4 p5 p6 p7 p8 p9 p10 p11 (numbersL p5 0 p1 0 2) p12 p13 []
 else
 none := by kernel_rfl
theorem F26k21.l1_1_1_1_1_1_1_1_1_1_1_1_1_1_0_1_0_1_1_1_1_1_0_eq (n : Nat) (K : Conts) (p0 p1 p2 p3 : Int) (p4 p5 p6 : List Int) (p7 p8 p9 p10 p11 : Int) (p12 p13 : List Int) (p14 : Int) (p15 p16 : List Int) : F26k21.l1_1_1_1_1_1_1_1_1_1_1_1_1_1_0_1_0_1_1_1_1_1_0 (n + 1) K p0 p1 p2 p3 p4 p5 p6 p7 p8 p9 p10 p11 p12 p13 p14 p15 p16 =
 bif decide (p2 < p1) then
 bif decide (0 ≤ p2) && decide (p2 < p13.length) then
 bif decide (0 ≤ p2) then
 bif decide ((p16.length + [IntKind.i64.wrap ((p13.getD p2.toNat (0 : Int)) + ((shrW .i64 (IntKind.i64.wrap p8) p2).tmod 3))].length) * 8 ≤ LIM) then
 F26k21.l1_1_1_1_1_1_1_1_1_1_1_1_1_1_0_1_0_1_1_1_1_1_0 n K p0 p1 (IntKind.i64.wrap (p2 + 1)) p3 p4 p5 p6 p7 p8 p9 p10 p11 p12 p13 p14 p15 (p16 ++ [IntKind.i64.wrap ((p13.getD p2.toNat (0 : Int)) + ((shrW .i64 (IntKind.i64.wrap p8) p2).tmod 3))])
 else
 none
 else
 none
 else
 none
 else
 exitK K 2 ⟨slots 186 [(2, .pb 0 0), (4, .pb 1 0), (5, .pb 2 0), (7, .v (.int .i64) p0)], [.box [.v (.int .u8) p3, .v (.sl (.int .u8)) p4, .v (.sl (.int .u8)) p5, .v (.sl (.int .i8)) p6, .v (.int .i16) p7, .v (.int .u8) p8], .box [.v (.int .i64) p9, .nl, .nl, .nl, .nl, .nl, .v (.int .i64) p10, .nl], .box [.v (.int .i64) p11, .v (.sl (.int .i64)) p12, .nl, .own 3, .v (.sl (.int .i64)) p13, .own 4, .v (.int .i64) p14, .nl], .row 3 (.int .i64) p15, .row 3 (.int .i64) p16]⟩ := by kernel_rfl
theorem F26k21.c1 (k : Nat) (p0 p1 : Int) (p2 p3 p4 : List Int) (p5 p6 p7 p8 p9 : Int) (p10 p11 : List Int) (p12 : Int) (p13 p14 : List Int) : exitK (F26k21.kt k [1,1,1,1,1,1,1,1,1,1,1,1,1,1,0,1,0,1,1,1,1,1,0]) 2 ⟨slots 186 [(2, .pb 0 0), (4, .pb 1 0), (5, .pb 2 0), (7, .v (.int .i64) p0)], [.box [.v (.int .u8) p1, .v (.sl (.int .u8)) p2, .v (.sl (.int .u8)) p3, .v (.sl (.int .i8)) p4, .v (.int .i16) p5, .v (.int .u8) p6], .box [.v (.int .i64) p7, .nl, .nl, .nl, .nl, .nl, .v (.int .i64) p8, .nl], .box [.v (.int .i64) p9, .v (.sl (.int .i64)) p10, .nl, .own 3, .v (.sl (.int .i64)) p11, .own 4, .v (.int .i64) p12, .nl], .row 3 (.int .i64) p13, .row 3 (.int .i64) p14]⟩ =
 bif decide (p9 = 18) then
 F26k21.l1_1_1_1_1_1_1_1_1_1_1_1_1_1_1_0_1_0_1_1_0 k (F26k21.kt k [1,1,1,1,1,1,1,1,1,1,1,1,1,1,1,0,1,0,1,1,0]) p0 (IntKind.i64.wrap (1 + ((p4.length : Int).tmod 6))) 0 p1 p2 p3 p4 p5 p6 p7 p8 p9 p10 p11 p12 p13 p14 []
 else
 some (.agg [.v (.int .i64) p9, .v (.sl (.int .i64)) p10, .nl, .v (.sl (.int .i64)) p13, .v (.sl (.int .i64)) p11, .v (.sl (.int .i64)) p14, .v (.int .i64) p12, .nl]) := by kernel_rfl
end Go.Proofs.YtlfdikofmfhefaaGreatDoor.Ev
