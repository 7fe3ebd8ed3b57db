/-
The functions as the evaluator runs them: printed by a program of mine, each equation by kernel_rfl.
Conditions: none.
The functions as the evaluator runs them: printed by a program of mine, each equation by kernel_rfl.
Conditions: none.
-/
import Derived.Test.YtlfdikofmfhefaaGreatDoorAa
set_option linter.unusedVariables false
set_option linter.unusedSimpArgs false
set_option maxRecDepth 100000
namespace Go.Proofs.YtlfdikofmfhefaaGreatDoor.Ev
open Go
noncomputable def F26k1.fn : Func := Go.Proofs.Tryz.f34
noncomputable def F26k1.body : Code := bodyOf F26k1.fn
noncomputable def F26k1.E : Env := ⟨tt, [(62, h_shapes), (71, h_hasB), (72, h_placesL), (73, h_numbersL)], [(1, [1, 2, 4]), (2, [1, 2, 4, 5]), (3, [1, 2, 4, 5, 6]), (4, [1, 2, 4, 5, 6, 7]), (5, [1, 2, 4, 5, 6, 7, 28]), (6, [1, 2, 4, 5, 6, 7]), (7, [1, 2, 4, 5, 6, 7, 30]), (8, [1, 2, 4, 5, 6, 7]), (9, [1, 2, 4, 5, 6, 7, 33]), (10, [1, 2, 4, 5, 6, 7]), (11, [1, 2, 4, 5, 6, 7]), (12, [1, 2, 4, 5, 6, 7, 44]), (13, [1, 2, 4, 5, 6, 7]), (14, [1, 2, 4, 5, 6, 7, 52]), (15, [2, 4, 5, 6, 7]), (16, [2, 4, 5, 6, 7, 61]), (17, [2, 4, 5, 6, 7]), (18, [2, 4, 5, 6, 7, 69]), (19, [2, 4, 5, 6, 7]), (20, [2, 4, 5, 7, 81]), (21, [2, 4, 5, 7]), (22, [2, 4, 5, 7, 89]), (23, [2, 4, 5, 7]), (24, [2, 4, 5, 7]), (25, [2, 4, 5, 7, 103]), (26, [2, 4, 5, 7]), (27, [2, 4, 5, 7, 110]), (28, [2, 4, 5, 7]), (29, [2, 4, 5, 7, 8]), (30, [2, 4, 5, 7, 8, 9]), (31, [2, 4, 5, 7, 8, 9]), (32, [2, 4, 5, 7, 8, 9]), (33, [2, 4, 5, 7, 8]), (34, [2, 4, 5, 7, 8]), (35, [2, 4, 5, 7, 8, 10]), (36, [2, 4, 5, 7, 8, 10]), (37, [2, 4, 5, 7, 8, 10]), (38, [2, 4, 5, 7]), (39, [2, 4, 5, 7, 162]), (40, [2, 4, 5, 7, 11]), (41, [2, 4, 5, 7, 11, 12]), (42, [2, 4, 5, 7, 11, 12]), (43, [2, 4, 5, 7, 11, 12]), (44, [4, 5])], [(0, [2, 4, 5, 7, 8]), (1, [2, 4, 5, 7, 8, 9]), (2, [2, 4, 5, 7]), (3, [2, 4, 5, 7, 8, 10]), (4, [4, 5]), (5, [2, 4, 5, 7, 11, 12])], some [4], inv, []⟩
noncomputable def F26k1.K0 : Conts := { nrm := endW F26k1.E false F26k1.fn.results.toList, ret := endW F26k1.E false F26k1.fn.results.toList, ex := [] }
noncomputable def F26k1.kt (k : Nat) (q : List Nat) : Conts := contAt F26k1.E k F26k1.body F26k1.K0 q
noncomputable def F26k1.n1_1 (n : Nat) (K : Conts) (p0 p1 : Int) (p2 p3 p4 : List Int) (p5 p6 p7 p8 p9 p10 : Int) : Option AV := runC F26k1.E (loopF F26k1.E n) (subC [1,1] F26k1.body) K ⟨slots 186 [(1, .v (.int .i64) p0), (2, .pb 0 0), (4, .pb 1 0), (5, .pb 2 0)], [.box [.v (.int .u8) p1, .v (.sl (.int .u8)) p2, .v (.sl (.int .u8)) p3, .v (.sl (.int .i8)) p4, .v (.int .i16) p5, .v (.int .u8) p6], .box [.v (.int .i64) p7, .nl, .nl, .nl, .nl, .nl, .v (.int .i64) p8, .nl], .box [.v (.int .i64) p9, .nl, .nl, .nl, .nl, .nl, .v (.int .i64) p10, .nl]]⟩
theorem F26k1.start_eq (k : Nat) (m : Int) (z : (List Int) × ((List Int) × ((List Int) × (Int × Int)))) (a1 : Int) (hm : IntKind.i64.wrap (1 + ((IntKind.i64.wrap m).tmod 23)) = (1 : Int)) : callW F26k1.E false F26k1.fn k [.agg [.v (.int .u8) m, .v (.sl (.int .u8)) z.1, .v (.sl (.int .u8)) z.2.1, .v (.sl (.int .i8)) z.2.2.1, .v (.int .i16) z.2.2.2.1, .v (.int .u8) z.2.2.2.2], .v (.int .i64) a1] =
  bif decide ((1 : Int) < shapesL.length) then
   bif decide ((z.1.length : Int) < 1) then
    bif placesB z.1 1 a1 then
     bif numbersB z.2.2.1 0 1 (-1 : Int) 5 then
      some (.agg [.v (.int .i64) (1 : Int), .v (.sl (.int .i64)) (placesL z.1 1 a1), .nl, .v (.sl (.int .i64)) (numbersL z.2.2.1 0 1 (-1 : Int) 5), .nl, .nl, .v (.int .i64) ((IntKind.i64.wrap z.2.2.2.1).tmod 12), .nl])
     else
      none
    else
     none
   else
    bif decide ((z.1.length : Int) > 4) then
     bif placesB z.1 4 a1 then
      bif numbersB z.2.2.1 0 4 (-1 : Int) 5 then
       some (.agg [.v (.int .i64) (1 : Int), .v (.sl (.int .i64)) (placesL z.1 4 a1), .nl, .v (.sl (.int .i64)) (numbersL z.2.2.1 0 4 (-1 : Int) 5), .nl, .nl, .v (.int .i64) ((IntKind.i64.wrap z.2.2.2.1).tmod 12), .nl])
      else
       none
     else
      none
    else
     bif placesB z.1 (z.1.length : Int) a1 then
      bif numbersB z.2.2.1 0 (z.1.length : Int) (-1 : Int) 5 then
       some (.agg [.v (.int .i64) (1 : Int), .v (.sl (.int .i64)) (placesL z.1 (z.1.length : Int) a1), .nl, .v (.sl (.int .i64)) (numbersL z.2.2.1 0 (z.1.length : Int) (-1 : Int) 5), .nl, .nl, .v (.int .i64) ((IntKind.i64.wrap z.2.2.2.1).tmod 12), .nl])
      else
       none
     else
      none
  else
   none :=
 (show callW F26k1.E false F26k1.fn k [.agg [.v (.int .u8) m, .v (.sl (.int .u8)) z.1, .v (.sl (.int .u8)) z.2.1, .v (.sl (.int .i8)) z.2.2.1, .v (.int .i16) z.2.2.2.1, .v (.int .u8) z.2.2.2.2], .v (.int .i64) a1] = F26k1.n1_1 k (F26k1.kt k [1, 1]) a1 m z.1 z.2.1 z.2.2.1 z.2.2.2.1 z.2.2.2.2 (0 : Int) (0 : Int) (IntKind.i64.wrap (1 + ((IntKind.i64.wrap m).tmod 23))) (0 : Int) by kernel_rfl).trans ((congrArg (fun x : Int => F26k1.n1_1 k (F26k1.kt k [1, 1]) a1 m z.1 z.2.1 z.2.2.1 z.2.2.2.1 z.2.2.2.2 (0 : Int) (0 : Int) x (0 : Int)) hm).trans (by kernel_rfl))
noncomputable def F26k2.fn : Func := Go.Proofs.Tryz.f34
noncomputable def F26k2.body : Code := bodyOf F26k2.fn
noncomputable def F26k2.E : Env := ⟨tt, [(62, h_shapes), (71, h_hasB), (72, h_placesL), (73, h_numbersL)], [(1, [1, 2, 4]), (2, [1, 2, 4, 5]), (3, [1, 2, 4, 5, 6]), (4, [1, 2, 4, 5, 6, 7]), (5, [1, 2, 4, 5, 6, 7, 28]), (6, [1, 2, 4, 5, 6, 7]), (7, [1, 2, 4, 5, 6, 7, 30]), (8, [1, 2, 4, 5, 6, 7]), (9, [1, 2, 4, 5, 6, 7, 33]), (10, [1, 2, 4, 5, 6, 7]), (11, [1, 2, 4, 5, 6, 7]), (12, [1, 2, 4, 5, 6, 7, 44]), (13, [1, 2, 4, 5, 6, 7]), (14, [1, 2, 4, 5, 6, 7, 52]), (15, [2, 4, 5, 6, 7]), (16, [2, 4, 5, 6, 7, 61]), (17, [2, 4, 5, 6, 7]), (18, [2, 4, 5, 6, 7, 69]), (19, [2, 4, 5, 6, 7]), (20, [2, 4, 5, 7, 81]), (21, [2, 4, 5, 7]), (22, [2, 4, 5, 7, 89]), (23, [2, 4, 5, 7]), (24, [2, 4, 5, 7]), (25, [2, 4, 5, 7, 103]), (26, [2, 4, 5, 7]), (27, [2, 4, 5, 7, 110]), (28, [2, 4, 5, 7]), (29, [2, 4, 5, 7, 8]), (30, [2, 4, 5, 7, 8, 9]), (31, [2, 4, 5, 7, 8, 9]), (32, [2, 4, 5, 7, 8, 9]), (33, [2, 4, 5, 7, 8]), (34, [2, 4, 5, 7, 8]), (35, [2, 4, 5, 7, 8, 10]), (36, [2, 4, 5, 7, 8, 10]), (37, [2, 4, 5, 7, 8, 10]), (38, [2, 4, 5, 7]), (39, [2, 4, 5, 7, 162]), (40, [2, 4, 5, 7, 11]), (41, [2, 4, 5, 7, 11, 12]), (42, [2, 4, 5, 7, 11, 12]), (43, [2, 4, 5, 7, 11, 12]), (44, [4, 5])], [(0, [2, 4, 5, 7, 8]), (1, [2, 4, 5, 7, 8, 9]), (2, [2, 4, 5, 7]), (3, [2, 4, 5, 7, 8, 10]), (4, [4, 5]), (5, [2, 4, 5, 7, 11, 12])], some [4], inv, []⟩
noncomputable def F26k2.K0 : Conts := { nrm := endW F26k2.E false F26k2.fn.results.toList, ret := endW F26k2.E false F26k2.fn.results.toList, ex := [] }
noncomputable def F26k2.kt (k : Nat) (q : List Nat) : Conts := contAt F26k2.E k F26k2.body F26k2.K0 q
noncomputable def F26k2.n1_1 (n : Nat) (K : Conts) (p0 p1 : Int) (p2 p3 p4 : List Int) (p5 p6 p7 p8 p9 p10 : Int) : Option AV := runC F26k2.E (loopF F26k2.E n) (subC [1,1] F26k2.body) K ⟨slots 186 [(1, .v (.int .i64) p0), (2, .pb 0 0), (4, .pb 1 0), (5, .pb 2 0)], [.box [.v (.int .u8) p1, .v (.sl (.int .u8)) p2, .v (.sl (.int .u8)) p3, .v (.sl (.int .i8)) p4, .v (.int .i16) p5, .v (.int .u8) p6], .box [.v (.int .i64) p7, .nl, .nl, .nl, .nl, .nl, .v (.int .i64) p8, .nl], .box [.v (.int .i64) p9, .nl, .nl, .nl, .nl, .nl, .v (.int .i64) p10, .nl]]⟩
theorem F26k2.start_eq (k : Nat) (m : Int) (z : (List Int) × ((List Int) × ((List Int) × (Int × Int)))) (a1 : Int) (hm : IntKind.i64.wrap (1 + ((IntKind.i64.wrap m).tmod 23)) = (2 : Int)) : callW F26k2.E false F26k2.fn k [.agg [.v (.int .u8) m, .v (.sl (.int .u8)) z.1, .v (.sl (.int .u8)) z.2.1, .v (.sl (.int .i8)) z.2.2.1, .v (.int .i16) z.2.2.2.1, .v (.int .u8) z.2.2.2.2], .v (.int .i64) a1] =
  bif decide ((2 : Int) < shapesL.length) then
   bif decide ((z.1.length : Int) < 1) then
    bif placesB z.1 1 a1 then
     bif numbersB z.2.2.1 0 1 (-1 : Int) 5 then
      some (.agg [.v (.int .i64) (2 : Int), .v (.sl (.int .i64)) (placesL z.1 1 a1), .nl, .v (.sl (.int .i64)) (numbersL z.2.2.1 0 1 (-1 : Int) 5), .nl, .nl, .v (.int .i64) ((IntKind.i64.wrap z.2.2.2.1).tmod 12), .nl])
     else
      none
    else
     none
   else
    bif decide ((z.1.length : Int) > 4) then
     bif placesB z.1 4 a1 then
      bif numbersB z.2.2.1 0 4 (-1 : Int) 5 then
       some (.agg [.v (.int .i64) (2 : Int), .v (.sl (.int .i64)) (placesL z.1 4 a1), .nl, .v (.sl (.int .i64)) (numbersL z.2.2.1 0 4 (-1 : Int) 5), .nl, .nl, .v (.int .i64) ((IntKind.i64.wrap z.2.2.2.1).tmod 12), .nl])
      else
       none
     else
      none
    else
     bif placesB z.1 (z.1.length : Int) a1 then
      bif numbersB z.2.2.1 0 (z.1.length : Int) (-1 : Int) 5 then
       some (.agg [.v (.int .i64) (2 : Int), .v (.sl (.int .i64)) (placesL z.1 (z.1.length : Int) a1), .nl, .v (.sl (.int .i64)) (numbersL z.2.2.1 0 (z.1.length : Int) (-1 : Int) 5), .nl, .nl, .v (.int .i64) ((IntKind.i64.wrap z.2.2.2.1).tmod 12), .nl])
      else
       none
     else
      none
  else
   none :=
 (show callW F26k2.E false F26k2.fn k [.agg [.v (.int .u8) m, .v (.sl (.int .u8)) z.1, .v (.sl (.int .u8)) z.2.1, .v (.sl (.int .i8)) z.2.2.1, .v (.int .i16) z.2.2.2.1, .v (.int .u8) z.2.2.2.2], .v (.int .i64) a1] = F26k2.n1_1 k (F26k2.kt k [1, 1]) a1 m z.1 z.2.1 z.2.2.1 z.2.2.2.1 z.2.2.2.2 (0 : Int) (0 : Int) (IntKind.i64.wrap (1 + ((IntKind.i64.wrap m).tmod 23))) (0 : Int) by kernel_rfl).trans ((congrArg (fun x : Int => F26k2.n1_1 k (F26k2.kt k [1, 1]) a1 m z.1 z.2.1 z.2.2.1 z.2.2.2.1 z.2.2.2.2 (0 : Int) (0 : Int) x (0 : Int)) hm).trans (by kernel_rfl))
noncomputable def F26k3.fn : Func := Go.Proofs.Tryz.f34
noncomputable def F26k3.body : Code := bodyOf F26k3.fn
noncomputable def F26k3.E : Env := ⟨tt, [(62, h_shapes), (71, h_hasB), (72, h_placesL), (73, h_numbersL)], [(1, [1, 2, 4]), (2, [1, 2, 4, 5]), (3, [1, 2, 4, 5, 6]), (4, [1, 2, 4, 5, 6, 7]), (5, [1, 2, 4, 5, 6, 7, 28]), (6, [1, 2, 4, 5, 6, 7]), (7, [1, 2, 4, 5, 6, 7, 30]), (8, [1, 2, 4, 5, 6, 7]), (9, [1, 2, 4, 5, 6, 7, 33]), (10, [1, 2, 4, 5, 6, 7]), (11, [1, 2, 4, 5, 6, 7]), (12, [1, 2, 4, 5, 6, 7, 44]), (13, [1, 2, 4, 5, 6, 7]), (14, [1, 2, 4, 5, 6, 7, 52]), (15, [2, 4, 5, 6, 7]), (16, [2, 4, 5, 6, 7, 61]), (17, [2, 4, 5, 6, 7]), (18, [2, 4, 5, 6, 7, 69]), (19, [2, 4, 5, 6, 7]), (20, [2, 4, 5, 7, 81]), (21, [2, 4, 5, 7]), (22, [2, 4, 5, 7, 89]), (23, [2, 4, 5, 7]), (24, [2, 4, 5, 7]), (25, [2, 4, 5, 7, 103]), (26, [2, 4, 5, 7]), (27, [2, 4, 5, 7, 110]), (28, [2, 4, 5, 7]), (29, [2, 4, 5, 7, 8]), (30, [2, 4, 5, 7, 8, 9]), (31, [2, 4, 5, 7, 8, 9]), (32, [2, 4, 5, 7, 8, 9]), (33, [2, 4, 5, 7, 8]), (34, [2, 4, 5, 7, 8]), (35, [2, 4, 5, 7, 8, 10]), (36, [2, 4, 5, 7, 8, 10]), (37, [2, 4, 5, 7, 8, 10]), (38, [2, 4, 5, 7]), (39, [2, 4, 5, 7, 162]), (40, [2, 4, 5, 7, 11]), (41, [2, 4, 5, 7, 11, 12]), (42, [2, 4, 5, 7, 11, 12]), (43, [2, 4, 5, 7, 11, 12]), (44, [4, 5])], [(0, [2, 4, 5, 7, 8]), (1, [2, 4, 5, 7, 8, 9]), (2, [2, 4, 5, 7]), (3, [2, 4, 5, 7, 8, 10]), (4, [4, 5]), (5, [2, 4, 5, 7, 11, 12])], some [4], inv, []⟩
noncomputable def F26k3.K0 : Conts := { nrm := endW F26k3.E false F26k3.fn.results.toList, ret := endW F26k3.E false F26k3.fn.results.toList, ex := [] }
noncomputable def F26k3.kt (k : Nat) (q : List Nat) : Conts := contAt F26k3.E k F26k3.body F26k3.K0 q
noncomputable def F26k3.n1_1 (n : Nat) (K : Conts) (p0 p1 : Int) (p2 p3 p4 : List Int) (p5 p6 p7 p8 p9 p10 : Int) : Option AV := runC F26k3.E (loopF F26k3.E n) (subC [1,1] F26k3.body) K ⟨slots 186 [(1, .v (.int .i64) p0), (2, .pb 0 0), (4, .pb 1 0), (5, .pb 2 0)], [.box [.v (.int .u8) p1, .v (.sl (.int .u8)) p2, .v (.sl (.int .u8)) p3, .v (.sl (.int .i8)) p4, .v (.int .i16) p5, .v (.int .u8) p6], .box [.v (.int .i64) p7, .nl, .nl, .nl, .nl, .nl, .v (.int .i64) p8, .nl], .box [.v (.int .i64) p9, .nl, .nl, .nl, .nl, .nl, .v (.int .i64) p10, .nl]]⟩
theorem F26k3.start_eq (k : Nat) (m : Int) (z : (List Int) × ((List Int) × ((List Int) × (Int × Int)))) (a1 : Int) (hm : IntKind.i64.wrap (1 + ((IntKind.i64.wrap m).tmod 23)) = (3 : Int)) : callW F26k3.E false F26k3.fn k [.agg [.v (.int .u8) m, .v (.sl (.int .u8)) z.1, .v (.sl (.int .u8)) z.2.1, .v (.sl (.int .i8)) z.2.2.1, .v (.int .i16) z.2.2.2.1, .v (.int .u8) z.2.2.2.2], .v (.int .i64) a1] =
  bif decide ((3 : Int) < shapesL.length) then
   bif decide ((z.1.length : Int) < 1) then
    bif placesB z.1 1 a1 then
     bif numbersB z.2.2.1 0 1 (-1 : Int) 5 then
      some (.agg [.v (.int .i64) (3 : Int), .v (.sl (.int .i64)) (placesL z.1 1 a1), .nl, .v (.sl (.int .i64)) (numbersL z.2.2.1 0 1 (-1 : Int) 5), .nl, .nl, .v (.int .i64) ((IntKind.i64.wrap z.2.2.2.1).tmod 12), .nl])
     else
      none
    else
     none
   else
    bif decide ((z.1.length : Int) > 4) then
     bif placesB z.1 4 a1 then
      bif numbersB z.2.2.1 0 4 (-1 : Int) 5 then
       some (.agg [.v (.int .i64) (3 : Int), .v (.sl (.int .i64)) (placesL z.1 4 a1), .nl, .v (.sl (.int .i64)) (numbersL z.2.2.1 0 4 (-1 : Int) 5), .nl, .nl, .v (.int .i64) ((IntKind.i64.wrap z.2.2.2.1).tmod 12), .nl])
      else
       none
     else
      none
    else
     bif placesB z.1 (z.1.length : Int) a1 then
      bif numbersB z.2.2.1 0 (z.1.length : Int) (-1 : Int) 5 then
       some (.agg [.v (.int .i64) (3 : Int), .v (.sl (.int .i64)) (placesL z.1 (z.1.length : Int) a1), .nl, .v (.sl (.int .i64)) (numbersL z.2.2.1 0 (z.1.length : Int) (-1 : Int) 5), .nl, .nl, .v (.int .i64) ((IntKind.i64.wrap z.2.2.2.1).tmod 12), .nl])
      else
       none
     else
      none
  else
   none :=
 (show callW F26k3.E false F26k3.fn k [.agg [.v (.int .u8) m, .v (.sl (.int .u8)) z.1, .v (.sl (.int .u8)) z.2.1, .v (.sl (.int .i8)) z.2.2.1, .v (.int .i16) z.2.2.2.1, .v (.int .u8) z.2.2.2.2], .v (.int .i64) a1] = F26k3.n1_1 k (F26k3.kt k [1, 1]) a1 m z.1 z.2.1 z.2.2.1 z.2.2.2.1 z.2.2.2.2 (0 : Int) (0 : Int) (IntKind.i64.wrap (1 + ((IntKind.i64.wrap m).tmod 23))) (0 : Int) by kernel_rfl).trans ((congrArg (fun x : Int => F26k3.n1_1 k (F26k3.kt k [1, 1]) a1 m z.1 z.2.1 z.2.2.1 z.2.2.2.1 z.2.2.2.2 (0 : Int) (0 : Int) x (0 : Int)) hm).trans (by kernel_rfl))
noncomputable def F26k4.fn : Func := Go.Proofs.Tryz.f34
noncomputable def F26k4.body : Code := bodyOf F26k4.fn
noncomputable def F26k4.E : Env := ⟨tt, [(62, h_shapes), (71, h_hasB), (72, h_placesL), (73, h_numbersL)], [(1, [1, 2, 4]), (2, [1, 2, 4, 5]), (3, [1, 2, 4, 5, 6]), (4, [1, 2, 4, 5, 6, 7]), (5, [1, 2, 4, 5, 6, 7, 28]), (6, [1, 2, 4, 5, 6, 7]), (7, [1, 2, 4, 5, 6, 7, 30]), (8, [1, 2, 4, 5, 6, 7]), (9, [1, 2, 4, 5, 6, 7, 33]), (10, [1, 2, 4, 5, 6, 7]), (11, [1, 2, 4, 5, 6, 7]), (12, [1, 2, 4, 5, 6, 7, 44]), (13, [1, 2, 4, 5, 6, 7]), (14, [1, 2, 4, 5, 6, 7, 52]), (15, [2, 4, 5, 6, 7]), (16, [2, 4, 5, 6, 7, 61]), (17, [2, 4, 5, 6, 7]), (18, [2, 4, 5, 6, 7, 69]), (19, [2, 4, 5, 6, 7]), (20, [2, 4, 5, 7, 81]), (21, [2, 4, 5, 7]), (22, [2, 4, 5, 7, 89]), (23, [2, 4, 5, 7]), (24, [2, 4, 5, 7]), (25, [2, 4, 5, 7, 103]), (26, [2, 4, 5, 7]), (27, [2, 4, 5, 7, 110]), (28, [2, 4, 5, 7]), (29, [2, 4, 5, 7, 8]), (30, [2, 4, 5, 7, 8, 9]), (31, [2, 4, 5, 7, 8, 9]), (32, [2, 4, 5, 7, 8, 9]), (33, [2, 4, 5, 7, 8]), (34, [2, 4, 5, 7, 8]), (35, [2, 4, 5, 7, 8, 10]), (36, [2, 4, 5, 7, 8, 10]), (37, [2, 4, 5, 7, 8, 10]), (38, [2, 4, 5, 7]), (39, [2, 4, 5, 7, 162]), (40, [2, 4, 5, 7, 11]), (41, [2, 4, 5, 7, 11, 12]), (42, [2, 4, 5, 7, 11, 12]), (43, [2, 4, 5, 7, 11, 12]), (44, [4, 5])], [(0, [2, 4, 5, 7, 8]), (1, [2, 4, 5, 7, 8, 9]), (2, [2, 4, 5, 7]), (3, [2, 4, 5, 7, 8, 10]), (4, [4, 5]), (5, [2, 4, 5, 7, 11, 12])], some [4], inv, []⟩
noncomputable def F26k4.K0 : Conts := { nrm := endW F26k4.E false F26k4.fn.results.toList, ret := endW F26k4.E false F26k4.fn.results.toList, ex := [] }
noncomputable def F26k4.kt (k : Nat) (q : List Nat) : Conts := contAt F26k4.E k F26k4.body F26k4.K0 q
noncomputable def F26k4.n1_1 (n : Nat) (K : Conts) (p0 p1 : Int) (p2 p3 p4 : List Int) (p5 p6 p7 p8 p9 p10 : Int) : Option AV := runC F26k4.E (loopF F26k4.E n) (subC [1,1] F26k4.body) K ⟨slots 186 [(1, .v (.int .i64) p0), (2, .pb 0 0), (4, .pb 1 0), (5, .pb 2 0)], [.box [.v (.int .u8) p1, .v (.sl (.int .u8)) p2, .v (.sl (.int .u8)) p3, .v (.sl (.int .i8)) p4, .v (.int .i16) p5, .v (.int .u8) p6], .box [.v (.int .i64) p7, .nl, .nl, .nl, .nl, .nl, .v (.int .i64) p8, .nl], .box [.v (.int .i64) p9, .nl, .nl, .nl, .nl, .nl, .v (.int .i64) p10, .nl]]⟩
theorem F26k4.start_eq (k : Nat) (m : Int) (z : (List Int) × ((List Int) × ((List Int) × (Int × Int)))) (a1 : Int) (hm : IntKind.i64.wrap (1 + ((IntKind.i64.wrap m).tmod 23)) = (4 : Int)) : callW F26k4.E false F26k4.fn k [.agg [.v (.int .u8) m, .v (.sl (.int .u8)) z.1, .v (.sl (.int .u8)) z.2.1, .v (.sl (.int .i8)) z.2.2.1, .v (.int .i16) z.2.2.2.1, .v (.int .u8) z.2.2.2.2], .v (.int .i64) a1] =
  bif decide ((4 : Int) < shapesL.length) then
   bif decide ((z.1.length : Int) < 1) then
    bif placesB z.1 1 a1 then
     bif placesB z.2.1 1 a1 then
      bif numbersB z.2.2.1 0 1 (-1 : Int) 5 then
       some (.agg [.v (.int .i64) (4 : Int), .v (.sl (.int .i64)) (placesL z.1 1 a1), .v (.sl (.int .i64)) (placesL z.2.1 1 a1), .v (.sl (.int .i64)) (numbersL z.2.2.1 0 1 (-1 : Int) 5), .nl, .nl, .v (.int .i64) ((IntKind.i64.wrap z.2.2.2.1).tmod 12), .nl])
      else
       none
     else
      none
    else
     none
   else
    bif decide ((z.1.length : Int) > 4) then
     bif placesB z.1 4 a1 then
      bif placesB z.2.1 1 a1 then
       bif numbersB z.2.2.1 0 4 (-1 : Int) 5 then
        some (.agg [.v (.int .i64) (4 : Int), .v (.sl (.int .i64)) (placesL z.1 4 a1), .v (.sl (.int .i64)) (placesL z.2.1 1 a1), .v (.sl (.int .i64)) (numbersL z.2.2.1 0 4 (-1 : Int) 5), .nl, .nl, .v (.int .i64) ((IntKind.i64.wrap z.2.2.2.1).tmod 12), .nl])
       else
        none
      else
       none
     else
      none
    else
     bif placesB z.1 (z.1.length : Int) a1 then
      bif placesB z.2.1 1 a1 then
       bif numbersB z.2.2.1 0 (z.1.length : Int) (-1 : Int) 5 then
        some (.agg [.v (.int .i64) (4 : Int), .v (.sl (.int .i64)) (placesL z.1 (z.1.length : Int) a1), .v (.sl (.int .i64)) (placesL z.2.1 1 a1), .v (.sl (.int .i64)) (numbersL z.2.2.1 0 (z.1.length : Int) (-1 : Int) 5), .nl, .nl, .v (.int .i64) ((IntKind.i64.wrap z.2.2.2.1).tmod 12), .nl])
       else
        none
      else
       none
     else
      none
  else
   none :=
 (show callW F26k4.E false F26k4.fn k [.agg [.v (.int .u8) m, .v (.sl (.int .u8)) z.1, .v (.sl (.int .u8)) z.2.1, .v (.sl (.int .i8)) z.2.2.1, .v (.int .i16) z.2.2.2.1, .v (.int .u8) z.2.2.2.2], .v (.int .i64) a1] = F26k4.n1_1 k (F26k4.kt k [1, 1]) a1 m z.1 z.2.1 z.2.2.1 z.2.2.2.1 z.2.2.2.2 (0 : Int) (0 : Int) (IntKind.i64.wrap (1 + ((IntKind.i64.wrap m).tmod 23))) (0 : Int) by kernel_rfl).trans ((congrArg (fun x : Int => F26k4.n1_1 k (F26k4.kt k [1, 1]) a1 m z.1 z.2.1 z.2.2.1 z.2.2.2.1 z.2.2.2.2 (0 : Int) (0 : Int) x (0 : Int)) hm).trans (by kernel_rfl))
noncomputable def F26k5.fn : Func := Go.Proofs.Tryz.f34
noncomputable def F26k5.body : Code := bodyOf F26k5.fn
noncomputable def F26k5.E : Env := ⟨tt, [(62, h_shapes), (71, h_hasB), (72, h_placesL)], [(1, [1, 2, 4]), (2, [1, 2, 4, 5]), (3, [1, 2, 4, 5, 6]), (4, [1, 2, 4, 5, 6, 7]), (5, [1, 2, 4, 5, 6, 7, 28]), (6, [1, 2, 4, 5, 6, 7]), (7, [1, 2, 4, 5, 6, 7, 30]), (8, [1, 2, 4, 5, 6, 7]), (9, [1, 2, 4, 5, 6, 7, 33]), (10, [1, 2, 4, 5, 6, 7]), (11, [1, 2, 4, 5, 6, 7]), (12, [1, 2, 4, 5, 6, 7, 44]), (13, [1, 2, 4, 5, 6, 7]), (14, [1, 2, 4, 5, 6, 7, 52]), (15, [2, 4, 5, 6, 7]), (16, [2, 4, 5, 6, 7, 61]), (17, [2, 4, 5, 6, 7]), (18, [2, 4, 5, 6, 7, 69]), (19, [2, 4, 5, 6, 7]), (20, [2, 4, 5, 7, 81]), (21, [2, 4, 5, 7]), (22, [2, 4, 5, 7, 89]), (23, [2, 4, 5, 7]), (24, [2, 4, 5, 7]), (25, [2, 4, 5, 7, 103]), (26, [2, 4, 5, 7]), (27, [2, 4, 5, 7, 110]), (28, [2, 4, 5, 7]), (29, [2, 4, 5, 7, 8]), (30, [2, 4, 5, 7, 8, 9]), (31, [2, 4, 5, 7, 8, 9]), (32, [2, 4, 5, 7, 8, 9]), (33, [2, 4, 5, 7, 8]), (34, [2, 4, 5, 7, 8]), (35, [2, 4, 5, 7, 8, 10]), (36, [2, 4, 5, 7, 8, 10]), (37, [2, 4, 5, 7, 8, 10]), (38, [2, 4, 5, 7]), (39, [2, 4, 5, 7, 162]), (40, [2, 4, 5, 7, 11]), (41, [2, 4, 5, 7, 11, 12]), (42, [2, 4, 5, 7, 11, 12]), (43, [2, 4, 5, 7, 11, 12]), (44, [4, 5])], [(0, [2, 4, 5, 7, 8]), (1, [2, 4, 5, 7, 8, 9]), (2, [2, 4, 5, 7]), (3, [2, 4, 5, 7, 8, 10]), (4, [4, 5]), (5, [2, 4, 5, 7, 11, 12])], some [4], inv, []⟩
noncomputable def F26k5.K0 : Conts := { nrm := endW F26k5.E false F26k5.fn.results.toList, ret := endW F26k5.E false F26k5.fn.results.toList, ex := [] }
noncomputable def F26k5.kt (k : Nat) (q : List Nat) : Conts := contAt F26k5.E k F26k5.body F26k5.K0 q
noncomputable def F26k5.n1_1 (n : Nat) (K : Conts) (p0 p1 : Int) (p2 p3 p4 : List Int) (p5 p6 p7 p8 p9 p10 : Int) : Option AV := runC F26k5.E (loopF F26k5.E n) (subC [1,1] F26k5.body) K ⟨slots 186 [(1, .v (.int .i64) p0), (2, .pb 0 0), (4, .pb 1 0), (5, .pb 2 0)], [.box [.v (.int .u8) p1, .v (.sl (.int .u8)) p2, .v (.sl (.int .u8)) p3, .v (.sl (.int .i8)) p4, .v (.int .i16) p5, .v (.int .u8) p6], .box [.v (.int .i64) p7, .nl, .nl, .nl, .nl, .nl, .v (.int .i64) p8, .nl], .box [.v (.int .i64) p9, .nl, .nl, .nl, .nl, .nl, .v (.int .i64) p10, .nl]]⟩
theorem F26k5.start_eq (k : Nat) (m : Int) (z : (List Int) × ((List Int) × ((List Int) × (Int × Int)))) (a1 : Int) (hm : IntKind.i64.wrap (1 + ((IntKind.i64.wrap m).tmod 23)) = (5 : Int)) : callW F26k5.E false F26k5.fn k [.agg [.v (.int .u8) m, .v (.sl (.int .u8)) z.1, .v (.sl (.int .u8)) z.2.1, .v (.sl (.int .i8)) z.2.2.1, .v (.int .i16) z.2.2.2.1, .v (.int .u8) z.2.2.2.2], .v (.int .i64) a1] =
  bif decide ((5 : Int) < shapesL.length) then
   bif decide ((z.1.length : Int) < 1) then
    bif placesB z.1 3 a1 then
     some (.agg [.v (.int .i64) (5 : Int), .v (.sl (.int .i64)) (placesL z.1 3 a1), .nl, .nl, .nl, .nl, .v (.int .i64) (0 : Int), .nl])
    else
     none
   else
    bif decide ((z.1.length : Int) > 4) then
     bif placesB z.1 3 a1 then
      some (.agg [.v (.int .i64) (5 : Int), .v (.sl (.int .i64)) (placesL z.1 3 a1), .nl, .nl, .nl, .nl, .v (.int .i64) (0 : Int), .nl])
     else
      none
    else
     bif placesB z.1 3 a1 then
      some (.agg [.v (.int .i64) (5 : Int), .v (.sl (.int .i64)) (placesL z.1 3 a1), .nl, .nl, .nl, .nl, .v (.int .i64) (0 : Int), .nl])
     else
      none
  else
   none :=
 (show callW F26k5.E false F26k5.fn k [.agg [.v (.int .u8) m, .v (.sl (.int .u8)) z.1, .v (.sl (.int .u8)) z.2.1, .v (.sl (.int .i8)) z.2.2.1, .v (.int .i16) z.2.2.2.1, .v (.int .u8) z.2.2.2.2], .v (.int .i64) a1] = F26k5.n1_1 k (F26k5.kt k [1, 1]) a1 m z.1 z.2.1 z.2.2.1 z.2.2.2.1 z.2.2.2.2 (0 : Int) (0 : Int) (IntKind.i64.wrap (1 + ((IntKind.i64.wrap m).tmod 23))) (0 : Int) by kernel_rfl).trans ((congrArg (fun x : Int => F26k5.n1_1 k (F26k5.kt k [1, 1]) a1 m z.1 z.2.1 z.2.2.1 z.2.2.2.1 z.2.2.2.2 (0 : Int) (0 : Int) x (0 : Int)) hm).trans (by kernel_rfl))
noncomputable def F26k6.fn : Func := Go.Proofs.Tryz.f34
noncomputable def F26k6.body : Code := bodyOf F26k6.fn
noncomputable def F26k6.E : Env := ⟨tt, [(62, h_shapes), (71, h_hasB), (72, h_placesL)], [(1, [1, 2, 4]), (2, [1, 2, 4, 5]), (3, [1, 2, 4, 5, 6]), (4, [1, 2, 4, 5, 6, 7]), (5, [1, 2, 4, 5, 6, 7, 28]), (6, [1, 2, 4, 5, 6, 7]), (7, [1, 2, 4, 5, 6, 7, 30]), (8, [1, 2, 4, 5, 6, 7]), (9, [1, 2, 4, 5, 6, 7, 33]), (10, [1, 2, 4, 5, 6, 7]), (11, [1, 2, 4, 5, 6, 7]), (12, [1, 2, 4, 5, 6, 7, 44]), (13, [1, 2, 4, 5, 6, 7]), (14, [1, 2, 4, 5, 6, 7, 52]), (15, [2, 4, 5, 6, 7]), (16, [2, 4, 5, 6, 7, 61]), (17, [2, 4, 5, 6, 7]), (18, [2, 4, 5, 6, 7, 69]), (19, [2, 4, 5, 6, 7]), (20, [2, 4, 5, 7, 81]), (21, [2, 4, 5, 7]), (22, [2, 4, 5, 7, 89]), (23, [2, 4, 5, 7]), (24, [2, 4, 5, 7]), (25, [2, 4, 5, 7, 103]), (26, [2, 4, 5, 7]), (27, [2, 4, 5, 7, 110]), (28, [2, 4, 5, 7]), (29, [2, 4, 5, 7, 8]), (30, [2, 4, 5, 7, 8, 9]), (31, [2, 4, 5, 7, 8, 9]), (32, [2, 4, 5, 7, 8, 9]), (33, [2, 4, 5, 7, 8]), (34, [2, 4, 5, 7, 8]), (35, [2, 4, 5, 7, 8, 10]), (36, [2, 4, 5, 7, 8, 10]), (37, [2, 4, 5, 7, 8, 10]), (38, [2, 4, 5, 7]), (39, [2, 4, 5, 7, 162]), (40, [2, 4, 5, 7, 11]), (41, [2, 4, 5, 7, 11, 12]), (42, [2, 4, 5, 7, 11, 12]), (43, [2, 4, 5, 7, 11, 12]), (44, [4, 5])], [(0, [2, 4, 5, 7, 8]), (1, [2, 4, 5, 7, 8, 9]), (2, [2, 4, 5, 7]), (3, [2, 4, 5, 7, 8, 10]), (4, [4, 5]), (5, [2, 4, 5, 7, 11, 12])], some [4], inv, []⟩
noncomputable def F26k6.K0 : Conts := { nrm := endW F26k6.E false F26k6.fn.results.toList, ret := endW F26k6.E false F26k6.fn.results.toList, ex := [] }
noncomputable def F26k6.kt (k : Nat) (q : List Nat) : Conts := contAt F26k6.E k F26k6.body F26k6.K0 q
noncomputable def F26k6.n1_1 (n : Nat) (K : Conts) (p0 p1 : Int) (p2 p3 p4 : List Int) (p5 p6 p7 p8 p9 p10 : Int) : Option AV := runC F26k6.E (loopF F26k6.E n) (subC [1,1] F26k6.body) K ⟨slots 186 [(1, .v (.int .i64) p0), (2, .pb 0 0), (4, .pb 1 0), (5, .pb 2 0)], [.box [.v (.int .u8) p1, .v (.sl (.int .u8)) p2, .v (.sl (.int .u8)) p3, .v (.sl (.int .i8)) p4, .v (.int .i16) p5, .v (.int .u8) p6], .box [.v (.int .i64) p7, .nl, .nl, .nl, .nl, .nl, .v (.int .i64) p8, .nl], .box [.v (.int .i64) p9, .nl, .nl, .nl, .nl, .nl, .v (.int .i64) p10, .nl]]⟩
theorem F26k6.start_eq (k : Nat) (m : Int) (z : (List Int) × ((List Int) × ((List Int) × (Int × Int)))) (a1 : Int) (hm : IntKind.i64.wrap (1 + ((IntKind.i64.wrap m).tmod 23)) = (6 : Int)) : callW F26k6.E false F26k6.fn k [.agg [.v (.int .u8) m, .v (.sl (.int .u8)) z.1, .v (.sl (.int .u8)) z.2.1, .v (.sl (.int .i8)) z.2.2.1, .v (.int .i16) z.2.2.2.1, .v (.int .u8) z.2.2.2.2], .v (.int .i64) a1] =
  bif decide ((6 : Int) < shapesL.length) then
   bif decide ((z.1.length : Int) < 1) then
    bif placesB z.1 3 a1 then
     some (.agg [.v (.int .i64) (6 : Int), .v (.sl (.int .i64)) (placesL z.1 3 a1), .nl, .nl, .nl, .nl, .v (.int .i64) (0 : Int), .nl])
    else
     none
   else
    bif decide ((z.1.length : Int) > 4) then
     bif placesB z.1 3 a1 then
      some (.agg [.v (.int .i64) (6 : Int), .v (.sl (.int .i64)) (placesL z.1 3 a1), .nl, .nl, .nl, .nl, .v (.int .i64) (0 : Int), .nl])
     else
      none
    else
     bif placesB z.1 3 a1 then
      some (.agg [.v (.int .i64) (6 : Int), .v (.sl (.int .i64)) (placesL z.1 3 a1), .nl, .nl, .nl, .nl, .v (.int .i64) (0 : Int), .nl])
     else
      none
  else
   none :=
 (show callW F26k6.E false F26k6.fn k [.agg [.v (.int .u8) m, .v (.sl (.int .u8)) z.1, .v (.sl (.int .u8)) z.2.1, .v (.sl (.int .i8)) z.2.2.1, .v (.int .i16) z.2.2.2.1, .v (.int .u8) z.2.2.2.2], .v (.int .i64) a1] = F26k6.n1_1 k (F26k6.kt k [1, 1]) a1 m z.1 z.2.1 z.2.2.1 z.2.2.2.1 z.2.2.2.2 (0 : Int) (0 : Int) (IntKind.i64.wrap (1 + ((IntKind.i64.wrap m).tmod 23))) (0 : Int) by kernel_rfl).trans ((congrArg (fun x : Int => F26k6.n1_1 k (F26k6.kt k [1, 1]) a1 m z.1 z.2.1 z.2.2.1 z.2.2.2.1 z.2.2.2.2 (0 : Int) (0 : Int) x (0 : Int)) hm).trans (by kernel_rfl))
end Go.Proofs.YtlfdikofmfhefaaGreatDoor.Ev
set_option linter.unusedVariables false
set_option linter.unusedSimpArgs false
set_option maxRecDepth 100000
namespace Go.Proofs.YtlfdikofmfhefaaGreatDoor.Ev
open Go
noncomputable def F26k7.fn : Func := Go.Proofs.Tryz.f34
noncomputable def F26k7.body : Code := bodyOf F26k7.fn
noncomputable def F26k7.E : Env := ⟨tt, [(62, h_shapes), (71, h_hasB), (72, h_placesL)], [(1, [1, 2, 4]), (2, [1, 2, 4, 5]), (3, [1, 2, 4, 5, 6]), (4, [1, 2, 4, 5, 6, 7]), (5, [1, 2, 4, 5, 6, 7, 28]), (6, [1, 2, 4, 5, 6, 7]), (7, [1, 2, 4, 5, 6, 7, 30]), (8, [1, 2, 4, 5, 6, 7]), (9, [1, 2, 4, 5, 6, 7, 33]), (10, [1, 2, 4, 5, 6, 7]), (11, [1, 2, 4, 5, 6, 7]), (12, [1, 2, 4, 5, 6, 7, 44]), (13, [1, 2, 4, 5, 6, 7]), (14, [1, 2, 4, 5, 6, 7, 52]), (15, [2, 4, 5, 6, 7]), (16, [2, 4, 5, 6, 7, 61]), (17, [2, 4, 5, 6, 7]), (18, [2, 4, 5, 6, 7, 69]), (19, [2, 4, 5, 6, 7]), (20, [2, 4, 5, 7, 81]), (21, [2, 4, 5, 7]), (22, [2, 4, 5, 7, 89]), (23, [2, 4, 5, 7]), (24, [2, 4, 5, 7]), (25, [2, 4, 5, 7, 103]), (26, [2, 4, 5, 7]), (27, [2, 4, 5, 7, 110]), (28, [2, 4, 5, 7]), (29, [2, 4, 5, 7, 8]), (30, [2, 4, 5, 7, 8, 9]), (31, [2, 4, 5, 7, 8, 9]), (32, [2, 4, 5, 7, 8, 9]), (33, [2, 4, 5, 7, 8]), (34, [2, 4, 5, 7, 8]), (35, [2, 4, 5, 7, 8, 10]), (36, [2, 4, 5, 7, 8, 10]), (37, [2, 4, 5, 7, 8, 10]), (38, [2, 4, 5, 7]), (39, [2, 4, 5, 7, 162]), (40, [2, 4, 5, 7, 11]), (41, [2, 4, 5, 7, 11, 12]), (42, [2, 4, 5, 7, 11, 12]), (43, [2, 4, 5, 7, 11, 12]), (44, [4, 5])], [(0, [2, 4, 5, 7, 8]), (1, [2, 4, 5, 7, 8, 9]), (2, [2, 4, 5, 7]), (3, [2, 4, 5, 7, 8, 10]), (4, [4, 5]), (5, [2, 4, 5, 7, 11, 12])], some [4], inv, []⟩
noncomputable def F26k7.K0 : Conts := { nrm := endW F26k7.E false F26k7.fn.results.toList, ret := endW F26k7.E false F26k7.fn.results.toList, ex := [] }
noncomputable def F26k7.kt (k : Nat) (q : List Nat) : Conts := contAt F26k7.E k F26k7.body F26k7.K0 q
noncomputable def F26k7.n1_1 (n : Nat) (K : Conts) (p0 p1 : Int) (p2 p3 p4 : List Int) (p5 p6 p7 p8 p9 p10 : Int) : Option AV := runC F26k7.E (loopF F26k7.E n) (subC [1,1] F26k7.body) K ⟨slots 186 [(1, .v (.int .i64) p0), (2, .pb 0 0), (4, .pb 1 0), (5, .pb 2 0)], [.box [.v (.int .u8) p1, .v (.sl (.int .u8)) p2, .v (.sl (.int .u8)) p3, .v (.sl (.int .i8)) p4, .v (.int .i16) p5, .v (.int .u8) p6], .box [.v (.int .i64) p7, .nl, .nl, .nl, .nl, .nl, .v (.int .i64) p8, .nl], .box [.v (.int .i64) p9, .nl, .nl, .nl, .nl, .nl, .v (.int .i64) p10, .nl]]⟩
theorem F26k7.start_eq (k : Nat) (m : Int) (z : (List Int) × ((List Int) × ((List Int) × (Int × Int)))) (a1 : Int) (hm : IntKind.i64.wrap (1 + ((IntKind.i64.wrap m).tmod 23)) = (7 : Int)) : callW F26k7.E false F26k7.fn k [.agg [.v (.int .u8) m, .v (.sl (.int .u8)) z.1, .v (.sl (.int .u8)) z.2.1, .v (.sl (.int .i8)) z.2.2.1, .v (.int .i16) z.2.2.2.1, .v (.int .u8) z.2.2.2.2], .v (.int .i64) a1] =
  bif decide ((7 : Int) < shapesL.length) then
   bif decide ((z.1.length : Int) < 1) then
    bif placesB z.1 3 a1 then
     some (.agg [.v (.int .i64) (7 : Int), .v (.sl (.int .i64)) (placesL z.1 3 a1), .nl, .nl, .nl, .nl, .v (.int .i64) (0 : Int), .nl])
    else
     none
   else
    bif decide ((z.1.length : Int) > 4) then
     bif placesB z.1 3 a1 then
      some (.agg [.v (.int .i64) (7 : Int), .v (.sl (.int .i64)) (placesL z.1 3 a1), .nl, .nl, .nl, .nl, .v (.int .i64) (0 : Int), .nl])
     else
      none
    else
     bif placesB z.1 3 a1 then
      some (.agg [.v (.int .i64) (7 : Int), .v (.sl (.int .i64)) (placesL z.1 3 a1), .nl, .nl, .nl, .nl, .v (.int .i64) (0 : Int), .nl])
     else
      none
  else
   none :=
 (show callW F26k7.E false F26k7.fn k [.agg [.v (.int .u8) m, .v (.sl (.int .u8)) z.1, .v (.sl (.int .u8)) z.2.1, .v (.sl (.int .i8)) z.2.2.1, .v (.int .i16) z.2.2.2.1, .v (.int .u8) z.2.2.2.2], .v (.int .i64) a1] = F26k7.n1_1 k (F26k7.kt k [1, 1]) a1 m z.1 z.2.1 z.2.2.1 z.2.2.2.1 z.2.2.2.2 (0 : Int) (0 : Int) (IntKind.i64.wrap (1 + ((IntKind.i64.wrap m).tmod 23))) (0 : Int) by kernel_rfl).trans ((congrArg (fun x : Int => F26k7.n1_1 k (F26k7.kt k [1, 1]) a1 m z.1 z.2.1 z.2.2.1 z.2.2.2.1 z.2.2.2.2 (0 : Int) (0 : Int) x (0 : Int)) hm).trans (by kernel_rfl))
noncomputable def F26k8.fn : Func := Go.Proofs.Tryz.f34
noncomputable def F26k8.body : Code := bodyOf F26k8.fn
noncomputable def F26k8.E : Env := ⟨tt, [(62, h_shapes), (71, h_hasB), (72, h_placesL)], [(1, [1, 2, 4]), (2, [1, 2, 4, 5]), (3, [1, 2, 4, 5, 6]), (4, [1, 2, 4, 5, 6, 7]), (5, [1, 2, 4, 5, 6, 7, 28]), (6, [1, 2, 4, 5, 6, 7]), (7, [1, 2, 4, 5, 6, 7, 30]), (8, [1, 2, 4, 5, 6, 7]), (9, [1, 2, 4, 5, 6, 7, 33]), (10, [1, 2, 4, 5, 6, 7]), (11, [1, 2, 4, 5, 6, 7]), (12, [1, 2, 4, 5, 6, 7, 44]), (13, [1, 2, 4, 5, 6, 7]), (14, [1, 2, 4, 5, 6, 7, 52]), (15, [2, 4, 5, 6, 7]), (16, [2, 4, 5, 6, 7, 61]), (17, [2, 4, 5, 6, 7]), (18, [2, 4, 5, 6, 7, 69]), (19, [2, 4, 5, 6, 7]), (20, [2, 4, 5, 7, 81]), (21, [2, 4, 5, 7]), (22, [2, 4, 5, 7, 89]), (23, [2, 4, 5, 7]), (24, [2, 4, 5, 7]), (25, [2, 4, 5, 7, 103]), (26, [2, 4, 5, 7]), (27, [2, 4, 5, 7, 110]), (28, [2, 4, 5, 7]), (29, [2, 4, 5, 7, 8]), (30, [2, 4, 5, 7, 8, 9]), (31, [2, 4, 5, 7, 8, 9]), (32, [2, 4, 5, 7, 8, 9]), (33, [2, 4, 5, 7, 8]), (34, [2, 4, 5, 7, 8]), (35, [2, 4, 5, 7, 8, 10]), (36, [2, 4, 5, 7, 8, 10]), (37, [2, 4, 5, 7, 8, 10]), (38, [2, 4, 5, 7]), (39, [2, 4, 5, 7, 162]), (40, [2, 4, 5, 7, 11]), (41, [2, 4, 5, 7, 11, 12]), (42, [2, 4, 5, 7, 11, 12]), (43, [2, 4, 5, 7, 11, 12]), (44, [4, 5])], [(0, [2, 4, 5, 7, 8]), (1, [2, 4, 5, 7, 8, 9]), (2, [2, 4, 5, 7]), (3, [2, 4, 5, 7, 8, 10]), (4, [4, 5]), (5, [2, 4, 5, 7, 11, 12])], some [4], inv, []⟩
noncomputable def F26k8.K0 : Conts := { nrm := endW F26k8.E false F26k8.fn.results.toList, ret := endW F26k8.E false F26k8.fn.results.toList, ex := [] }
noncomputable def F26k8.kt (k : Nat) (q : List Nat) : Conts := contAt F26k8.E k F26k8.body F26k8.K0 q
noncomputable def F26k8.n1_1 (n : Nat) (K : Conts) (p0 p1 : Int) (p2 p3 p4 : List Int) (p5 p6 p7 p8 p9 p10 : Int) : Option AV := runC F26k8.E (loopF F26k8.E n) (subC [1,1] F26k8.body) K ⟨slots 186 [(1, .v (.int .i64) p0), (2, .pb 0 0), (4, .pb 1 0), (5, .pb 2 0)], [.box [.v (.int .u8) p1, .v (.sl (.int .u8)) p2, .v (.sl (.int .u8)) p3, .v (.sl (.int .i8)) p4, .v (.int .i16) p5, .v (.int .u8) p6], .box [.v (.int .i64) p7, .nl, .nl, .nl, .nl, .nl, .v (.int .i64) p8, .nl], .box [.v (.int .i64) p9, .nl, .nl, .nl, .nl, .nl, .v (.int .i64) p10, .nl]]⟩
theorem F26k8.start_eq (k : Nat) (m : Int) (z : (List Int) × ((List Int) × ((List Int) × (Int × Int)))) (a1 : Int) (hm : IntKind.i64.wrap (1 + ((IntKind.i64.wrap m).tmod 23)) = (8 : Int)) : callW F26k8.E false F26k8.fn k [.agg [.v (.int .u8) m, .v (.sl (.int .u8)) z.1, .v (.sl (.int .u8)) z.2.1, .v (.sl (.int .i8)) z.2.2.1, .v (.int .i16) z.2.2.2.1, .v (.int .u8) z.2.2.2.2], .v (.int .i64) a1] =
  bif decide ((8 : Int) < shapesL.length) then
   bif decide ((z.1.length : Int) < 1) then
    bif placesB z.1 2 a1 then
     some (.agg [.v (.int .i64) (8 : Int), .v (.sl (.int .i64)) (placesL z.1 2 a1), .nl, .nl, .nl, .nl, .v (.int .i64) (0 : Int), .nl])
    else
     none
   else
    bif decide ((z.1.length : Int) > 4) then
     bif placesB z.1 2 a1 then
      some (.agg [.v (.int .i64) (8 : Int), .v (.sl (.int .i64)) (placesL z.1 2 a1), .nl, .nl, .nl, .nl, .v (.int .i64) (0 : Int), .nl])
     else
      none
    else
     bif placesB z.1 2 a1 then
      some (.agg [.v (.int .i64) (8 : Int), .v (.sl (.int .i64)) (placesL z.1 2 a1), .nl, .nl, .nl, .nl, .v (.int .i64) (0 : Int), .nl])
     else
      none
  else
   none :=
 (show callW F26k8.E false F26k8.fn k [.agg [.v (.int .u8) m, .v (.sl (.int .u8)) z.1, .v (.sl (.int .u8)) z.2.1, .v (.sl (.int .i8)) z.2.2.1, .v (.int .i16) z.2.2.2.1, .v (.int .u8) z.2.2.2.2], .v (.int .i64) a1] = F26k8.n1_1 k (F26k8.kt k [1, 1]) a1 m z.1 z.2.1 z.2.2.1 z.2.2.2.1 z.2.2.2.2 (0 : Int) (0 : Int) (IntKind.i64.wrap (1 + ((IntKind.i64.wrap m).tmod 23))) (0 : Int) by kernel_rfl).trans ((congrArg (fun x : Int => F26k8.n1_1 k (F26k8.kt k [1, 1]) a1 m z.1 z.2.1 z.2.2.1 z.2.2.2.1 z.2.2.2.2 (0 : Int) (0 : Int) x (0 : Int)) hm).trans (by kernel_rfl))
noncomputable def F26k9.fn : Func := Go.Proofs.Tryz.f34
noncomputable def F26k9.body : Code := bodyOf F26k9.fn
noncomputable def F26k9.E : Env := ⟨tt, [(62, h_shapes), (71, h_hasB), (72, h_placesL)], [(1, [1, 2, 4]), (2, [1, 2, 4, 5]), (3, [1, 2, 4, 5, 6]), (4, [1, 2, 4, 5, 6, 7]), (5, [1, 2, 4, 5, 6, 7, 28]), (6, [1, 2, 4, 5, 6, 7]), (7, [1, 2, 4, 5, 6, 7, 30]), (8, [1, 2, 4, 5, 6, 7]), (9, [1, 2, 4, 5, 6, 7, 33]), (10, [1, 2, 4, 5, 6, 7]), (11, [1, 2, 4, 5, 6, 7]), (12, [1, 2, 4, 5, 6, 7, 44]), (13, [1, 2, 4, 5, 6, 7]), (14, [1, 2, 4, 5, 6, 7, 52]), (15, [2, 4, 5, 6, 7]), (16, [2, 4, 5, 6, 7, 61]), (17, [2, 4, 5, 6, 7]), (18, [2, 4, 5, 6, 7, 69]), (19, [2, 4, 5, 6, 7]), (20, [2, 4, 5, 7, 81]), (21, [2, 4, 5, 7]), (22, [2, 4, 5, 7, 89]), (23, [2, 4, 5, 7]), (24, [2, 4, 5, 7]), (25, [2, 4, 5, 7, 103]), (26, [2, 4, 5, 7]), (27, [2, 4, 5, 7, 110]), (28, [2, 4, 5, 7]), (29, [2, 4, 5, 7, 8]), (30, [2, 4, 5, 7, 8, 9]), (31, [2, 4, 5, 7, 8, 9]), (32, [2, 4, 5, 7, 8, 9]), (33, [2, 4, 5, 7, 8]), (34, [2, 4, 5, 7, 8]), (35, [2, 4, 5, 7, 8, 10]), (36, [2, 4, 5, 7, 8, 10]), (37, [2, 4, 5, 7, 8, 10]), (38, [2, 4, 5, 7]), (39, [2, 4, 5, 7, 162]), (40, [2, 4, 5, 7, 11]), (41, [2, 4, 5, 7, 11, 12]), (42, [2, 4, 5, 7, 11, 12]), (43, [2, 4, 5, 7, 11, 12]), (44, [4, 5])], [(0, [2, 4, 5, 7, 8]), (1, [2, 4, 5, 7, 8, 9]), (2, [2, 4, 5, 7]), (3, [2, 4, 5, 7, 8, 10]), (4, [4, 5]), (5, [2, 4, 5, 7, 11, 12])], some [4], inv, []⟩
noncomputable def F26k9.K0 : Conts := { nrm := endW F26k9.E false F26k9.fn.results.toList, ret := endW F26k9.E false F26k9.fn.results.toList, ex := [] }
noncomputable def F26k9.kt (k : Nat) (q : List Nat) : Conts := contAt F26k9.E k F26k9.body F26k9.K0 q
noncomputable def F26k9.n1_1 (n : Nat) (K : Conts) (p0 p1 : Int) (p2 p3 p4 : List Int) (p5 p6 p7 p8 p9 p10 : Int) : Option AV := runC F26k9.E (loopF F26k9.E n) (subC [1,1] F26k9.body) K ⟨slots 186 [(1, .v (.int .i64) p0), (2, .pb 0 0), (4, .pb 1 0), (5, .pb 2 0)], [.box [.v (.int .u8) p1, .v (.sl (.int .u8)) p2, .v (.sl (.int .u8)) p3, .v (.sl (.int .i8)) p4, .v (.int .i16) p5, .v (.int .u8) p6], .box [.v (.int .i64) p7, .nl, .nl, .nl, .nl, .nl, .v (.int .i64) p8, .nl], .box [.v (.int .i64) p9, .nl, .nl, .nl, .nl, .nl, .v (.int .i64) p10, .nl]]⟩
theorem F26k9.start_eq (k : Nat) (m : Int) (z : (List Int) × ((List Int) × ((List Int) × (Int × Int)))) (a1 : Int) (hm : IntKind.i64.wrap (1 + ((IntKind.i64.wrap m).tmod 23)) = (9 : Int)) : callW F26k9.E false F26k9.fn k [.agg [.v (.int .u8) m, .v (.sl (.int .u8)) z.1, .v (.sl (.int .u8)) z.2.1, .v (.sl (.int .i8)) z.2.2.1, .v (.int .i16) z.2.2.2.1, .v (.int .u8) z.2.2.2.2], .v (.int .i64) a1] =
  bif decide ((9 : Int) < shapesL.length) then
   bif decide ((z.1.length : Int) < 1) then
    bif placesB z.1 3 a1 then
     some (.agg [.v (.int .i64) (9 : Int), .v (.sl (.int .i64)) (placesL z.1 3 a1), .nl, .nl, .nl, .nl, .v (.int .i64) (0 : Int), .nl])
    else
     none
   else
    bif decide ((z.1.length : Int) > 4) then
     bif placesB z.1 3 a1 then
      some (.agg [.v (.int .i64) (9 : Int), .v (.sl (.int .i64)) (placesL z.1 3 a1), .nl, .nl, .nl, .nl, .v (.int .i64) (0 : Int), .nl])
     else
      none
    else
     bif placesB z.1 3 a1 then
      some (.agg [.v (.int .i64) (9 : Int), .v (.sl (.int .i64)) (placesL z.1 3 a1), .nl, .nl, .nl, .nl, .v (.int .i64) (0 : Int), .nl])
     else
      none
  else
   none :=
 (show callW F26k9.E false F26k9.fn k [.agg [.v (.int .u8) m, .v (.sl (.int .u8)) z.1, .v (.sl (.int .u8)) z.2.1, .v (.sl (.int .i8)) z.2.2.1, .v (.int .i16) z.2.2.2.1, .v (.int .u8) z.2.2.2.2], .v (.int .i64) a1] = F26k9.n1_1 k (F26k9.kt k [1, 1]) a1 m z.1 z.2.1 z.2.2.1 z.2.2.2.1 z.2.2.2.2 (0 : Int) (0 : Int) (IntKind.i64.wrap (1 + ((IntKind.i64.wrap m).tmod 23))) (0 : Int) by kernel_rfl).trans ((congrArg (fun x : Int => F26k9.n1_1 k (F26k9.kt k [1, 1]) a1 m z.1 z.2.1 z.2.2.1 z.2.2.2.1 z.2.2.2.2 (0 : Int) (0 : Int) x (0 : Int)) hm).trans (by kernel_rfl))
noncomputable def F26k10.fn : Func := Go.Proofs.Tryz.f34
noncomputable def F26k10.body : Code := bodyOf F26k10.fn
noncomputable def F26k10.E : Env := ⟨tt, [(62, h_shapes), (71, h_hasB), (72, h_placesL)], [(1, [1, 2, 4]), (2, [1, 2, 4, 5]), (3, [1, 2, 4, 5, 6]), (4, [1, 2, 4, 5, 6, 7]), (5, [1, 2, 4, 5, 6, 7, 28]), (6, [1, 2, 4, 5, 6, 7]), (7, [1, 2, 4, 5, 6, 7, 30]), (8, [1, 2, 4, 5, 6, 7]), (9, [1, 2, 4, 5, 6, 7, 33]), (10, [1, 2, 4, 5, 6, 7]), (11, [1, 2, 4, 5, 6, 7]), (12, [1, 2, 4, 5, 6, 7, 44]), (13, [1, 2, 4, 5, 6, 7]), (14, [1, 2, 4, 5, 6, 7, 52]), (15, [2, 4, 5, 6, 7]), (16, [2, 4, 5, 6, 7, 61]), (17, [2, 4, 5, 6, 7]), (18, [2, 4, 5, 6, 7, 69]), (19, [2, 4, 5, 6, 7]), (20, [2, 4, 5, 7, 81]), (21, [2, 4, 5, 7]), (22, [2, 4, 5, 7, 89]), (23, [2, 4, 5, 7]), (24, [2, 4, 5, 7]), (25, [2, 4, 5, 7, 103]), (26, [2, 4, 5, 7]), (27, [2, 4, 5, 7, 110]), (28, [2, 4, 5, 7]), (29, [2, 4, 5, 7, 8]), (30, [2, 4, 5, 7, 8, 9]), (31, [2, 4, 5, 7, 8, 9]), (32, [2, 4, 5, 7, 8, 9]), (33, [2, 4, 5, 7, 8]), (34, [2, 4, 5, 7, 8]), (35, [2, 4, 5, 7, 8, 10]), (36, [2, 4, 5, 7, 8, 10]), (37, [2, 4, 5, 7, 8, 10]), (38, [2, 4, 5, 7]), (39, [2, 4, 5, 7, 162]), (40, [2, 4, 5, 7, 11]), (41, [2, 4, 5, 7, 11, 12]), (42, [2, 4, 5, 7, 11, 12]), (43, [2, 4, 5, 7, 11, 12]), (44, [4, 5])], [(0, [2, 4, 5, 7, 8]), (1, [2, 4, 5, 7, 8, 9]), (2, [2, 4, 5, 7]), (3, [2, 4, 5, 7, 8, 10]), (4, [4, 5]), (5, [2, 4, 5, 7, 11, 12])], some [4], inv, []⟩
noncomputable def F26k10.K0 : Conts := { nrm := endW F26k10.E false F26k10.fn.results.toList, ret := endW F26k10.E false F26k10.fn.results.toList, ex := [] }
noncomputable def F26k10.kt (k : Nat) (q : List Nat) : Conts := contAt F26k10.E k F26k10.body F26k10.K0 q
noncomputable def F26k10.n1_1 (n : Nat) (K : Conts) (p0 p1 : Int) (p2 p3 p4 : List Int) (p5 p6 p7 p8 p9 p10 : Int) : Option AV := runC F26k10.E (loopF F26k10.E n) (subC [1,1] F26k10.body) K ⟨slots 186 [(1, .v (.int .i64) p0), (2, .pb 0 0), (4, .pb 1 0), (5, .pb 2 0)], [.box [.v (.int .u8) p1, .v (.sl (.int .u8)) p2, .v (.sl (.int .u8)) p3, .v (.sl (.int .i8)) p4, .v (.int .i16) p5, .v (.int .u8) p6], .box [.v (.int .i64) p7, .nl, .nl, .nl, .nl, .nl, .v (.int .i64) p8, .nl], .box [.v (.int .i64) p9, .nl, .nl, .nl, .nl, .nl, .v (.int .i64) p10, .nl]]⟩
theorem F26k10.start_eq (k : Nat) (m : Int) (z : (List Int) × ((List Int) × ((List Int) × (Int × Int)))) (a1 : Int) (hm : IntKind.i64.wrap (1 + ((IntKind.i64.wrap m).tmod 23)) = (10 : Int)) : callW F26k10.E false F26k10.fn k [.agg [.v (.int .u8) m, .v (.sl (.int .u8)) z.1, .v (.sl (.int .u8)) z.2.1, .v (.sl (.int .i8)) z.2.2.1, .v (.int .i16) z.2.2.2.1, .v (.int .u8) z.2.2.2.2], .v (.int .i64) a1] =
  bif decide ((10 : Int) < shapesL.length) then
   bif decide ((z.1.length : Int) < 1) then
    bif placesB z.1 3 a1 then
     some (.agg [.v (.int .i64) (10 : Int), .v (.sl (.int .i64)) (placesL z.1 3 a1), .nl, .nl, .nl, .nl, .v (.int .i64) (0 : Int), .nl])
    else
     none
   else
    bif decide ((z.1.length : Int) > 4) then
     bif placesB z.1 3 a1 then
      some (.agg [.v (.int .i64) (10 : Int), .v (.sl (.int .i64)) (placesL z.1 3 a1), .nl, .nl, .nl, .nl, .v (.int .i64) (0 : Int), .nl])
     else
      none
    else
     bif placesB z.1 3 a1 then
      some (.agg [.v (.int .i64) (10 : Int), .v (.sl (.int .i64)) (placesL z.1 3 a1), .nl, .nl, .nl, .nl, .v (.int .i64) (0 : Int), .nl])
     else
      none
  else
   none :=
 (show callW F26k10.E false F26k10.fn k [.agg [.v (.int .u8) m, .v (.sl (.int .u8)) z.1, .v (.sl (.int .u8)) z.2.1, .v (.sl (.int .i8)) z.2.2.1, .v (.int .i16) z.2.2.2.1, .v (.int .u8) z.2.2.2.2], .v (.int .i64) a1] = F26k10.n1_1 k (F26k10.kt k [1, 1]) a1 m z.1 z.2.1 z.2.2.1 z.2.2.2.1 z.2.2.2.2 (0 : Int) (0 : Int) (IntKind.i64.wrap (1 + ((IntKind.i64.wrap m).tmod 23))) (0 : Int) by kernel_rfl).trans ((congrArg (fun x : Int => F26k10.n1_1 k (F26k10.kt k [1, 1]) a1 m z.1 z.2.1 z.2.2.1 z.2.2.2.1 z.2.2.2.2 (0 : Int) (0 : Int) x (0 : Int)) hm).trans (by kernel_rfl))
noncomputable def F26k11.fn : Func := Go.Proofs.Tryz.f34
noncomputable def F26k11.body : Code := bodyOf F26k11.fn
noncomputable def F26k11.E : Env := ⟨tt, [(62, h_shapes), (71, h_hasB), (72, h_placesL), (73, h_numbersL)], [(1, [1, 2, 4]), (2, [1, 2, 4, 5]), (3, [1, 2, 4, 5, 6]), (4, [1, 2, 4, 5, 6, 7]), (5, [1, 2, 4, 5, 6, 7, 28]), (6, [1, 2, 4, 5, 6, 7]), (7, [1, 2, 4, 5, 6, 7, 30]), (8, [1, 2, 4, 5, 6, 7]), (9, [1, 2, 4, 5, 6, 7, 33]), (10, [1, 2, 4, 5, 6, 7]), (11, [1, 2, 4, 5, 6, 7]), (12, [1, 2, 4, 5, 6, 7, 44]), (13, [1, 2, 4, 5, 6, 7]), (14, [1, 2, 4, 5, 6, 7, 52]), (15, [2, 4, 5, 6, 7]), (16, [2, 4, 5, 6, 7, 61]), (17, [2, 4, 5, 6, 7]), (18, [2, 4, 5, 6, 7, 69]), (19, [2, 4, 5, 6, 7]), (20, [2, 4, 5, 7, 81]), (21, [2, 4, 5, 7]), (22, [2, 4, 5, 7, 89]), (23, [2, 4, 5, 7]), (24, [2, 4, 5, 7]), (25, [2, 4, 5, 7, 103]), (26, [2, 4, 5, 7]), (27, [2, 4, 5, 7, 110]), (28, [2, 4, 5, 7]), (29, [2, 4, 5, 7, 8]), (30, [2, 4, 5, 7, 8, 9]), (31, [2, 4, 5, 7, 8, 9]), (32, [2, 4, 5, 7, 8, 9]), (33, [2, 4, 5, 7, 8]), (34, [2, 4, 5, 7, 8]), (35, [2, 4, 5, 7, 8, 10]), (36, [2, 4, 5, 7, 8, 10]), (37, [2, 4, 5, 7, 8, 10]), (38, [2, 4, 5, 7]), (39, [2, 4, 5, 7, 162]), (40, [2, 4, 5, 7, 11]), (41, [2, 4, 5, 7, 11, 12]), (42, [2, 4, 5, 7, 11, 12]), (43, [2, 4, 5, 7, 11, 12]), (44, [4, 5])], [(0, [2, 4, 5, 7, 8]), (1, [2, 4, 5, 7, 8, 9]), (2, [2, 4, 5, 7]), (3, [2, 4, 5, 7, 8, 10]), (4, [4, 5]), (5, [2, 4, 5, 7, 11, 12])], some [4], inv, []⟩
noncomputable def F26k11.K0 : Conts := { nrm := endW F26k11.E false F26k11.fn.results.toList, ret := endW F26k11.E false F26k11.fn.results.toList, ex := [] }
noncomputable def F26k11.kt (k : Nat) (q : List Nat) : Conts := contAt F26k11.E k F26k11.body F26k11.K0 q
noncomputable def F26k11.n1_1 (n : Nat) (K : Conts) (p0 p1 : Int) (p2 p3 p4 : List Int) (p5 p6 p7 p8 p9 p10 : Int) : Option AV := runC F26k11.E (loopF F26k11.E n) (subC [1,1] F26k11.body) K ⟨slots 186 [(1, .v (.int .i64) p0), (2, .pb 0 0), (4, .pb 1 0), (5, .pb 2 0)], [.box [.v (.int .u8) p1, .v (.sl (.int .u8)) p2, .v (.sl (.int .u8)) p3, .v (.sl (.int .i8)) p4, .v (.int .i16) p5, .v (.int .u8) p6], .box [.v (.int .i64) p7, .nl, .nl, .nl, .nl, .nl, .v (.int .i64) p8, .nl], .box [.v (.int .i64) p9, .nl, .nl, .nl, .nl, .nl, .v (.int .i64) p10, .nl]]⟩
theorem F26k11.start_eq (k : Nat) (m : Int) (z : (List Int) × ((List Int) × ((List Int) × (Int × Int)))) (a1 : Int) (hm : IntKind.i64.wrap (1 + ((IntKind.i64.wrap m).tmod 23)) = (11 : Int)) : callW F26k11.E false F26k11.fn k [.agg [.v (.int .u8) m, .v (.sl (.int .u8)) z.1, .v (.sl (.int .u8)) z.2.1, .v (.sl (.int .i8)) z.2.2.1, .v (.int .i16) z.2.2.2.1, .v (.int .u8) z.2.2.2.2], .v (.int .i64) a1] =
  bif decide ((11 : Int) < shapesL.length) then
   bif decide ((z.1.length : Int) < 1) then
    bif placesB z.1 2 a1 then
     bif numbersB z.2.2.1 0 2 (-1 : Int) 5 then
      bif numbersB z.2.2.1 0 (IntKind.i64.wrap (1 + ((z.2.2.1.length : Int).tmod 5))) (-1 : Int) 5 then
       some (.agg [.v (.int .i64) (11 : Int), .v (.sl (.int .i64)) (placesL z.1 2 a1), .nl, .v (.sl (.int .i64)) (numbersL z.2.2.1 0 (IntKind.i64.wrap (1 + ((z.2.2.1.length : Int).tmod 5))) (-1 : Int) 5), .nl, .nl, .v (.int .i64) (0 : Int), .nl])
      else
       none
     else
      none
    else
     none
   else
    bif decide ((z.1.length : Int) > 4) then
     bif placesB z.1 2 a1 then
      bif numbersB z.2.2.1 0 2 (-1 : Int) 5 then
       bif numbersB z.2.2.1 0 (IntKind.i64.wrap (1 + ((z.2.2.1.length : Int).tmod 5))) (-1 : Int) 5 then
        some (.agg [.v (.int .i64) (11 : Int), .v (.sl (.int .i64)) (placesL z.1 2 a1), .nl, .v (.sl (.int .i64)) (numbersL z.2.2.1 0 (IntKind.i64.wrap (1 + ((z.2.2.1.length : Int).tmod 5))) (-1 : Int) 5), .nl, .nl, .v (.int .i64) (0 : Int), .nl])
       else
        none
      else
       none
     else
      none
    else
     bif placesB z.1 2 a1 then
      bif numbersB z.2.2.1 0 2 (-1 : Int) 5 then
       bif numbersB z.2.2.1 0 (IntKind.i64.wrap (1 + ((z.2.2.1.length : Int).tmod 5))) (-1 : Int) 5 then
        some (.agg [.v (.int .i64) (11 : Int), .v (.sl (.int .i64)) (placesL z.1 2 a1), .nl, .v (.sl (.int .i64)) (numbersL z.2.2.1 0 (IntKind.i64.wrap (1 + ((z.2.2.1.length : Int).tmod 5))) (-1 : Int) 5), .nl, .nl, .v (.int .i64) (0 : Int), .nl])
       else
        none
      else
       none
     else
      none
  else
   none :=
 (show callW F26k11.E false F26k11.fn k [.agg [.v (.int .u8) m, .v (.sl (.int .u8)) z.1, .v (.sl (.int .u8)) z.2.1, .v (.sl (.int .i8)) z.2.2.1, .v (.int .i16) z.2.2.2.1, .v (.int .u8) z.2.2.2.2], .v (.int .i64) a1] = F26k11.n1_1 k (F26k11.kt k [1, 1]) a1 m z.1 z.2.1 z.2.2.1 z.2.2.2.1 z.2.2.2.2 (0 : Int) (0 : Int) (IntKind.i64.wrap (1 + ((IntKind.i64.wrap m).tmod 23))) (0 : Int) by kernel_rfl).trans ((congrArg (fun x : Int => F26k11.n1_1 k (F26k11.kt k [1, 1]) a1 m z.1 z.2.1 z.2.2.1 z.2.2.2.1 z.2.2.2.2 (0 : Int) (0 : Int) x (0 : Int)) hm).trans (by kernel_rfl))
noncomputable def F26k12.fn : Func := Go.Proofs.Tryz.f34
noncomputable def F26k12.body : Code := bodyOf F26k12.fn
noncomputable def F26k12.E : Env := ⟨tt, [(62, h_shapes), (71, h_hasB), (72, h_placesL)], [(1, [1, 2, 4]), (2, [1, 2, 4, 5]), (3, [1, 2, 4, 5, 6]), (4, [1, 2, 4, 5, 6, 7]), (5, [1, 2, 4, 5, 6, 7, 28]), (6, [1, 2, 4, 5, 6, 7]), (7, [1, 2, 4, 5, 6, 7, 30]), (8, [1, 2, 4, 5, 6, 7]), (9, [1, 2, 4, 5, 6, 7, 33]), (10, [1, 2, 4, 5, 6, 7]), (11, [1, 2, 4, 5, 6, 7]), (12, [1, 2, 4, 5, 6, 7, 44]), (13, [1, 2, 4, 5, 6, 7]), (14, [1, 2, 4, 5, 6, 7, 52]), (15, [2, 4, 5, 6, 7]), (16, [2, 4, 5, 6, 7, 61]), (17, [2, 4, 5, 6, 7]), (18, [2, 4, 5, 6, 7, 69]), (19, [2, 4, 5, 6, 7]), (20, [2, 4, 5, 7, 81]), (21, [2, 4, 5, 7]), (22, [2, 4, 5, 7, 89]), (23, [2, 4, 5, 7]), (24, [2, 4, 5, 7]), (25, [2, 4, 5, 7, 103]), (26, [2, 4, 5, 7]), (27, [2, 4, 5, 7, 110]), (28, [2, 4, 5, 7]), (29, [2, 4, 5, 7, 8]), (30, [2, 4, 5, 7, 8, 9]), (31, [2, 4, 5, 7, 8, 9]), (32, [2, 4, 5, 7, 8, 9]), (33, [2, 4, 5, 7, 8]), (34, [2, 4, 5, 7, 8]), (35, [2, 4, 5, 7, 8, 10]), (36, [2, 4, 5, 7, 8, 10]), (37, [2, 4, 5, 7, 8, 10]), (38, [2, 4, 5, 7]), (39, [2, 4, 5, 7, 162]), (40, [2, 4, 5, 7, 11]), (41, [2, 4, 5, 7, 11, 12]), (42, [2, 4, 5, 7, 11, 12]), (43, [2, 4, 5, 7, 11, 12]), (44, [4, 5])], [(0, [2, 4, 5, 7, 8]), (1, [2, 4, 5, 7, 8, 9]), (2, [2, 4, 5, 7]), (3, [2, 4, 5, 7, 8, 10]), (4, [4, 5]), (5, [2, 4, 5, 7, 11, 12])], some [4], inv, []⟩
noncomputable def F26k12.K0 : Conts := { nrm := endW F26k12.E false F26k12.fn.results.toList, ret := endW F26k12.E false F26k12.fn.results.toList, ex := [] }
noncomputable def F26k12.kt (k : Nat) (q : List Nat) : Conts := contAt F26k12.E k F26k12.body F26k12.K0 q
noncomputable def F26k12.n1_1 (n : Nat) (K : Conts) (p0 p1 : Int) (p2 p3 p4 : List Int) (p5 p6 p7 p8 p9 p10 : Int) : Option AV := runC F26k12.E (loopF F26k12.E n) (subC [1,1] F26k12.body) K ⟨slots 186 [(1, .v (.int .i64) p0), (2, .pb 0 0), (4, .pb 1 0), (5, .pb 2 0)], [.box [.v (.int .u8) p1, .v (.sl (.int .u8)) p2, .v (.sl (.int .u8)) p3, .v (.sl (.int .i8)) p4, .v (.int .i16) p5, .v (.int .u8) p6], .box [.v (.int .i64) p7, .nl, .nl, .nl, .nl, .nl, .v (.int .i64) p8, .nl], .box [.v (.int .i64) p9, .nl, .nl, .nl, .nl, .nl, .v (.int .i64) p10, .nl]]⟩
theorem F26k12.start_eq (k : Nat) (m : Int) (z : (List Int) × ((List Int) × ((List Int) × (Int × Int)))) (a1 : Int) (hm : IntKind.i64.wrap (1 + ((IntKind.i64.wrap m).tmod 23)) = (12 : Int)) : callW F26k12.E false F26k12.fn k [.agg [.v (.int .u8) m, .v (.sl (.int .u8)) z.1, .v (.sl (.int .u8)) z.2.1, .v (.sl (.int .i8)) z.2.2.1, .v (.int .i16) z.2.2.2.1, .v (.int .u8) z.2.2.2.2], .v (.int .i64) a1] =
  bif decide ((12 : Int) < shapesL.length) then
   bif decide ((z.1.length : Int) < 1) then
    bif placesB z.1 1 a1 then
     bif placesB z.2.1 1 a1 then
      some (.agg [.v (.int .i64) (12 : Int), .v (.sl (.int .i64)) (placesL z.1 1 a1), .v (.sl (.int .i64)) (placesL z.2.1 1 a1), .nl, .nl, .nl, .v (.int .i64) (0 : Int), .nl])
     else
      none
    else
     none
   else
    bif decide ((z.1.length : Int) > 4) then
     bif placesB z.1 4 a1 then
      bif placesB z.2.1 4 a1 then
       some (.agg [.v (.int .i64) (12 : Int), .v (.sl (.int .i64)) (placesL z.1 4 a1), .v (.sl (.int .i64)) (placesL z.2.1 4 a1), .nl, .nl, .nl, .v (.int .i64) (0 : Int), .nl])
      else
       none
     else
      none
    else
     bif placesB z.1 (z.1.length : Int) a1 then
      bif placesB z.2.1 (z.1.length : Int) a1 then
       some (.agg [.v (.int .i64) (12 : Int), .v (.sl (.int .i64)) (placesL z.1 (z.1.length : Int) a1), .v (.sl (.int .i64)) (placesL z.2.1 (z.1.length : Int) a1), .nl, .nl, .nl, .v (.int .i64) (0 : Int), .nl])
      else
       none
     else
      none
  else
   none :=
 (show callW F26k12.E false F26k12.fn k [.agg [.v (.int .u8) m, .v (.sl (.int .u8)) z.1, .v (.sl (.int .u8)) z.2.1, .v (.sl (.int .i8)) z.2.2.1, .v (.int .i16) z.2.2.2.1, .v (.int .u8) z.2.2.2.2], .v (.int .i64) a1] = F26k12.n1_1 k (F26k12.kt k [1, 1]) a1 m z.1 z.2.1 z.2.2.1 z.2.2.2.1 z.2.2.2.2 (0 : Int) (0 : Int) (IntKind.i64.wrap (1 + ((IntKind.i64.wrap m).tmod 23))) (0 : Int) by kernel_rfl).trans ((congrArg (fun x : Int => F26k12.n1_1 k (F26k12.kt k [1, 1]) a1 m z.1 z.2.1 z.2.2.1 z.2.2.2.1 z.2.2.2.2 (0 : Int) (0 : Int) x (0 : Int)) hm).trans (by kernel_rfl))
end Go.Proofs.YtlfdikofmfhefaaGreatDoor.Ev
