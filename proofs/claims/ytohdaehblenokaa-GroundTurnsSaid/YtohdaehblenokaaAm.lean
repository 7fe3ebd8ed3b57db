/-
The functions as the evaluator runs them: printed by a program of mine, each equation by kernel_rfl.
Conditions: none.
-/
import Derived.Test.YtohdaehblenokaaAa
set_option linter.unusedVariables false
set_option linter.unusedSimpArgs false
set_option maxRecDepth 100000
namespace Go.Proofs.Ytohdaehblenokaa.Ev
open Go
noncomputable def F26k1.fn : Func := Go.Proofs.Try.f6
noncomputable def F26k1.body : Code := bodyOf F26k1.fn
noncomputable def F26k1.E : Env := ⟨tt, [(18, h_shapes), (19, h_hasB), (20, h_placesL), (21, h_numbersL)], [(1, [1, 2, 4]), (2, [1, 2, 4, 5]), (3, [1, 2, 4, 5, 6]), (4, [1, 2, 4, 5, 6, 7]), (5, [1, 2, 4, 5, 6, 7, 28]), (6, [1, 2, 4, 5, 6, 7]), (7, [1, 2, 4, 5, 6, 7, 30]), (8, [1, 2, 4, 5, 6, 7]), (9, [1, 2, 4, 5, 6, 7, 33]), (10, [1, 2, 4, 5, 6, 7]), (11, [1, 2, 4, 5, 6, 7]), (12, [1, 2, 4, 5, 6, 7, 44]), (13, [1, 2, 4, 5, 6, 7]), (14, [1, 2, 4, 5, 6, 7, 52]), (15, [2, 4, 5, 6, 7]), (16, [2, 4, 5, 6, 7, 61]), (17, [2, 4, 5, 6, 7]), (18, [2, 4, 5, 6, 7, 69]), (19, [2, 4, 5, 6, 7]), (20, [2, 4, 5, 7, 81]), (21, [2, 4, 5, 7]), (22, [2, 4, 5, 7, 89]), (23, [2, 4, 5, 7]), (24, [2, 4, 5, 7]), (25, [2, 4, 5, 7, 103]), (26, [2, 4, 5, 7]), (27, [2, 4, 5, 7, 110]), (28, [2, 4, 5, 7]), (29, [2, 4, 5, 7, 8]), (30, [2, 4, 5, 7, 8, 9]), (31, [2, 4, 5, 7, 8, 9]), (32, [2, 4, 5, 7, 8, 9]), (33, [2, 4, 5, 7, 8]), (34, [2, 4, 5, 7, 8]), (35, [2, 4, 5, 7, 8, 10]), (36, [2, 4, 5, 7, 8, 10]), (37, [2, 4, 5, 7, 8, 10]), (38, [2, 4, 5, 7]), (39, [2, 4, 5, 7, 162]), (40, [2, 4, 5, 7, 11]), (41, [2, 4, 5, 7, 11, 12]), (42, [2, 4, 5, 7, 11, 12]), (43, [2, 4, 5, 7, 11, 12]), (44, [4, 5])], [(0, [2, 4, 5, 7, 8]), (1, [2, 4, 5, 7, 8, 9]), (2, [2, 4, 5, 7]), (3, [2, 4, 5, 7, 8, 10]), (4, [4, 5]), (5, [2, 4, 5, 7, 11, 12])], some [4], inv, []⟩
noncomputable def F26k1.K0 : Conts := { nrm := endW F26k1.E false F26k1.fn.results.toList, ret := endW F26k1.E false F26k1.fn.results.toList, ex := [] }
noncomputable def F26k1.kt (k : Nat) (q : List Nat) : Conts := contAt F26k1.E k F26k1.body F26k1.K0 q
noncomputable def F26k1.n1_1 (n : Nat) (K : Conts) (p0 p1 : Int) (p2 p3 p4 : List Int) (p5 p6 p7 p8 p9 p10 : Int) : Option AV := runC F26k1.E (loopF F26k1.E n) (subC [1,1] F26k1.body) K ⟨slots 186 [(1, .v (.int .i64) p0), (2, .pb 0 0), (4, .pb 1 0), (5, .pb 2 0)], [.box [.v (.int .u8) p1, .v (.sl (.int .u8)) p2, .v (.sl (.int .u8)) p3, .v (.sl (.int .i8)) p4, .v (.int .i16) p5, .v (.int .u8) p6], .box [.v (.int .i64) p7, .nl, .nl, .nl, .nl, .nl, .v (.int .i64) p8, .nl], .box [.v (.int .i64) p9, .nl, .nl, .nl, .nl, .nl, .v (.int .i64) p10, .nl]]⟩
theorem F26k1.start_eq (k : Nat) (m : Int) (z : (List Int) × ((List Int) × ((List Int) × (Int × Int)))) (a1 : Int) (hm : IntKind.i64.wrap (1 + ((IntKind.i64.wrap m).tmod 23)) = (1 : Int)) : callW F26k1.E false F26k1.fn k [.agg [.v (.int .u8) m, .v (.sl (.int .u8)) z.1, .v (.sl (.int .u8)) z.2.1, .v (.sl (.int .i8)) z.2.2.1, .v (.int .i16) z.2.2.2.1, .v (.int .u8) z.2.2.2.2], .v (.int .i64) a1] =
  bif decide ((1 : Int) < shapesL.length) then
   bif decide ((z.1.length : Int) < 1) then
    bif placesB z.1 1 a1 then
     bif numbersB z.2.2.1 0 1 (-1 : Int) 5 then
      some (.agg [.v (.int .i64) (1 : Int), .v (.sl (.int .i64)) (placesL z.1 1 a1), .nl, .v (.sl (.int .i64)) (numbersL z.2.2.1 0 1 (-1 : Int) 5), .nl, .nl, .v (.int .i64) ((IntKind.i64.wrap z.2.2.2.1).tmod 12), .nl])
     else
      none
    else
     none
   else
    bif decide ((z.1.length : Int) > 4) then
     bif placesB z.1 4 a1 then
      bif numbersB z.2.2.1 0 4 (-1 : Int) 5 then
       some (.agg [.v (.int .i64) (1 : Int), .v (.sl (.int .i64)) (placesL z.1 4 a1), .nl, .v (.sl (.int .i64)) (numbersL z.2.2.1 0 4 (-1 : Int) 5), .nl, .nl, .v (.int .i64) ((IntKind.i64.wrap z.2.2.2.1).tmod 12), .nl])
      else
       none
     else
      none
    else
     bif placesB z.1 (z.1.length : Int) a1 then
      bif numbersB z.2.2.1 0 (z.1.length : Int) (-1 : Int) 5 then
       some (.agg [.v (.int .i64) (1 : Int), .v (.sl (.int .i64)) (placesL z.1 (z.1.length : Int) a1), .nl, .v (.sl (.int .i64)) (numbersL z.2.2.1 0 (z.1.length : Int) (-1 : Int) 5), .nl, .nl, .v (.int .i64) ((IntKind.i64.wrap z.2.2.2.1).tmod 12), .nl])
      else
       none
     else
      none
  else
   none :=
 (show callW F26k1.E false F26k1.fn k [.agg [.v (.int .u8) m, .v (.sl (.int .u8)) z.1, .v (.sl (.int .u8)) z.2.1, .v (.sl (.int .i8)) z.2.2.1, .v (.int .i16) z.2.2.2.1, .v (.int .u8) z.2.2.2.2], .v (.int .i64) a1] = F26k1.n1_1 k (F26k1.kt k [1, 1]) a1 m z.1 z.2.1 z.2.2.1 z.2.2.2.1 z.2.2.2.2 (0 : Int) (0 : Int) (IntKind.i64.wrap (1 + ((IntKind.i64.wrap m).tmod 23))) (0 : Int) by kernel_rfl).trans ((congrArg (fun x : Int => F26k1.n1_1 k (F26k1.kt k [1, 1]) a1 m z.1 z.2.1 z.2.2.1 z.2.2.2.1 z.2.2.2.2 (0 : Int) (0 : Int) x (0 : Int)) hm).trans (by kernel_rfl))
noncomputable def F26k2.fn : Func := Go.Proofs.Try.f6
noncomputable def F26k2.body : Code := bodyOf F26k2.fn
noncomputable def F26k2.E : Env := ⟨tt, [(18, h_shapes), (19, h_hasB), (20, h_placesL), (21, h_numbersL)], [(1, [1, 2, 4]), (2, [1, 2, 4, 5]), (3, [1, 2, 4, 5, 6]), (4, [1, 2, 4, 5, 6, 7]), (5, [1, 2, 4, 5, 6, 7, 28]), (6, [1, 2, 4, 5, 6, 7]), (7, [1, 2, 4, 5, 6, 7, 30]), (8, [1, 2, 4, 5, 6, 7]), (9, [1, 2, 4, 5, 6, 7, 33]), (10, [1, 2, 4, 5, 6, 7]), (11, [1, 2, 4, 5, 6, 7]), (12, [1, 2, 4, 5, 6, 7, 44]), (13, [1, 2, 4, 5, 6, 7]), (14, [1, 2, 4, 5, 6, 7, 52]), (15, [2, 4, 5, 6, 7]), (16, [2, 4, 5, 6, 7, 61]), (17, [2, 4, 5, 6, 7]), (18, [2, 4, 5, 6, 7, 69]), (19, [2, 4, 5, 6, 7]), (20, [2, 4, 5, 7, 81]), (21, [2, 4, 5, 7]), (22, [2, 4, 5, 7, 89]), (23, [2, 4, 5, 7]), (24, [2, 4, 5, 7]), (25, [2, 4, 5, 7, 103]), (26, [2, 4, 5, 7]), (27, [2, 4, 5, 7, 110]), (28, [2, 4, 5, 7]), (29, [2, 4, 5, 7, 8]), (30, [2, 4, 5, 7, 8, 9]), (31, [2, 4, 5, 7, 8, 9]), (32, [2, 4, 5, 7, 8, 9]), (33, [2, 4, 5, 7, 8]), (34, [2, 4, 5, 7, 8]), (35, [2, 4, 5, 7, 8, 10]), (36, [2, 4, 5, 7, 8, 10]), (37, [2, 4, 5, 7, 8, 10]), (38, [2, 4, 5, 7]), (39, [2, 4, 5, 7, 162]), (40, [2, 4, 5, 7, 11]), (41, [2, 4, 5, 7, 11, 12]), (42, [2, 4, 5, 7, 11, 12]), (43, [2, 4, 5, 7, 11, 12]), (44, [4, 5])], [(0, [2, 4, 5, 7, 8]), (1, [2, 4, 5, 7, 8, 9]), (2, [2, 4, 5, 7]), (3, [2, 4, 5, 7, 8, 10]), (4, [4, 5]), (5, [2, 4, 5, 7, 11, 12])], some [4], inv, []⟩
noncomputable def F26k2.K0 : Conts := { nrm := endW F26k2.E false F26k2.fn.results.toList, ret := endW F26k2.E false F26k2.fn.results.toList, ex := [] }
noncomputable def F26k2.kt (k : Nat) (q : List Nat) : Conts := contAt F26k2.E k F26k2.body F26k2.K0 q
noncomputable def F26k2.n1_1 (n : Nat) (K : Conts) (p0 p1 : Int) (p2 p3 p4 : List Int) (p5 p6 p7 p8 p9 p10 : Int) : Option AV := runC F26k2.E (loopF F26k2.E n) (subC [1,1] F26k2.body) K ⟨slots 186 [(1, .v (.int .i64) p0), (2, .pb 0 0), (4, .pb 1 0), (5, .pb 2 0)], [.box [.v (.int .u8) p1, .v (.sl (.int .u8)) p2, .v (.sl (.int .u8)) p3, .v (.sl (.int .i8)) p4, .v (.int .i16) p5, .v (.int .u8) p6], .box [.v (.int .i64) p7, .nl, .nl, .nl, .nl, .nl, .v (.int .i64) p8, .nl], .box [.v (.int .i64) p9, .nl, .nl, .nl, .nl, .nl, .v (.int .i64) p10, .nl]]⟩
theorem F26k2.start_eq (k : Nat) (m : Int) (z : (List Int) × ((List Int) × ((List Int) × (Int × Int)))) (a1 : Int) (hm : IntKind.i64.wrap (1 + ((IntKind.i64.wrap m).tmod 23)) = (2 : Int)) : callW F26k2.E false F26k2.fn k [.agg [.v (.int .u8) m, .v (.sl (.int .u8)) z.1, .v (.sl (.int .u8)) z.2.1, .v (.sl (.int .i8)) z.2.2.1, .v (.int .i16) z.2.2.2.1, .v (.int .u8) z.2.2.2.2], .v (.int .i64) a1] =
  bif decide ((2 : Int) < shapesL.length) then
   bif decide ((z.1.length : Int) < 1) then
    bif placesB z.1 1 a1 then
     bif numbersB z.2.2.1 0 1 (-1 : Int) 5 then
      some (.agg [.v (.int .i64) (2 : Int), .v (.sl (.int .i64)) (placesL z.1 1 a1), .nl, .v (.sl (.int .i64)) (numbersL z.2.2.1 0 1 (-1 : Int) 5), .nl, .nl, .v (.int .i64) ((IntKind.i64.wrap z.2.2.2.1).tmod 12), .nl])
     else
      none
    else
     none
   else
    bif decide ((z.1.length : Int) > 4) then
     bif placesB z.1 4 a1 then
      bif numbersB z.2.2.1 0 4 (-1 : Int) 5 then
       some (.agg [.v (.int .i64) (2 : Int), .v (.sl (.int .i64)) (placesL z.1 4 a1), .nl, .v (.sl (.int .i64)) (numbersL z.2.2.1 0 4 (-1 : Int) 5), .nl, .nl, .v (.int .i64) ((IntKind.i64.wrap z.2.2.2.1).tmod 12), .nl])
      else
       none
     else
      none
    else
     bif placesB z.1 (z.1.length : Int) a1 then
      bif numbersB z.2.2.1 0 (z.1.length : Int) (-1 : Int) 5 then
       some (.agg [.v (.int .i64) (2 : Int), .v (.sl (.int .i64)) (placesL z.1 (z.1.length : Int) a1), .nl, .v (.sl (.int .i64)) (numbersL z.2.2.1 0 (z.1.length : Int) (-1 : Int) 5), .nl, .nl, .v (.int .i64) ((IntKind.i64.wrap z.2.2.2.1).tmod 12), .nl])
      else
       none
     else
      none
  else
   none :=
 (show callW F26k2.E false F26k2.fn k [.agg [.v (.int .u8) m, .v (.sl (.int .u8)) z.1, .v (.sl (.int .u8)) z.2.1, .v (.sl (.int .i8)) z.2.2.1, .v (.int .i16) z.2.2.2.1, .v (.int .u8) z.2.2.2.2], .v (.int .i64) a1] = F26k2.n1_1 k (F26k2.kt k [1, 1]) a1 m z.1 z.2.1 z.2.2.1 z.2.2.2.1 z.2.2.2.2 (0 : Int) (0 : Int) (IntKind.i64.wrap (1 + ((IntKind.i64.wrap m).tmod 23))) (0 : Int) by kernel_rfl).trans ((congrArg (fun x : Int => F26k2.n1_1 k (F26k2.kt k [1, 1]) a1 m z.1 z.2.1 z.2.2.1 z.2.2.2.1 z.2.2.2.2 (0 : Int) (0 : Int) x (0 : Int)) hm).trans (by kernel_rfl))
noncomputable def F26k3.fn : Func := Go.Proofs.Try.f6
noncomputable def F26k3.body : Code := bodyOf F26k3.fn
noncomputable def F26k3.E : Env := ⟨tt, [(18, h_shapes), (19, h_hasB), (20, h_placesL), (21, h_numbersL)], [(1, [1, 2, 4]), (2, [1, 2, 4, 5]), (3, [1, 2, 4, 5, 6]), (4, [1, 2, 4, 5, 6, 7]), (5, [1, 2, 4, 5, 6, 7, 28]), (6, [1, 2, 4, 5, 6, 7]), (7, [1, 2, 4, 5, 6, 7, 30]), (8, [1, 2, 4, 5, 6, 7]), (9, [1, 2, 4, 5, 6, 7, 33]), (10, [1, 2, 4, 5, 6, 7]), (11, [1, 2, 4, 5, 6, 7]), (12, [1, 2, 4, 5, 6, 7, 44]), (13, [1, 2, 4, 5, 6, 7]), (14, [1, 2, 4, 5, 6, 7, 52]), (15, [2, 4, 5, 6, 7]), (16, [2, 4, 5, 6, 7, 61]), (17, [2, 4, 5, 6, 7]), (18, [2, 4, 5, 6, 7, 69]), (19, [2, 4, 5, 6, 7]), (20, [2, 4, 5, 7, 81]), (21, [2, 4, 5, 7]), (22, [2, 4, 5, 7, 89]), (23, [2, 4, 5, 7]), (24, [2, 4, 5, 7]), (25, [2, 4, 5, 7, 103]), (26, [2, 4, 5, 7]), (27, [2, 4, 5, 7, 110]), (28, [2, 4, 5, 7]), (29, [2, 4, 5, 7, 8]), (30, [2, 4, 5, 7, 8, 9]), (31, [2, 4, 5, 7, 8, 9]), (32, [2, 4, 5, 7, 8, 9]), (33, [2, 4, 5, 7, 8]), (34, [2, 4, 5, 7, 8]), (35, [2, 4, 5, 7, 8, 10]), (36, [2, 4, 5, 7, 8, 10]), (37, [2, 4, 5, 7, 8, 10]), (38, [2, 4, 5, 7]), (39, [2, 4, 5, 7, 162]), (40, [2, 4, 5, 7, 11]), (41, [2, 4, 5, 7, 11, 12]), (42, [2, 4, 5, 7, 11, 12]), (43, [2, 4, 5, 7, 11, 12]), (44, [4, 5])], [(0, [2, 4, 5, 7, 8]), (1, [2, 4, 5, 7, 8, 9]), (2, [2, 4, 5, 7]), (3, [2, 4, 5, 7, 8, 10]), (4, [4, 5]), (5, [2, 4, 5, 7, 11, 12])], some [4], inv, []⟩
noncomputable def F26k3.K0 : Conts := { nrm := endW F26k3.E false F26k3.fn.results.toList, ret := endW F26k3.E false F26k3.fn.results.toList, ex := [] }
noncomputable def F26k3.kt (k : Nat) (q : List Nat) : Conts := contAt F26k3.E k F26k3.body F26k3.K0 q
noncomputable def F26k3.n1_1 (n : Nat) (K : Conts) (p0 p1 : Int) (p2 p3 p4 : List Int) (p5 p6 p7 p8 p9 p10 : Int) : Option AV := runC F26k3.E (loopF F26k3.E n) (subC [1,1] F26k3.body) K ⟨slots 186 [(1, .v (.int .i64) p0), (2, .pb 0 0), (4, .pb 1 0), (5, .pb 2 0)], [.box [.v (.int .u8) p1, .v (.sl (.int .u8)) p2, .v (.sl (.int .u8)) p3, .v (.sl (.int .i8)) p4, .v (.int .i16) p5, .v (.int .u8) p6], .box [.v (.int .i64) p7, .nl, .nl, .nl, .nl, .nl, .v (.int .i64) p8, .nl], .box [.v (.int .i64) p9, .nl, .nl, .nl, .nl, .nl, .v (.int .i64) p10, .nl]]⟩
theorem F26k3.start_eq (k : Nat) (m : Int) (z : (List Int) × ((List Int) × ((List Int) × (Int × Int)))) (a1 : Int) (hm : IntKind.i64.wrap (1 + ((IntKind.i64.wrap m).tmod 23)) = (3 : Int)) : callW F26k3.E false F26k3.fn k [.agg [.v (.int .u8) m, .v (.sl (.int .u8)) z.1, .v (.sl (.int .u8)) z.2.1, .v (.sl (.int .i8)) z.2.2.1, .v (.int .i16) z.2.2.2.1, .v (.int .u8) z.2.2.2.2], .v (.int .i64) a1] =
  bif decide ((3 : Int) < shapesL.length) then
   bif decide ((z.1.length : Int) < 1) then
    bif placesB z.1 1 a1 then
     bif numbersB z.2.2.1 0 1 (-1 : Int) 5 then
      some (.agg [.v (.int .i64) (3 : Int), .v (.sl (.int .i64)) (placesL z.1 1 a1), .nl, .v (.sl (.int .i64)) (numbersL z.2.2.1 0 1 (-1 : Int) 5), .nl, .nl, .v (.int .i64) ((IntKind.i64.wrap z.2.2.2.1).tmod 12), .nl])
     else
      none
    else
     none
   else
    bif decide ((z.1.length : Int) > 4) then
     bif placesB z.1 4 a1 then
      bif numbersB z.2.2.1 0 4 (-1 : Int) 5 then
       some (.agg [.v (.int .i64) (3 : Int), .v (.sl (.int .i64)) (placesL z.1 4 a1), .nl, .v (.sl (.int .i64)) (numbersL z.2.2.1 0 4 (-1 : Int) 5), .nl, .nl, .v (.int .i64) ((IntKind.i64.wrap z.2.2.2.1).tmod 12), .nl])
      else
       none
     else
      none
    else
     bif placesB z.1 (z.1.length : Int) a1 then
      bif numbersB z.2.2.1 0 (z.1.length : Int) (-1 : Int) 5 then
       some (.agg [.v (.int .i64) (3 : Int), .v (.sl (.int .i64)) (placesL z.1 (z.1.length : Int) a1), .nl, .v (.sl (.int .i64)) (numbersL z.2.2.1 0 (z.1.length : Int) (-1 : Int) 5), .nl, .nl, .v (.int .i64) ((IntKind.i64.wrap z.2.2.2.1).tmod 12), .nl])
      else
       none
     else
      none
  else
   none :=
 (show callW F26k3.E false F26k3.fn k [.agg [.v (.int .u8) m, .v (.sl (.int .u8)) z.1, .v (.sl (.int .u8)) z.2.1, .v (.sl (.int .i8)) z.2.2.1, .v (.int .i16) z.2.2.2.1, .v (.int .u8) z.2.2.2.2], .v (.int .i64) a1] = F26k3.n1_1 k (F26k3.kt k [1, 1]) a1 m z.1 z.2.1 z.2.2.1 z.2.2.2.1 z.2.2.2.2 (0 : Int) (0 : Int) (IntKind.i64.wrap (1 + ((IntKind.i64.wrap m).tmod 23))) (0 : Int) by kernel_rfl).trans ((congrArg (fun x : Int => F26k3.n1_1 k (F26k3.kt k [1, 1]) a1 m z.1 z.2.1 z.2.2.1 z.2.2.2.1 z.2.2.2.2 (0 : Int) (0 : Int) x (0 : Int)) hm).trans (by kernel_rfl))
noncomputable def F26k4.fn : Func := Go.Proofs.Try.f6
noncomputable def F26k4.body : Code := bodyOf F26k4.fn
noncomputable def F26k4.E : Env := ⟨tt, [(18, h_shapes), (19, h_hasB), (20, h_placesL), (21, h_numbersL)], [(1, [1, 2, 4]), (2, [1, 2, 4, 5]), (3, [1, 2, 4, 5, 6]), (4, [1, 2, 4, 5, 6, 7]), (5, [1, 2, 4, 5, 6, 7, 28]), (6, [1, 2, 4, 5, 6, 7]), (7, [1, 2, 4, 5, 6, 7, 30]), (8, [1, 2, 4, 5, 6, 7]), (9, [1, 2, 4, 5, 6, 7, 33]), (10, [1, 2, 4, 5, 6, 7]), (11, [1, 2, 4, 5, 6, 7]), (12, [1, 2, 4, 5, 6, 7, 44]), (13, [1, 2, 4, 5, 6, 7]), (14, [1, 2, 4, 5, 6, 7, 52]), (15, [2, 4, 5, 6, 7]), (16, [2, 4, 5, 6, 7, 61]), (17, [2, 4, 5, 6, 7]), (18, [2, 4, 5, 6, 7, 69]), (19, [2, 4, 5, 6, 7]), (20, [2, 4, 5, 7, 81]), (21, [2, 4, 5, 7]), (22, [2, 4, 5, 7, 89]), (23, [2, 4, 5, 7]), (24, [2, 4, 5, 7]), (25, [2, 4, 5, 7, 103]), (26, [2, 4, 5, 7]), (27, [2, 4, 5, 7, 110]), (28, [2, 4, 5, 7]), (29, [2, 4, 5, 7, 8]), (30, [2, 4, 5, 7, 8, 9]), (31, [2, 4, 5, 7, 8, 9]), (32, [2, 4, 5, 7, 8, 9]), (33, [2, 4, 5, 7, 8]), (34, [2, 4, 5, 7, 8]), (35, [2, 4, 5, 7, 8, 10]), (36, [2, 4, 5, 7, 8, 10]), (37, [2, 4, 5, 7, 8, 10]), (38, [2, 4, 5, 7]), (39, [2, 4, 5, 7, 162]), (40, [2, 4, 5, 7, 11]), (41, [2, 4, 5, 7, 11, 12]), (42, [2, 4, 5, 7, 11, 12]), (43, [2, 4, 5, 7, 11, 12]), (44, [4, 5])], [(0, [2, 4, 5, 7, 8]), (1, [2, 4, 5, 7, 8, 9]), (2, [2, 4, 5, 7]), (3, [2, 4, 5, 7, 8, 10]), (4, [4, 5]), (5, [2, 4, 5, 7, 11, 12])], some [4], inv, []⟩
noncomputable def F26k4.K0 : Conts := { nrm := endW F26k4.E false F26k4.fn.results.toList, ret := endW F26k4.E false F26k4.fn.results.toList, ex := [] }
noncomputable def F26k4.kt (k : Nat) (q : List Nat) : Conts := contAt F26k4.E k F26k4.body F26k4.K0 q
noncomputable def F26k4.n1_1 (n : Nat) (K : Conts) (p0 p1 : Int) (p2 p3 p4 : List Int) (p5 p6 p7 p8 p9 p10 : Int) : Option AV := runC F26k4.E (loopF F26k4.E n) (subC [1,1] F26k4.body) K ⟨slots 186 [(1, .v (.int .i64) p0), (2, .pb 0 0), (4, .pb 1 0), (5, .pb 2 0)], [.box [.v (.int .u8) p1, .v (.sl (.int .u8)) p2, .v (.sl (.int .u8)) p3, .v (.sl (.int .i8)) p4, .v (.int .i16) p5, .v (.int .u8) p6], .box [.v (.int .i64) p7, .nl, .nl, .nl, .nl, .nl, .v (.int .i64) p8, .nl], .box [.v (.int .i64) p9, .nl, .nl, .nl, .nl, .nl, .v (.int .i64) p10, .nl]]⟩
theorem F26k4.start_eq (k : Nat) (m : Int) (z : (List Int) × ((List Int) × ((List Int) × (Int × Int)))) (a1 : Int) (hm : IntKind.i64.wrap (1 + ((IntKind.i64.wrap m).tmod 23)) = (4 : Int)) : callW F26k4.E false F26k4.fn k [.agg [.v (.int .u8) m, .v (.sl (.int .u8)) z.1, .v (.sl (.int .u8)) z.2.1, .v (.sl (.int .i8)) z.2.2.1, .v (.int .i16) z.2.2.2.1, .v (.int .u8) z.2.2.2.2], .v (.int .i64) a1] =
  bif decide ((4 : Int) < shapesL.length) then
   bif decide ((z.1.length : Int) < 1) then
    bif placesB z.1 1 a1 then
     bif placesB z.2.1 1 a1 then
      bif numbersB z.2.2.1 0 1 (-1 : Int) 5 then
       some (.agg [.v (.int .i64) (4 : Int), .v (.sl (.int .i64)) (placesL z.1 1 a1), .v (.sl (.int .i64)) (placesL z.2.1 1 a1), .v (.sl (.int .i64)) (numbersL z.2.2.1 0 1 (-1 : Int) 5), .nl, .nl, .v (.int .i64) ((IntKind.i64.wrap z.2.2.2.1).tmod 12), .nl])
      else
       none
     else
      none
    else
     none
   else
    bif decide ((z.1.length : Int) > 4) then
     bif placesB z.1 4 a1 then
      bif placesB z.2.1 1 a1 then
       bif numbersB z.2.2.1 0 4 (-1 : Int) 5 then
        some (.agg [.v (.int .i64) (4 : Int), .v (.sl (.int .i64)) (placesL z.1 4 a1), .v (.sl (.int .i64)) (placesL z.2.1 1 a1), .v (.sl (.int .i64)) (numbersL z.2.2.1 0 4 (-1 : Int) 5), .nl, .nl, .v (.int .i64) ((IntKind.i64.wrap z.2.2.2.1).tmod 12), .nl])
       else
        none
      else
       none
     else
      none
    else
     bif placesB z.1 (z.1.length : Int) a1 then
      bif placesB z.2.1 1 a1 then
       bif numbersB z.2.2.1 0 (z.1.length : Int) (-1 : Int) 5 then
        some (.agg [.v (.int .i64) (4 : Int), .v (.sl (.int .i64)) (placesL z.1 (z.1.length : Int) a1), .v (.sl (.int .i64)) (placesL z.2.1 1 a1), .v (.sl (.int .i64)) (numbersL z.2.2.1 0 (z.1.length : Int) (-1 : Int) 5), .nl, .nl, .v (.int .i64) ((IntKind.i64.wrap z.2.2.2.1).tmod 12), .nl])
       else
        none
      else
       none
     else
      none
  else
   none :=
 (show callW F26k4.E false F26k4.fn k [.agg [.v (.int .u8) m, .v (.sl (.int .u8)) z.1, .v (.sl (.int .u8)) z.2.1, .v (.sl (.int .i8)) z.2.2.1, .v (.int .i16) z.2.2.2.1, .v (.int .u8) z.2.2.2.2], .v (.int .i64) a1] = F26k4.n1_1 k (F26k4.kt k [1, 1]) a1 m z.1 z.2.1 z.2.2.1 z.2.2.2.1 z.2.2.2.2 (0 : Int) (0 : Int) (IntKind.i64.wrap (1 + ((IntKind.i64.wrap m).tmod 23))) (0 : Int) by kernel_rfl).trans ((congrArg (fun x : Int => F26k4.n1_1 k (F26k4.kt k [1, 1]) a1 m z.1 z.2.1 z.2.2.1 z.2.2.2.1 z.2.2.2.2 (0 : Int) (0 : Int) x (0 : Int)) hm).trans (by kernel_rfl))
noncomputable def F26k5.fn : Func := Go.Proofs.Try.f6
noncomputable def F26k5.body : Code := bodyOf F26k5.fn
noncomputable def F26k5.E : Env := ⟨tt, [(18, h_shapes), (19, h_hasB), (20, h_placesL)], [(1, [1, 2, 4]), (2, [1, 2, 4, 5]), (3, [1, 2, 4, 5, 6]), (4, [1, 2, 4, 5, 6, 7]), (5, [1, 2, 4, 5, 6, 7, 28]), (6, [1, 2, 4, 5, 6, 7]), (7, [1, 2, 4, 5, 6, 7, 30]), (8, [1, 2, 4, 5, 6, 7]), (9, [1, 2, 4, 5, 6, 7, 33]), (10, [1, 2, 4, 5, 6, 7]), (11, [1, 2, 4, 5, 6, 7]), (12, [1, 2, 4, 5, 6, 7, 44]), (13, [1, 2, 4, 5, 6, 7]), (14, [1, 2, 4, 5, 6, 7, 52]), (15, [2, 4, 5, 6, 7]), (16, [2, 4, 5, 6, 7, 61]), (17, [2, 4, 5, 6, 7]), (18, [2, 4, 5, 6, 7, 69]), (19, [2, 4, 5, 6, 7]), (20, [2, 4, 5, 7, 81]), (21, [2, 4, 5, 7]), (22, [2, 4, 5, 7, 89]), (23, [2, 4, 5, 7]), (24, [2, 4, 5, 7]), (25, [2, 4, 5, 7, 103]), (26, [2, 4, 5, 7]), (27, [2, 4, 5, 7, 110]), (28, [2, 4, 5, 7]), (29, [2, 4, 5, 7, 8]), (30, [2, 4, 5, 7, 8, 9]), (31, [2, 4, 5, 7, 8, 9]), (32, [2, 4, 5, 7, 8, 9]), (33, [2, 4, 5, 7, 8]), (34, [2, 4, 5, 7, 8]), (35, [2, 4, 5, 7, 8, 10]), (36, [2, 4, 5, 7, 8, 10]), (37, [2, 4, 5, 7, 8, 10]), (38, [2, 4, 5, 7]), (39, [2, 4, 5, 7, 162]), (40, [2, 4, 5, 7, 11]), (41, [2, 4, 5, 7, 11, 12]), (42, [2, 4, 5, 7, 11, 12]), (43, [2, 4, 5, 7, 11, 12]), (44, [4, 5])], [(0, [2, 4, 5, 7, 8]), (1, [2, 4, 5, 7, 8, 9]), (2, [2, 4, 5, 7]), (3, [2, 4, 5, 7, 8, 10]), (4, [4, 5]), (5, [2, 4, 5, 7, 11, 12])], some [4], inv, []⟩
noncomputable def F26k5.K0 : Conts := { nrm := endW F26k5.E false F26k5.fn.results.toList, ret := endW F26k5.E false F26k5.fn.results.toList, ex := [] }
noncomputable def F26k5.kt (k : Nat) (q : List Nat) : Conts := contAt F26k5.E k F26k5.body F26k5.K0 q
noncomputable def F26k5.n1_1 (n : Nat) (K : Conts) (p0 p1 : Int) (p2 p3 p4 : List Int) (p5 p6 p7 p8 p9 p10 : Int) : Option AV := runC F26k5.E (loopF F26k5.E n) (subC [1,1] F26k5.body) K ⟨slots 186 [(1, .v (.int .i64) p0), (2, .pb 0 0), (4, .pb 1 0), (5, .pb 2 0)], [.box [.v (.int .u8) p1, .v (.sl (.int .u8)) p2, .v (.sl (.int .u8)) p3, .v (.sl (.int .i8)) p4, .v (.int .i16) p5, .v (.int .u8) p6], .box [.v (.int .i64) p7, .nl, .nl, .nl, .nl, .nl, .v (.int .i64) p8, .nl], .box [.v (.int .i64) p9, .nl, .nl, .nl, .nl, .nl, .v (.int .i64) p10, .nl]]⟩
theorem F26k5.start_eq (k : Nat) (m : Int) (z : (List Int) × ((List Int) × ((List Int) × (Int × Int)))) (a1 : Int) (hm : IntKind.i64.wrap (1 + ((IntKind.i64.wrap m).tmod 23)) = (5 : Int)) : callW F26k5.E false F26k5.fn k [.agg [.v (.int .u8) m, .v (.sl (.int .u8)) z.1, .v (.sl (.int .u8)) z.2.1, .v (.sl (.int .i8)) z.2.2.1, .v (.int .i16) z.2.2.2.1, .v (.int .u8) z.2.2.2.2], .v (.int .i64) a1] =
  bif decide ((5 : Int) < shapesL.length) then
   bif decide ((z.1.length : Int) < 1) then
    bif placesB z.1 3 a1 then
     some (.agg [.v (.int .i64) (5 : Int), .v (.sl (.int .i64)) (placesL z.1 3 a1), .nl, .nl, .nl, .nl, .v (.int .i64) (0 : Int), .nl])
    else
     none
   else
    bif decide ((z.1.length : Int) > 4) then
     bif placesB z.1 3 a1 then
      some (.agg [.v (.int .i64) (5 : Int), .v (.sl (.int .i64)) (placesL z.1 3 a1), .nl, .nl, .nl, .nl, .v (.int .i64) (0 : Int), .nl])
     else
      none
    else
     bif placesB z.1 3 a1 then
      some (.agg [.v (.int .i64) (5 : Int), .v (.sl (.int .i64)) (placesL z.1 3 a1), .nl, .nl, .nl, .nl, .v (.int .i64) (0 : Int), .nl])
     else
      none
  else
   none :=
 (show callW F26k5.E false F26k5.fn k [.agg [.v (.int .u8) m, .v (.sl (.int .u8)) z.1, .v (.sl (.int .u8)) z.2.1, .v (.sl (.int .i8)) z.2.2.1, .v (.int .i16) z.2.2.2.1, .v (.int .u8) z.2.2.2.2], .v (.int .i64) a1] = F26k5.n1_1 k (F26k5.kt k [1, 1]) a1 m z.1 z.2.1 z.2.2.1 z.2.2.2.1 z.2.2.2.2 (0 : Int) (0 : Int) (IntKind.i64.wrap (1 + ((IntKind.i64.wrap m).tmod 23))) (0 : Int) by kernel_rfl).trans ((congrArg (fun x : Int => F26k5.n1_1 k (F26k5.kt k [1, 1]) a1 m z.1 z.2.1 z.2.2.1 z.2.2.2.1 z.2.2.2.2 (0 : Int) (0 : Int) x (0 : Int)) hm).trans (by kernel_rfl))
noncomputable def F26k6.fn : Func := Go.Proofs.Try.f6
noncomputable def F26k6.body : Code := bodyOf F26k6.fn
noncomputable def F26k6.E : Env := ⟨tt, [(18, h_shapes), (19, h_hasB), (20, h_placesL)], [(1, [1, 2, 4]), (2, [1, 2, 4, 5]), (3, [1, 2, 4, 5, 6]), (4, [1, 2, 4, 5, 6, 7]), (5, [1, 2, 4, 5, 6, 7, 28]), (6, [1, 2, 4, 5, 6, 7]), (7, [1, 2, 4, 5, 6, 7, 30]), (8, [1, 2, 4, 5, 6, 7]), (9, [1, 2, 4, 5, 6, 7, 33]), (10, [1, 2, 4, 5, 6, 7]), (11, [1, 2, 4, 5, 6, 7]), (12, [1, 2, 4, 5, 6, 7, 44]), (13, [1, 2, 4, 5, 6, 7]), (14, [1, 2, 4, 5, 6, 7, 52]), (15, [2, 4, 5, 6, 7]), (16, [2, 4, 5, 6, 7, 61]), (17, [2, 4, 5, 6, 7]), (18, [2, 4, 5, 6, 7, 69]), (19, [2, 4, 5, 6, 7]), (20, [2, 4, 5, 7, 81]), (21, [2, 4, 5, 7]), (22, [2, 4, 5, 7, 89]), (23, [2, 4, 5, 7]), (24, [2, 4, 5, 7]), (25, [2, 4, 5, 7, 103]), (26, [2, 4, 5, 7]), (27, [2, 4, 5, 7, 110]), (28, [2, 4, 5, 7]), (29, [2, 4, 5, 7, 8]), (30, [2, 4, 5, 7, 8, 9]), (31, [2, 4, 5, 7, 8, 9]), (32, [2, 4, 5, 7, 8, 9]), (33, [2, 4, 5, 7, 8]), (34, [2, 4, 5, 7, 8]), (35, [2, 4, 5, 7, 8, 10]), (36, [2, 4, 5, 7, 8, 10]), (37, [2, 4, 5, 7, 8, 10]), (38, [2, 4, 5, 7]), (39, [2, 4, 5, 7, 162]), (40, [2, 4, 5, 7, 11]), (41, [2, 4, 5, 7, 11, 12]), (42, [2, 4, 5, 7, 11, 12]), (43, [2, 4, 5, 7, 11, 12]), (44, [4, 5])], [(0, [2, 4, 5, 7, 8]), (1, [2, 4, 5, 7, 8, 9]), (2, [2, 4, 5, 7]), (3, [2, 4, 5, 7, 8, 10]), (4, [4, 5]), (5, [2, 4, 5, 7, 11, 12])], some [4], inv, []⟩
noncomputable def F26k6.K0 : Conts := { nrm := endW F26k6.E false F26k6.fn.results.toList, ret := endW F26k6.E false F26k6.fn.results.toList, ex := [] }
noncomputable def F26k6.kt (k : Nat) (q : List Nat) : Conts := contAt F26k6.E k F26k6.body F26k6.K0 q
noncomputable def F26k6.n1_1 (n : Nat) (K : Conts) (p0 p1 : Int) (p2 p3 p4 : List Int) (p5 p6 p7 p8 p9 p10 : Int) : Option AV := runC F26k6.E (loopF F26k6.E n) (subC [1,1] F26k6.body) K ⟨slots 186 [(1, .v (.int .i64) p0), (2, .pb 0 0), (4, .pb 1 0), (5, .pb 2 0)], [.box [.v (.int .u8) p1, .v (.sl (.int .u8)) p2, .v (.sl (.int .u8)) p3, .v (.sl (.int .i8)) p4, .v (.int .i16) p5, .v (.int .u8) p6], .box [.v (.int .i64) p7, .nl, .nl, .nl, .nl, .nl, .v (.int .i64) p8, .nl], .box [.v (.int .i64) p9, .nl, .nl, .nl, .nl, .nl, .v (.int .i64) p10, .nl]]⟩
theorem F26k6.start_eq (k : Nat) (m : Int) (z : (List Int) × ((List Int) × ((List Int) × (Int × Int)))) (a1 : Int) (hm : IntKind.i64.wrap (1 + ((IntKind.i64.wrap m).tmod 23)) = (6 : Int)) : callW F26k6.E false F26k6.fn k [.agg [.v (.int .u8) m, .v (.sl (.int .u8)) z.1, .v (.sl (.int .u8)) z.2.1, .v (.sl (.int .i8)) z.2.2.1, .v (.int .i16) z.2.2.2.1, .v (.int .u8) z.2.2.2.2], .v (.int .i64) a1] =
  bif decide ((6 : Int) < shapesL.length) then
   bif decide ((z.1.length : Int) < 1) then
    bif placesB z.1 3 a1 then
     some (.agg [.v (.int .i64) (6 : Int), .v (.sl (.int .i64)) (placesL z.1 3 a1), .nl, .nl, .nl, .nl, .v (.int .i64) (0 : Int), .nl])
    else
     none
   else
    bif decide ((z.1.length : Int) > 4) then
     bif placesB z.1 3 a1 then
      some (.agg [.v (.int .i64) (6 : Int), .v (.sl (.int .i64)) (placesL z.1 3 a1), .nl, .nl, .nl, .nl, .v (.int .i64) (0 : Int), .nl])
     else
      none
    else
     bif placesB z.1 3 a1 then
      some (.agg [.v (.int .i64) (6 : Int), .v (.sl (.int .i64)) (placesL z.1 3 a1), .nl, .nl, .nl, .nl, .v (.int .i64) (0 : Int), .nl])
     else
      none
  else
   none :=
 (show callW F26k6.E false F26k6.fn k [.agg [.v (.int .u8) m, .v (.sl (.int .u8)) z.1, .v (.sl (.int .u8)) z.2.1, .v (.sl (.int .i8)) z.2.2.1, .v (.int .i16) z.2.2.2.1, .v (.int .u8) z.2.2.2.2], .v (.int .i64) a1] = F26k6.n1_1 k (F26k6.kt k [1, 1]) a1 m z.1 z.2.1 z.2.2.1 z.2.2.2.1 z.2.2.2.2 (0 : Int) (0 : Int) (IntKind.i64.wrap (1 + ((IntKind.i64.wrap m).tmod 23))) (0 : Int) by kernel_rfl).trans ((congrArg (fun x : Int => F26k6.n1_1 k (F26k6.kt k [1, 1]) a1 m z.1 z.2.1 z.2.2.1 z.2.2.2.1 z.2.2.2.2 (0 : Int) (0 : Int) x (0 : Int)) hm).trans (by kernel_rfl))
noncomputable def F26k7.fn : Func := Go.Proofs.Try.f6
noncomputable def F26k7.body : Code := bodyOf F26k7.fn
noncomputable def F26k7.E : Env := ⟨tt, [(18, h_shapes), (19, h_hasB), (20, h_placesL)], [(1, [1, 2, 4]), (2, [1, 2, 4, 5]), (3, [1, 2, 4, 5, 6]), (4, [1, 2, 4, 5, 6, 7]), (5, [1, 2, 4, 5, 6, 7, 28]), (6, [1, 2, 4, 5, 6, 7]), (7, [1, 2, 4, 5, 6, 7, 30]), (8, [1, 2, 4, 5, 6, 7]), (9, [1, 2, 4, 5, 6, 7, 33]), (10, [1, 2, 4, 5, 6, 7]), (11, [1, 2, 4, 5, 6, 7]), (12, [1, 2, 4, 5, 6, 7, 44]), (13, [1, 2, 4, 5, 6, 7]), (14, [1, 2, 4, 5, 6, 7, 52]), (15, [2, 4, 5, 6, 7]), (16, [2, 4, 5, 6, 7, 61]), (17, [2, 4, 5, 6, 7]), (18, [2, 4, 5, 6, 7, 69]), (19, [2, 4, 5, 6, 7]), (20, [2, 4, 5, 7, 81]), (21, [2, 4, 5, 7]), (22, [2, 4, 5, 7, 89]), (23, [2, 4, 5, 7]), (24, [2, 4, 5, 7]), (25, [2, 4, 5, 7, 103]), (26, [2, 4, 5, 7]), (27, [2, 4, 5, 7, 110]), (28, [2, 4, 5, 7]), (29, [2, 4, 5, 7, 8]), (30, [2, 4, 5, 7, 8, 9]), (31, [2, 4, 5, 7, 8, 9]), (32, [2, 4, 5, 7, 8, 9]), (33, [2, 4, 5, 7, 8]), (34, [2, 4, 5, 7, 8]), (35, [2, 4, 5, 7, 8, 10]), (36, [2, 4, 5, 7, 8, 10]), (37, [2, 4, 5, 7, 8, 10]), (38, [2, 4, 5, 7]), (39, [2, 4, 5, 7, 162]), (40, [2, 4, 5, 7, 11]), (41, [2, 4, 5, 7, 11, 12]), (42, [2, 4, 5, 7, 11, 12]), (43, [2, 4, 5, 7, 11, 12]), (44, [4, 5])], [(0, [2, 4, 5, 7, 8]), (1, [2, 4, 5, 7, 8, 9]), (2, [2, 4, 5, 7]), (3, [2, 4, 5, 7, 8, 10]), (4, [4, 5]), (5, [2, 4, 5, 7, 11, 12])], some [4], inv, []⟩
noncomputable def F26k7.K0 : Conts := { nrm := endW F26k7.E false F26k7.fn.results.toList, ret := endW F26k7.E false F26k7.fn.results.toList, ex := [] }
noncomputable def F26k7.kt (k : Nat) (q : List Nat) : Conts := contAt F26k7.E k F26k7.body F26k7.K0 q
noncomputable def F26k7.n1_1 (n : Nat) (K : Conts) (p0 p1 : Int) (p2 p3 p4 : List Int) (p5 p6 p7 p8 p9 p10 : Int) : Option AV := runC F26k7.E (loopF F26k7.E n) (subC [1,1] F26k7.body) K ⟨slots 186 [(1, .v (.int .i64) p0), (2, .pb 0 0), (4, .pb 1 0), (5, .pb 2 0)], [.box [.v (.int .u8) p1, .v (.sl (.int .u8)) p2, .v (.sl (.int .u8)) p3, .v (.sl (.int .i8)) p4, .v (.int .i16) p5, .v (.int .u8) p6], .box [.v (.int .i64) p7, .nl, .nl, .nl, .nl, .nl, .v (.int .i64) p8, .nl], .box [.v (.int .i64) p9, .nl, .nl, .nl, .nl, .nl, .v (.int .i64) p10, .nl]]⟩
theorem F26k7.start_eq (k : Nat) (m : Int) (z : (List Int) × ((List Int) × ((List Int) × (Int × Int)))) (a1 : Int) (hm : IntKind.i64.wrap (1 + ((IntKind.i64.wrap m).tmod 23)) = (7 : Int)) : callW F26k7.E false F26k7.fn k [.agg [.v (.int .u8) m, .v (.sl (.int .u8)) z.1, .v (.sl (.int .u8)) z.2.1, .v (.sl (.int .i8)) z.2.2.1, .v (.int .i16) z.2.2.2.1, .v (.int .u8) z.2.2.2.2], .v (.int .i64) a1] =
  bif decide ((7 : Int) < shapesL.length) then
   bif decide ((z.1.length : Int) < 1) then
    bif placesB z.1 3 a1 then
     some (.agg [.v (.int .i64) (7 : Int), .v (.sl (.int .i64)) (placesL z.1 3 a1), .nl, .nl, .nl, .nl, .v (.int .i64) (0 : Int), .nl])
    else
     none
   else
    bif decide ((z.1.length : Int) > 4) then
     bif placesB z.1 3 a1 then
      some (.agg [.v (.int .i64) (7 : Int), .v (.sl (.int .i64)) (placesL z.1 3 a1), .nl, .nl, .nl, .nl, .v (.int .i64) (0 : Int), .nl])
     else
      none
    else
     bif placesB z.1 3 a1 then
      some (.agg [.v (.int .i64) (7 : Int), .v (.sl (.int .i64)) (placesL z.1 3 a1), .nl, .nl, .nl, .nl, .v (.int .i64) (0 : Int), .nl])
     else
      none
  else
   none :=
 (show callW F26k7.E false F26k7.fn k [.agg [.v (.int .u8) m, .v (.sl (.int .u8)) z.1, .v (.sl (.int .u8)) z.2.1, .v (.sl (.int .i8)) z.2.2.1, .v (.int .i16) z.2.2.2.1, .v (.int .u8) z.2.2.2.2], .v (.int .i64) a1] = F26k7.n1_1 k (F26k7.kt k [1, 1]) a1 m z.1 z.2.1 z.2.2.1 z.2.2.2.1 z.2.2.2.2 (0 : Int) (0 : Int) (IntKind.i64.wrap (1 + ((IntKind.i64.wrap m).tmod 23))) (0 : Int) by kernel_rfl).trans ((congrArg (fun x : Int => F26k7.n1_1 k (F26k7.kt k [1, 1]) a1 m z.1 z.2.1 z.2.2.1 z.2.2.2.1 z.2.2.2.2 (0 : Int) (0 : Int) x (0 : Int)) hm).trans (by kernel_rfl))
noncomputable def F26k8.fn : Func := Go.Proofs.Try.f6
noncomputable def F26k8.body : Code := bodyOf F26k8.fn
noncomputable def F26k8.E : Env := ⟨tt, [(18, h_shapes), (19, h_hasB), (20, h_placesL)], [(1, [1, 2, 4]), (2, [1, 2, 4, 5]), (3, [1, 2, 4, 5, 6]), (4, [1, 2, 4, 5, 6, 7]), (5, [1, 2, 4, 5, 6, 7, 28]), (6, [1, 2, 4, 5, 6, 7]), (7, [1, 2, 4, 5, 6, 7, 30]), (8, [1, 2, 4, 5, 6, 7]), (9, [1, 2, 4, 5, 6, 7, 33]), (10, [1, 2, 4, 5, 6, 7]), (11, [1, 2, 4, 5, 6, 7]), (12, [1, 2, 4, 5, 6, 7, 44]), (13, [1, 2, 4, 5, 6, 7]), (14, [1, 2, 4, 5, 6, 7, 52]), (15, [2, 4, 5, 6, 7]), (16, [2, 4, 5, 6, 7, 61]), (17, [2, 4, 5, 6, 7]), (18, [2, 4, 5, 6, 7, 69]), (19, [2, 4, 5, 6, 7]), (20, [2, 4, 5, 7, 81]), (21, [2, 4, 5, 7]), (22, [2, 4, 5, 7, 89]), (23, [2, 4, 5, 7]), (24, [2, 4, 5, 7]), (25, [2, 4, 5, 7, 103]), (26, [2, 4, 5, 7]), (27, [2, 4, 5, 7, 110]), (28, [2, 4, 5, 7]), (29, [2, 4, 5, 7, 8]), (30, [2, 4, 5, 7, 8, 9]), (31, [2, 4, 5, 7, 8, 9]), (32, [2, 4, 5, 7, 8, 9]), (33, [2, 4, 5, 7, 8]), (34, [2, 4, 5, 7, 8]), (35, [2, 4, 5, 7, 8, 10]), (36, [2, 4, 5, 7, 8, 10]), (37, [2, 4, 5, 7, 8, 10]), (38, [2, 4, 5, 7]), (39, [2, 4, 5, 7, 162]), (40, [2, 4, 5, 7, 11]), (41, [2, 4, 5, 7, 11, 12]), (42, [2, 4, 5, 7, 11, 12]), (43, [2, 4, 5, 7, 11, 12]), (44, [4, 5])], [(0, [2, 4, 5, 7, 8]), (1, [2, 4, 5, 7, 8, 9]), (2, [2, 4, 5, 7]), (3, [2, 4, 5, 7, 8, 10]), (4, [4, 5]), (5, [2, 4, 5, 7, 11, 12])], some [4], inv, []⟩
noncomputable def F26k8.K0 : Conts := { nrm := endW F26k8.E false F26k8.fn.results.toList, ret := endW F26k8.E false F26k8.fn.results.toList, ex := [] }
noncomputable def F26k8.kt (k : Nat) (q : List Nat) : Conts := contAt F26k8.E k F26k8.body F26k8.K0 q
noncomputable def F26k8.n1_1 (n : Nat) (K : Conts) (p0 p1 : Int) (p2 p3 p4 : List Int) (p5 p6 p7 p8 p9 p10 : Int) : Option AV := runC F26k8.E (loopF F26k8.E n) (subC [1,1] F26k8.body) K ⟨slots 186 [(1, .v (.int .i64) p0), (2, .pb 0 0), (4, .pb 1 0), (5, .pb 2 0)], [.box [.v (.int .u8) p1, .v (.sl (.int .u8)) p2, .v (.sl (.int .u8)) p3, .v (.sl (.int .i8)) p4, .v (.int .i16) p5, .v (.int .u8) p6], .box [.v (.int .i64) p7, .nl, .nl, .nl, .nl, .nl, .v (.int .i64) p8, .nl], .box [.v (.int .i64) p9, .nl, .nl, .nl, .nl, .nl, .v (.int .i64) p10, .nl]]⟩
theorem F26k8.start_eq (k : Nat) (m : Int) (z : (List Int) × ((List Int) × ((List Int) × (Int × Int)))) (a1 : Int) (hm : IntKind.i64.wrap (1 + ((IntKind.i64.wrap m).tmod 23)) = (8 : Int)) : callW F26k8.E false F26k8.fn k [.agg [.v (.int .u8) m, .v (.sl (.int .u8)) z.1, .v (.sl (.int .u8)) z.2.1, .v (.sl (.int .i8)) z.2.2.1, .v (.int .i16) z.2.2.2.1, .v (.int .u8) z.2.2.2.2], .v (.int .i64) a1] =
  bif decide ((8 : Int) < shapesL.length) then
   bif decide ((z.1.length : Int) < 1) then
    bif placesB z.1 2 a1 then
     some (.agg [.v (.int .i64) (8 : Int), .v (.sl (.int .i64)) (placesL z.1 2 a1), .nl, .nl, .nl, .nl, .v (.int .i64) (0 : Int), .nl])
    else
     none
   else
    bif decide ((z.1.length : Int) > 4) then
     bif placesB z.1 2 a1 then
      some (.agg [.v (.int .i64) (8 : Int), .v (.sl (.int .i64)) (placesL z.1 2 a1), .nl, .nl, .nl, .nl, .v (.int .i64) (0 : Int), .nl])
     else
      none
    else
     bif placesB z.1 2 a1 then
      some (.agg [.v (.int .i64) (8 : Int), .v (.sl (.int .i64)) (placesL z.1 2 a1), .nl, .nl, .nl, .nl, .v (.int .i64) (0 : Int), .nl])
     else
      none
  else
   none :=
 (show callW F26k8.E false F26k8.fn k [.agg [.v (.int .u8) m, .v (.sl (.int .u8)) z.1, .v (.sl (.int .u8)) z.2.1, .v (.sl (.int .i8)) z.2.2.1, .v (.int .i16) z.2.2.2.1, .v (.int .u8) z.2.2.2.2], .v (.int .i64) a1] = F26k8.n1_1 k (F26k8.kt k [1, 1]) a1 m z.1 z.2.1 z.2.2.1 z.2.2.2.1 z.2.2.2.2 (0 : Int) (0 : Int) (IntKind.i64.wrap (1 + ((IntKind.i64.wrap m).tmod 23))) (0 : Int) by kernel_rfl).trans ((congrArg (fun x : Int => F26k8.n1_1 k (F26k8.kt k [1, 1]) a1 m z.1 z.2.1 z.2.2.1 z.2.2.2.1 z.2.2.2.2 (0 : Int) (0 : Int) x (0 : Int)) hm).trans (by kernel_rfl))
noncomputable def F26k9.fn : Func := Go.Proofs.Try.f6
noncomputable def F26k9.body : Code := bodyOf F26k9.fn
noncomputable def F26k9.E : Env := ⟨tt, [(18, h_shapes), (19, h_hasB), (20, h_placesL)], [(1, [1, 2, 4]), (2, [1, 2, 4, 5]), (3, [1, 2, 4, 5, 6]), (4, [1, 2, 4, 5, 6, 7]), (5, [1, 2, 4, 5, 6, 7, 28]), (6, [1, 2, 4, 5, 6, 7]), (7, [1, 2, 4, 5, 6, 7, 30]), (8, [1, 2, 4, 5, 6, 7]), (9, [1, 2, 4, 5, 6, 7, 33]), (10, [1, 2, 4, 5, 6, 7]), (11, [1, 2, 4, 5, 6, 7]), (12, [1, 2, 4, 5, 6, 7, 44]), (13, [1, 2, 4, 5, 6, 7]), (14, [1, 2, 4, 5, 6, 7, 52]), (15, [2, 4, 5, 6, 7]), (16, [2, 4, 5, 6, 7, 61]), (17, [2, 4, 5, 6, 7]), (18, [2, 4, 5, 6, 7, 69]), (19, [2, 4, 5, 6, 7]), (20, [2, 4, 5, 7, 81]), (21, [2, 4, 5, 7]), (22, [2, 4, 5, 7, 89]), (23, [2, 4, 5, 7]), (24, [2, 4, 5, 7]), (25, [2, 4, 5, 7, 103]), (26, [2, 4, 5, 7]), (27, [2, 4, 5, 7, 110]), (28, [2, 4, 5, 7]), (29, [2, 4, 5, 7, 8]), (30, [2, 4, 5, 7, 8, 9]), (31, [2, 4, 5, 7, 8, 9]), (32, [2, 4, 5, 7, 8, 9]), (33, [2, 4, 5, 7, 8]), (34, [2, 4, 5, 7, 8]), (35, [2, 4, 5, 7, 8, 10]), (36, [2, 4, 5, 7, 8, 10]), (37, [2, 4, 5, 7, 8, 10]), (38, [2, 4, 5, 7]), (39, [2, 4, 5, 7, 162]), (40, [2, 4, 5, 7, 11]), (41, [2, 4, 5, 7, 11, 12]), (42, [2, 4, 5, 7, 11, 12]), (43, [2, 4, 5, 7, 11, 12]), (44, [4, 5])], [(0, [2, 4, 5, 7, 8]), (1, [2, 4, 5, 7, 8, 9]), (2, [2, 4, 5, 7]), (3, [2, 4, 5, 7, 8, 10]), (4, [4, 5]), (5, [2, 4, 5, 7, 11, 12])], some [4], inv, []⟩
noncomputable def F26k9.K0 : Conts := { nrm := endW F26k9.E false F26k9.fn.results.toList, ret := endW F26k9.E false F26k9.fn.results.toList, ex := [] }
noncomputable def F26k9.kt (k : Nat) (q : List Nat) : Conts := contAt F26k9.E k F26k9.body F26k9.K0 q
noncomputable def F26k9.n1_1 (n : Nat) (K : Conts) (p0 p1 : Int) (p2 p3 p4 : List Int) (p5 p6 p7 p8 p9 p10 : Int) : Option AV := runC F26k9.E (loopF F26k9.E n) (subC [1,1] F26k9.body) K ⟨slots 186 [(1, .v (.int .i64) p0), (2, .pb 0 0), (4, .pb 1 0), (5, .pb 2 0)], [.box [.v (.int .u8) p1, .v (.sl (.int .u8)) p2, .v (.sl (.int .u8)) p3, .v (.sl (.int .i8)) p4, .v (.int .i16) p5, .v (.int .u8) p6], .box [.v (.int .i64) p7, .nl, .nl, .nl, .nl, .nl, .v (.int .i64) p8, .nl], .box [.v (.int .i64) p9, .nl, .nl, .nl, .nl, .nl, .v (.int .i64) p10, .nl]]⟩
theorem F26k9.start_eq (k : Nat) (m : Int) (z : (List Int) × ((List Int) × ((List Int) × (Int × Int)))) (a1 : Int) (hm : IntKind.i64.wrap (1 + ((IntKind.i64.wrap m).tmod 23)) = (9 : Int)) : callW F26k9.E false F26k9.fn k [.agg [.v (.int .u8) m, .v (.sl (.int .u8)) z.1, .v (.sl (.int .u8)) z.2.1, .v (.sl (.int .i8)) z.2.2.1, .v (.int .i16) z.2.2.2.1, .v (.int .u8) z.2.2.2.2], .v (.int .i64) a1] =
  bif decide ((9 : Int) < shapesL.length) then
   bif decide ((z.1.length : Int) < 1) then
    bif placesB z.1 3 a1 then
     some (.agg [.v (.int .i64) (9 : Int), .v (.sl (.int .i64)) (placesL z.1 3 a1), .nl, .nl, .nl, .nl, .v (.int .i64) (0 : Int), .nl])
    else
     none
   else
    bif decide ((z.1.length : Int) > 4) then
     bif placesB z.1 3 a1 then
      some (.agg [.v (.int .i64) (9 : Int), .v (.sl (.int .i64)) (placesL z.1 3 a1), .nl, .nl, .nl, .nl, .v (.int .i64) (0 : Int), .nl])
     else
      none
    else
     bif placesB z.1 3 a1 then
      some (.agg [.v (.int .i64) (9 : Int), .v (.sl (.int .i64)) (placesL z.1 3 a1), .nl, .nl, .nl, .nl, .v (.int .i64) (0 : Int), .nl])
     else
      none
  else
   none :=
 (show callW F26k9.E false F26k9.fn k [.agg [.v (.int .u8) m, .v (.sl (.int .u8)) z.1, .v (.sl (.int .u8)) z.2.1, .v (.sl (.int .i8)) z.2.2.1, .v (.int .i16) z.2.2.2.1, .v (.int .u8) z.2.2.2.2], .v (.int .i64) a1] = F26k9.n1_1 k (F26k9.kt k [1, 1]) a1 m z.1 z.2.1 z.2.2.1 z.2.2.2.1 z.2.2.2.2 (0 : Int) (0 : Int) (IntKind.i64.wrap (1 + ((IntKind.i64.wrap m).tmod 23))) (0 : Int) by kernel_rfl).trans ((congrArg (fun x : Int => F26k9.n1_1 k (F26k9.kt k [1, 1]) a1 m z.1 z.2.1 z.2.2.1 z.2.2.2.1 z.2.2.2.2 (0 : Int) (0 : Int) x (0 : Int)) hm).trans (by kernel_rfl))
noncomputable def F26k10.fn : Func := Go.Proofs.Try.f6
noncomputable def F26k10.body : Code := bodyOf F26k10.fn
noncomputable def F26k10.E : Env := ⟨tt, [(18, h_shapes), (19, h_hasB), (20, h_placesL)], [(1, [1, 2, 4]), (2, [1, 2, 4, 5]), (3, [1, 2, 4, 5, 6]), (4, [1, 2, 4, 5, 6, 7]), (5, [1, 2, 4, 5, 6, 7, 28]), (6, [1, 2, 4, 5, 6, 7]), (7, [1, 2, 4, 5, 6, 7, 30]), (8, [1, 2, 4, 5, 6, 7]), (9, [1, 2, 4, 5, 6, 7, 33]), (10, [1, 2, 4, 5, 6, 7]), (11, [1, 2, 4, 5, 6, 7]), (12, [1, 2, 4, 5, 6, 7, 44]), (13, [1, 2, 4, 5, 6, 7]), (14, [1, 2, 4, 5, 6, 7, 52]), (15, [2, 4, 5, 6, 7]), (16, [2, 4, 5, 6, 7, 61]), (17, [2, 4, 5, 6, 7]), (18, [2, 4, 5, 6, 7, 69]), (19, [2, 4, 5, 6, 7]), (20, [2, 4, 5, 7, 81]), (21, [2, 4, 5, 7]), (22, [2, 4, 5, 7, 89]), (23, [2, 4, 5, 7]), (24, [2, 4, 5, 7]), (25, [2, 4, 5, 7, 103]), (26, [2, 4, 5, 7]), (27, [2, 4, 5, 7, 110]), (28, [2, 4, 5, 7]), (29, [2, 4, 5, 7, 8]), (30, [2, 4, 5, 7, 8, 9]), (31, [2, 4, 5, 7, 8, 9]), (32, [2, 4, 5, 7, 8, 9]), (33, [2, 4, 5, 7, 8]), (34, [2, 4, 5, 7, 8]), (35, [2, 4, 5, 7, 8, 10]), (36, [2, 4, 5, 7, 8, 10]), (37, [2, 4, 5, 7, 8, 10]), (38, [2, 4, 5, 7]), (39, [2, 4, 5, 7, 162]), (40, [2, 4, 5, 7, 11]), (41, [2, 4, 5, 7, 11, 12]), (42, [2, 4, 5, 7, 11, 12]), (43, [2, 4, 5, 7, 11, 12]), (44, [4, 5])], [(0, [2, 4, 5, 7, 8]), (1, [2, 4, 5, 7, 8, 9]), (2, [2, 4, 5, 7]), (3, [2, 4, 5, 7, 8, 10]), (4, [4, 5]), (5, [2, 4, 5, 7, 11, 12])], some [4], inv, []⟩
noncomputable def F26k10.K0 : Conts := { nrm := endW F26k10.E false F26k10.fn.results.toList, ret := endW F26k10.E false F26k10.fn.results.toList, ex := [] }
noncomputable def F26k10.kt (k : Nat) (q : List Nat) : Conts := contAt F26k10.E k F26k10.body F26k10.K0 q
noncomputable def F26k10.n1_1 (n : Nat) (K : Conts) (p0 p1 : Int) (p2 p3 p4 : List Int) (p5 p6 p7 p8 p9 p10 : Int) : Option AV := runC F26k10.E (loopF F26k10.E n) (subC [1,1] F26k10.body) K ⟨slots 186 [(1, .v (.int .i64) p0), (2, .pb 0 0), (4, .pb 1 0), (5, .pb 2 0)], [.box [.v (.int .u8) p1, .v (.sl (.int .u8)) p2, .v (.sl (.int .u8)) p3, .v (.sl (.int .i8)) p4, .v (.int .i16) p5, .v (.int .u8) p6], .box [.v (.int .i64) p7, .nl, .nl, .nl, .nl, .nl, .v (.int .i64) p8, .nl], .box [.v (.int .i64) p9, .nl, .nl, .nl, .nl, .nl, .v (.int .i64) p10, .nl]]⟩
theorem F26k10.start_eq (k : Nat) (m : Int) (z : (List Int) × ((List Int) × ((List Int) × (Int × Int)))) (a1 : Int) (hm : IntKind.i64.wrap (1 + ((IntKind.i64.wrap m).tmod 23)) = (10 : Int)) : callW F26k10.E false F26k10.fn k [.agg [.v (.int .u8) m, .v (.sl (.int .u8)) z.1, .v (.sl (.int .u8)) z.2.1, .v (.sl (.int .i8)) z.2.2.1, .v (.int .i16) z.2.2.2.1, .v (.int .u8) z.2.2.2.2], .v (.int .i64) a1] =
  bif decide ((10 : Int) < shapesL.length) then
   bif decide ((z.1.length : Int) < 1) then
    bif placesB z.1 3 a1 then
     some (.agg [.v (.int .i64) (10 : Int), .v (.sl (.int .i64)) (placesL z.1 3 a1), .nl, .nl, .nl, .nl, .v (.int .i64) (0 : Int), .nl])
    else
     none
   else
    bif decide ((z.1.length : Int) > 4) then
     bif placesB z.1 3 a1 then
      some (.agg [.v (.int .i64) (10 : Int), .v (.sl (.int .i64)) (placesL z.1 3 a1), .nl, .nl, .nl, .nl, .v (.int .i64) (0 : Int), .nl])
     else
      none
    else
     bif placesB z.1 3 a1 then
      some (.agg [.v (.int .i64) (10 : Int), .v (.sl (.int .i64)) (placesL z.1 3 a1), .nl, .nl, .nl, .nl, .v (.int .i64) (0 : Int), .nl])
     else
      none
  else
   none :=
 (show callW F26k10.E false F26k10.fn k [.agg [.v (.int .u8) m, .v (.sl (.int .u8)) z.1, .v (.sl (.int .u8)) z.2.1, .v (.sl (.int .i8)) z.2.2.1, .v (.int .i16) z.2.2.2.1, .v (.int .u8) z.2.2.2.2], .v (.int .i64) a1] = F26k10.n1_1 k (F26k10.kt k [1, 1]) a1 m z.1 z.2.1 z.2.2.1 z.2.2.2.1 z.2.2.2.2 (0 : Int) (0 : Int) (IntKind.i64.wrap (1 + ((IntKind.i64.wrap m).tmod 23))) (0 : Int) by kernel_rfl).trans ((congrArg (fun x : Int => F26k10.n1_1 k (F26k10.kt k [1, 1]) a1 m z.1 z.2.1 z.2.2.1 z.2.2.2.1 z.2.2.2.2 (0 : Int) (0 : Int) x (0 : Int)) hm).trans (by kernel_rfl))
noncomputable def F26k11.fn : Func := Go.Proofs.Try.f6
noncomputable def F26k11.body : Code := bodyOf F26k11.fn
noncomputable def F26k11.E : Env := ⟨tt, [(18, h_shapes), (19, h_hasB), (20, h_placesL), (21, h_numbersL)], [(1, [1, 2, 4]), (2, [1, 2, 4, 5]), (3, [1, 2, 4, 5, 6]), (4, [1, 2, 4, 5, 6, 7]), (5, [1, 2, 4, 5, 6, 7, 28]), (6, [1, 2, 4, 5, 6, 7]), (7, [1, 2, 4, 5, 6, 7, 30]), (8, [1, 2, 4, 5, 6, 7]), (9, [1, 2, 4, 5, 6, 7, 33]), (10, [1, 2, 4, 5, 6, 7]), (11, [1, 2, 4, 5, 6, 7]), (12, [1, 2, 4, 5, 6, 7, 44]), (13, [1, 2, 4, 5, 6, 7]), (14, [1, 2, 4, 5, 6, 7, 52]), (15, [2, 4, 5, 6, 7]), (16, [2, 4, 5, 6, 7, 61]), (17, [2, 4, 5, 6, 7]), (18, [2, 4, 5, 6, 7, 69]), (19, [2, 4, 5, 6, 7]), (20, [2, 4, 5, 7, 81]), (21, [2, 4, 5, 7]), (22, [2, 4, 5, 7, 89]), (23, [2, 4, 5, 7]), (24, [2, 4, 5, 7]), (25, [2, 4, 5, 7, 103]), (26, [2, 4, 5, 7]), (27, [2, 4, 5, 7, 110]), (28, [2, 4, 5, 7]), (29, [2, 4, 5, 7, 8]), (30, [2, 4, 5, 7, 8, 9]), (31, [2, 4, 5, 7, 8, 9]), (32, [2, 4, 5, 7, 8, 9]), (33, [2, 4, 5, 7, 8]), (34, [2, 4, 5, 7, 8]), (35, [2, 4, 5, 7, 8, 10]), (36, [2, 4, 5, 7, 8, 10]), (37, [2, 4, 5, 7, 8, 10]), (38, [2, 4, 5, 7]), (39, [2, 4, 5, 7, 162]), (40, [2, 4, 5, 7, 11]), (41, [2, 4, 5, 7, 11, 12]), (42, [2, 4, 5, 7, 11, 12]), (43, [2, 4, 5, 7, 11, 12]), (44, [4, 5])], [(0, [2, 4, 5, 7, 8]), (1, [2, 4, 5, 7, 8, 9]), (2, [2, 4, 5, 7]), (3, [2, 4, 5, 7, 8, 10]), (4, [4, 5]), (5, [2, 4, 5, 7, 11, 12])], some [4], inv, []⟩
noncomputable def F26k11.K0 : Conts := { nrm := endW F26k11.E false F26k11.fn.results.toList, ret := endW F26k11.E false F26k11.fn.results.toList, ex := [] }
noncomputable def F26k11.kt (k : Nat) (q : List Nat) : Conts := contAt F26k11.E k F26k11.body F26k11.K0 q
noncomputable def F26k11.n1_1 (n : Nat) (K : Conts) (p0 p1 : Int) (p2 p3 p4 : List Int) (p5 p6 p7 p8 p9 p10 : Int) : Option AV := runC F26k11.E (loopF F26k11.E n) (subC [1,1] F26k11.body) K ⟨slots 186 [(1, .v (.int .i64) p0), (2, .pb 0 0), (4, .pb 1 0), (5, .pb 2 0)], [.box [.v (.int .u8) p1, .v (.sl (.int .u8)) p2, .v (.sl (.int .u8)) p3, .v (.sl (.int .i8)) p4, .v (.int .i16) p5, .v (.int .u8) p6], .box [.v (.int .i64) p7, .nl, .nl, .nl, .nl, .nl, .v (.int .i64) p8, .nl], .box [.v (.int .i64) p9, .nl, .nl, .nl, .nl, .nl, .v (.int .i64) p10, .nl]]⟩
theorem F26k11.start_eq (k : Nat) (m : Int) (z : (List Int) × ((List Int) × ((List Int) × (Int × Int)))) (a1 : Int) (hm : IntKind.i64.wrap (1 + ((IntKind.i64.wrap m).tmod 23)) = (11 : Int)) : callW F26k11.E false F26k11.fn k [.agg [.v (.int .u8) m, .v (.sl (.int .u8)) z.1, .v (.sl (.int .u8)) z.2.1, .v (.sl (.int .i8)) z.2.2.1, .v (.int .i16) z.2.2.2.1, .v (.int .u8) z.2.2.2.2], .v (.int .i64) a1] =
  bif decide ((11 : Int) < shapesL.length) then
   bif decide ((z.1.length : Int) < 1) then
    bif placesB z.1 2 a1 then
     bif numbersB z.2.2.1 0 2 (-1 : Int) 5 then
      bif numbersB z.2.2.1 0 (IntKind.i64.wrap (1 + ((z.2.2.1.length : Int).tmod 5))) (-1 : Int) 5 then
       some (.agg [.v (.int .i64) (11 : Int), .v (.sl (.int .i64)) (placesL z.1 2 a1), .nl, .v (.sl (.int .i64)) (numbersL z.2.2.1 0 (IntKind.i64.wrap (1 + ((z.2.2.1.length : Int).tmod 5))) (-1 : Int) 5), .nl, .nl, .v (.int .i64) (0 : Int), .nl])
      else
       none
     else
      none
    else
     none
   else
    bif decide ((z.1.length : Int) > 4) then
     bif placesB z.1 2 a1 then
      bif numbersB z.2.2.1 0 2 (-1 : Int) 5 then
       bif numbersB z.2.2.1 0 (IntKind.i64.wrap (1 + ((z.2.2.1.length : Int).tmod 5))) (-1 : Int) 5 then
        some (.agg [.v (.int .i64) (11 : Int), .v (.sl (.int .i64)) (placesL z.1 2 a1), .nl, .v (.sl (.int .i64)) (numbersL z.2.2.1 0 (IntKind.i64.wrap (1 + ((z.2.2.1.length : Int).tmod 5))) (-1 : Int) 5), .nl, .nl, .v (.int .i64) (0 : Int), .nl])
       else
        none
      else
       none
     else
      none
    else
     bif placesB z.1 2 a1 then
      bif numbersB z.2.2.1 0 2 (-1 : Int) 5 then
       bif numbersB z.2.2.1 0 (IntKind.i64.wrap (1 + ((z.2.2.1.length : Int).tmod 5))) (-1 : Int) 5 then
        some (.agg [.v (.int .i64) (11 : Int), .v (.sl (.int .i64)) (placesL z.1 2 a1), .nl, .v (.sl (.int .i64)) (numbersL z.2.2.1 0 (IntKind.i64.wrap (1 + ((z.2.2.1.length : Int).tmod 5))) (-1 : Int) 5), .nl, .nl, .v (.int .i64) (0 : Int), .nl])
       else
        none
      else
       none
     else
      none
  else
   none :=
 (show callW F26k11.E false F26k11.fn k [.agg [.v (.int .u8) m, .v (.sl (.int .u8)) z.1, .v (.sl (.int .u8)) z.2.1, .v (.sl (.int .i8)) z.2.2.1, .v (.int .i16) z.2.2.2.1, .v (.int .u8) z.2.2.2.2], .v (.int .i64) a1] = F26k11.n1_1 k (F26k11.kt k [1, 1]) a1 m z.1 z.2.1 z.2.2.1 z.2.2.2.1 z.2.2.2.2 (0 : Int) (0 : Int) (IntKind.i64.wrap (1 + ((IntKind.i64.wrap m).tmod 23))) (0 : Int) by kernel_rfl).trans ((congrArg (fun x : Int => F26k11.n1_1 k (F26k11.kt k [1, 1]) a1 m z.1 z.2.1 z.2.2.1 z.2.2.2.1 z.2.2.2.2 (0 : Int) (0 : Int) x (0 : Int)) hm).trans (by kernel_rfl))
noncomputable def F26k12.fn : Func := Go.Proofs.Try.f6
noncomputable def F26k12.body : Code := bodyOf F26k12.fn
noncomputable def F26k12.E : Env := ⟨tt, [(18, h_shapes), (19, h_hasB), (20, h_placesL)], [(1, [1, 2, 4]), (2, [1, 2, 4, 5]), (3, [1, 2, 4, 5, 6]), (4, [1, 2, 4, 5, 6, 7]), (5, [1, 2, 4, 5, 6, 7, 28]), (6, [1, 2, 4, 5, 6, 7]), (7, [1, 2, 4, 5, 6, 7, 30]), (8, [1, 2, 4, 5, 6, 7]), (9, [1, 2, 4, 5, 6, 7, 33]), (10, [1, 2, 4, 5, 6, 7]), (11, [1, 2, 4, 5, 6, 7]), (12, [1, 2, 4, 5, 6, 7, 44]), (13, [1, 2, 4, 5, 6, 7]), (14, [1, 2, 4, 5, 6, 7, 52]), (15, [2, 4, 5, 6, 7]), (16, [2, 4, 5, 6, 7, 61]), (17, [2, 4, 5, 6, 7]), (18, [2, 4, 5, 6, 7, 69]), (19, [2, 4, 5, 6, 7]), (20, [2, 4, 5, 7, 81]), (21, [2, 4, 5, 7]), (22, [2, 4, 5, 7, 89]), (23, [2, 4, 5, 7]), (24, [2, 4, 5, 7]), (25, [2, 4, 5, 7, 103]), (26, [2, 4, 5, 7]), (27, [2, 4, 5, 7, 110]), (28, [2, 4, 5, 7]), (29, [2, 4, 5, 7, 8]), (30, [2, 4, 5, 7, 8, 9]), (31, [2, 4, 5, 7, 8, 9]), (32, [2, 4, 5, 7, 8, 9]), (33, [2, 4, 5, 7, 8]), (34, [2, 4, 5, 7, 8]), (35, [2, 4, 5, 7, 8, 10]), (36, [2, 4, 5, 7, 8, 10]), (37, [2, 4, 5, 7, 8, 10]), (38, [2, 4, 5, 7]), (39, [2, 4, 5, 7, 162]), (40, [2, 4, 5, 7, 11]), (41, [2, 4, 5, 7, 11, 12]), (42, [2, 4, 5, 7, 11, 12]), (43, [2, 4, 5, 7, 11, 12]), (44, [4, 5])], [(0, [2, 4, 5, 7, 8]), (1, [2, 4, 5, 7, 8, 9]), (2, [2, 4, 5, 7]), (3, [2, 4, 5, 7, 8, 10]), (4, [4, 5]), (5, [2, 4, 5, 7, 11, 12])], some [4], inv, []⟩
noncomputable def F26k12.K0 : Conts := { nrm := endW F26k12.E false F26k12.fn.results.toList, ret := endW F26k12.E false F26k12.fn.results.toList, ex := [] }
noncomputable def F26k12.kt (k : Nat) (q : List Nat) : Conts := contAt F26k12.E k F26k12.body F26k12.K0 q
noncomputable def F26k12.n1_1 (n : Nat) (K : Conts) (p0 p1 : Int) (p2 p3 p4 : List Int) (p5 p6 p7 p8 p9 p10 : Int) : Option AV := runC F26k12.E (loopF F26k12.E n) (subC [1,1] F26k12.body) K ⟨slots 186 [(1, .v (.int .i64) p0), (2, .pb 0 0), (4, .pb 1 0), (5, .pb 2 0)], [.box [.v (.int .u8) p1, .v (.sl (.int .u8)) p2, .v (.sl (.int .u8)) p3, .v (.sl (.int .i8)) p4, .v (.int .i16) p5, .v (.int .u8) p6], .box [.v (.int .i64) p7, .nl, .nl, .nl, .nl, .nl, .v (.int .i64) p8, .nl], .box [.v (.int .i64) p9, .nl, .nl, .nl, .nl, .nl, .v (.int .i64) p10, .nl]]⟩
theorem F26k12.start_eq (k : Nat) (m : Int) (z : (List Int) × ((List Int) × ((List Int) × (Int × Int)))) (a1 : Int) (hm : IntKind.i64.wrap (1 + ((IntKind.i64.wrap m).tmod 23)) = (12 : Int)) : callW F26k12.E false F26k12.fn k [.agg [.v (.int .u8) m, .v (.sl (.int .u8)) z.1, .v (.sl (.int .u8)) z.2.1, .v (.sl (.int .i8)) z.2.2.1, .v (.int .i16) z.2.2.2.1, .v (.int .u8) z.2.2.2.2], .v (.int .i64) a1] =
  bif decide ((12 : Int) < shapesL.length) then
   bif decide ((z.1.length : Int) < 1) then
    bif placesB z.1 1 a1 then
     bif placesB z.2.1 1 a1 then
      some (.agg [.v (.int .i64) (12 : Int), .v (.sl (.int .i64)) (placesL z.1 1 a1), .v (.sl (.int .i64)) (placesL z.2.1 1 a1), .nl, .nl, .nl, .v (.int .i64) (0 : Int), .nl])
     else
      none
    else
     none
   else
    bif decide ((z.1.length : Int) > 4) then
     bif placesB z.1 4 a1 then
      bif placesB z.2.1 4 a1 then
       some (.agg [.v (.int .i64) (12 : Int), .v (.sl (.int .i64)) (placesL z.1 4 a1), .v (.sl (.int .i64)) (placesL z.2.1 4 a1), .nl, .nl, .nl, .v (.int .i64) (0 : Int), .nl])
      else
       none
     else
      none
    else
     bif placesB z.1 (z.1.length : Int) a1 then
      bif placesB z.2.1 (z.1.length : Int) a1 then
       some (.agg [.v (.int .i64) (12 : Int), .v (.sl (.int .i64)) (placesL z.1 (z.1.length : Int) a1), .v (.sl (.int .i64)) (placesL z.2.1 (z.1.length : Int) a1), .nl, .nl, .nl, .v (.int .i64) (0 : Int), .nl])
      else
       none
     else
      none
  else
   none :=
 (show callW F26k12.E false F26k12.fn k [.agg [.v (.int .u8) m, .v (.sl (.int .u8)) z.1, .v (.sl (.int .u8)) z.2.1, .v (.sl (.int .i8)) z.2.2.1, .v (.int .i16) z.2.2.2.1, .v (.int .u8) z.2.2.2.2], .v (.int .i64) a1] = F26k12.n1_1 k (F26k12.kt k [1, 1]) a1 m z.1 z.2.1 z.2.2.1 z.2.2.2.1 z.2.2.2.2 (0 : Int) (0 : Int) (IntKind.i64.wrap (1 + ((IntKind.i64.wrap m).tmod 23))) (0 : Int) by kernel_rfl).trans ((congrArg (fun x : Int => F26k12.n1_1 k (F26k12.kt k [1, 1]) a1 m z.1 z.2.1 z.2.2.1 z.2.2.2.1 z.2.2.2.2 (0 : Int) (0 : Int) x (0 : Int)) hm).trans (by kernel_rfl))
noncomputable def F26k13.fn : Func := Go.Proofs.Try.f6
noncomputable def F26k13.body : Code := bodyOf F26k13.fn
noncomputable def F26k13.E : Env := ⟨tt, [(18, h_shapes), (19, h_hasB), (20, h_placesL)], [(1, [1, 2, 4]), (2, [1, 2, 4, 5]), (3, [1, 2, 4, 5, 6]), (4, [1, 2, 4, 5, 6, 7]), (5, [1, 2, 4, 5, 6, 7, 28]), (6, [1, 2, 4, 5, 6, 7]), (7, [1, 2, 4, 5, 6, 7, 30]), (8, [1, 2, 4, 5, 6, 7]), (9, [1, 2, 4, 5, 6, 7, 33]), (10, [1, 2, 4, 5, 6, 7]), (11, [1, 2, 4, 5, 6, 7]), (12, [1, 2, 4, 5, 6, 7, 44]), (13, [1, 2, 4, 5, 6, 7]), (14, [1, 2, 4, 5, 6, 7, 52]), (15, [2, 4, 5, 6, 7]), (16, [2, 4, 5, 6, 7, 61]), (17, [2, 4, 5, 6, 7]), (18, [2, 4, 5, 6, 7, 69]), (19, [2, 4, 5, 6, 7]), (20, [2, 4, 5, 7, 81]), (21, [2, 4, 5, 7]), (22, [2, 4, 5, 7, 89]), (23, [2, 4, 5, 7]), (24, [2, 4, 5, 7]), (25, [2, 4, 5, 7, 103]), (26, [2, 4, 5, 7]), (27, [2, 4, 5, 7, 110]), (28, [2, 4, 5, 7]), (29, [2, 4, 5, 7, 8]), (30, [2, 4, 5, 7, 8, 9]), (31, [2, 4, 5, 7, 8, 9]), (32, [2, 4, 5, 7, 8, 9]), (33, [2, 4, 5, 7, 8]), (34, [2, 4, 5, 7, 8]), (35, [2, 4, 5, 7, 8, 10]), (36, [2, 4, 5, 7, 8, 10]), (37, [2, 4, 5, 7, 8, 10]), (38, [2, 4, 5, 7]), (39, [2, 4, 5, 7, 162]), (40, [2, 4, 5, 7, 11]), (41, [2, 4, 5, 7, 11, 12]), (42, [2, 4, 5, 7, 11, 12]), (43, [2, 4, 5, 7, 11, 12]), (44, [4, 5])], [(0, [2, 4, 5, 7, 8]), (1, [2, 4, 5, 7, 8, 9]), (2, [2, 4, 5, 7]), (3, [2, 4, 5, 7, 8, 10]), (4, [4, 5]), (5, [2, 4, 5, 7, 11, 12])], some [4], inv, []⟩
noncomputable def F26k13.K0 : Conts := { nrm := endW F26k13.E false F26k13.fn.results.toList, ret := endW F26k13.E false F26k13.fn.results.toList, ex := [] }
noncomputable def F26k13.kt (k : Nat) (q : List Nat) : Conts := contAt F26k13.E k F26k13.body F26k13.K0 q
noncomputable def F26k13.n1_1 (n : Nat) (K : Conts) (p0 p1 : Int) (p2 p3 p4 : List Int) (p5 p6 p7 p8 p9 p10 : Int) : Option AV := runC F26k13.E (loopF F26k13.E n) (subC [1,1] F26k13.body) K ⟨slots 186 [(1, .v (.int .i64) p0), (2, .pb 0 0), (4, .pb 1 0), (5, .pb 2 0)], [.box [.v (.int .u8) p1, .v (.sl (.int .u8)) p2, .v (.sl (.int .u8)) p3, .v (.sl (.int .i8)) p4, .v (.int .i16) p5, .v (.int .u8) p6], .box [.v (.int .i64) p7, .nl, .nl, .nl, .nl, .nl, .v (.int .i64) p8, .nl], .box [.v (.int .i64) p9, .nl, .nl, .nl, .nl, .nl, .v (.int .i64) p10, .nl]]⟩
theorem F26k13.start_eq (k : Nat) (m : Int) (z : (List Int) × ((List Int) × ((List Int) × (Int × Int)))) (a1 : Int) (hm : IntKind.i64.wrap (1 + ((IntKind.i64.wrap m).tmod 23)) = (13 : Int)) : callW F26k13.E false F26k13.fn k [.agg [.v (.int .u8) m, .v (.sl (.int .u8)) z.1, .v (.sl (.int .u8)) z.2.1, .v (.sl (.int .i8)) z.2.2.1, .v (.int .i16) z.2.2.2.1, .v (.int .u8) z.2.2.2.2], .v (.int .i64) a1] =
  bif decide ((13 : Int) < shapesL.length) then
   bif decide ((z.1.length : Int) < 1) then
    bif placesB z.1 1 a1 then
     bif placesB z.2.1 1 a1 then
      some (.agg [.v (.int .i64) (13 : Int), .v (.sl (.int .i64)) (placesL z.1 1 a1), .v (.sl (.int .i64)) (placesL z.2.1 1 a1), .nl, .nl, .nl, .v (.int .i64) ((IntKind.i64.wrap z.2.2.2.1).tmod 12), .nl])
     else
      none
    else
     none
   else
    bif decide ((z.1.length : Int) > 4) then
     bif placesB z.1 1 a1 then
      bif placesB z.2.1 1 a1 then
       some (.agg [.v (.int .i64) (13 : Int), .v (.sl (.int .i64)) (placesL z.1 1 a1), .v (.sl (.int .i64)) (placesL z.2.1 1 a1), .nl, .nl, .nl, .v (.int .i64) ((IntKind.i64.wrap z.2.2.2.1).tmod 12), .nl])
      else
       none
     else
      none
    else
     bif placesB z.1 1 a1 then
      bif placesB z.2.1 1 a1 then
       some (.agg [.v (.int .i64) (13 : Int), .v (.sl (.int .i64)) (placesL z.1 1 a1), .v (.sl (.int .i64)) (placesL z.2.1 1 a1), .nl, .nl, .nl, .v (.int .i64) ((IntKind.i64.wrap z.2.2.2.1).tmod 12), .nl])
      else
       none
     else
      none
  else
   none :=
 (show callW F26k13.E false F26k13.fn k [.agg [.v (.int .u8) m, .v (.sl (.int .u8)) z.1, .v (.sl (.int .u8)) z.2.1, .v (.sl (.int .i8)) z.2.2.1, .v (.int .i16) z.2.2.2.1, .v (.int .u8) z.2.2.2.2], .v (.int .i64) a1] = F26k13.n1_1 k (F26k13.kt k [1, 1]) a1 m z.1 z.2.1 z.2.2.1 z.2.2.2.1 z.2.2.2.2 (0 : Int) (0 : Int) (IntKind.i64.wrap (1 + ((IntKind.i64.wrap m).tmod 23))) (0 : Int) by kernel_rfl).trans ((congrArg (fun x : Int => F26k13.n1_1 k (F26k13.kt k [1, 1]) a1 m z.1 z.2.1 z.2.2.1 z.2.2.2.1 z.2.2.2.2 (0 : Int) (0 : Int) x (0 : Int)) hm).trans (by kernel_rfl))
noncomputable def F26k14.fn : Func := Go.Proofs.Try.f6
noncomputable def F26k14.body : Code := bodyOf F26k14.fn
noncomputable def F26k14.E : Env := ⟨tt, [(18, h_shapes), (19, h_hasB), (20, h_placesL)], [(1, [1, 2, 4]), (2, [1, 2, 4, 5]), (3, [1, 2, 4, 5, 6]), (4, [1, 2, 4, 5, 6, 7]), (5, [1, 2, 4, 5, 6, 7, 28]), (6, [1, 2, 4, 5, 6, 7]), (7, [1, 2, 4, 5, 6, 7, 30]), (8, [1, 2, 4, 5, 6, 7]), (9, [1, 2, 4, 5, 6, 7, 33]), (10, [1, 2, 4, 5, 6, 7]), (11, [1, 2, 4, 5, 6, 7]), (12, [1, 2, 4, 5, 6, 7, 44]), (13, [1, 2, 4, 5, 6, 7]), (14, [1, 2, 4, 5, 6, 7, 52]), (15, [2, 4, 5, 6, 7]), (16, [2, 4, 5, 6, 7, 61]), (17, [2, 4, 5, 6, 7]), (18, [2, 4, 5, 6, 7, 69]), (19, [2, 4, 5, 6, 7]), (20, [2, 4, 5, 7, 81]), (21, [2, 4, 5, 7]), (22, [2, 4, 5, 7, 89]), (23, [2, 4, 5, 7]), (24, [2, 4, 5, 7]), (25, [2, 4, 5, 7, 103]), (26, [2, 4, 5, 7]), (27, [2, 4, 5, 7, 110]), (28, [2, 4, 5, 7]), (29, [2, 4, 5, 7, 8]), (30, [2, 4, 5, 7, 8, 9]), (31, [2, 4, 5, 7, 8, 9]), (32, [2, 4, 5, 7, 8, 9]), (33, [2, 4, 5, 7, 8]), (34, [2, 4, 5, 7, 8]), (35, [2, 4, 5, 7, 8, 10]), (36, [2, 4, 5, 7, 8, 10]), (37, [2, 4, 5, 7, 8, 10]), (38, [2, 4, 5, 7]), (39, [2, 4, 5, 7, 162]), (40, [2, 4, 5, 7, 11]), (41, [2, 4, 5, 7, 11, 12]), (42, [2, 4, 5, 7, 11, 12]), (43, [2, 4, 5, 7, 11, 12]), (44, [4, 5])], [(0, [2, 4, 5, 7, 8]), (1, [2, 4, 5, 7, 8, 9]), (2, [2, 4, 5, 7]), (3, [2, 4, 5, 7, 8, 10]), (4, [4, 5]), (5, [2, 4, 5, 7, 11, 12])], some [4], inv, []⟩
noncomputable def F26k14.K0 : Conts := { nrm := endW F26k14.E false F26k14.fn.results.toList, ret := endW F26k14.E false F26k14.fn.results.toList, ex := [] }
noncomputable def F26k14.kt (k : Nat) (q : List Nat) : Conts := contAt F26k14.E k F26k14.body F26k14.K0 q
noncomputable def F26k14.n1_1 (n : Nat) (K : Conts) (p0 p1 : Int) (p2 p3 p4 : List Int) (p5 p6 p7 p8 p9 p10 : Int) : Option AV := runC F26k14.E (loopF F26k14.E n) (subC [1,1] F26k14.body) K ⟨slots 186 [(1, .v (.int .i64) p0), (2, .pb 0 0), (4, .pb 1 0), (5, .pb 2 0)], [.box [.v (.int .u8) p1, .v (.sl (.int .u8)) p2, .v (.sl (.int .u8)) p3, .v (.sl (.int .i8)) p4, .v (.int .i16) p5, .v (.int .u8) p6], .box [.v (.int .i64) p7, .nl, .nl, .nl, .nl, .nl, .v (.int .i64) p8, .nl], .box [.v (.int .i64) p9, .nl, .nl, .nl, .nl, .nl, .v (.int .i64) p10, .nl]]⟩
theorem F26k14.start_eq (k : Nat) (m : Int) (z : (List Int) × ((List Int) × ((List Int) × (Int × Int)))) (a1 : Int) (hm : IntKind.i64.wrap (1 + ((IntKind.i64.wrap m).tmod 23)) = (14 : Int)) : callW F26k14.E false F26k14.fn k [.agg [.v (.int .u8) m, .v (.sl (.int .u8)) z.1, .v (.sl (.int .u8)) z.2.1, .v (.sl (.int .i8)) z.2.2.1, .v (.int .i16) z.2.2.2.1, .v (.int .u8) z.2.2.2.2], .v (.int .i64) a1] =
  bif decide ((14 : Int) < shapesL.length) then
   bif decide ((z.1.length : Int) < 1) then
    bif placesB z.1 1 a1 then
     bif placesB z.2.1 1 a1 then
      some (.agg [.v (.int .i64) (14 : Int), .v (.sl (.int .i64)) (placesL z.1 1 a1), .v (.sl (.int .i64)) (placesL z.2.1 1 a1), .nl, .nl, .nl, .v (.int .i64) ((IntKind.i64.wrap z.2.2.2.1).tmod 12), .nl])
     else
      none
    else
     none
   else
    bif decide ((z.1.length : Int) > 4) then
     bif placesB z.1 1 a1 then
      bif placesB z.2.1 1 a1 then
       some (.agg [.v (.int .i64) (14 : Int), .v (.sl (.int .i64)) (placesL z.1 1 a1), .v (.sl (.int .i64)) (placesL z.2.1 1 a1), .nl, .nl, .nl, .v (.int .i64) ((IntKind.i64.wrap z.2.2.2.1).tmod 12), .nl])
      else
       none
     else
      none
    else
     bif placesB z.1 1 a1 then
      bif placesB z.2.1 1 a1 then
       some (.agg [.v (.int .i64) (14 : Int), .v (.sl (.int .i64)) (placesL z.1 1 a1), .v (.sl (.int .i64)) (placesL z.2.1 1 a1), .nl, .nl, .nl, .v (.int .i64) ((IntKind.i64.wrap z.2.2.2.1).tmod 12), .nl])
      else
       none
     else
      none
  else
   none :=
 (show callW F26k14.E false F26k14.fn k [.agg [.v (.int .u8) m, .v (.sl (.int .u8)) z.1, .v (.sl (.int .u8)) z.2.1, .v (.sl (.int .i8)) z.2.2.1, .v (.int .i16) z.2.2.2.1, .v (.int .u8) z.2.2.2.2], .v (.int .i64) a1] = F26k14.n1_1 k (F26k14.kt k [1, 1]) a1 m z.1 z.2.1 z.2.2.1 z.2.2.2.1 z.2.2.2.2 (0 : Int) (0 : Int) (IntKind.i64.wrap (1 + ((IntKind.i64.wrap m).tmod 23))) (0 : Int) by kernel_rfl).trans ((congrArg (fun x : Int => F26k14.n1_1 k (F26k14.kt k [1, 1]) a1 m z.1 z.2.1 z.2.2.1 z.2.2.2.1 z.2.2.2.2 (0 : Int) (0 : Int) x (0 : Int)) hm).trans (by kernel_rfl))
noncomputable def F26k15.fn : Func := Go.Proofs.Try.f6
noncomputable def F26k15.body : Code := bodyOf F26k15.fn
noncomputable def F26k15.E : Env := ⟨tt, [(18, h_shapes), (19, h_hasB), (20, h_placesL)], [(1, [1, 2, 4]), (2, [1, 2, 4, 5]), (3, [1, 2, 4, 5, 6]), (4, [1, 2, 4, 5, 6, 7]), (5, [1, 2, 4, 5, 6, 7, 28]), (6, [1, 2, 4, 5, 6, 7]), (7, [1, 2, 4, 5, 6, 7, 30]), (8, [1, 2, 4, 5, 6, 7]), (9, [1, 2, 4, 5, 6, 7, 33]), (10, [1, 2, 4, 5, 6, 7]), (11, [1, 2, 4, 5, 6, 7]), (12, [1, 2, 4, 5, 6, 7, 44]), (13, [1, 2, 4, 5, 6, 7]), (14, [1, 2, 4, 5, 6, 7, 52]), (15, [2, 4, 5, 6, 7]), (16, [2, 4, 5, 6, 7, 61]), (17, [2, 4, 5, 6, 7]), (18, [2, 4, 5, 6, 7, 69]), (19, [2, 4, 5, 6, 7]), (20, [2, 4, 5, 7, 81]), (21, [2, 4, 5, 7]), (22, [2, 4, 5, 7, 89]), (23, [2, 4, 5, 7]), (24, [2, 4, 5, 7]), (25, [2, 4, 5, 7, 103]), (26, [2, 4, 5, 7]), (27, [2, 4, 5, 7, 110]), (28, [2, 4, 5, 7]), (29, [2, 4, 5, 7, 8]), (30, [2, 4, 5, 7, 8, 9]), (31, [2, 4, 5, 7, 8, 9]), (32, [2, 4, 5, 7, 8, 9]), (33, [2, 4, 5, 7, 8]), (34, [2, 4, 5, 7, 8]), (35, [2, 4, 5, 7, 8, 10]), (36, [2, 4, 5, 7, 8, 10]), (37, [2, 4, 5, 7, 8, 10]), (38, [2, 4, 5, 7]), (39, [2, 4, 5, 7, 162]), (40, [2, 4, 5, 7, 11]), (41, [2, 4, 5, 7, 11, 12]), (42, [2, 4, 5, 7, 11, 12]), (43, [2, 4, 5, 7, 11, 12]), (44, [4, 5])], [(0, [2, 4, 5, 7, 8]), (1, [2, 4, 5, 7, 8, 9]), (2, [2, 4, 5, 7]), (3, [2, 4, 5, 7, 8, 10]), (4, [4, 5]), (5, [2, 4, 5, 7, 11, 12])], some [4], inv, []⟩
noncomputable def F26k15.K0 : Conts := { nrm := endW F26k15.E false F26k15.fn.results.toList, ret := endW F26k15.E false F26k15.fn.results.toList, ex := [] }
noncomputable def F26k15.kt (k : Nat) (q : List Nat) : Conts := contAt F26k15.E k F26k15.body F26k15.K0 q
noncomputable def F26k15.n1_1 (n : Nat) (K : Conts) (p0 p1 : Int) (p2 p3 p4 : List Int) (p5 p6 p7 p8 p9 p10 : Int) : Option AV := runC F26k15.E (loopF F26k15.E n) (subC [1,1] F26k15.body) K ⟨slots 186 [(1, .v (.int .i64) p0), (2, .pb 0 0), (4, .pb 1 0), (5, .pb 2 0)], [.box [.v (.int .u8) p1, .v (.sl (.int .u8)) p2, .v (.sl (.int .u8)) p3, .v (.sl (.int .i8)) p4, .v (.int .i16) p5, .v (.int .u8) p6], .box [.v (.int .i64) p7, .nl, .nl, .nl, .nl, .nl, .v (.int .i64) p8, .nl], .box [.v (.int .i64) p9, .nl, .nl, .nl, .nl, .nl, .v (.int .i64) p10, .nl]]⟩
theorem F26k15.start_eq (k : Nat) (m : Int) (z : (List Int) × ((List Int) × ((List Int) × (Int × Int)))) (a1 : Int) (hm : IntKind.i64.wrap (1 + ((IntKind.i64.wrap m).tmod 23)) = (15 : Int)) : callW F26k15.E false F26k15.fn k [.agg [.v (.int .u8) m, .v (.sl (.int .u8)) z.1, .v (.sl (.int .u8)) z.2.1, .v (.sl (.int .i8)) z.2.2.1, .v (.int .i16) z.2.2.2.1, .v (.int .u8) z.2.2.2.2], .v (.int .i64) a1] =
  bif decide ((15 : Int) < shapesL.length) then
   bif decide ((z.1.length : Int) < 1) then
    bif placesB z.1 1 a1 then
     bif placesB z.2.1 1 a1 then
      some (.agg [.v (.int .i64) (15 : Int), .v (.sl (.int .i64)) (placesL z.1 1 a1), .v (.sl (.int .i64)) (placesL z.2.1 1 a1), .nl, .nl, .nl, .v (.int .i64) ((IntKind.i64.wrap z.2.2.2.1).tmod 12), .nl])
     else
      none
    else
     none
   else
    bif decide ((z.1.length : Int) > 4) then
     bif placesB z.1 1 a1 then
      bif placesB z.2.1 1 a1 then
       some (.agg [.v (.int .i64) (15 : Int), .v (.sl (.int .i64)) (placesL z.1 1 a1), .v (.sl (.int .i64)) (placesL z.2.1 1 a1), .nl, .nl, .nl, .v (.int .i64) ((IntKind.i64.wrap z.2.2.2.1).tmod 12), .nl])
      else
       none
     else
      none
    else
     bif placesB z.1 1 a1 then
      bif placesB z.2.1 1 a1 then
       some (.agg [.v (.int .i64) (15 : Int), .v (.sl (.int .i64)) (placesL z.1 1 a1), .v (.sl (.int .i64)) (placesL z.2.1 1 a1), .nl, .nl, .nl, .v (.int .i64) ((IntKind.i64.wrap z.2.2.2.1).tmod 12), .nl])
      else
       none
     else
      none
  else
   none :=
 (show callW F26k15.E false F26k15.fn k [.agg [.v (.int .u8) m, .v (.sl (.int .u8)) z.1, .v (.sl (.int .u8)) z.2.1, .v (.sl (.int .i8)) z.2.2.1, .v (.int .i16) z.2.2.2.1, .v (.int .u8) z.2.2.2.2], .v (.int .i64) a1] = F26k15.n1_1 k (F26k15.kt k [1, 1]) a1 m z.1 z.2.1 z.2.2.1 z.2.2.2.1 z.2.2.2.2 (0 : Int) (0 : Int) (IntKind.i64.wrap (1 + ((IntKind.i64.wrap m).tmod 23))) (0 : Int) by kernel_rfl).trans ((congrArg (fun x : Int => F26k15.n1_1 k (F26k15.kt k [1, 1]) a1 m z.1 z.2.1 z.2.2.1 z.2.2.2.1 z.2.2.2.2 (0 : Int) (0 : Int) x (0 : Int)) hm).trans (by kernel_rfl))
noncomputable def F26k16.fn : Func := Go.Proofs.Try.f6
noncomputable def F26k16.body : Code := bodyOf F26k16.fn
noncomputable def F26k16.E : Env := ⟨tt, [(18, h_shapes), (19, h_hasB), (20, h_placesL)], [(1, [1, 2, 4]), (2, [1, 2, 4, 5]), (3, [1, 2, 4, 5, 6]), (4, [1, 2, 4, 5, 6, 7]), (5, [1, 2, 4, 5, 6, 7, 28]), (6, [1, 2, 4, 5, 6, 7]), (7, [1, 2, 4, 5, 6, 7, 30]), (8, [1, 2, 4, 5, 6, 7]), (9, [1, 2, 4, 5, 6, 7, 33]), (10, [1, 2, 4, 5, 6, 7]), (11, [1, 2, 4, 5, 6, 7]), (12, [1, 2, 4, 5, 6, 7, 44]), (13, [1, 2, 4, 5, 6, 7]), (14, [1, 2, 4, 5, 6, 7, 52]), (15, [2, 4, 5, 6, 7]), (16, [2, 4, 5, 6, 7, 61]), (17, [2, 4, 5, 6, 7]), (18, [2, 4, 5, 6, 7, 69]), (19, [2, 4, 5, 6, 7]), (20, [2, 4, 5, 7, 81]), (21, [2, 4, 5, 7]), (22, [2, 4, 5, 7, 89]), (23, [2, 4, 5, 7]), (24, [2, 4, 5, 7]), (25, [2, 4, 5, 7, 103]), (26, [2, 4, 5, 7]), (27, [2, 4, 5, 7, 110]), (28, [2, 4, 5, 7]), (29, [2, 4, 5, 7, 8]), (30, [2, 4, 5, 7, 8, 9]), (31, [2, 4, 5, 7, 8, 9]), (32, [2, 4, 5, 7, 8, 9]), (33, [2, 4, 5, 7, 8]), (34, [2, 4, 5, 7, 8]), (35, [2, 4, 5, 7, 8, 10]), (36, [2, 4, 5, 7, 8, 10]), (37, [2, 4, 5, 7, 8, 10]), (38, [2, 4, 5, 7]), (39, [2, 4, 5, 7, 162]), (40, [2, 4, 5, 7, 11]), (41, [2, 4, 5, 7, 11, 12]), (42, [2, 4, 5, 7, 11, 12]), (43, [2, 4, 5, 7, 11, 12]), (44, [4, 5])], [(0, [2, 4, 5, 7, 8]), (1, [2, 4, 5, 7, 8, 9]), (2, [2, 4, 5, 7]), (3, [2, 4, 5, 7, 8, 10]), (4, [4, 5]), (5, [2, 4, 5, 7, 11, 12])], some [4], inv, []⟩
noncomputable def F26k16.K0 : Conts := { nrm := endW F26k16.E false F26k16.fn.results.toList, ret := endW F26k16.E false F26k16.fn.results.toList, ex := [] }
noncomputable def F26k16.kt (k : Nat) (q : List Nat) : Conts := contAt F26k16.E k F26k16.body F26k16.K0 q
noncomputable def F26k16.n1_1 (n : Nat) (K : Conts) (p0 p1 : Int) (p2 p3 p4 : List Int) (p5 p6 p7 p8 p9 p10 : Int) : Option AV := runC F26k16.E (loopF F26k16.E n) (subC [1,1] F26k16.body) K ⟨slots 186 [(1, .v (.int .i64) p0), (2, .pb 0 0), (4, .pb 1 0), (5, .pb 2 0)], [.box [.v (.int .u8) p1, .v (.sl (.int .u8)) p2, .v (.sl (.int .u8)) p3, .v (.sl (.int .i8)) p4, .v (.int .i16) p5, .v (.int .u8) p6], .box [.v (.int .i64) p7, .nl, .nl, .nl, .nl, .nl, .v (.int .i64) p8, .nl], .box [.v (.int .i64) p9, .nl, .nl, .nl, .nl, .nl, .v (.int .i64) p10, .nl]]⟩
theorem F26k16.start_eq (k : Nat) (m : Int) (z : (List Int) × ((List Int) × ((List Int) × (Int × Int)))) (a1 : Int) (hm : IntKind.i64.wrap (1 + ((IntKind.i64.wrap m).tmod 23)) = (16 : Int)) : callW F26k16.E false F26k16.fn k [.agg [.v (.int .u8) m, .v (.sl (.int .u8)) z.1, .v (.sl (.int .u8)) z.2.1, .v (.sl (.int .i8)) z.2.2.1, .v (.int .i16) z.2.2.2.1, .v (.int .u8) z.2.2.2.2], .v (.int .i64) a1] =
  bif decide ((16 : Int) < shapesL.length) then
   bif decide ((z.1.length : Int) < 1) then
    bif placesB z.1 1 a1 then
     bif placesB z.2.1 1 a1 then
      some (.agg [.v (.int .i64) (16 : Int), .v (.sl (.int .i64)) (placesL z.1 1 a1), .v (.sl (.int .i64)) (placesL z.2.1 1 a1), .nl, .nl, .nl, .v (.int .i64) ((IntKind.i64.wrap z.2.2.2.1).tmod 12), .nl])
     else
      none
    else
     none
   else
    bif decide ((z.1.length : Int) > 4) then
     bif placesB z.1 1 a1 then
      bif placesB z.2.1 1 a1 then
       some (.agg [.v (.int .i64) (16 : Int), .v (.sl (.int .i64)) (placesL z.1 1 a1), .v (.sl (.int .i64)) (placesL z.2.1 1 a1), .nl, .nl, .nl, .v (.int .i64) ((IntKind.i64.wrap z.2.2.2.1).tmod 12), .nl])
      else
       none
     else
      none
    else
     bif placesB z.1 1 a1 then
      bif placesB z.2.1 1 a1 then
       some (.agg [.v (.int .i64) (16 : Int), .v (.sl (.int .i64)) (placesL z.1 1 a1), .v (.sl (.int .i64)) (placesL z.2.1 1 a1), .nl, .nl, .nl, .v (.int .i64) ((IntKind.i64.wrap z.2.2.2.1).tmod 12), .nl])
      else
       none
     else
      none
  else
   none :=
 (show callW F26k16.E false F26k16.fn k [.agg [.v (.int .u8) m, .v (.sl (.int .u8)) z.1, .v (.sl (.int .u8)) z.2.1, .v (.sl (.int .i8)) z.2.2.1, .v (.int .i16) z.2.2.2.1, .v (.int .u8) z.2.2.2.2], .v (.int .i64) a1] = F26k16.n1_1 k (F26k16.kt k [1, 1]) a1 m z.1 z.2.1 z.2.2.1 z.2.2.2.1 z.2.2.2.2 (0 : Int) (0 : Int) (IntKind.i64.wrap (1 + ((IntKind.i64.wrap m).tmod 23))) (0 : Int) by kernel_rfl).trans ((congrArg (fun x : Int => F26k16.n1_1 k (F26k16.kt k [1, 1]) a1 m z.1 z.2.1 z.2.2.1 z.2.2.2.1 z.2.2.2.2 (0 : Int) (0 : Int) x (0 : Int)) hm).trans (by kernel_rfl))
noncomputable def F26k17.fn : Func := Go.Proofs.Try.f6
noncomputable def F26k17.body : Code := bodyOf F26k17.fn
noncomputable def F26k17.E : Env := ⟨tt, [(18, h_shapes), (19, h_hasB), (20, h_placesL)], [(1, [1, 2, 4]), (2, [1, 2, 4, 5]), (3, [1, 2, 4, 5, 6]), (4, [1, 2, 4, 5, 6, 7]), (5, [1, 2, 4, 5, 6, 7, 28]), (6, [1, 2, 4, 5, 6, 7]), (7, [1, 2, 4, 5, 6, 7, 30]), (8, [1, 2, 4, 5, 6, 7]), (9, [1, 2, 4, 5, 6, 7, 33]), (10, [1, 2, 4, 5, 6, 7]), (11, [1, 2, 4, 5, 6, 7]), (12, [1, 2, 4, 5, 6, 7, 44]), (13, [1, 2, 4, 5, 6, 7]), (14, [1, 2, 4, 5, 6, 7, 52]), (15, [2, 4, 5, 6, 7]), (16, [2, 4, 5, 6, 7, 61]), (17, [2, 4, 5, 6, 7]), (18, [2, 4, 5, 6, 7, 69]), (19, [2, 4, 5, 6, 7]), (20, [2, 4, 5, 7, 81]), (21, [2, 4, 5, 7]), (22, [2, 4, 5, 7, 89]), (23, [2, 4, 5, 7]), (24, [2, 4, 5, 7]), (25, [2, 4, 5, 7, 103]), (26, [2, 4, 5, 7]), (27, [2, 4, 5, 7, 110]), (28, [2, 4, 5, 7]), (29, [2, 4, 5, 7, 8]), (30, [2, 4, 5, 7, 8, 9]), (31, [2, 4, 5, 7, 8, 9]), (32, [2, 4, 5, 7, 8, 9]), (33, [2, 4, 5, 7, 8]), (34, [2, 4, 5, 7, 8]), (35, [2, 4, 5, 7, 8, 10]), (36, [2, 4, 5, 7, 8, 10]), (37, [2, 4, 5, 7, 8, 10]), (38, [2, 4, 5, 7]), (39, [2, 4, 5, 7, 162]), (40, [2, 4, 5, 7, 11]), (41, [2, 4, 5, 7, 11, 12]), (42, [2, 4, 5, 7, 11, 12]), (43, [2, 4, 5, 7, 11, 12]), (44, [4, 5])], [(0, [2, 4, 5, 7, 8]), (1, [2, 4, 5, 7, 8, 9]), (2, [2, 4, 5, 7]), (3, [2, 4, 5, 7, 8, 10]), (4, [4, 5]), (5, [2, 4, 5, 7, 11, 12])], some [4], inv, []⟩
noncomputable def F26k17.K0 : Conts := { nrm := endW F26k17.E false F26k17.fn.results.toList, ret := endW F26k17.E false F26k17.fn.results.toList, ex := [] }
noncomputable def F26k17.kt (k : Nat) (q : List Nat) : Conts := contAt F26k17.E k F26k17.body F26k17.K0 q
noncomputable def F26k17.n1_1 (n : Nat) (K : Conts) (p0 p1 : Int) (p2 p3 p4 : List Int) (p5 p6 p7 p8 p9 p10 : Int) : Option AV := runC F26k17.E (loopF F26k17.E n) (subC [1,1] F26k17.body) K ⟨slots 186 [(1, .v (.int .i64) p0), (2, .pb 0 0), (4, .pb 1 0), (5, .pb 2 0)], [.box [.v (.int .u8) p1, .v (.sl (.int .u8)) p2, .v (.sl (.int .u8)) p3, .v (.sl (.int .i8)) p4, .v (.int .i16) p5, .v (.int .u8) p6], .box [.v (.int .i64) p7, .nl, .nl, .nl, .nl, .nl, .v (.int .i64) p8, .nl], .box [.v (.int .i64) p9, .nl, .nl, .nl, .nl, .nl, .v (.int .i64) p10, .nl]]⟩
theorem F26k17.start_eq (k : Nat) (m : Int) (z : (List Int) × ((List Int) × ((List Int) × (Int × Int)))) (a1 : Int) (hm : IntKind.i64.wrap (1 + ((IntKind.i64.wrap m).tmod 23)) = (17 : Int)) : callW F26k17.E false F26k17.fn k [.agg [.v (.int .u8) m, .v (.sl (.int .u8)) z.1, .v (.sl (.int .u8)) z.2.1, .v (.sl (.int .i8)) z.2.2.1, .v (.int .i16) z.2.2.2.1, .v (.int .u8) z.2.2.2.2], .v (.int .i64) a1] =
  bif decide ((17 : Int) < shapesL.length) then
   bif decide ((z.1.length : Int) < 1) then
    bif placesB z.1 1 a1 then
     some (.agg [.v (.int .i64) (17 : Int), .v (.sl (.int .i64)) (placesL z.1 1 a1), .nl, .nl, .nl, .nl, .v (.int .i64) (0 : Int), .nl])
    else
     none
   else
    bif decide ((z.1.length : Int) > 4) then
     bif placesB z.1 4 a1 then
      some (.agg [.v (.int .i64) (17 : Int), .v (.sl (.int .i64)) (placesL z.1 4 a1), .nl, .nl, .nl, .nl, .v (.int .i64) (0 : Int), .nl])
     else
      none
    else
     bif placesB z.1 (z.1.length : Int) a1 then
      some (.agg [.v (.int .i64) (17 : Int), .v (.sl (.int .i64)) (placesL z.1 (z.1.length : Int) a1), .nl, .nl, .nl, .nl, .v (.int .i64) (0 : Int), .nl])
     else
      none
  else
   none :=
 (show callW F26k17.E false F26k17.fn k [.agg [.v (.int .u8) m, .v (.sl (.int .u8)) z.1, .v (.sl (.int .u8)) z.2.1, .v (.sl (.int .i8)) z.2.2.1, .v (.int .i16) z.2.2.2.1, .v (.int .u8) z.2.2.2.2], .v (.int .i64) a1] = F26k17.n1_1 k (F26k17.kt k [1, 1]) a1 m z.1 z.2.1 z.2.2.1 z.2.2.2.1 z.2.2.2.2 (0 : Int) (0 : Int) (IntKind.i64.wrap (1 + ((IntKind.i64.wrap m).tmod 23))) (0 : Int) by kernel_rfl).trans ((congrArg (fun x : Int => F26k17.n1_1 k (F26k17.kt k [1, 1]) a1 m z.1 z.2.1 z.2.2.1 z.2.2.2.1 z.2.2.2.2 (0 : Int) (0 : Int) x (0 : Int)) hm).trans (by kernel_rfl))
noncomputable def F26k18.fn : Func := Go.Proofs.Try.f6
noncomputable def F26k18.body : Code := bodyOf F26k18.fn
noncomputable def F26k18.E : Env := ⟨tt, [(18, h_shapes), (19, h_hasB), (20, h_placesL), (21, h_numbersL)], [(1, [1, 2, 4]), (2, [1, 2, 4, 5]), (3, [1, 2, 4, 5, 6]), (4, [1, 2, 4, 5, 6, 7]), (5, [1, 2, 4, 5, 6, 7, 28]), (6, [1, 2, 4, 5, 6, 7]), (7, [1, 2, 4, 5, 6, 7, 30]), (8, [1, 2, 4, 5, 6, 7]), (9, [1, 2, 4, 5, 6, 7, 33]), (10, [1, 2, 4, 5, 6, 7]), (11, [1, 2, 4, 5, 6, 7]), (12, [1, 2, 4, 5, 6, 7, 44]), (13, [1, 2, 4, 5, 6, 7]), (14, [1, 2, 4, 5, 6, 7, 52]), (15, [2, 4, 5, 6, 7]), (16, [2, 4, 5, 6, 7, 61]), (17, [2, 4, 5, 6, 7]), (18, [2, 4, 5, 6, 7, 69]), (19, [2, 4, 5, 6, 7]), (20, [2, 4, 5, 7, 81]), (21, [2, 4, 5, 7]), (22, [2, 4, 5, 7, 89]), (23, [2, 4, 5, 7]), (24, [2, 4, 5, 7]), (25, [2, 4, 5, 7, 103]), (26, [2, 4, 5, 7]), (27, [2, 4, 5, 7, 110]), (28, [2, 4, 5, 7]), (29, [2, 4, 5, 7, 8]), (30, [2, 4, 5, 7, 8, 9]), (31, [2, 4, 5, 7, 8, 9]), (32, [2, 4, 5, 7, 8, 9]), (33, [2, 4, 5, 7, 8]), (34, [2, 4, 5, 7, 8]), (35, [2, 4, 5, 7, 8, 10]), (36, [2, 4, 5, 7, 8, 10]), (37, [2, 4, 5, 7, 8, 10]), (38, [2, 4, 5, 7]), (39, [2, 4, 5, 7, 162]), (40, [2, 4, 5, 7, 11]), (41, [2, 4, 5, 7, 11, 12, 800270005]), (42, [2, 4, 5, 7, 11, 12]), (43, [2, 4, 5, 7, 11, 12]), (44, [4, 5])], [(0, [2, 4, 5, 7, 8]), (1, [2, 4, 5, 7, 8, 9]), (2, [2, 4, 5, 7]), (3, [2, 4, 5, 7, 8, 10]), (4, [4, 5]), (5, [2, 4, 5, 7, 11, 12])], some [4], inv, []⟩
noncomputable def F26k18.K0 : Conts := { nrm := endW F26k18.E false F26k18.fn.results.toList, ret := endW F26k18.E false F26k18.fn.results.toList, ex := [] }
noncomputable def F26k18.kt (k : Nat) (q : List Nat) : Conts := contAt F26k18.E k F26k18.body F26k18.K0 q
noncomputable def F26k18.n1_1 (n : Nat) (K : Conts) (p0 p1 : Int) (p2 p3 p4 : List Int) (p5 p6 p7 p8 p9 p10 : Int) : Option AV := runC F26k18.E (loopF F26k18.E n) (subC [1,1] F26k18.body) K ⟨slots 186 [(1, .v (.int .i64) p0), (2, .pb 0 0), (4, .pb 1 0), (5, .pb 2 0)], [.box [.v (.int .u8) p1, .v (.sl (.int .u8)) p2, .v (.sl (.int .u8)) p3, .v (.sl (.int .i8)) p4, .v (.int .i16) p5, .v (.int .u8) p6], .box [.v (.int .i64) p7, .nl, .nl, .nl, .nl, .nl, .v (.int .i64) p8, .nl], .box [.v (.int .i64) p9, .nl, .nl, .nl, .nl, .nl, .v (.int .i64) p10, .nl]]⟩
noncomputable def F26k18.l1_1_1_1_1_1_1_1_1_1_1_1_1_1_1_0_1_0_1_1_0 (n : Nat) (K : Conts) (p0 p1 p2 p3 : Int) (p4 p5 p6 : List Int) (p7 p8 p9 p10 p11 : Int) (p12 : List Int) (p13 : Int) (p14 : List (List Int)) : Option AV := loopF F26k18.E n (inLoop (subC [1,1,1,1,1,1,1,1,1,1,1,1,1,1,1,0,1,0,1,1,0] F26k18.body)) K ⟨slots 186 [(2, .pb 0 0), (4, .pb 1 0), (5, .pb 2 0), (7, .v (.int .i64) p0), (11, .v (.int .i64) p1), (12, .v (.int .i64) p2)], [.box [.v (.int .u8) p3, .v (.sl (.int .u8)) p4, .v (.sl (.int .u8)) p5, .v (.sl (.int .i8)) p6, .v (.int .i16) p7, .v (.int .u8) p8], .box [.v (.int .i64) p9, .nl, .nl, .nl, .nl, .nl, .v (.int .i64) p10, .nl], .box [.v (.int .i64) p11, .v (.sl (.int .i64)) p12, .nl, .nl, .nl, .nl, .v (.int .i64) p13, .own 3], .row 27 (.sl (.int .i64)) p14]⟩
theorem F26k18.start_eq (k : Nat) (m : Int) (z : (List Int) × ((List Int) × ((List Int) × (Int × Int)))) (a1 : Int) (hm : IntKind.i64.wrap (1 + ((IntKind.i64.wrap m).tmod 23)) = (18 : Int)) : callW F26k18.E false F26k18.fn k [.agg [.v (.int .u8) m, .v (.sl (.int .u8)) z.1, .v (.sl (.int .u8)) z.2.1, .v (.sl (.int .i8)) z.2.2.1, .v (.int .i16) z.2.2.2.1, .v (.int .u8) z.2.2.2.2], .v (.int .i64) a1] =
  bif decide ((18 : Int) < shapesL.length) then
   bif decide ((z.1.length : Int) < 1) then
    bif placesB z.1 1 a1 then
     F26k18.l1_1_1_1_1_1_1_1_1_1_1_1_1_1_1_0_1_0_1_1_0 k (F26k18.kt k [1, 1, 1, 1, 1, 1, 1, 1, 1, 1, 1, 1, 1, 1, 1, 0, 1, 0, 1, 1, 0]) 1 (IntKind.i64.wrap (1 + ((z.2.2.1.length : Int).tmod 6))) 0 m z.1 z.2.1 z.2.2.1 z.2.2.2.1 z.2.2.2.2 (0 : Int) (0 : Int) 18 (placesL z.1 1 a1) (0 : Int) []
    else
     none
   else
    bif decide ((z.1.length : Int) > 4) then
     bif placesB z.1 4 a1 then
      F26k18.l1_1_1_1_1_1_1_1_1_1_1_1_1_1_1_0_1_0_1_1_0 k (F26k18.kt k [1, 1, 1, 1, 1, 1, 1, 1, 1, 1, 1, 1, 1, 1, 1, 0, 1, 0, 1, 1, 0]) 4 (IntKind.i64.wrap (1 + ((z.2.2.1.length : Int).tmod 6))) 0 m z.1 z.2.1 z.2.2.1 z.2.2.2.1 z.2.2.2.2 (0 : Int) (0 : Int) 18 (placesL z.1 4 a1) (0 : Int) []
     else
      none
    else
     bif placesB z.1 (z.1.length : Int) a1 then
      F26k18.l1_1_1_1_1_1_1_1_1_1_1_1_1_1_1_0_1_0_1_1_0 k (F26k18.kt k [1, 1, 1, 1, 1, 1, 1, 1, 1, 1, 1, 1, 1, 1, 1, 0, 1, 0, 1, 1, 0]) (z.1.length : Int) (IntKind.i64.wrap (1 + ((z.2.2.1.length : Int).tmod 6))) 0 m z.1 z.2.1 z.2.2.1 z.2.2.2.1 z.2.2.2.2 (0 : Int) (0 : Int) 18 (placesL z.1 (z.1.length : Int) a1) (0 : Int) []
     else
      none
  else
   none :=
 (show callW F26k18.E false F26k18.fn k [.agg [.v (.int .u8) m, .v (.sl (.int .u8)) z.1, .v (.sl (.int .u8)) z.2.1, .v (.sl (.int .i8)) z.2.2.1, .v (.int .i16) z.2.2.2.1, .v (.int .u8) z.2.2.2.2], .v (.int .i64) a1] = F26k18.n1_1 k (F26k18.kt k [1, 1]) a1 m z.1 z.2.1 z.2.2.1 z.2.2.2.1 z.2.2.2.2 (0 : Int) (0 : Int) (IntKind.i64.wrap (1 + ((IntKind.i64.wrap m).tmod 23))) (0 : Int) by kernel_rfl).trans ((congrArg (fun x : Int => F26k18.n1_1 k (F26k18.kt k [1, 1]) a1 m z.1 z.2.1 z.2.2.1 z.2.2.2.1 z.2.2.2.2 (0 : Int) (0 : Int) x (0 : Int)) hm).trans (by kernel_rfl))
theorem F26k18.l1_1_1_1_1_1_1_1_1_1_1_1_1_1_1_0_1_0_1_1_0_eq (n : Nat) (K : Conts) (p0 p1 p2 p3 : Int) (p4 p5 p6 : List Int) (p7 p8 p9 p10 p11 : Int) (p12 : List Int) (p13 : Int) (p14 : List (List Int)) : F26k18.l1_1_1_1_1_1_1_1_1_1_1_1_1_1_1_0_1_0_1_1_0 (n + 1) K p0 p1 p2 p3 p4 p5 p6 p7 p8 p9 p10 p11 p12 p13 p14 =
 bif decide (p2 < p1) then
 bif numbersB p6 (IntKind.i64.wrap (p2 * p0)) p0 (-1 : Int) 4 then
 bif decide ((p14.length + [numbersL p6 (IntKind.i64.wrap (p2 * p0)) p0 (-1 : Int) 4].length) * 24 ≤ LIM) then
 F26k18.l1_1_1_1_1_1_1_1_1_1_1_1_1_1_1_0_1_0_1_1_0 n K p0 p1 (IntKind.i64.wrap (p2 + 1)) p3 p4 p5 p6 p7 p8 p9 p10 p11 p12 p13 (p14 ++ [numbersL p6 (IntKind.i64.wrap (p2 * p0)) p0 (-1 : Int) 4])
 else
 none
 else
 none
 else
 exitK K 4 ⟨slots 186 [(4, .pb 0 0), (5, .pb 1 0)], [.box [.v (.int .i64) p9, .nl, .nl, .nl, .nl, .nl, .v (.int .i64) p10, .nl], .box [.v (.int .i64) p11, .v (.sl (.int .i64)) p12, .nl, .nl, .nl, .nl, .v (.int .i64) p13, .own 2], .row 27 (.sl (.int .i64)) p14]⟩ := by kernel_rfl
theorem F26k18.c0 (k : Nat) (p0 p1 p2 : Int) (p3 : List Int) (p4 : Int) (p5 : List (List Int)) : exitK (F26k18.kt k [1,1,1,1,1,1,1,1,1,1,1,1,1,1,1,0,1,0,1,1,0]) 4 ⟨slots 186 [(4, .pb 0 0), (5, .pb 1 0)], [.box [.v (.int .i64) p0, .nl, .nl, .nl, .nl, .nl, .v (.int .i64) p1, .nl], .box [.v (.int .i64) p2, .v (.sl (.int .i64)) p3, .nl, .nl, .nl, .nl, .v (.int .i64) p4, .own 2], .row 27 (.sl (.int .i64)) p5]⟩ =
 some (.agg [.v (.int .i64) p2, .v (.sl (.int .i64)) p3, .nl, .nl, .nl, .nl, .v (.int .i64) p4, .v (.sl (.sl (.int .i64))) p5]) := by kernel_rfl
noncomputable def F26k19.fn : Func := Go.Proofs.Try.f6
noncomputable def F26k19.body : Code := bodyOf F26k19.fn
noncomputable def F26k19.E : Env := ⟨tt, [(18, h_shapes), (19, h_hasB), (20, h_placesL), (21, h_numbersL)], [(1, [1, 2, 4]), (2, [1, 2, 4, 5]), (3, [1, 2, 4, 5, 6]), (4, [1, 2, 4, 5, 6, 7]), (5, [1, 2, 4, 5, 6, 7, 28]), (6, [1, 2, 4, 5, 6, 7]), (7, [1, 2, 4, 5, 6, 7, 30]), (8, [1, 2, 4, 5, 6, 7]), (9, [1, 2, 4, 5, 6, 7, 33]), (10, [1, 2, 4, 5, 6, 7]), (11, [1, 2, 4, 5, 6, 7]), (12, [1, 2, 4, 5, 6, 7, 44]), (13, [1, 2, 4, 5, 6, 7]), (14, [1, 2, 4, 5, 6, 7, 52]), (15, [2, 4, 5, 6, 7]), (16, [2, 4, 5, 6, 7, 61]), (17, [2, 4, 5, 6, 7]), (18, [2, 4, 5, 6, 7, 69]), (19, [2, 4, 5, 6, 7]), (20, [2, 4, 5, 7, 81]), (21, [2, 4, 5, 7]), (22, [2, 4, 5, 7, 89]), (23, [2, 4, 5, 7]), (24, [2, 4, 5, 7]), (25, [2, 4, 5, 7, 103]), (26, [2, 4, 5, 7]), (27, [2, 4, 5, 7, 110]), (28, [2, 4, 5, 7]), (29, [2, 4, 5, 7, 8]), (30, [2, 4, 5, 7, 8, 9]), (31, [2, 4, 5, 7, 8, 9]), (32, [2, 4, 5, 7, 8, 9]), (33, [2, 4, 5, 7, 8]), (34, [2, 4, 5, 7, 8]), (35, [2, 4, 5, 7, 8, 10]), (36, [2, 4, 5, 7, 8, 10]), (37, [2, 4, 5, 7, 8, 10]), (38, [2, 4, 5, 7]), (39, [2, 4, 5, 7, 162]), (40, [2, 4, 5, 7, 11]), (41, [2, 4, 5, 7, 11, 12]), (42, [2, 4, 5, 7, 11, 12]), (43, [2, 4, 5, 7, 11, 12]), (44, [4, 5])], [(0, [2, 4, 5, 7, 8]), (1, [2, 4, 5, 7, 8, 9]), (2, [2, 4, 5, 7]), (3, [2, 4, 5, 7, 8, 10]), (4, [4, 5]), (5, [2, 4, 5, 7, 11, 12])], some [4], inv, []⟩
noncomputable def F26k19.K0 : Conts := { nrm := endW F26k19.E false F26k19.fn.results.toList, ret := endW F26k19.E false F26k19.fn.results.toList, ex := [] }
noncomputable def F26k19.kt (k : Nat) (q : List Nat) : Conts := contAt F26k19.E k F26k19.body F26k19.K0 q
noncomputable def F26k19.n1_1 (n : Nat) (K : Conts) (p0 p1 : Int) (p2 p3 p4 : List Int) (p5 p6 p7 p8 p9 p10 : Int) : Option AV := runC F26k19.E (loopF F26k19.E n) (subC [1,1] F26k19.body) K ⟨slots 186 [(1, .v (.int .i64) p0), (2, .pb 0 0), (4, .pb 1 0), (5, .pb 2 0)], [.box [.v (.int .u8) p1, .v (.sl (.int .u8)) p2, .v (.sl (.int .u8)) p3, .v (.sl (.int .i8)) p4, .v (.int .i16) p5, .v (.int .u8) p6], .box [.v (.int .i64) p7, .nl, .nl, .nl, .nl, .nl, .v (.int .i64) p8, .nl], .box [.v (.int .i64) p9, .nl, .nl, .nl, .nl, .nl, .v (.int .i64) p10, .nl]]⟩
theorem F26k19.start_eq (k : Nat) (m : Int) (z : (List Int) × ((List Int) × ((List Int) × (Int × Int)))) (a1 : Int) (hm : IntKind.i64.wrap (1 + ((IntKind.i64.wrap m).tmod 23)) = (19 : Int)) : callW F26k19.E false F26k19.fn k [.agg [.v (.int .u8) m, .v (.sl (.int .u8)) z.1, .v (.sl (.int .u8)) z.2.1, .v (.sl (.int .i8)) z.2.2.1, .v (.int .i16) z.2.2.2.1, .v (.int .u8) z.2.2.2.2], .v (.int .i64) a1] =
  bif decide ((19 : Int) < shapesL.length) then
   bif decide ((z.1.length : Int) < 1) then
    bif placesB z.1 1 a1 then
     bif numbersB z.2.2.1 0 1 (-1 : Int) 5 then
      bif numbersB z.2.2.1 0 1 0 4 then
       bif numbersB z.2.2.1 1 1 0 4 then
        bif decide (((IntKind.i64.wrap z.2.2.2.1).tmod 12) < 0) then
         some (.agg [.v (.int .i64) (19 : Int), .v (.sl (.int .i64)) (placesL z.1 1 a1), .nl, .v (.sl (.int .i64)) (numbersL z.2.2.1 0 1 0 4), .v (.sl (.int .i64)) (numbersL z.2.2.1 1 1 0 4), .nl, .v (.int .i64) (IntKind.i64.wrap (0 - ((IntKind.i64.wrap z.2.2.2.1).tmod 12))), .nl])
        else
         some (.agg [.v (.int .i64) (19 : Int), .v (.sl (.int .i64)) (placesL z.1 1 a1), .nl, .v (.sl (.int .i64)) (numbersL z.2.2.1 0 1 0 4), .v (.sl (.int .i64)) (numbersL z.2.2.1 1 1 0 4), .nl, .v (.int .i64) ((IntKind.i64.wrap z.2.2.2.1).tmod 12), .nl])
       else
        none
      else
       none
     else
      none
    else
     none
   else
    bif decide ((z.1.length : Int) > 4) then
     bif placesB z.1 4 a1 then
      bif numbersB z.2.2.1 0 4 (-1 : Int) 5 then
       bif numbersB z.2.2.1 0 4 0 4 then
        bif numbersB z.2.2.1 4 4 0 4 then
         bif decide (((IntKind.i64.wrap z.2.2.2.1).tmod 12) < 0) then
          some (.agg [.v (.int .i64) (19 : Int), .v (.sl (.int .i64)) (placesL z.1 4 a1), .nl, .v (.sl (.int .i64)) (numbersL z.2.2.1 0 4 0 4), .v (.sl (.int .i64)) (numbersL z.2.2.1 4 4 0 4), .nl, .v (.int .i64) (IntKind.i64.wrap (0 - ((IntKind.i64.wrap z.2.2.2.1).tmod 12))), .nl])
         else
          some (.agg [.v (.int .i64) (19 : Int), .v (.sl (.int .i64)) (placesL z.1 4 a1), .nl, .v (.sl (.int .i64)) (numbersL z.2.2.1 0 4 0 4), .v (.sl (.int .i64)) (numbersL z.2.2.1 4 4 0 4), .nl, .v (.int .i64) ((IntKind.i64.wrap z.2.2.2.1).tmod 12), .nl])
        else
         none
       else
        none
      else
       none
     else
      none
    else
     bif placesB z.1 (z.1.length : Int) a1 then
      bif numbersB z.2.2.1 0 (z.1.length : Int) (-1 : Int) 5 then
       bif numbersB z.2.2.1 0 (z.1.length : Int) 0 4 then
        bif numbersB z.2.2.1 (z.1.length : Int) (z.1.length : Int) 0 4 then
         bif decide (((IntKind.i64.wrap z.2.2.2.1).tmod 12) < 0) then
          some (.agg [.v (.int .i64) (19 : Int), .v (.sl (.int .i64)) (placesL z.1 (z.1.length : Int) a1), .nl, .v (.sl (.int .i64)) (numbersL z.2.2.1 0 (z.1.length : Int) 0 4), .v (.sl (.int .i64)) (numbersL z.2.2.1 (z.1.length : Int) (z.1.length : Int) 0 4), .nl, .v (.int .i64) (IntKind.i64.wrap (0 - ((IntKind.i64.wrap z.2.2.2.1).tmod 12))), .nl])
         else
          some (.agg [.v (.int .i64) (19 : Int), .v (.sl (.int .i64)) (placesL z.1 (z.1.length : Int) a1), .nl, .v (.sl (.int .i64)) (numbersL z.2.2.1 0 (z.1.length : Int) 0 4), .v (.sl (.int .i64)) (numbersL z.2.2.1 (z.1.length : Int) (z.1.length : Int) 0 4), .nl, .v (.int .i64) ((IntKind.i64.wrap z.2.2.2.1).tmod 12), .nl])
        else
         none
       else
        none
      else
       none
     else
      none
  else
   none :=
 (show callW F26k19.E false F26k19.fn k [.agg [.v (.int .u8) m, .v (.sl (.int .u8)) z.1, .v (.sl (.int .u8)) z.2.1, .v (.sl (.int .i8)) z.2.2.1, .v (.int .i16) z.2.2.2.1, .v (.int .u8) z.2.2.2.2], .v (.int .i64) a1] = F26k19.n1_1 k (F26k19.kt k [1, 1]) a1 m z.1 z.2.1 z.2.2.1 z.2.2.2.1 z.2.2.2.2 (0 : Int) (0 : Int) (IntKind.i64.wrap (1 + ((IntKind.i64.wrap m).tmod 23))) (0 : Int) by kernel_rfl).trans ((congrArg (fun x : Int => F26k19.n1_1 k (F26k19.kt k [1, 1]) a1 m z.1 z.2.1 z.2.2.1 z.2.2.2.1 z.2.2.2.2 (0 : Int) (0 : Int) x (0 : Int)) hm).trans (by kernel_rfl))
noncomputable def F26k20.fn : Func := Go.Proofs.Try.f6
noncomputable def F26k20.body : Code := bodyOf F26k20.fn
noncomputable def F26k20.E : Env := ⟨tt, [(18, h_shapes), (19, h_hasB), (20, h_placesL)], [(1, [1, 2, 4]), (2, [1, 2, 4, 5]), (3, [1, 2, 4, 5, 6]), (4, [1, 2, 4, 5, 6, 7]), (5, [1, 2, 4, 5, 6, 7, 28]), (6, [1, 2, 4, 5, 6, 7]), (7, [1, 2, 4, 5, 6, 7, 30]), (8, [1, 2, 4, 5, 6, 7]), (9, [1, 2, 4, 5, 6, 7, 33]), (10, [1, 2, 4, 5, 6, 7]), (11, [1, 2, 4, 5, 6, 7]), (12, [1, 2, 4, 5, 6, 7, 44]), (13, [1, 2, 4, 5, 6, 7]), (14, [1, 2, 4, 5, 6, 7, 52]), (15, [2, 4, 5, 6, 7]), (16, [2, 4, 5, 6, 7, 61]), (17, [2, 4, 5, 6, 7]), (18, [2, 4, 5, 6, 7, 69]), (19, [2, 4, 5, 6, 7]), (20, [2, 4, 5, 7, 81]), (21, [2, 4, 5, 7]), (22, [2, 4, 5, 7, 89]), (23, [2, 4, 5, 7]), (24, [2, 4, 5, 7]), (25, [2, 4, 5, 7, 103]), (26, [2, 4, 5, 7]), (27, [2, 4, 5, 7, 110]), (28, [2, 4, 5, 7]), (29, [2, 4, 5, 7, 8]), (30, [2, 4, 5, 7, 8, 9]), (31, [2, 4, 5, 7, 8, 9]), (32, [2, 4, 5, 7, 8, 9]), (33, [2, 4, 5, 7, 8]), (34, [2, 4, 5, 7, 8]), (35, [2, 4, 5, 7, 8, 10]), (36, [2, 4, 5, 7, 8, 10]), (37, [2, 4, 5, 7, 8, 10]), (38, [2, 4, 5, 7]), (39, [2, 4, 5, 7, 162]), (40, [2, 4, 5, 7, 11]), (41, [2, 4, 5, 7, 11, 12]), (42, [2, 4, 5, 7, 11, 12]), (43, [2, 4, 5, 7, 11, 12]), (44, [4, 5])], [(0, [2, 4, 5, 7, 8]), (1, [2, 4, 5, 7, 8, 9]), (2, [2, 4, 5, 7]), (3, [2, 4, 5, 7, 8, 10]), (4, [4, 5]), (5, [2, 4, 5, 7, 11, 12])], some [4], inv, []⟩
noncomputable def F26k20.K0 : Conts := { nrm := endW F26k20.E false F26k20.fn.results.toList, ret := endW F26k20.E false F26k20.fn.results.toList, ex := [] }
noncomputable def F26k20.kt (k : Nat) (q : List Nat) : Conts := contAt F26k20.E k F26k20.body F26k20.K0 q
noncomputable def F26k20.n1_1 (n : Nat) (K : Conts) (p0 p1 : Int) (p2 p3 p4 : List Int) (p5 p6 p7 p8 p9 p10 : Int) : Option AV := runC F26k20.E (loopF F26k20.E n) (subC [1,1] F26k20.body) K ⟨slots 186 [(1, .v (.int .i64) p0), (2, .pb 0 0), (4, .pb 1 0), (5, .pb 2 0)], [.box [.v (.int .u8) p1, .v (.sl (.int .u8)) p2, .v (.sl (.int .u8)) p3, .v (.sl (.int .i8)) p4, .v (.int .i16) p5, .v (.int .u8) p6], .box [.v (.int .i64) p7, .nl, .nl, .nl, .nl, .nl, .v (.int .i64) p8, .nl], .box [.v (.int .i64) p9, .nl, .nl, .nl, .nl, .nl, .v (.int .i64) p10, .nl]]⟩
theorem F26k20.start_eq (k : Nat) (m : Int) (z : (List Int) × ((List Int) × ((List Int) × (Int × Int)))) (a1 : Int) (hm : IntKind.i64.wrap (1 + ((IntKind.i64.wrap m).tmod 23)) = (20 : Int)) : callW F26k20.E false F26k20.fn k [.agg [.v (.int .u8) m, .v (.sl (.int .u8)) z.1, .v (.sl (.int .u8)) z.2.1, .v (.sl (.int .i8)) z.2.2.1, .v (.int .i16) z.2.2.2.1, .v (.int .u8) z.2.2.2.2], .v (.int .i64) a1] =
  bif decide ((20 : Int) < shapesL.length) then
   bif decide ((z.1.length : Int) < 1) then
    bif placesB z.1 1 a1 then
     some (.agg [.v (.int .i64) (20 : Int), .v (.sl (.int .i64)) (placesL z.1 1 a1), .nl, .nl, .nl, .nl, .v (.int .i64) (0 : Int), .nl])
    else
     none
   else
    bif decide ((z.1.length : Int) > 4) then
     bif placesB z.1 4 a1 then
      some (.agg [.v (.int .i64) (20 : Int), .v (.sl (.int .i64)) (placesL z.1 4 a1), .nl, .nl, .nl, .nl, .v (.int .i64) (0 : Int), .nl])
     else
      none
    else
     bif placesB z.1 (z.1.length : Int) a1 then
      some (.agg [.v (.int .i64) (20 : Int), .v (.sl (.int .i64)) (placesL z.1 (z.1.length : Int) a1), .nl, .nl, .nl, .nl, .v (.int .i64) (0 : Int), .nl])
     else
      none
  else
   none :=
 (show callW F26k20.E false F26k20.fn k [.agg [.v (.int .u8) m, .v (.sl (.int .u8)) z.1, .v (.sl (.int .u8)) z.2.1, .v (.sl (.int .i8)) z.2.2.1, .v (.int .i16) z.2.2.2.1, .v (.int .u8) z.2.2.2.2], .v (.int .i64) a1] = F26k20.n1_1 k (F26k20.kt k [1, 1]) a1 m z.1 z.2.1 z.2.2.1 z.2.2.2.1 z.2.2.2.2 (0 : Int) (0 : Int) (IntKind.i64.wrap (1 + ((IntKind.i64.wrap m).tmod 23))) (0 : Int) by kernel_rfl).trans ((congrArg (fun x : Int => F26k20.n1_1 k (F26k20.kt k [1, 1]) a1 m z.1 z.2.1 z.2.2.1 z.2.2.2.1 z.2.2.2.2 (0 : Int) (0 : Int) x (0 : Int)) hm).trans (by kernel_rfl))
noncomputable def F26k22.fn : Func := Go.Proofs.Try.f6
noncomputable def F26k22.body : Code := bodyOf F26k22.fn
noncomputable def F26k22.E : Env := ⟨tt, [(18, h_shapes), (19, h_hasB), (20, h_placesL)], [(1, [1, 2, 4]), (2, [1, 2, 4, 5]), (3, [1, 2, 4, 5, 6]), (4, [1, 2, 4, 5, 6, 7]), (5, [1, 2, 4, 5, 6, 7, 28]), (6, [1, 2, 4, 5, 6, 7]), (7, [1, 2, 4, 5, 6, 7, 30]), (8, [1, 2, 4, 5, 6, 7]), (9, [1, 2, 4, 5, 6, 7, 33]), (10, [1, 2, 4, 5, 6, 7]), (11, [1, 2, 4, 5, 6, 7]), (12, [1, 2, 4, 5, 6, 7, 44]), (13, [1, 2, 4, 5, 6, 7]), (14, [1, 2, 4, 5, 6, 7, 52]), (15, [2, 4, 5, 6, 7]), (16, [2, 4, 5, 6, 7, 61]), (17, [2, 4, 5, 6, 7]), (18, [2, 4, 5, 6, 7, 69]), (19, [2, 4, 5, 6, 7]), (20, [2, 4, 5, 7, 81]), (21, [2, 4, 5, 7]), (22, [2, 4, 5, 7, 89]), (23, [2, 4, 5, 7]), (24, [2, 4, 5, 7]), (25, [2, 4, 5, 7, 103]), (26, [2, 4, 5, 7]), (27, [2, 4, 5, 7, 110]), (28, [2, 4, 5, 7]), (29, [2, 4, 5, 7, 8]), (30, [2, 4, 5, 7, 8, 9]), (31, [2, 4, 5, 7, 8, 9]), (32, [2, 4, 5, 7, 8, 9]), (33, [2, 4, 5, 7, 8]), (34, [2, 4, 5, 7, 8]), (35, [2, 4, 5, 7, 8, 10]), (36, [2, 4, 5, 7, 8, 10]), (37, [2, 4, 5, 7, 8, 10]), (38, [2, 4, 5, 7]), (39, [2, 4, 5, 7, 162]), (40, [2, 4, 5, 7, 11]), (41, [2, 4, 5, 7, 11, 12]), (42, [2, 4, 5, 7, 11, 12]), (43, [2, 4, 5, 7, 11, 12]), (44, [4, 5])], [(0, [2, 4, 5, 7, 8]), (1, [2, 4, 5, 7, 8, 9]), (2, [2, 4, 5, 7]), (3, [2, 4, 5, 7, 8, 10]), (4, [4, 5]), (5, [2, 4, 5, 7, 11, 12])], some [4], inv, []⟩
noncomputable def F26k22.K0 : Conts := { nrm := endW F26k22.E false F26k22.fn.results.toList, ret := endW F26k22.E false F26k22.fn.results.toList, ex := [] }
noncomputable def F26k22.kt (k : Nat) (q : List Nat) : Conts := contAt F26k22.E k F26k22.body F26k22.K0 q
noncomputable def F26k22.n1_1 (n : Nat) (K : Conts) (p0 p1 : Int) (p2 p3 p4 : List Int) (p5 p6 p7 p8 p9 p10 : Int) : Option AV := runC F26k22.E (loopF F26k22.E n) (subC [1,1] F26k22.body) K ⟨slots 186 [(1, .v (.int .i64) p0), (2, .pb 0 0), (4, .pb 1 0), (5, .pb 2 0)], [.box [.v (.int .u8) p1, .v (.sl (.int .u8)) p2, .v (.sl (.int .u8)) p3, .v (.sl (.int .i8)) p4, .v (.int .i16) p5, .v (.int .u8) p6], .box [.v (.int .i64) p7, .nl, .nl, .nl, .nl, .nl, .v (.int .i64) p8, .nl], .box [.v (.int .i64) p9, .nl, .nl, .nl, .nl, .nl, .v (.int .i64) p10, .nl]]⟩
theorem F26k22.start_eq (k : Nat) (m : Int) (z : (List Int) × ((List Int) × ((List Int) × (Int × Int)))) (a1 : Int) (hm : IntKind.i64.wrap (1 + ((IntKind.i64.wrap m).tmod 23)) = (22 : Int)) : callW F26k22.E false F26k22.fn k [.agg [.v (.int .u8) m, .v (.sl (.int .u8)) z.1, .v (.sl (.int .u8)) z.2.1, .v (.sl (.int .i8)) z.2.2.1, .v (.int .i16) z.2.2.2.1, .v (.int .u8) z.2.2.2.2], .v (.int .i64) a1] =
  bif decide ((22 : Int) < shapesL.length) then
   bif decide ((z.1.length : Int) < 1) then
    bif placesB z.1 1 a1 then
     bif placesB z.2.1 1 a1 then
      some (.agg [.v (.int .i64) (22 : Int), .v (.sl (.int .i64)) (placesL z.1 1 a1), .v (.sl (.int .i64)) (placesL z.2.1 1 a1), .nl, .nl, .nl, .v (.int .i64) (0 : Int), .nl])
     else
      none
    else
     none
   else
    bif decide ((z.1.length : Int) > 4) then
     bif placesB z.1 4 a1 then
      bif placesB z.2.1 4 a1 then
       some (.agg [.v (.int .i64) (22 : Int), .v (.sl (.int .i64)) (placesL z.1 4 a1), .v (.sl (.int .i64)) (placesL z.2.1 4 a1), .nl, .nl, .nl, .v (.int .i64) (0 : Int), .nl])
      else
       none
     else
      none
    else
     bif placesB z.1 (z.1.length : Int) a1 then
      bif placesB z.2.1 (z.1.length : Int) a1 then
       some (.agg [.v (.int .i64) (22 : Int), .v (.sl (.int .i64)) (placesL z.1 (z.1.length : Int) a1), .v (.sl (.int .i64)) (placesL z.2.1 (z.1.length : Int) a1), .nl, .nl, .nl, .v (.int .i64) (0 : Int), .nl])
      else
       none
     else
      none
  else
   none :=
 (show callW F26k22.E false F26k22.fn k [.agg [.v (.int .u8) m, .v (.sl (.int .u8)) z.1, .v (.sl (.int .u8)) z.2.1, .v (.sl (.int .i8)) z.2.2.1, .v (.int .i16) z.2.2.2.1, .v (.int .u8) z.2.2.2.2], .v (.int .i64) a1] = F26k22.n1_1 k (F26k22.kt k [1, 1]) a1 m z.1 z.2.1 z.2.2.1 z.2.2.2.1 z.2.2.2.2 (0 : Int) (0 : Int) (IntKind.i64.wrap (1 + ((IntKind.i64.wrap m).tmod 23))) (0 : Int) by kernel_rfl).trans ((congrArg (fun x : Int => F26k22.n1_1 k (F26k22.kt k [1, 1]) a1 m z.1 z.2.1 z.2.2.1 z.2.2.2.1 z.2.2.2.2 (0 : Int) (0 : Int) x (0 : Int)) hm).trans (by kernel_rfl))
noncomputable def F26k23.fn : Func := Go.Proofs.Try.f6
noncomputable def F26k23.body : Code := bodyOf F26k23.fn
noncomputable def F26k23.E : Env := ⟨tt, [(18, h_shapes), (19, h_hasB), (20, h_placesL)], [(1, [1, 2, 4]), (2, [1, 2, 4, 5]), (3, [1, 2, 4, 5, 6]), (4, [1, 2, 4, 5, 6, 7]), (5, [1, 2, 4, 5, 6, 7, 28]), (6, [1, 2, 4, 5, 6, 7]), (7, [1, 2, 4, 5, 6, 7, 30]), (8, [1, 2, 4, 5, 6, 7]), (9, [1, 2, 4, 5, 6, 7, 33]), (10, [1, 2, 4, 5, 6, 7]), (11, [1, 2, 4, 5, 6, 7]), (12, [1, 2, 4, 5, 6, 7, 44]), (13, [1, 2, 4, 5, 6, 7]), (14, [1, 2, 4, 5, 6, 7, 52]), (15, [2, 4, 5, 6, 7]), (16, [2, 4, 5, 6, 7, 61]), (17, [2, 4, 5, 6, 7]), (18, [2, 4, 5, 6, 7, 69]), (19, [2, 4, 5, 6, 7]), (20, [2, 4, 5, 7, 81]), (21, [2, 4, 5, 7]), (22, [2, 4, 5, 7, 89]), (23, [2, 4, 5, 7]), (24, [2, 4, 5, 7]), (25, [2, 4, 5, 7, 103]), (26, [2, 4, 5, 7]), (27, [2, 4, 5, 7, 110]), (28, [2, 4, 5, 7]), (29, [2, 4, 5, 7, 8]), (30, [2, 4, 5, 7, 8, 9]), (31, [2, 4, 5, 7, 8, 9]), (32, [2, 4, 5, 7, 8, 9]), (33, [2, 4, 5, 7, 8]), (34, [2, 4, 5, 7, 8]), (35, [2, 4, 5, 7, 8, 10]), (36, [2, 4, 5, 7, 8, 10]), (37, [2, 4, 5, 7, 8, 10]), (38, [2, 4, 5, 7]), (39, [2, 4, 5, 7, 162]), (40, [2, 4, 5, 7, 11]), (41, [2, 4, 5, 7, 11, 12]), (42, [2, 4, 5, 7, 11, 12]), (43, [2, 4, 5, 7, 11, 12]), (44, [4, 5])], [(0, [2, 4, 5, 7, 8]), (1, [2, 4, 5, 7, 8, 9]), (2, [2, 4, 5, 7]), (3, [2, 4, 5, 7, 8, 10]), (4, [4, 5]), (5, [2, 4, 5, 7, 11, 12])], some [4], inv, []⟩
noncomputable def F26k23.K0 : Conts := { nrm := endW F26k23.E false F26k23.fn.results.toList, ret := endW F26k23.E false F26k23.fn.results.toList, ex := [] }
noncomputable def F26k23.kt (k : Nat) (q : List Nat) : Conts := contAt F26k23.E k F26k23.body F26k23.K0 q
noncomputable def F26k23.n1_1 (n : Nat) (K : Conts) (p0 p1 : Int) (p2 p3 p4 : List Int) (p5 p6 p7 p8 p9 p10 : Int) : Option AV := runC F26k23.E (loopF F26k23.E n) (subC [1,1] F26k23.body) K ⟨slots 186 [(1, .v (.int .i64) p0), (2, .pb 0 0), (4, .pb 1 0), (5, .pb 2 0)], [.box [.v (.int .u8) p1, .v (.sl (.int .u8)) p2, .v (.sl (.int .u8)) p3, .v (.sl (.int .i8)) p4, .v (.int .i16) p5, .v (.int .u8) p6], .box [.v (.int .i64) p7, .nl, .nl, .nl, .nl, .nl, .v (.int .i64) p8, .nl], .box [.v (.int .i64) p9, .nl, .nl, .nl, .nl, .nl, .v (.int .i64) p10, .nl]]⟩
theorem F26k23.start_eq (k : Nat) (m : Int) (z : (List Int) × ((List Int) × ((List Int) × (Int × Int)))) (a1 : Int) (hm : IntKind.i64.wrap (1 + ((IntKind.i64.wrap m).tmod 23)) = (23 : Int)) : callW F26k23.E false F26k23.fn k [.agg [.v (.int .u8) m, .v (.sl (.int .u8)) z.1, .v (.sl (.int .u8)) z.2.1, .v (.sl (.int .i8)) z.2.2.1, .v (.int .i16) z.2.2.2.1, .v (.int .u8) z.2.2.2.2], .v (.int .i64) a1] =
  bif decide ((23 : Int) < shapesL.length) then
   bif decide ((z.1.length : Int) < 1) then
    bif placesB z.1 1 a1 then
     bif placesB z.2.1 1 a1 then
      some (.agg [.v (.int .i64) (23 : Int), .v (.sl (.int .i64)) (placesL z.1 1 a1), .v (.sl (.int .i64)) (placesL z.2.1 1 a1), .nl, .nl, .nl, .v (.int .i64) (0 : Int), .nl])
     else
      none
    else
     none
   else
    bif decide ((z.1.length : Int) > 4) then
     bif placesB z.1 4 a1 then
      bif placesB z.2.1 4 a1 then
       some (.agg [.v (.int .i64) (23 : Int), .v (.sl (.int .i64)) (placesL z.1 4 a1), .v (.sl (.int .i64)) (placesL z.2.1 4 a1), .nl, .nl, .nl, .v (.int .i64) (0 : Int), .nl])
      else
       none
     else
      none
    else
     bif placesB z.1 (z.1.length : Int) a1 then
      bif placesB z.2.1 (z.1.length : Int) a1 then
       some (.agg [.v (.int .i64) (23 : Int), .v (.sl (.int .i64)) (placesL z.1 (z.1.length : Int) a1), .v (.sl (.int .i64)) (placesL z.2.1 (z.1.length : Int) a1), .nl, .nl, .nl, .v (.int .i64) (0 : Int), .nl])
      else
       none
     else
      none
  else
   none :=
 (show callW F26k23.E false F26k23.fn k [.agg [.v (.int .u8) m, .v (.sl (.int .u8)) z.1, .v (.sl (.int .u8)) z.2.1, .v (.sl (.int .i8)) z.2.2.1, .v (.int .i16) z.2.2.2.1, .v (.int .u8) z.2.2.2.2], .v (.int .i64) a1] = F26k23.n1_1 k (F26k23.kt k [1, 1]) a1 m z.1 z.2.1 z.2.2.1 z.2.2.2.1 z.2.2.2.2 (0 : Int) (0 : Int) (IntKind.i64.wrap (1 + ((IntKind.i64.wrap m).tmod 23))) (0 : Int) by kernel_rfl).trans ((congrArg (fun x : Int => F26k23.n1_1 k (F26k23.kt k [1, 1]) a1 m z.1 z.2.1 z.2.2.1 z.2.2.2.1 z.2.2.2.2 (0 : Int) (0 : Int) x (0 : Int)) hm).trans (by kernel_rfl))
end Go.Proofs.Ytohdaehblenokaa.Ev
