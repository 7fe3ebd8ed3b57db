/-
The functions as the evaluator runs them: printed by a program of mine, each equation by kernel_rfl.
Conditions: none.
-/
import Derived.Test.YtohdaehblenokaaAa
set_option linter.unusedVariables false
set_option linter.unusedSimpArgs false
set_option maxRecDepth 100000
namespace Go.Proofs.Ytohdaehblenokaa.Ev
open Go
noncomputable def F26k21.fn : Func := Go.Proofs.Try.f6
noncomputable def F26k21.body : Code := bodyOf F26k21.fn
noncomputable def F26k21.E : Env := ⟨tt, [(18, h_shapes), (19, h_hasB), (20, h_placesL), (21, h_numbersL)], [(1, [1, 2, 4]), (2, [1, 2, 4, 5]), (3, [1, 2, 4, 5, 6]), (4, [1, 2, 4, 5, 6, 7]), (5, [1, 2, 4, 5, 6, 7, 28]), (6, [1, 2, 4, 5, 6, 7]), (7, [1, 2, 4, 5, 6, 7, 30]), (8, [1, 2, 4, 5, 6, 7]), (9, [1, 2, 4, 5, 6, 7, 33]), (10, [1, 2, 4, 5, 6, 7]), (11, [1, 2, 4, 5, 6, 7]), (12, [1, 2, 4, 5, 6, 7, 44]), (13, [1, 2, 4, 5, 6, 7]), (14, [1, 2, 4, 5, 6, 7, 52]), (15, [2, 4, 5, 6, 7]), (16, [2, 4, 5, 6, 7, 61]), (17, [2, 4, 5, 6, 7]), (18, [2, 4, 5, 6, 7, 69]), (19, [2, 4, 5, 6, 7]), (20, [2, 4, 5, 7, 81]), (21, [2, 4, 5, 7]), (22, [2, 4, 5, 7, 89]), (23, [2, 4, 5, 7]), (24, [2, 4, 5, 7]), (25, [2, 4, 5, 7, 103]), (26, [2, 4, 5, 7]), (27, [2, 4, 5, 7, 110]), (28, [2, 4, 5, 7]), (29, [2, 4, 5, 7, 8]), (30, [2, 4, 5, 7, 8, 9, 400030005]), (31, [2, 4, 5, 7, 8, 9]), (32, [2, 4, 5, 7, 8, 9]), (33, [2, 4, 5, 7, 8]), (34, [2, 4, 5, 7, 8]), (35, [2, 4, 5, 7, 8, 10, 600030005]), (36, [2, 4, 5, 7, 8, 10]), (37, [2, 4, 5, 7, 8, 10]), (38, [2, 4, 5, 7]), (39, [2, 4, 5, 7, 162]), (40, [2, 4, 5, 7, 11]), (41, [2, 4, 5, 7, 11, 12, 800270005]), (42, [2, 4, 5, 7, 11, 12]), (43, [2, 4, 5, 7, 11, 12]), (44, [4, 5])], [(0, [2, 4, 5, 7, 8]), (1, [2, 4, 5, 7, 8, 9]), (2, [2, 4, 5, 7]), (3, [2, 4, 5, 7, 8, 10]), (4, [4, 5]), (5, [2, 4, 5, 7, 11, 12])], some [4], inv, []⟩
noncomputable def F26k21.K0 : Conts := { nrm := endW F26k21.E false F26k21.fn.results.toList, ret := endW F26k21.E false F26k21.fn.results.toList, ex := [] }
noncomputable def F26k21.kt (k : Nat) (q : List Nat) : Conts := contAt F26k21.E k F26k21.body F26k21.K0 q
noncomputable def F26k21.n1_1 (n : Nat) (K : Conts) (p0 p1 : Int) (p2 p3 p4 : List Int) (p5 p6 p7 p8 p9 p10 : Int) : Option AV := runC F26k21.E (loopF F26k21.E n) (subC [1,1] F26k21.body) K ⟨slots 186 [(1, .v (.int .i64) p0), (2, .pb 0 0), (4, .pb 1 0), (5, .pb 2 0)], [.box [.v (.int .u8) p1, .v (.sl (.int .u8)) p2, .v (.sl (.int .u8)) p3, .v (.sl (.int .i8)) p4, .v (.int .i16) p5, .v (.int .u8) p6], .box [.v (.int .i64) p7, .nl, .nl, .nl, .nl, .nl, .v (.int .i64) p8, .nl], .box [.v (.int .i64) p9, .nl, .nl, .nl, .nl, .nl, .v (.int .i64) p10, .nl]]⟩
noncomputable def F26k21.l1_1_1_1_1_1_1_1_1_1_1_1_1_1_0_1_0_1_1_0_1_0 (n : Nat) (K : Conts) (p0 p1 p2 p3 : Int) (p4 p5 p6 : List Int) (p7 p8 p9 p10 p11 : Int) (p12 : List Int) (p13 : Int) (p14 : List Int) : Option AV := loopF F26k21.E n (inLoop (subC [1,1,1,1,1,1,1,1,1,1,1,1,1,1,0,1,0,1,1,0,1,0] F26k21.body)) K ⟨slots 186 [(2, .pb 0 0), (4, .pb 1 0), (5, .pb 2 0), (7, .v (.int .i64) p0), (8, .v (.int .i64) p1), (9, .v (.int .i64) p2)], [.box [.v (.int .u8) p3, .v (.sl (.int .u8)) p4, .v (.sl (.int .u8)) p5, .v (.sl (.int .i8)) p6, .v (.int .i16) p7, .v (.int .u8) p8], .box [.v (.int .i64) p9, .nl, .nl, .nl, .nl, .nl, .v (.int .i64) p10, .nl], .box [.v (.int .i64) p11, .v (.sl (.int .i64)) p12, .nl, .own 3, .nl, .nl, .v (.int .i64) p13, .nl], .row 3 (.int .i64) p14]⟩
noncomputable def F26k21.l1_1_1_1_1_1_1_1_1_1_1_1_1_1_0_1_0_1_1_1_1_1_0 (n : Nat) (K : Conts) (p0 p1 p2 p3 : Int) (p4 p5 p6 : List Int) (p7 p8 p9 p10 p11 : Int) (p12 p13 : List Int) (p14 : Int) (p15 p16 : List Int) : Option AV := loopF F26k21.E n (inLoop (subC [1,1,1,1,1,1,1,1,1,1,1,1,1,1,0,1,0,1,1,1,1,1,0] F26k21.body)) K ⟨slots 186 [(2, .pb 0 0), (4, .pb 1 0), (5, .pb 2 0), (7, .v (.int .i64) p0), (8, .v (.int .i64) p1), (10, .v (.int .i64) p2)], [.box [.v (.int .u8) p3, .v (.sl (.int .u8)) p4, .v (.sl (.int .u8)) p5, .v (.sl (.int .i8)) p6, .v (.int .i16) p7, .v (.int .u8) p8], .box [.v (.int .i64) p9, .nl, .nl, .nl, .nl, .nl, .v (.int .i64) p10, .nl], .box [.v (.int .i64) p11, .v (.sl (.int .i64)) p12, .nl, .own 3, .v (.sl (.int .i64)) p13, .own 4, .v (.int .i64) p14, .nl], .row 3 (.int .i64) p15, .row 3 (.int .i64) p16]⟩
noncomputable def F26k21.l1_1_1_1_1_1_1_1_1_1_1_1_1_1_1_0_1_0_1_1_0 (n : Nat) (K : Conts) (p0 p1 p2 p3 : Int) (p4 p5 p6 : List Int) (p7 p8 p9 p10 p11 : Int) (p12 p13 : List Int) (p14 : Int) (p15 p16 : List Int) (p17 : List (List Int)) : Option AV := loopF F26k21.E n (inLoop (subC [1,1,1,1,1,1,1,1,1,1,1,1,1,1,1,0,1,0,1,1,0] F26k21.body)) K ⟨slots 186 [(2, .pb 0 0), (4, .pb 1 0), (5, .pb 2 0), (7, .v (.int .i64) p0), (11, .v (.int .i64) p1), (12, .v (.int .i64) p2)], [.box [.v (.int .u8) p3, .v (.sl (.int .u8)) p4, .v (.sl (.int .u8)) p5, .v (.sl (.int .i8)) p6, .v (.int .i16) p7, .v (.int .u8) p8], .box [.v (.int .i64) p9, .nl, .nl, .nl, .nl, .nl, .v (.int .i64) p10, .nl], .box [.v (.int .i64) p11, .v (.sl (.int .i64)) p12, .nl, .own 3, .v (.sl (.int .i64)) p13, .own 4, .v (.int .i64) p14, .own 5], .row 3 (.int .i64) p15, .row 3 (.int .i64) p16, .row 27 (.sl (.int .i64)) p17]⟩
theorem F26k21.start_eq (k : Nat) (m : Int) (z : (List Int) × ((List Int) × ((List Int) × (Int × Int)))) (a1 : Int) (hm : IntKind.i64.wrap (1 + ((IntKind.i64.wrap m).tmod 23)) = (21 : Int)) : callW F26k21.E false F26k21.fn k [.agg [.v (.int .u8) m, .v (.sl (.int .u8)) z.1, .v (.sl (.int .u8)) z.2.1, .v (.sl (.int .i8)) z.2.2.1, .v (.int .i16) z.2.2.2.1, .v (.int .u8) z.2.2.2.2], .v (.int .i64) a1] =
  bif decide ((21 : Int) < shapesL.length) then
   bif decide ((z.1.length : Int) < 1) then
    bif placesB z.1 1 a1 then
     bif numbersB z.2.2.1 0 1 (-1 : Int) 5 then
      F26k21.l1_1_1_1_1_1_1_1_1_1_1_1_1_1_0_1_0_1_1_0_1_0 k (F26k21.kt k [1, 1, 1, 1, 1, 1, 1, 1, 1, 1, 1, 1, 1, 1, 0, 1, 0, 1, 1, 0, 1, 0]) 1 (IntKind.i64.wrap (1 + ((z.2.2.1.length : Int).tmod 3))) 0 m z.1 z.2.1 z.2.2.1 z.2.2.2.1 z.2.2.2.2 (0 : Int) (0 : Int) 21 (placesL z.1 1 a1) (0 : Int) []
     else
      none
    else
     none
   else
    bif decide ((z.1.length : Int) > 4) then
     bif placesB z.1 4 a1 then
      bif numbersB z.2.2.1 0 4 (-1 : Int) 5 then
       F26k21.l1_1_1_1_1_1_1_1_1_1_1_1_1_1_0_1_0_1_1_0_1_0 k (F26k21.kt k [1, 1, 1, 1, 1, 1, 1, 1, 1, 1, 1, 1, 1, 1, 0, 1, 0, 1, 1, 0, 1, 0]) 4 (IntKind.i64.wrap (1 + ((z.2.2.1.length : Int).tmod 3))) 0 m z.1 z.2.1 z.2.2.1 z.2.2.2.1 z.2.2.2.2 (0 : Int) (0 : Int) 21 (placesL z.1 4 a1) (0 : Int) []
      else
       none
     else
      none
    else
     bif placesB z.1 (z.1.length : Int) a1 then
      bif numbersB z.2.2.1 0 (z.1.length : Int) (-1 : Int) 5 then
       F26k21.l1_1_1_1_1_1_1_1_1_1_1_1_1_1_0_1_0_1_1_0_1_0 k (F26k21.kt k [1, 1, 1, 1, 1, 1, 1, 1, 1, 1, 1, 1, 1, 1, 0, 1, 0, 1, 1, 0, 1, 0]) (z.1.length : Int) (IntKind.i64.wrap (1 + ((z.2.2.1.length : Int).tmod 3))) 0 m z.1 z.2.1 z.2.2.1 z.2.2.2.1 z.2.2.2.2 (0 : Int) (0 : Int) 21 (placesL z.1 (z.1.length : Int) a1) (0 : Int) []
      else
       none
     else
      none
  else
   none :=
 (show callW F26k21.E false F26k21.fn k [.agg [.v (.int .u8) m, .v (.sl (.int .u8)) z.1, .v (.sl (.int .u8)) z.2.1, .v (.sl (.int .i8)) z.2.2.1, .v (.int .i16) z.2.2.2.1, .v (.int .u8) z.2.2.2.2], .v (.int .i64) a1] = F26k21.n1_1 k (F26k21.kt k [1, 1]) a1 m z.1 z.2.1 z.2.2.1 z.2.2.2.1 z.2.2.2.2 (0 : Int) (0 : Int) (IntKind.i64.wrap (1 + ((IntKind.i64.wrap m).tmod 23))) (0 : Int) by kernel_rfl).trans ((congrArg (fun x : Int => F26k21.n1_1 k (F26k21.kt k [1, 1]) a1 m z.1 z.2.1 z.2.2.1 z.2.2.2.1 z.2.2.2.2 (0 : Int) (0 : Int) x (0 : Int)) hm).trans (by kernel_rfl))
theorem F26k21.l1_1_1_1_1_1_1_1_1_1_1_1_1_1_0_1_0_1_1_0_1_0_eq (n : Nat) (K : Conts) (p0 p1 p2 p3 : Int) (p4 p5 p6 : List Int) (p7 p8 p9 p10 p11 : Int) (p12 : List Int) (p13 : Int) (p14 : List Int) : F26k21.l1_1_1_1_1_1_1_1_1_1_1_1_1_1_0_1_0_1_1_0_1_0 (n + 1) K p0 p1 p2 p3 p4 p5 p6 p7 p8 p9 p10 p11 p12 p13 p14 =
 bif decide (p2 < p1) then
 bif decide ((p14.length + [IntKind.i64.wrap (((IntKind.i64.wrap p7).tmod 3) + p2)].length) * 8 ≤ LIM) then
 F26k21.l1_1_1_1_1_1_1_1_1_1_1_1_1_1_0_1_0_1_1_0_1_0 n K p0 p1 (IntKind.i64.wrap (p2 + 1)) p3 p4 p5 p6 p7 p8 p9 p10 p11 p12 p13 (p14 ++ [IntKind.i64.wrap (((IntKind.i64.wrap p7).tmod 3) + p2)])
 else
 none
 else
 exitK K 0 ⟨slots 186 [(2, .pb 0 0), (4, .pb 1 0), (5, .pb 2 0), (7, .v (.int .i64) p0), (8, .v (.int .i64) p1)], [.box [.v (.int .u8) p3, .v (.sl (.int .u8)) p4, .v (.sl (.int .u8)) p5, .v (.sl (.int .i8)) p6, .v (.int .i16) p7, .v (.int .u8) p8], .box [.v (.int .i64) p9, .nl, .nl, .nl, .nl, .nl, .v (.int .i64) p10, .nl], .box [.v (.int .i64) p11, .v (.sl (.int .i64)) p12, .nl, .own 3, .nl, .nl, .v (.int .i64) p13, .nl], .row 3 (.int .i64) p14]⟩ := by kernel_rfl
theorem F26k21.c0 (k : Nat) (p0 p1 p2 : Int) (p3 p4 p5 : List Int) (p6 p7 p8 p9 p10 : Int) (p11 : List Int) (p12 : Int) (p13 : List Int) : exitK (F26k21.kt k [1,1,1,1,1,1,1,1,1,1,1,1,1,1,0,1,0,1,1,0,1,0]) 0 ⟨slots 186 [(2, .pb 0 0), (4, .pb 1 0), (5, .pb 2 0), (7, .v (.int .i64) p0), (8, .v (.int .i64) p1)], [.box [.v (.int .u8) p2, .v (.sl (.int .u8)) p3, .v (.sl (.int .u8)) p4, .v (.sl (.int .i8)) p5, .v (.int .i16) p6, .v (.int .u8) p7], .box [.v (.int .i64) p8, .nl, .nl, .nl, .nl, .nl, .v (.int .i64) p9, .nl], .box [.v (.int .i64) p10, .v (.sl (.int .i64)) p11, .nl, .own 3, .nl, .nl, .v (.int .i64) p12, .nl], .row 3 (.int .i64) p13]⟩ =
 bif numbersB p5 0 p1 0 2 then
 F26k21.l1_1_1_1_1_1_1_1_1_1_1_1_1_1_0_1_0_1_1_1_1_1_0 k (F26k21.kt k [1,1,1,1,1,1,1,1,1,1,1,1,1,1,0,1,0,1,1,1,1,1,0]) p0 p1 0 p2 p3 p4 p5 p6 p7 p8 p9 p10 p11 (numbersL p5 0 p1 0 2) p12 p13 []
 else
 none := by kernel_rfl
theorem F26k21.l1_1_1_1_1_1_1_1_1_1_1_1_1_1_0_1_0_1_1_1_1_1_0_eq (n : Nat) (K : Conts) (p0 p1 p2 p3 : Int) (p4 p5 p6 : List Int) (p7 p8 p9 p10 p11 : Int) (p12 p13 : List Int) (p14 : Int) (p15 p16 : List Int) : F26k21.l1_1_1_1_1_1_1_1_1_1_1_1_1_1_0_1_0_1_1_1_1_1_0 (n + 1) K p0 p1 p2 p3 p4 p5 p6 p7 p8 p9 p10 p11 p12 p13 p14 p15 p16 =
 bif decide (p2 < p1) then
 bif decide (0 ≤ p2) && decide (p2 < p13.length) then
 bif decide (0 ≤ p2) then
 bif decide ((p16.length + [IntKind.i64.wrap ((p13.getD p2.toNat (0 : Int)) + ((shrW .i64 (IntKind.i64.wrap p8) p2).tmod 3))].length) * 8 ≤ LIM) then
 F26k21.l1_1_1_1_1_1_1_1_1_1_1_1_1_1_0_1_0_1_1_1_1_1_0 n K p0 p1 (IntKind.i64.wrap (p2 + 1)) p3 p4 p5 p6 p7 p8 p9 p10 p11 p12 p13 p14 p15 (p16 ++ [IntKind.i64.wrap ((p13.getD p2.toNat (0 : Int)) + ((shrW .i64 (IntKind.i64.wrap p8) p2).tmod 3))])
 else
 none
 else
 none
 else
 none
 else
 exitK K 2 ⟨slots 186 [(2, .pb 0 0), (4, .pb 1 0), (5, .pb 2 0), (7, .v (.int .i64) p0)], [.box [.v (.int .u8) p3, .v (.sl (.int .u8)) p4, .v (.sl (.int .u8)) p5, .v (.sl (.int .i8)) p6, .v (.int .i16) p7, .v (.int .u8) p8], .box [.v (.int .i64) p9, .nl, .nl, .nl, .nl, .nl, .v (.int .i64) p10, .nl], .box [.v (.int .i64) p11, .v (.sl (.int .i64)) p12, .nl, .own 3, .v (.sl (.int .i64)) p13, .own 4, .v (.int .i64) p14, .nl], .row 3 (.int .i64) p15, .row 3 (.int .i64) p16]⟩ := by kernel_rfl
theorem F26k21.c1 (k : Nat) (p0 p1 : Int) (p2 p3 p4 : List Int) (p5 p6 p7 p8 p9 : Int) (p10 p11 : List Int) (p12 : Int) (p13 p14 : List Int) : exitK (F26k21.kt k [1,1,1,1,1,1,1,1,1,1,1,1,1,1,0,1,0,1,1,1,1,1,0]) 2 ⟨slots 186 [(2, .pb 0 0), (4, .pb 1 0), (5, .pb 2 0), (7, .v (.int .i64) p0)], [.box [.v (.int .u8) p1, .v (.sl (.int .u8)) p2, .v (.sl (.int .u8)) p3, .v (.sl (.int .i8)) p4, .v (.int .i16) p5, .v (.int .u8) p6], .box [.v (.int .i64) p7, .nl, .nl, .nl, .nl, .nl, .v (.int .i64) p8, .nl], .box [.v (.int .i64) p9, .v (.sl (.int .i64)) p10, .nl, .own 3, .v (.sl (.int .i64)) p11, .own 4, .v (.int .i64) p12, .nl], .row 3 (.int .i64) p13, .row 3 (.int .i64) p14]⟩ =
 bif decide (p9 = 18) then
 F26k21.l1_1_1_1_1_1_1_1_1_1_1_1_1_1_1_0_1_0_1_1_0 k (F26k21.kt k [1,1,1,1,1,1,1,1,1,1,1,1,1,1,1,0,1,0,1,1,0]) p0 (IntKind.i64.wrap (1 + ((p4.length : Int).tmod 6))) 0 p1 p2 p3 p4 p5 p6 p7 p8 p9 p10 p11 p12 p13 p14 []
 else
 some (.agg [.v (.int .i64) p9, .v (.sl (.int .i64)) p10, .nl, .v (.sl (.int .i64)) p13, .v (.sl (.int .i64)) p11, .v (.sl (.int .i64)) p14, .v (.int .i64) p12, .nl]) := by kernel_rfl
end Go.Proofs.Ytohdaehblenokaa.Ev
