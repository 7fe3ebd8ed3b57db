/-
Seat 'a': the functions as the evaluator runs them: printed by a program of mine, each equation by kernel_rfl.
Conditions: none.
-/
import Derived.Test.YthdpbmcidebagaaGreatDoorAa
set_option linter.unusedVariables false
set_option maxRecDepth 100000
namespace Go.Proofs.YthdpbmcidebagaaGreatDoor.Ev
open Go
/-! ### 51k11: jigsaw/jigsawref06.Right -/
noncomputable def F51k11.fn : Func := Go.Proofs.Tryz.f51
noncomputable def F51k11.E : Env := ⟨tt, [(52, h_shapes), (81, h_arityD), (82, h_inL), (83, h_coefsD)], [(1, [1, 2]), (2, [1, 2, 17]), (3, [1, 2]), (4, [1, 2, 5]), (5, [1, 2, 6]), (6, [1, 2, 27]), (7, [1, 2]), (8, [1, 2, 7]), (9, [1, 2, 7, 29]), (10, [2, 7]), (11, [2, 7, 8]), (12, [2, 8, 9]), (13, [2, 45]), (14, [2]), (15, [6]), (16, [49]), (17, [])], [], some [4], inv⟩
theorem F51k11.start_eq (k : Nat) (c : ((List Int) × ((List Int) × ((List Int) × ((List Int) × ((List Int) × (Int × (List (List Int))))))))) (a1 : Int) : callW F51k11.E false F51k11.fn k [.agg [.v (.int .i64) (11 : Int), .v (.sl (.int .i64)) c.1, .v (.sl (.int .i64)) c.2.1, .v (.sl (.int .i64)) c.2.2.1, .v (.sl (.int .i64)) c.2.2.2.1, .v (.sl (.int .i64)) c.2.2.2.2.1, .v (.int .i64) c.2.2.2.2.2.1, .v (.sl (.sl (.int .i64))) c.2.2.2.2.2.2], .v (.int .i64) a1] =
    bif decide ((11 : Int) < shapesL.length) then
      bif !(arityD (11, c) ⟨#[118, 99, 118]⟩) then
        some (.v (.int .i64) (10 : Int))
      else
        bif decide (a1 > 0) then
          bif !(inL c.1 0 (IntKind.i64.wrap (a1 - 1))) then
            some (.v (.int .i64) (7 : Int))
          else
            bif !(inL c.2.1 0 (IntKind.i64.wrap (a1 - 1))) then
              some (.v (.int .i64) (7 : Int))
            else
              bif !(coefsD (11, c)) then some (.v (.int .i64) (11 : Int)) else some (.v (.int .i64) (0 : Int))
        else
          bif !(inL c.1 0 (-1 : Int)) then
            some (.v (.int .i64) (7 : Int))
          else
            bif !(inL c.2.1 0 (-1 : Int)) then
              some (.v (.int .i64) (7 : Int))
            else
              bif !(coefsD (11, c)) then some (.v (.int .i64) (11 : Int)) else some (.v (.int .i64) (0 : Int))
    else
      none := by kernel_rfl

/-! ### 51k13: jigsaw/jigsawref06.Right -/
noncomputable def F51k13.fn : Func := Go.Proofs.Tryz.f51
noncomputable def F51k13.E : Env := ⟨tt, [(52, h_shapes), (81, h_arityD), (82, h_inL), (83, h_coefsD)], [(1, [1, 2]), (2, [1, 2, 17]), (3, [1, 2]), (4, [1, 2, 5]), (5, [1, 2, 6]), (6, [1, 2, 27]), (7, [1, 2]), (8, [1, 2, 7]), (9, [1, 2, 7, 29]), (10, [2, 7]), (11, [2, 7, 8]), (12, [2, 8, 9]), (13, [2, 45]), (14, [2]), (15, [6]), (16, [49]), (17, [])], [], some [4], inv⟩
theorem F51k13.start_eq (k : Nat) (c : ((List Int) × ((List Int) × ((List Int) × ((List Int) × ((List Int) × (Int × (List (List Int))))))))) (a1 : Int) : callW F51k13.E false F51k13.fn k [.agg [.v (.int .i64) (13 : Int), .v (.sl (.int .i64)) c.1, .v (.sl (.int .i64)) c.2.1, .v (.sl (.int .i64)) c.2.2.1, .v (.sl (.int .i64)) c.2.2.2.1, .v (.sl (.int .i64)) c.2.2.2.2.1, .v (.int .i64) c.2.2.2.2.2.1, .v (.sl (.sl (.int .i64))) c.2.2.2.2.2.2], .v (.int .i64) a1] =
    bif decide ((13 : Int) < shapesL.length) then
      bif !(arityD (13, c) ⟨#[118, 107, 119]⟩) then
        some (.v (.int .i64) (10 : Int))
      else
        bif decide (a1 > 0) then
          bif !(inL c.1 0 (IntKind.i64.wrap (a1 - 1))) then
            some (.v (.int .i64) (7 : Int))
          else
            bif !(inL c.2.1 0 (IntKind.i64.wrap (a1 - 1))) then
              some (.v (.int .i64) (7 : Int))
            else
              bif !(coefsD (13, c)) then some (.v (.int .i64) (11 : Int)) else some (.v (.int .i64) (0 : Int))
        else
          bif !(inL c.1 0 (-1 : Int)) then
            some (.v (.int .i64) (7 : Int))
          else
            bif !(inL c.2.1 0 (-1 : Int)) then
              some (.v (.int .i64) (7 : Int))
            else
              bif !(coefsD (13, c)) then some (.v (.int .i64) (11 : Int)) else some (.v (.int .i64) (0 : Int))
    else
      none := by kernel_rfl

/-! ### 51k14: jigsaw/jigsawref06.Right -/
noncomputable def F51k14.fn : Func := Go.Proofs.Tryz.f51
noncomputable def F51k14.E : Env := ⟨tt, [(52, h_shapes), (81, h_arityD), (82, h_inL), (83, h_coefsD)], [(1, [1, 2]), (2, [1, 2, 17]), (3, [1, 2]), (4, [1, 2, 5]), (5, [1, 2, 6]), (6, [1, 2, 27]), (7, [1, 2]), (8, [1, 2, 7]), (9, [1, 2, 7, 29]), (10, [2, 7]), (11, [2, 7, 8]), (12, [2, 8, 9]), (13, [2, 45]), (14, [2]), (15, [6]), (16, [49]), (17, [])], [], some [4], inv⟩
theorem F51k14.start_eq (k : Nat) (c : ((List Int) × ((List Int) × ((List Int) × ((List Int) × ((List Int) × (Int × (List (List Int))))))))) (a1 : Int) : callW F51k14.E false F51k14.fn k [.agg [.v (.int .i64) (14 : Int), .v (.sl (.int .i64)) c.1, .v (.sl (.int .i64)) c.2.1, .v (.sl (.int .i64)) c.2.2.1, .v (.sl (.int .i64)) c.2.2.2.1, .v (.sl (.int .i64)) c.2.2.2.2.1, .v (.int .i64) c.2.2.2.2.2.1, .v (.sl (.sl (.int .i64))) c.2.2.2.2.2.2], .v (.int .i64) a1] =
    bif decide ((14 : Int) < shapesL.length) then
      bif !(arityD (14, c) ⟨#[118, 107, 119]⟩) then
        some (.v (.int .i64) (10 : Int))
      else
        bif decide (a1 > 0) then
          bif !(inL c.1 0 (IntKind.i64.wrap (a1 - 1))) then
            some (.v (.int .i64) (7 : Int))
          else
            bif !(inL c.2.1 0 (IntKind.i64.wrap (a1 - 1))) then
              some (.v (.int .i64) (7 : Int))
            else
              bif !(coefsD (14, c)) then some (.v (.int .i64) (11 : Int)) else some (.v (.int .i64) (0 : Int))
        else
          bif !(inL c.1 0 (-1 : Int)) then
            some (.v (.int .i64) (7 : Int))
          else
            bif !(inL c.2.1 0 (-1 : Int)) then
              some (.v (.int .i64) (7 : Int))
            else
              bif !(coefsD (14, c)) then some (.v (.int .i64) (11 : Int)) else some (.v (.int .i64) (0 : Int))
    else
      none := by kernel_rfl

/-! ### 51k15: jigsaw/jigsawref06.Right -/
noncomputable def F51k15.fn : Func := Go.Proofs.Tryz.f51
noncomputable def F51k15.E : Env := ⟨tt, [(52, h_shapes), (81, h_arityD), (82, h_inL), (83, h_coefsD)], [(1, [1, 2]), (2, [1, 2, 17]), (3, [1, 2]), (4, [1, 2, 5]), (5, [1, 2, 6]), (6, [1, 2, 27]), (7, [1, 2]), (8, [1, 2, 7]), (9, [1, 2, 7, 29]), (10, [2, 7]), (11, [2, 7, 8]), (12, [2, 8, 9]), (13, [2, 45]), (14, [2]), (15, [6]), (16, [49]), (17, [])], [], some [4], inv⟩
theorem F51k15.start_eq (k : Nat) (c : ((List Int) × ((List Int) × ((List Int) × ((List Int) × ((List Int) × (Int × (List (List Int))))))))) (a1 : Int) : callW F51k15.E false F51k15.fn k [.agg [.v (.int .i64) (15 : Int), .v (.sl (.int .i64)) c.1, .v (.sl (.int .i64)) c.2.1, .v (.sl (.int .i64)) c.2.2.1, .v (.sl (.int .i64)) c.2.2.2.1, .v (.sl (.int .i64)) c.2.2.2.2.1, .v (.int .i64) c.2.2.2.2.2.1, .v (.sl (.sl (.int .i64))) c.2.2.2.2.2.2], .v (.int .i64) a1] =
    bif decide ((15 : Int) < shapesL.length) then
      bif !(arityD (15, c) ⟨#[118, 107, 119]⟩) then
        some (.v (.int .i64) (10 : Int))
      else
        bif decide (a1 > 0) then
          bif !(inL c.1 0 (IntKind.i64.wrap (a1 - 1))) then
            some (.v (.int .i64) (7 : Int))
          else
            bif !(inL c.2.1 0 (IntKind.i64.wrap (a1 - 1))) then
              some (.v (.int .i64) (7 : Int))
            else
              bif !(coefsD (15, c)) then some (.v (.int .i64) (11 : Int)) else some (.v (.int .i64) (0 : Int))
        else
          bif !(inL c.1 0 (-1 : Int)) then
            some (.v (.int .i64) (7 : Int))
          else
            bif !(inL c.2.1 0 (-1 : Int)) then
              some (.v (.int .i64) (7 : Int))
            else
              bif !(coefsD (15, c)) then some (.v (.int .i64) (11 : Int)) else some (.v (.int .i64) (0 : Int))
    else
      none := by kernel_rfl

/-! ### 51k16: jigsaw/jigsawref06.Right -/
noncomputable def F51k16.fn : Func := Go.Proofs.Tryz.f51
noncomputable def F51k16.E : Env := ⟨tt, [(52, h_shapes), (81, h_arityD), (82, h_inL), (83, h_coefsD)], [(1, [1, 2]), (2, [1, 2, 17]), (3, [1, 2]), (4, [1, 2, 5]), (5, [1, 2, 6]), (6, [1, 2, 27]), (7, [1, 2]), (8, [1, 2, 7]), (9, [1, 2, 7, 29]), (10, [2, 7]), (11, [2, 7, 8]), (12, [2, 8, 9]), (13, [2, 45]), (14, [2]), (15, [6]), (16, [49]), (17, [])], [], some [4], inv⟩
theorem F51k16.start_eq (k : Nat) (c : ((List Int) × ((List Int) × ((List Int) × ((List Int) × ((List Int) × (Int × (List (List Int))))))))) (a1 : Int) : callW F51k16.E false F51k16.fn k [.agg [.v (.int .i64) (16 : Int), .v (.sl (.int .i64)) c.1, .v (.sl (.int .i64)) c.2.1, .v (.sl (.int .i64)) c.2.2.1, .v (.sl (.int .i64)) c.2.2.2.1, .v (.sl (.int .i64)) c.2.2.2.2.1, .v (.int .i64) c.2.2.2.2.2.1, .v (.sl (.sl (.int .i64))) c.2.2.2.2.2.2], .v (.int .i64) a1] =
    bif decide ((16 : Int) < shapesL.length) then
      bif !(arityD (16, c) ⟨#[118, 107, 119]⟩) then
        some (.v (.int .i64) (10 : Int))
      else
        bif decide (a1 > 0) then
          bif !(inL c.1 0 (IntKind.i64.wrap (a1 - 1))) then
            some (.v (.int .i64) (7 : Int))
          else
            bif !(inL c.2.1 0 (IntKind.i64.wrap (a1 - 1))) then
              some (.v (.int .i64) (7 : Int))
            else
              bif !(coefsD (16, c)) then some (.v (.int .i64) (11 : Int)) else some (.v (.int .i64) (0 : Int))
        else
          bif !(inL c.1 0 (-1 : Int)) then
            some (.v (.int .i64) (7 : Int))
          else
            bif !(inL c.2.1 0 (-1 : Int)) then
              some (.v (.int .i64) (7 : Int))
            else
              bif !(coefsD (16, c)) then some (.v (.int .i64) (11 : Int)) else some (.v (.int .i64) (0 : Int))
    else
      none := by kernel_rfl

/-! ### 51k18: jigsaw/jigsawref06.Right -/
noncomputable def F51k18.fn : Func := Go.Proofs.Tryz.f51
noncomputable def F51k18.E : Env := ⟨tt, [(52, h_shapes), (81, h_arityD), (82, h_inL), (83, h_coefsD)], [(1, [1, 2]), (2, [1, 2, 17]), (3, [1, 2]), (4, [1, 2, 5]), (5, [1, 2, 6]), (6, [1, 2, 27]), (7, [1, 2]), (8, [1, 2, 7]), (9, [1, 2, 7, 29]), (10, [2, 7]), (11, [2, 7, 8]), (12, [2, 8, 9]), (13, [2, 45]), (14, [2]), (15, [6]), (16, [49]), (17, [])], [], some [4], inv⟩
theorem F51k18.start_eq (k : Nat) (c : ((List Int) × ((List Int) × ((List Int) × ((List Int) × ((List Int) × (Int × (List (List Int))))))))) (a1 : Int) : callW F51k18.E false F51k18.fn k [.agg [.v (.int .i64) (18 : Int), .v (.sl (.int .i64)) c.1, .v (.sl (.int .i64)) c.2.1, .v (.sl (.int .i64)) c.2.2.1, .v (.sl (.int .i64)) c.2.2.2.1, .v (.sl (.int .i64)) c.2.2.2.2.1, .v (.int .i64) c.2.2.2.2.2.1, .v (.sl (.sl (.int .i64))) c.2.2.2.2.2.2], .v (.int .i64) a1] =
    bif decide ((18 : Int) < shapesL.length) then
      bif !(arityD (18, c) ⟨#[86, 114]⟩) then
        some (.v (.int .i64) (10 : Int))
      else
        bif decide (a1 > 0) then
          bif !(inL c.1 0 (IntKind.i64.wrap (a1 - 1))) then
            some (.v (.int .i64) (7 : Int))
          else
            bif !(inL c.2.1 0 (IntKind.i64.wrap (a1 - 1))) then
              some (.v (.int .i64) (7 : Int))
            else
              bif !(coefsD (18, c)) then some (.v (.int .i64) (11 : Int)) else some (.v (.int .i64) (0 : Int))
        else
          bif !(inL c.1 0 (-1 : Int)) then
            some (.v (.int .i64) (7 : Int))
          else
            bif !(inL c.2.1 0 (-1 : Int)) then
              some (.v (.int .i64) (7 : Int))
            else
              bif !(coefsD (18, c)) then some (.v (.int .i64) (11 : Int)) else some (.v (.int .i64) (0 : Int))
    else
      none := by kernel_rfl

/-! ### 83k11: jigsaw/jigsawref06.Coefs -/
noncomputable def F83k11.fn : Func := Go.Proofs.Tryz.f83
noncomputable def F83k11.body : Code := bodyOf F83k11.fn
noncomputable def F83k11.E : Env := ⟨tt, [(82, h_inL)], [(1, [1]), (2, [1, 3]), (3, [1, 3, 4]), (4, [1, 3, 4, 5]), (5, [1, 3, 4, 5, 15]), (6, [1, 3]), (7, [1, 3, 4]), (8, [1, 3, 4, 5]), (9, [1, 3, 4, 5, 18]), (10, [1, 3, 4, 5]), (11, [1, 4, 5, 6]), (12, [1, 4, 5, 6, 7]), (13, [1, 5, 6, 7, 8]), (14, [1, 51]), (15, [1]), (16, [1, 9]), (17, [1, 9]), (18, [1, 9]), (19, [1, 9, 10]), (20, [1, 9, 66]), (21, [1]), (22, [1, 11]), (23, [1, 11]), (24, [1, 11]), (25, [1, 11, 89]), (26, [1, 11]), (27, [1, 11, 12]), (28, [1, 11, 12]), (29, [1, 11, 12]), (30, [1, 11, 12, 105]), (31, [])], [(0, [1]), (1, [1, 9]), (2, []), (3, [1, 11]), (4, [1, 11]), (5, [1, 11, 12])], some [2], inv⟩
noncomputable def F83k11.K0 : Conts := { nrm := endW F83k11.E false F83k11.fn.results.toList, ret := endW F83k11.E false F83k11.fn.results.toList, ex := [] }
noncomputable def F83k11.kt (k : Nat) (q : List Nat) : Conts := contAt F83k11.E k F83k11.body F83k11.K0 q
noncomputable def F83k11.l1_1_1_1_1_1_1_1_1_1_0_1_0 (n : Nat) (K : Conts) (p0 : Int) (p1 : Int) (p2 : (List Int)) (p3 : (List Int)) (p4 : (List Int)) (p5 : (List Int)) (p6 : (List Int)) (p7 : Int) (p8 : (List (List Int))) : Option AV := loopF F83k11.E n (inLoop (subC [1, 1, 1, 1, 1, 1, 1, 1, 1, 1, 0, 1, 0] F83k11.body)) K ⟨slots 106 [(1, .pb 0 0), (9, .v (.int .i64) p0)], [.box [.v (.int .i64) p1, .v (.sl (.int .i64)) p2, .v (.sl (.int .i64)) p3, .v (.sl (.int .i64)) p4, .v (.sl (.int .i64)) p5, .v (.sl (.int .i64)) p6, .v (.int .i64) p7, .v (.sl (.sl (.int .i64))) p8]]⟩
noncomputable def F83k11.l1_1_1_1_1_1_1_1_1_1_1_0_1_0 (n : Nat) (K : Conts) (p0 : Int) (p1 : Int) (p2 : (List Int)) (p3 : (List Int)) (p4 : (List Int)) (p5 : (List Int)) (p6 : (List Int)) (p7 : Int) (p8 : (List (List Int))) : Option AV := loopF F83k11.E n (inLoop (subC [1, 1, 1, 1, 1, 1, 1, 1, 1, 1, 1, 0, 1, 0] F83k11.body)) K ⟨slots 106 [(1, .pb 0 0), (11, .v (.int .i64) p0)], [.box [.v (.int .i64) p1, .v (.sl (.int .i64)) p2, .v (.sl (.int .i64)) p3, .v (.sl (.int .i64)) p4, .v (.sl (.int .i64)) p5, .v (.sl (.int .i64)) p6, .v (.int .i64) p7, .v (.sl (.sl (.int .i64))) p8]]⟩
noncomputable def F83k11.k_l1_1_1_1_1_1_1_1_1_1_1_0_1_0 (n : Nat) (K : Conts) (q : List Nat) : Conts := contAt F83k11.E n (inLoop (subC [1, 1, 1, 1, 1, 1, 1, 1, 1, 1, 1, 0, 1, 0] F83k11.body)) (loopK F83k11.E n (inLoop (subC [1, 1, 1, 1, 1, 1, 1, 1, 1, 1, 1, 0, 1, 0] F83k11.body)) K) q
noncomputable def F83k11.l1_1_1_1_1_1_1_1_1_1_1_0_1_0_0_1_0_0_1_1_0 (n : Nat) (K : Conts) (p0 : Int) (p1 : Int) (p2 : Int) (p3 : (List Int)) (p4 : (List Int)) (p5 : (List Int)) (p6 : (List Int)) (p7 : (List Int)) (p8 : Int) (p9 : (List (List Int))) : Option AV := loopF F83k11.E n (inLoop (subC [1, 1, 1, 1, 1, 1, 1, 1, 1, 1, 1, 0, 1, 0, 0, 1, 0, 0, 1, 1, 0] F83k11.body)) K ⟨slots 106 [(1, .pb 0 0), (11, .v (.int .i64) p0), (12, .v (.int .i64) p1)], [.box [.v (.int .i64) p2, .v (.sl (.int .i64)) p3, .v (.sl (.int .i64)) p4, .v (.sl (.int .i64)) p5, .v (.sl (.int .i64)) p6, .v (.sl (.int .i64)) p7, .v (.int .i64) p8, .v (.sl (.sl (.int .i64))) p9]]⟩
theorem F83k11.start_eq (k : Nat) (c : ((List Int) × ((List Int) × ((List Int) × ((List Int) × ((List Int) × (Int × (List (List Int))))))))) : callW F83k11.E false F83k11.fn k [.agg [.v (.int .i64) (11 : Int), .v (.sl (.int .i64)) c.1, .v (.sl (.int .i64)) c.2.1, .v (.sl (.int .i64)) c.2.2.1, .v (.sl (.int .i64)) c.2.2.2.1, .v (.sl (.int .i64)) c.2.2.2.2.1, .v (.int .i64) c.2.2.2.2.2.1, .v (.sl (.sl (.int .i64))) c.2.2.2.2.2.2]] =
    bif !(inL c.2.2.1 (-1000000 : Int) 1000000) then
      some (.v .bool false)
    else
      bif !(inL c.2.2.2.1 (-1000000 : Int) 1000000) then
        some (.v .bool false)
      else
        bif !(inL c.2.2.2.2.1 (-1000000 : Int) 1000000) then
          some (.v .bool false)
        else
          bif decide (c.2.2.2.2.2.1 < (-9999999999 : Int)) then
            some (.v .bool false)
          else
            bif decide (c.2.2.2.2.2.1 > 9999999999) then
              some (.v .bool false)
            else
              F83k11.l1_1_1_1_1_1_1_1_1_1_0_1_0 k (F83k11.kt k [1, 1, 1, 1, 1, 1, 1, 1, 1, 1, 0, 1, 0]) 0 11 c.1 c.2.1 c.2.2.1 c.2.2.2.1 c.2.2.2.2.1 c.2.2.2.2.2.1 c.2.2.2.2.2.2 := by kernel_rfl
theorem F83k11.l1_1_1_1_1_1_1_1_1_1_0_1_0_eq (n : Nat) (K : Conts) (p0 : Int) (p1 : Int) (p2 : (List Int)) (p3 : (List Int)) (p4 : (List Int)) (p5 : (List Int)) (p6 : (List Int)) (p7 : Int) (p8 : (List (List Int))) : F83k11.l1_1_1_1_1_1_1_1_1_1_0_1_0 (n + 1) K p0 p1 p2 p3 p4 p5 p6 p7 p8 =
    bif decide (p0 < (p8.length : Int)) then
      bif decide (0 ≤ p0) && decide (p0 < p8.length) then
        bif !(inL (p8.getD p0.toNat []) (-1000000 : Int) 1000000) then
          K.ret ⟨slots 106 [(2, .v .bool false)], []⟩
        else
          F83k11.l1_1_1_1_1_1_1_1_1_1_0_1_0 n K (IntKind.i64.wrap (p0 + 1)) p1 p2 p3 p4 p5 p6 p7 p8
      else
        none
    else
      exitK K 0 ⟨slots 106 [(1, .pb 0 0)], [.box [.v (.int .i64) p1, .v (.sl (.int .i64)) p2, .v (.sl (.int .i64)) p3, .v (.sl (.int .i64)) p4, .v (.sl (.int .i64)) p5, .v (.sl (.int .i64)) p6, .v (.int .i64) p7, .v (.sl (.sl (.int .i64))) p8]]⟩ := by kernel_rfl
theorem F83k11.c0 (k : Nat) : (F83k11.kt k [1, 1, 1, 1, 1, 1, 1, 1, 1, 1, 0, 1, 0]).ret ⟨slots 106 [(2, .v .bool false)], []⟩ =
    some (.v .bool false) := by kernel_rfl
theorem F83k11.c1 (k : Nat) (p0 : Int) (p1 : (List Int)) (p2 : (List Int)) (p3 : (List Int)) (p4 : (List Int)) (p5 : (List Int)) (p6 : Int) (p7 : (List (List Int))) : exitK (F83k11.kt k [1, 1, 1, 1, 1, 1, 1, 1, 1, 1, 0, 1, 0]) 0 ⟨slots 106 [(1, .pb 0 0)], [.box [.v (.int .i64) p0, .v (.sl (.int .i64)) p1, .v (.sl (.int .i64)) p2, .v (.sl (.int .i64)) p3, .v (.sl (.int .i64)) p4, .v (.sl (.int .i64)) p5, .v (.int .i64) p6, .v (.sl (.sl (.int .i64))) p7]]⟩ =
    F83k11.l1_1_1_1_1_1_1_1_1_1_1_0_1_0 k (F83k11.kt k [1, 1, 1, 1, 1, 1, 1, 1, 1, 1, 1, 0, 1, 0]) 0 p0 p1 p2 p3 p4 p5 p6 p7 := by kernel_rfl
theorem F83k11.l1_1_1_1_1_1_1_1_1_1_1_0_1_0_eq (n : Nat) (K : Conts) (p0 : Int) (p1 : Int) (p2 : (List Int)) (p3 : (List Int)) (p4 : (List Int)) (p5 : (List Int)) (p6 : (List Int)) (p7 : Int) (p8 : (List (List Int))) : F83k11.l1_1_1_1_1_1_1_1_1_1_1_0_1_0 (n + 1) K p0 p1 p2 p3 p4 p5 p6 p7 p8 =
    bif decide (p1 = 21) then
      bif decide (p0 < (p4.length : Int)) then
        bif decide (0 ≤ p0) && decide (p0 < p5.length) then
          bif decide (0 ≤ p0) && decide (p0 < p6.length) then
            bif decide ((p5.getD p0.toNat (0 : Int)) > (p6.getD p0.toNat (0 : Int))) then
              K.ret ⟨slots 106 [(2, .v .bool false)], []⟩
            else
              F83k11.l1_1_1_1_1_1_1_1_1_1_1_0_1_0_0_1_0_0_1_1_0 n (F83k11.k_l1_1_1_1_1_1_1_1_1_1_1_0_1_0 n K [1, 0, 0, 1, 1, 0]) p0 0 p1 p2 p3 p4 p5 p6 p7 p8
          else
            none
        else
          none
      else
        exitK K 2 ⟨slots 106 [], []⟩
    else
      exitK K 2 ⟨slots 106 [], []⟩ := by kernel_rfl
theorem F83k11.c3 (k : Nat) : exitK (F83k11.kt k [1, 1, 1, 1, 1, 1, 1, 1, 1, 1, 1, 0, 1, 0]) 2 ⟨slots 106 [], []⟩ =
    some (.v .bool true) := by kernel_rfl
/-! ### 83k13: jigsaw/jigsawref06.Coefs -/
noncomputable def F83k13.fn : Func := Go.Proofs.Tryz.f83
noncomputable def F83k13.body : Code := bodyOf F83k13.fn
noncomputable def F83k13.E : Env := ⟨tt, [(82, h_inL)], [(1, [1]), (2, [1, 3]), (3, [1, 3, 4]), (4, [1, 3, 4, 5]), (5, [1, 3, 4, 5, 15]), (6, [1, 3]), (7, [1, 3, 4]), (8, [1, 3, 4, 5]), (9, [1, 3, 4, 5, 18]), (10, [1, 3, 4, 5]), (11, [1, 4, 5, 6]), (12, [1, 4, 5, 6, 7]), (13, [1, 5, 6, 7, 8]), (14, [1, 51]), (15, [1]), (16, [1, 9]), (17, [1, 9]), (18, [1, 9]), (19, [1, 9, 10]), (20, [1, 9, 66]), (21, [1]), (22, [1, 11]), (23, [1, 11]), (24, [1, 11]), (25, [1, 11, 89]), (26, [1, 11]), (27, [1, 11, 12]), (28, [1, 11, 12]), (29, [1, 11, 12]), (30, [1, 11, 12, 105]), (31, [])], [(0, [1]), (1, [1, 9]), (2, []), (3, [1, 11]), (4, [1, 11]), (5, [1, 11, 12])], some [2], inv⟩
noncomputable def F83k13.K0 : Conts := { nrm := endW F83k13.E false F83k13.fn.results.toList, ret := endW F83k13.E false F83k13.fn.results.toList, ex := [] }
noncomputable def F83k13.kt (k : Nat) (q : List Nat) : Conts := contAt F83k13.E k F83k13.body F83k13.K0 q
noncomputable def F83k13.l1_1_1_1_1_1_1_1_1_1_0_1_0 (n : Nat) (K : Conts) (p0 : Int) (p1 : Int) (p2 : (List Int)) (p3 : (List Int)) (p4 : (List Int)) (p5 : (List Int)) (p6 : (List Int)) (p7 : Int) (p8 : (List (List Int))) : Option AV := loopF F83k13.E n (inLoop (subC [1, 1, 1, 1, 1, 1, 1, 1, 1, 1, 0, 1, 0] F83k13.body)) K ⟨slots 106 [(1, .pb 0 0), (9, .v (.int .i64) p0)], [.box [.v (.int .i64) p1, .v (.sl (.int .i64)) p2, .v (.sl (.int .i64)) p3, .v (.sl (.int .i64)) p4, .v (.sl (.int .i64)) p5, .v (.sl (.int .i64)) p6, .v (.int .i64) p7, .v (.sl (.sl (.int .i64))) p8]]⟩
noncomputable def F83k13.l1_1_1_1_1_1_1_1_1_1_1_0_1_0 (n : Nat) (K : Conts) (p0 : Int) (p1 : Int) (p2 : (List Int)) (p3 : (List Int)) (p4 : (List Int)) (p5 : (List Int)) (p6 : (List Int)) (p7 : Int) (p8 : (List (List Int))) : Option AV := loopF F83k13.E n (inLoop (subC [1, 1, 1, 1, 1, 1, 1, 1, 1, 1, 1, 0, 1, 0] F83k13.body)) K ⟨slots 106 [(1, .pb 0 0), (11, .v (.int .i64) p0)], [.box [.v (.int .i64) p1, .v (.sl (.int .i64)) p2, .v (.sl (.int .i64)) p3, .v (.sl (.int .i64)) p4, .v (.sl (.int .i64)) p5, .v (.sl (.int .i64)) p6, .v (.int .i64) p7, .v (.sl (.sl (.int .i64))) p8]]⟩
noncomputable def F83k13.k_l1_1_1_1_1_1_1_1_1_1_1_0_1_0 (n : Nat) (K : Conts) (q : List Nat) : Conts := contAt F83k13.E n (inLoop (subC [1, 1, 1, 1, 1, 1, 1, 1, 1, 1, 1, 0, 1, 0] F83k13.body)) (loopK F83k13.E n (inLoop (subC [1, 1, 1, 1, 1, 1, 1, 1, 1, 1, 1, 0, 1, 0] F83k13.body)) K) q
noncomputable def F83k13.l1_1_1_1_1_1_1_1_1_1_1_0_1_0_0_1_0_0_1_1_0 (n : Nat) (K : Conts) (p0 : Int) (p1 : Int) (p2 : Int) (p3 : (List Int)) (p4 : (List Int)) (p5 : (List Int)) (p6 : (List Int)) (p7 : (List Int)) (p8 : Int) (p9 : (List (List Int))) : Option AV := loopF F83k13.E n (inLoop (subC [1, 1, 1, 1, 1, 1, 1, 1, 1, 1, 1, 0, 1, 0, 0, 1, 0, 0, 1, 1, 0] F83k13.body)) K ⟨slots 106 [(1, .pb 0 0), (11, .v (.int .i64) p0), (12, .v (.int .i64) p1)], [.box [.v (.int .i64) p2, .v (.sl (.int .i64)) p3, .v (.sl (.int .i64)) p4, .v (.sl (.int .i64)) p5, .v (.sl (.int .i64)) p6, .v (.sl (.int .i64)) p7, .v (.int .i64) p8, .v (.sl (.sl (.int .i64))) p9]]⟩
theorem F83k13.start_eq (k : Nat) (c : ((List Int) × ((List Int) × ((List Int) × ((List Int) × ((List Int) × (Int × (List (List Int))))))))) : callW F83k13.E false F83k13.fn k [.agg [.v (.int .i64) (13 : Int), .v (.sl (.int .i64)) c.1, .v (.sl (.int .i64)) c.2.1, .v (.sl (.int .i64)) c.2.2.1, .v (.sl (.int .i64)) c.2.2.2.1, .v (.sl (.int .i64)) c.2.2.2.2.1, .v (.int .i64) c.2.2.2.2.2.1, .v (.sl (.sl (.int .i64))) c.2.2.2.2.2.2]] =
    bif !(inL c.2.2.1 (-1000000 : Int) 1000000) then
      some (.v .bool false)
    else
      bif !(inL c.2.2.2.1 (-1000000 : Int) 1000000) then
        some (.v .bool false)
      else
        bif !(inL c.2.2.2.2.1 (-1000000 : Int) 1000000) then
          some (.v .bool false)
        else
          bif decide (c.2.2.2.2.2.1 < (-9999999999 : Int)) then
            some (.v .bool false)
          else
            bif decide (c.2.2.2.2.2.1 > 9999999999) then
              some (.v .bool false)
            else
              F83k13.l1_1_1_1_1_1_1_1_1_1_0_1_0 k (F83k13.kt k [1, 1, 1, 1, 1, 1, 1, 1, 1, 1, 0, 1, 0]) 0 13 c.1 c.2.1 c.2.2.1 c.2.2.2.1 c.2.2.2.2.1 c.2.2.2.2.2.1 c.2.2.2.2.2.2 := by kernel_rfl
theorem F83k13.l1_1_1_1_1_1_1_1_1_1_0_1_0_eq (n : Nat) (K : Conts) (p0 : Int) (p1 : Int) (p2 : (List Int)) (p3 : (List Int)) (p4 : (List Int)) (p5 : (List Int)) (p6 : (List Int)) (p7 : Int) (p8 : (List (List Int))) : F83k13.l1_1_1_1_1_1_1_1_1_1_0_1_0 (n + 1) K p0 p1 p2 p3 p4 p5 p6 p7 p8 =
    bif decide (p0 < (p8.length : Int)) then
      bif decide (0 ≤ p0) && decide (p0 < p8.length) then
        bif !(inL (p8.getD p0.toNat []) (-1000000 : Int) 1000000) then
          K.ret ⟨slots 106 [(2, .v .bool false)], []⟩
        else
          F83k13.l1_1_1_1_1_1_1_1_1_1_0_1_0 n K (IntKind.i64.wrap (p0 + 1)) p1 p2 p3 p4 p5 p6 p7 p8
      else
        none
    else
      exitK K 0 ⟨slots 106 [(1, .pb 0 0)], [.box [.v (.int .i64) p1, .v (.sl (.int .i64)) p2, .v (.sl (.int .i64)) p3, .v (.sl (.int .i64)) p4, .v (.sl (.int .i64)) p5, .v (.sl (.int .i64)) p6, .v (.int .i64) p7, .v (.sl (.sl (.int .i64))) p8]]⟩ := by kernel_rfl
theorem F83k13.c0 (k : Nat) : (F83k13.kt k [1, 1, 1, 1, 1, 1, 1, 1, 1, 1, 0, 1, 0]).ret ⟨slots 106 [(2, .v .bool false)], []⟩ =
    some (.v .bool false) := by kernel_rfl
theorem F83k13.c1 (k : Nat) (p0 : Int) (p1 : (List Int)) (p2 : (List Int)) (p3 : (List Int)) (p4 : (List Int)) (p5 : (List Int)) (p6 : Int) (p7 : (List (List Int))) : exitK (F83k13.kt k [1, 1, 1, 1, 1, 1, 1, 1, 1, 1, 0, 1, 0]) 0 ⟨slots 106 [(1, .pb 0 0)], [.box [.v (.int .i64) p0, .v (.sl (.int .i64)) p1, .v (.sl (.int .i64)) p2, .v (.sl (.int .i64)) p3, .v (.sl (.int .i64)) p4, .v (.sl (.int .i64)) p5, .v (.int .i64) p6, .v (.sl (.sl (.int .i64))) p7]]⟩ =
    F83k13.l1_1_1_1_1_1_1_1_1_1_1_0_1_0 k (F83k13.kt k [1, 1, 1, 1, 1, 1, 1, 1, 1, 1, 1, 0, 1, 0]) 0 p0 p1 p2 p3 p4 p5 p6 p7 := by kernel_rfl
theorem F83k13.l1_1_1_1_1_1_1_1_1_1_1_0_1_0_eq (n : Nat) (K : Conts) (p0 : Int) (p1 : Int) (p2 : (List Int)) (p3 : (List Int)) (p4 : (List Int)) (p5 : (List Int)) (p6 : (List Int)) (p7 : Int) (p8 : (List (List Int))) : F83k13.l1_1_1_1_1_1_1_1_1_1_1_0_1_0 (n + 1) K p0 p1 p2 p3 p4 p5 p6 p7 p8 =
    bif decide (p1 = 21) then
      bif decide (p0 < (p4.length : Int)) then
        bif decide (0 ≤ p0) && decide (p0 < p5.length) then
          bif decide (0 ≤ p0) && decide (p0 < p6.length) then
            bif decide ((p5.getD p0.toNat (0 : Int)) > (p6.getD p0.toNat (0 : Int))) then
              K.ret ⟨slots 106 [(2, .v .bool false)], []⟩
            else
              F83k13.l1_1_1_1_1_1_1_1_1_1_1_0_1_0_0_1_0_0_1_1_0 n (F83k13.k_l1_1_1_1_1_1_1_1_1_1_1_0_1_0 n K [1, 0, 0, 1, 1, 0]) p0 0 p1 p2 p3 p4 p5 p6 p7 p8
          else
            none
        else
          none
      else
        exitK K 2 ⟨slots 106 [], []⟩
    else
      exitK K 2 ⟨slots 106 [], []⟩ := by kernel_rfl
theorem F83k13.c3 (k : Nat) : exitK (F83k13.kt k [1, 1, 1, 1, 1, 1, 1, 1, 1, 1, 1, 0, 1, 0]) 2 ⟨slots 106 [], []⟩ =
    some (.v .bool true) := by kernel_rfl
/-! ### 83k14: jigsaw/jigsawref06.Coefs -/
noncomputable def F83k14.fn : Func := Go.Proofs.Tryz.f83
noncomputable def F83k14.body : Code := bodyOf F83k14.fn
noncomputable def F83k14.E : Env := ⟨tt, [(82, h_inL)], [(1, [1]), (2, [1, 3]), (3, [1, 3, 4]), (4, [1, 3, 4, 5]), (5, [1, 3, 4, 5, 15]), (6, [1, 3]), (7, [1, 3, 4]), (8, [1, 3, 4, 5]), (9, [1, 3, 4, 5, 18]), (10, [1, 3, 4, 5]), (11, [1, 4, 5, 6]), (12, [1, 4, 5, 6, 7]), (13, [1, 5, 6, 7, 8]), (14, [1, 51]), (15, [1]), (16, [1, 9]), (17, [1, 9]), (18, [1, 9]), (19, [1, 9, 10]), (20, [1, 9, 66]), (21, [1]), (22, [1, 11]), (23, [1, 11]), (24, [1, 11]), (25, [1, 11, 89]), (26, [1, 11]), (27, [1, 11, 12]), (28, [1, 11, 12]), (29, [1, 11, 12]), (30, [1, 11, 12, 105]), (31, [])], [(0, [1]), (1, [1, 9]), (2, []), (3, [1, 11]), (4, [1, 11]), (5, [1, 11, 12])], some [2], inv⟩
noncomputable def F83k14.K0 : Conts := { nrm := endW F83k14.E false F83k14.fn.results.toList, ret := endW F83k14.E false F83k14.fn.results.toList, ex := [] }
noncomputable def F83k14.kt (k : Nat) (q : List Nat) : Conts := contAt F83k14.E k F83k14.body F83k14.K0 q
noncomputable def F83k14.l1_1_1_1_1_1_1_1_1_1_0_1_0 (n : Nat) (K : Conts) (p0 : Int) (p1 : Int) (p2 : (List Int)) (p3 : (List Int)) (p4 : (List Int)) (p5 : (List Int)) (p6 : (List Int)) (p7 : Int) (p8 : (List (List Int))) : Option AV := loopF F83k14.E n (inLoop (subC [1, 1, 1, 1, 1, 1, 1, 1, 1, 1, 0, 1, 0] F83k14.body)) K ⟨slots 106 [(1, .pb 0 0), (9, .v (.int .i64) p0)], [.box [.v (.int .i64) p1, .v (.sl (.int .i64)) p2, .v (.sl (.int .i64)) p3, .v (.sl (.int .i64)) p4, .v (.sl (.int .i64)) p5, .v (.sl (.int .i64)) p6, .v (.int .i64) p7, .v (.sl (.sl (.int .i64))) p8]]⟩
noncomputable def F83k14.l1_1_1_1_1_1_1_1_1_1_1_0_1_0 (n : Nat) (K : Conts) (p0 : Int) (p1 : Int) (p2 : (List Int)) (p3 : (List Int)) (p4 : (List Int)) (p5 : (List Int)) (p6 : (List Int)) (p7 : Int) (p8 : (List (List Int))) : Option AV := loopF F83k14.E n (inLoop (subC [1, 1, 1, 1, 1, 1, 1, 1, 1, 1, 1, 0, 1, 0] F83k14.body)) K ⟨slots 106 [(1, .pb 0 0), (11, .v (.int .i64) p0)], [.box [.v (.int .i64) p1, .v (.sl (.int .i64)) p2, .v (.sl (.int .i64)) p3, .v (.sl (.int .i64)) p4, .v (.sl (.int .i64)) p5, .v (.sl (.int .i64)) p6, .v (.int .i64) p7, .v (.sl (.sl (.int .i64))) p8]]⟩
noncomputable def F83k14.k_l1_1_1_1_1_1_1_1_1_1_1_0_1_0 (n : Nat) (K : Conts) (q : List Nat) : Conts := contAt F83k14.E n (inLoop (subC [1, 1, 1, 1, 1, 1, 1, 1, 1, 1, 1, 0, 1, 0] F83k14.body)) (loopK F83k14.E n (inLoop (subC [1, 1, 1, 1, 1, 1, 1, 1, 1, 1, 1, 0, 1, 0] F83k14.body)) K) q
noncomputable def F83k14.l1_1_1_1_1_1_1_1_1_1_1_0_1_0_0_1_0_0_1_1_0 (n : Nat) (K : Conts) (p0 : Int) (p1 : Int) (p2 : Int) (p3 : (List Int)) (p4 : (List Int)) (p5 : (List Int)) (p6 : (List Int)) (p7 : (List Int)) (p8 : Int) (p9 : (List (List Int))) : Option AV := loopF F83k14.E n (inLoop (subC [1, 1, 1, 1, 1, 1, 1, 1, 1, 1, 1, 0, 1, 0, 0, 1, 0, 0, 1, 1, 0] F83k14.body)) K ⟨slots 106 [(1, .pb 0 0), (11, .v (.int .i64) p0), (12, .v (.int .i64) p1)], [.box [.v (.int .i64) p2, .v (.sl (.int .i64)) p3, .v (.sl (.int .i64)) p4, .v (.sl (.int .i64)) p5, .v (.sl (.int .i64)) p6, .v (.sl (.int .i64)) p7, .v (.int .i64) p8, .v (.sl (.sl (.int .i64))) p9]]⟩
theorem F83k14.start_eq (k : Nat) (c : ((List Int) × ((List Int) × ((List Int) × ((List Int) × ((List Int) × (Int × (List (List Int))))))))) : callW F83k14.E false F83k14.fn k [.agg [.v (.int .i64) (14 : Int), .v (.sl (.int .i64)) c.1, .v (.sl (.int .i64)) c.2.1, .v (.sl (.int .i64)) c.2.2.1, .v (.sl (.int .i64)) c.2.2.2.1, .v (.sl (.int .i64)) c.2.2.2.2.1, .v (.int .i64) c.2.2.2.2.2.1, .v (.sl (.sl (.int .i64))) c.2.2.2.2.2.2]] =
    bif !(inL c.2.2.1 (-1000000 : Int) 1000000) then
      some (.v .bool false)
    else
      bif !(inL c.2.2.2.1 (-1000000 : Int) 1000000) then
        some (.v .bool false)
      else
        bif !(inL c.2.2.2.2.1 (-1000000 : Int) 1000000) then
          some (.v .bool false)
        else
          bif decide (c.2.2.2.2.2.1 < (-9999999999 : Int)) then
            some (.v .bool false)
          else
            bif decide (c.2.2.2.2.2.1 > 9999999999) then
              some (.v .bool false)
            else
              F83k14.l1_1_1_1_1_1_1_1_1_1_0_1_0 k (F83k14.kt k [1, 1, 1, 1, 1, 1, 1, 1, 1, 1, 0, 1, 0]) 0 14 c.1 c.2.1 c.2.2.1 c.2.2.2.1 c.2.2.2.2.1 c.2.2.2.2.2.1 c.2.2.2.2.2.2 := by kernel_rfl
theorem F83k14.l1_1_1_1_1_1_1_1_1_1_0_1_0_eq (n : Nat) (K : Conts) (p0 : Int) (p1 : Int) (p2 : (List Int)) (p3 : (List Int)) (p4 : (List Int)) (p5 : (List Int)) (p6 : (List Int)) (p7 : Int) (p8 : (List (List Int))) : F83k14.l1_1_1_1_1_1_1_1_1_1_0_1_0 (n + 1) K p0 p1 p2 p3 p4 p5 p6 p7 p8 =
    bif decide (p0 < (p8.length : Int)) then
      bif decide (0 ≤ p0) && decide (p0 < p8.length) then
        bif !(inL (p8.getD p0.toNat []) (-1000000 : Int) 1000000) then
          K.ret ⟨slots 106 [(2, .v .bool false)], []⟩
        else
          F83k14.l1_1_1_1_1_1_1_1_1_1_0_1_0 n K (IntKind.i64.wrap (p0 + 1)) p1 p2 p3 p4 p5 p6 p7 p8
      else
        none
    else
      exitK K 0 ⟨slots 106 [(1, .pb 0 0)], [.box [.v (.int .i64) p1, .v (.sl (.int .i64)) p2, .v (.sl (.int .i64)) p3, .v (.sl (.int .i64)) p4, .v (.sl (.int .i64)) p5, .v (.sl (.int .i64)) p6, .v (.int .i64) p7, .v (.sl (.sl (.int .i64))) p8]]⟩ := by kernel_rfl
theorem F83k14.c0 (k : Nat) : (F83k14.kt k [1, 1, 1, 1, 1, 1, 1, 1, 1, 1, 0, 1, 0]).ret ⟨slots 106 [(2, .v .bool false)], []⟩ =
    some (.v .bool false) := by kernel_rfl
theorem F83k14.c1 (k : Nat) (p0 : Int) (p1 : (List Int)) (p2 : (List Int)) (p3 : (List Int)) (p4 : (List Int)) (p5 : (List Int)) (p6 : Int) (p7 : (List (List Int))) : exitK (F83k14.kt k [1, 1, 1, 1, 1, 1, 1, 1, 1, 1, 0, 1, 0]) 0 ⟨slots 106 [(1, .pb 0 0)], [.box [.v (.int .i64) p0, .v (.sl (.int .i64)) p1, .v (.sl (.int .i64)) p2, .v (.sl (.int .i64)) p3, .v (.sl (.int .i64)) p4, .v (.sl (.int .i64)) p5, .v (.int .i64) p6, .v (.sl (.sl (.int .i64))) p7]]⟩ =
    F83k14.l1_1_1_1_1_1_1_1_1_1_1_0_1_0 k (F83k14.kt k [1, 1, 1, 1, 1, 1, 1, 1, 1, 1, 1, 0, 1, 0]) 0 p0 p1 p2 p3 p4 p5 p6 p7 := by kernel_rfl
theorem F83k14.l1_1_1_1_1_1_1_1_1_1_1_0_1_0_eq (n : Nat) (K : Conts) (p0 : Int) (p1 : Int) (p2 : (List Int)) (p3 : (List Int)) (p4 : (List Int)) (p5 : (List Int)) (p6 : (List Int)) (p7 : Int) (p8 : (List (List Int))) : F83k14.l1_1_1_1_1_1_1_1_1_1_1_0_1_0 (n + 1) K p0 p1 p2 p3 p4 p5 p6 p7 p8 =
    bif decide (p1 = 21) then
      bif decide (p0 < (p4.length : Int)) then
        bif decide (0 ≤ p0) && decide (p0 < p5.length) then
          bif decide (0 ≤ p0) && decide (p0 < p6.length) then
            bif decide ((p5.getD p0.toNat (0 : Int)) > (p6.getD p0.toNat (0 : Int))) then
              K.ret ⟨slots 106 [(2, .v .bool false)], []⟩
            else
              F83k14.l1_1_1_1_1_1_1_1_1_1_1_0_1_0_0_1_0_0_1_1_0 n (F83k14.k_l1_1_1_1_1_1_1_1_1_1_1_0_1_0 n K [1, 0, 0, 1, 1, 0]) p0 0 p1 p2 p3 p4 p5 p6 p7 p8
          else
            none
        else
          none
      else
        exitK K 2 ⟨slots 106 [], []⟩
    else
      exitK K 2 ⟨slots 106 [], []⟩ := by kernel_rfl
theorem F83k14.c3 (k : Nat) : exitK (F83k14.kt k [1, 1, 1, 1, 1, 1, 1, 1, 1, 1, 1, 0, 1, 0]) 2 ⟨slots 106 [], []⟩ =
    some (.v .bool true) := by kernel_rfl
/-! ### 83k15: jigsaw/jigsawref06.Coefs -/
noncomputable def F83k15.fn : Func := Go.Proofs.Tryz.f83
noncomputable def F83k15.body : Code := bodyOf F83k15.fn
noncomputable def F83k15.E : Env := ⟨tt, [(82, h_inL)], [(1, [1]), (2, [1, 3]), (3, [1, 3, 4]), (4, [1, 3, 4, 5]), (5, [1, 3, 4, 5, 15]), (6, [1, 3]), (7, [1, 3, 4]), (8, [1, 3, 4, 5]), (9, [1, 3, 4, 5, 18]), (10, [1, 3, 4, 5]), (11, [1, 4, 5, 6]), (12, [1, 4, 5, 6, 7]), (13, [1, 5, 6, 7, 8]), (14, [1, 51]), (15, [1]), (16, [1, 9]), (17, [1, 9]), (18, [1, 9]), (19, [1, 9, 10]), (20, [1, 9, 66]), (21, [1]), (22, [1, 11]), (23, [1, 11]), (24, [1, 11]), (25, [1, 11, 89]), (26, [1, 11]), (27, [1, 11, 12]), (28, [1, 11, 12]), (29, [1, 11, 12]), (30, [1, 11, 12, 105]), (31, [])], [(0, [1]), (1, [1, 9]), (2, []), (3, [1, 11]), (4, [1, 11]), (5, [1, 11, 12])], some [2], inv⟩
noncomputable def F83k15.K0 : Conts := { nrm := endW F83k15.E false F83k15.fn.results.toList, ret := endW F83k15.E false F83k15.fn.results.toList, ex := [] }
noncomputable def F83k15.kt (k : Nat) (q : List Nat) : Conts := contAt F83k15.E k F83k15.body F83k15.K0 q
noncomputable def F83k15.l1_1_1_1_1_1_1_1_1_1_0_1_0 (n : Nat) (K : Conts) (p0 : Int) (p1 : Int) (p2 : (List Int)) (p3 : (List Int)) (p4 : (List Int)) (p5 : (List Int)) (p6 : (List Int)) (p7 : Int) (p8 : (List (List Int))) : Option AV := loopF F83k15.E n (inLoop (subC [1, 1, 1, 1, 1, 1, 1, 1, 1, 1, 0, 1, 0] F83k15.body)) K ⟨slots 106 [(1, .pb 0 0), (9, .v (.int .i64) p0)], [.box [.v (.int .i64) p1, .v (.sl (.int .i64)) p2, .v (.sl (.int .i64)) p3, .v (.sl (.int .i64)) p4, .v (.sl (.int .i64)) p5, .v (.sl (.int .i64)) p6, .v (.int .i64) p7, .v (.sl (.sl (.int .i64))) p8]]⟩
noncomputable def F83k15.l1_1_1_1_1_1_1_1_1_1_1_0_1_0 (n : Nat) (K : Conts) (p0 : Int) (p1 : Int) (p2 : (List Int)) (p3 : (List Int)) (p4 : (List Int)) (p5 : (List Int)) (p6 : (List Int)) (p7 : Int) (p8 : (List (List Int))) : Option AV := loopF F83k15.E n (inLoop (subC [1, 1, 1, 1, 1, 1, 1, 1, 1, 1, 1, 0, 1, 0] F83k15.body)) K ⟨slots 106 [(1, .pb 0 0), (11, .v (.int .i64) p0)], [.box [.v (.int .i64) p1, .v (.sl (.int .i64)) p2, .v (.sl (.int .i64)) p3, .v (.sl (.int .i64)) p4, .v (.sl (.int .i64)) p5, .v (.sl (.int .i64)) p6, .v (.int .i64) p7, .v (.sl (.sl (.int .i64))) p8]]⟩
noncomputable def F83k15.k_l1_1_1_1_1_1_1_1_1_1_1_0_1_0 (n : Nat) (K : Conts) (q : List Nat) : Conts := contAt F83k15.E n (inLoop (subC [1, 1, 1, 1, 1, 1, 1, 1, 1, 1, 1, 0, 1, 0] F83k15.body)) (loopK F83k15.E n (inLoop (subC [1, 1, 1, 1, 1, 1, 1, 1, 1, 1, 1, 0, 1, 0] F83k15.body)) K) q
noncomputable def F83k15.l1_1_1_1_1_1_1_1_1_1_1_0_1_0_0_1_0_0_1_1_0 (n : Nat) (K : Conts) (p0 : Int) (p1 : Int) (p2 : Int) (p3 : (List Int)) (p4 : (List Int)) (p5 : (List Int)) (p6 : (List Int)) (p7 : (List Int)) (p8 : Int) (p9 : (List (List Int))) : Option AV := loopF F83k15.E n (inLoop (subC [1, 1, 1, 1, 1, 1, 1, 1, 1, 1, 1, 0, 1, 0, 0, 1, 0, 0, 1, 1, 0] F83k15.body)) K ⟨slots 106 [(1, .pb 0 0), (11, .v (.int .i64) p0), (12, .v (.int .i64) p1)], [.box [.v (.int .i64) p2, .v (.sl (.int .i64)) p3, .v (.sl (.int .i64)) p4, .v (.sl (.int .i64)) p5, .v (.sl (.int .i64)) p6, .v (.sl (.int .i64)) p7, .v (.int .i64) p8, .v (.sl (.sl (.int .i64))) p9]]⟩
theorem F83k15.start_eq (k : Nat) (c : ((List Int) × ((List Int) × ((List Int) × ((List Int) × ((List Int) × (Int × (List (List Int))))))))) : callW F83k15.E false F83k15.fn k [.agg [.v (.int .i64) (15 : Int), .v (.sl (.int .i64)) c.1, .v (.sl (.int .i64)) c.2.1, .v (.sl (.int .i64)) c.2.2.1, .v (.sl (.int .i64)) c.2.2.2.1, .v (.sl (.int .i64)) c.2.2.2.2.1, .v (.int .i64) c.2.2.2.2.2.1, .v (.sl (.sl (.int .i64))) c.2.2.2.2.2.2]] =
    bif !(inL c.2.2.1 (-1000000 : Int) 1000000) then
      some (.v .bool false)
    else
      bif !(inL c.2.2.2.1 (-1000000 : Int) 1000000) then
        some (.v .bool false)
      else
        bif !(inL c.2.2.2.2.1 (-1000000 : Int) 1000000) then
          some (.v .bool false)
        else
          bif decide (c.2.2.2.2.2.1 < (-9999999999 : Int)) then
            some (.v .bool false)
          else
            bif decide (c.2.2.2.2.2.1 > 9999999999) then
              some (.v .bool false)
            else
              F83k15.l1_1_1_1_1_1_1_1_1_1_0_1_0 k (F83k15.kt k [1, 1, 1, 1, 1, 1, 1, 1, 1, 1, 0, 1, 0]) 0 15 c.1 c.2.1 c.2.2.1 c.2.2.2.1 c.2.2.2.2.1 c.2.2.2.2.2.1 c.2.2.2.2.2.2 := by kernel_rfl
theorem F83k15.l1_1_1_1_1_1_1_1_1_1_0_1_0_eq (n : Nat) (K : Conts) (p0 : Int) (p1 : Int) (p2 : (List Int)) (p3 : (List Int)) (p4 : (List Int)) (p5 : (List Int)) (p6 : (List Int)) (p7 : Int) (p8 : (List (List Int))) : F83k15.l1_1_1_1_1_1_1_1_1_1_0_1_0 (n + 1) K p0 p1 p2 p3 p4 p5 p6 p7 p8 =
    bif decide (p0 < (p8.length : Int)) then
      bif decide (0 ≤ p0) && decide (p0 < p8.length) then
        bif !(inL (p8.getD p0.toNat []) (-1000000 : Int) 1000000) then
          K.ret ⟨slots 106 [(2, .v .bool false)], []⟩
        else
          F83k15.l1_1_1_1_1_1_1_1_1_1_0_1_0 n K (IntKind.i64.wrap (p0 + 1)) p1 p2 p3 p4 p5 p6 p7 p8
      else
        none
    else
      exitK K 0 ⟨slots 106 [(1, .pb 0 0)], [.box [.v (.int .i64) p1, .v (.sl (.int .i64)) p2, .v (.sl (.int .i64)) p3, .v (.sl (.int .i64)) p4, .v (.sl (.int .i64)) p5, .v (.sl (.int .i64)) p6, .v (.int .i64) p7, .v (.sl (.sl (.int .i64))) p8]]⟩ := by kernel_rfl
theorem F83k15.c0 (k : Nat) : (F83k15.kt k [1, 1, 1, 1, 1, 1, 1, 1, 1, 1, 0, 1, 0]).ret ⟨slots 106 [(2, .v .bool false)], []⟩ =
    some (.v .bool false) := by kernel_rfl
theorem F83k15.c1 (k : Nat) (p0 : Int) (p1 : (List Int)) (p2 : (List Int)) (p3 : (List Int)) (p4 : (List Int)) (p5 : (List Int)) (p6 : Int) (p7 : (List (List Int))) : exitK (F83k15.kt k [1, 1, 1, 1, 1, 1, 1, 1, 1, 1, 0, 1, 0]) 0 ⟨slots 106 [(1, .pb 0 0)], [.box [.v (.int .i64) p0, .v (.sl (.int .i64)) p1, .v (.sl (.int .i64)) p2, .v (.sl (.int .i64)) p3, .v (.sl (.int .i64)) p4, .v (.sl (.int .i64)) p5, .v (.int .i64) p6, .v (.sl (.sl (.int .i64))) p7]]⟩ =
    F83k15.l1_1_1_1_1_1_1_1_1_1_1_0_1_0 k (F83k15.kt k [1, 1, 1, 1, 1, 1, 1, 1, 1, 1, 1, 0, 1, 0]) 0 p0 p1 p2 p3 p4 p5 p6 p7 := by kernel_rfl
theorem F83k15.l1_1_1_1_1_1_1_1_1_1_1_0_1_0_eq (n : Nat) (K : Conts) (p0 : Int) (p1 : Int) (p2 : (List Int)) (p3 : (List Int)) (p4 : (List Int)) (p5 : (List Int)) (p6 : (List Int)) (p7 : Int) (p8 : (List (List Int))) : F83k15.l1_1_1_1_1_1_1_1_1_1_1_0_1_0 (n + 1) K p0 p1 p2 p3 p4 p5 p6 p7 p8 =
    bif decide (p1 = 21) then
      bif decide (p0 < (p4.length : Int)) then
        bif decide (0 ≤ p0) && decide (p0 < p5.length) then
          bif decide (0 ≤ p0) && decide (p0 < p6.length) then
            bif decide ((p5.getD p0.toNat (0 : Int)) > (p6.getD p0.toNat (0 : Int))) then
              K.ret ⟨slots 106 [(2, .v .bool false)], []⟩
            else
              F83k15.l1_1_1_1_1_1_1_1_1_1_1_0_1_0_0_1_0_0_1_1_0 n (F83k15.k_l1_1_1_1_1_1_1_1_1_1_1_0_1_0 n K [1, 0, 0, 1, 1, 0]) p0 0 p1 p2 p3 p4 p5 p6 p7 p8
          else
            none
        else
          none
      else
        exitK K 2 ⟨slots 106 [], []⟩
    else
      exitK K 2 ⟨slots 106 [], []⟩ := by kernel_rfl
theorem F83k15.c3 (k : Nat) : exitK (F83k15.kt k [1, 1, 1, 1, 1, 1, 1, 1, 1, 1, 1, 0, 1, 0]) 2 ⟨slots 106 [], []⟩ =
    some (.v .bool true) := by kernel_rfl
/-! ### 83k16: jigsaw/jigsawref06.Coefs -/
noncomputable def F83k16.fn : Func := Go.Proofs.Tryz.f83
noncomputable def F83k16.body : Code := bodyOf F83k16.fn
noncomputable def F83k16.E : Env := ⟨tt, [(82, h_inL)], [(1, [1]), (2, [1, 3]), (3, [1, 3, 4]), (4, [1, 3, 4, 5]), (5, [1, 3, 4, 5, 15]), (6, [1, 3]), (7, [1, 3, 4]), (8, [1, 3, 4, 5]), (9, [1, 3, 4, 5, 18]), (10, [1, 3, 4, 5]), (11, [1, 4, 5, 6]), (12, [1, 4, 5, 6, 7]), (13, [1, 5, 6, 7, 8]), (14, [1, 51]), (15, [1]), (16, [1, 9]), (17, [1, 9]), (18, [1, 9]), (19, [1, 9, 10]), (20, [1, 9, 66]), (21, [1]), (22, [1, 11]), (23, [1, 11]), (24, [1, 11]), (25, [1, 11, 89]), (26, [1, 11]), (27, [1, 11, 12]), (28, [1, 11, 12]), (29, [1, 11, 12]), (30, [1, 11, 12, 105]), (31, [])], [(0, [1]), (1, [1, 9]), (2, []), (3, [1, 11]), (4, [1, 11]), (5, [1, 11, 12])], some [2], inv⟩
noncomputable def F83k16.K0 : Conts := { nrm := endW F83k16.E false F83k16.fn.results.toList, ret := endW F83k16.E false F83k16.fn.results.toList, ex := [] }
noncomputable def F83k16.kt (k : Nat) (q : List Nat) : Conts := contAt F83k16.E k F83k16.body F83k16.K0 q
noncomputable def F83k16.l1_1_1_1_1_1_1_1_1_1_0_1_0 (n : Nat) (K : Conts) (p0 : Int) (p1 : Int) (p2 : (List Int)) (p3 : (List Int)) (p4 : (List Int)) (p5 : (List Int)) (p6 : (List Int)) (p7 : Int) (p8 : (List (List Int))) : Option AV := loopF F83k16.E n (inLoop (subC [1, 1, 1, 1, 1, 1, 1, 1, 1, 1, 0, 1, 0] F83k16.body)) K ⟨slots 106 [(1, .pb 0 0), (9, .v (.int .i64) p0)], [.box [.v (.int .i64) p1, .v (.sl (.int .i64)) p2, .v (.sl (.int .i64)) p3, .v (.sl (.int .i64)) p4, .v (.sl (.int .i64)) p5, .v (.sl (.int .i64)) p6, .v (.int .i64) p7, .v (.sl (.sl (.int .i64))) p8]]⟩
noncomputable def F83k16.l1_1_1_1_1_1_1_1_1_1_1_0_1_0 (n : Nat) (K : Conts) (p0 : Int) (p1 : Int) (p2 : (List Int)) (p3 : (List Int)) (p4 : (List Int)) (p5 : (List Int)) (p6 : (List Int)) (p7 : Int) (p8 : (List (List Int))) : Option AV := loopF F83k16.E n (inLoop (subC [1, 1, 1, 1, 1, 1, 1, 1, 1, 1, 1, 0, 1, 0] F83k16.body)) K ⟨slots 106 [(1, .pb 0 0), (11, .v (.int .i64) p0)], [.box [.v (.int .i64) p1, .v (.sl (.int .i64)) p2, .v (.sl (.int .i64)) p3, .v (.sl (.int .i64)) p4, .v (.sl (.int .i64)) p5, .v (.sl (.int .i64)) p6, .v (.int .i64) p7, .v (.sl (.sl (.int .i64))) p8]]⟩
noncomputable def F83k16.k_l1_1_1_1_1_1_1_1_1_1_1_0_1_0 (n : Nat) (K : Conts) (q : List Nat) : Conts := contAt F83k16.E n (inLoop (subC [1, 1, 1, 1, 1, 1, 1, 1, 1, 1, 1, 0, 1, 0] F83k16.body)) (loopK F83k16.E n (inLoop (subC [1, 1, 1, 1, 1, 1, 1, 1, 1, 1, 1, 0, 1, 0] F83k16.body)) K) q
noncomputable def F83k16.l1_1_1_1_1_1_1_1_1_1_1_0_1_0_0_1_0_0_1_1_0 (n : Nat) (K : Conts) (p0 : Int) (p1 : Int) (p2 : Int) (p3 : (List Int)) (p4 : (List Int)) (p5 : (List Int)) (p6 : (List Int)) (p7 : (List Int)) (p8 : Int) (p9 : (List (List Int))) : Option AV := loopF F83k16.E n (inLoop (subC [1, 1, 1, 1, 1, 1, 1, 1, 1, 1, 1, 0, 1, 0, 0, 1, 0, 0, 1, 1, 0] F83k16.body)) K ⟨slots 106 [(1, .pb 0 0), (11, .v (.int .i64) p0), (12, .v (.int .i64) p1)], [.box [.v (.int .i64) p2, .v (.sl (.int .i64)) p3, .v (.sl (.int .i64)) p4, .v (.sl (.int .i64)) p5, .v (.sl (.int .i64)) p6, .v (.sl (.int .i64)) p7, .v (.int .i64) p8, .v (.sl (.sl (.int .i64))) p9]]⟩
theorem F83k16.start_eq (k : Nat) (c : ((List Int) × ((List Int) × ((List Int) × ((List Int) × ((List Int) × (Int × (List (List Int))))))))) : callW F83k16.E false F83k16.fn k [.agg [.v (.int .i64) (16 : Int), .v (.sl (.int .i64)) c.1, .v (.sl (.int .i64)) c.2.1, .v (.sl (.int .i64)) c.2.2.1, .v (.sl (.int .i64)) c.2.2.2.1, .v (.sl (.int .i64)) c.2.2.2.2.1, .v (.int .i64) c.2.2.2.2.2.1, .v (.sl (.sl (.int .i64))) c.2.2.2.2.2.2]] =
    bif !(inL c.2.2.1 (-1000000 : Int) 1000000) then
      some (.v .bool false)
    else
      bif !(inL c.2.2.2.1 (-1000000 : Int) 1000000) then
        some (.v .bool false)
      else
        bif !(inL c.2.2.2.2.1 (-1000000 : Int) 1000000) then
          some (.v .bool false)
        else
          bif decide (c.2.2.2.2.2.1 < (-9999999999 : Int)) then
            some (.v .bool false)
          else
            bif decide (c.2.2.2.2.2.1 > 9999999999) then
              some (.v .bool false)
            else
              F83k16.l1_1_1_1_1_1_1_1_1_1_0_1_0 k (F83k16.kt k [1, 1, 1, 1, 1, 1, 1, 1, 1, 1, 0, 1, 0]) 0 16 c.1 c.2.1 c.2.2.1 c.2.2.2.1 c.2.2.2.2.1 c.2.2.2.2.2.1 c.2.2.2.2.2.2 := by kernel_rfl
theorem F83k16.l1_1_1_1_1_1_1_1_1_1_0_1_0_eq (n : Nat) (K : Conts) (p0 : Int) (p1 : Int) (p2 : (List Int)) (p3 : (List Int)) (p4 : (List Int)) (p5 : (List Int)) (p6 : (List Int)) (p7 : Int) (p8 : (List (List Int))) : F83k16.l1_1_1_1_1_1_1_1_1_1_0_1_0 (n + 1) K p0 p1 p2 p3 p4 p5 p6 p7 p8 =
    bif decide (p0 < (p8.length : Int)) then
      bif decide (0 ≤ p0) && decide (p0 < p8.length) then
        bif !(inL (p8.getD p0.toNat []) (-1000000 : Int) 1000000) then
          K.ret ⟨slots 106 [(2, .v .bool false)], []⟩
        else
          F83k16.l1_1_1_1_1_1_1_1_1_1_0_1_0 n K (IntKind.i64.wrap (p0 + 1)) p1 p2 p3 p4 p5 p6 p7 p8
      else
        none
    else
      exitK K 0 ⟨slots 106 [(1, .pb 0 0)], [.box [.v (.int .i64) p1, .v (.sl (.int .i64)) p2, .v (.sl (.int .i64)) p3, .v (.sl (.int .i64)) p4, .v (.sl (.int .i64)) p5, .v (.sl (.int .i64)) p6, .v (.int .i64) p7, .v (.sl (.sl (.int .i64))) p8]]⟩ := by kernel_rfl
theorem F83k16.c0 (k : Nat) : (F83k16.kt k [1, 1, 1, 1, 1, 1, 1, 1, 1, 1, 0, 1, 0]).ret ⟨slots 106 [(2, .v .bool false)], []⟩ =
    some (.v .bool false) := by kernel_rfl
theorem F83k16.c1 (k : Nat) (p0 : Int) (p1 : (List Int)) (p2 : (List Int)) (p3 : (List Int)) (p4 : (List Int)) (p5 : (List Int)) (p6 : Int) (p7 : (List (List Int))) : exitK (F83k16.kt k [1, 1, 1, 1, 1, 1, 1, 1, 1, 1, 0, 1, 0]) 0 ⟨slots 106 [(1, .pb 0 0)], [.box [.v (.int .i64) p0, .v (.sl (.int .i64)) p1, .v (.sl (.int .i64)) p2, .v (.sl (.int .i64)) p3, .v (.sl (.int .i64)) p4, .v (.sl (.int .i64)) p5, .v (.int .i64) p6, .v (.sl (.sl (.int .i64))) p7]]⟩ =
    F83k16.l1_1_1_1_1_1_1_1_1_1_1_0_1_0 k (F83k16.kt k [1, 1, 1, 1, 1, 1, 1, 1, 1, 1, 1, 0, 1, 0]) 0 p0 p1 p2 p3 p4 p5 p6 p7 := by kernel_rfl
theorem F83k16.l1_1_1_1_1_1_1_1_1_1_1_0_1_0_eq (n : Nat) (K : Conts) (p0 : Int) (p1 : Int) (p2 : (List Int)) (p3 : (List Int)) (p4 : (List Int)) (p5 : (List Int)) (p6 : (List Int)) (p7 : Int) (p8 : (List (List Int))) : F83k16.l1_1_1_1_1_1_1_1_1_1_1_0_1_0 (n + 1) K p0 p1 p2 p3 p4 p5 p6 p7 p8 =
    bif decide (p1 = 21) then
      bif decide (p0 < (p4.length : Int)) then
        bif decide (0 ≤ p0) && decide (p0 < p5.length) then
          bif decide (0 ≤ p0) && decide (p0 < p6.length) then
            bif decide ((p5.getD p0.toNat (0 : Int)) > (p6.getD p0.toNat (0 : Int))) then
              K.ret ⟨slots 106 [(2, .v .bool false)], []⟩
            else
              F83k16.l1_1_1_1_1_1_1_1_1_1_1_0_1_0_0_1_0_0_1_1_0 n (F83k16.k_l1_1_1_1_1_1_1_1_1_1_1_0_1_0 n K [1, 0, 0, 1, 1, 0]) p0 0 p1 p2 p3 p4 p5 p6 p7 p8
          else
            none
        else
          none
      else
        exitK K 2 ⟨slots 106 [], []⟩
    else
      exitK K 2 ⟨slots 106 [], []⟩ := by kernel_rfl
theorem F83k16.c3 (k : Nat) : exitK (F83k16.kt k [1, 1, 1, 1, 1, 1, 1, 1, 1, 1, 1, 0, 1, 0]) 2 ⟨slots 106 [], []⟩ =
    some (.v .bool true) := by kernel_rfl
/-! ### 83k18: jigsaw/jigsawref06.Coefs -/
noncomputable def F83k18.fn : Func := Go.Proofs.Tryz.f83
noncomputable def F83k18.body : Code := bodyOf F83k18.fn
noncomputable def F83k18.E : Env := ⟨tt, [(82, h_inL)], [(1, [1]), (2, [1, 3]), (3, [1, 3, 4]), (4, [1, 3, 4, 5]), (5, [1, 3, 4, 5, 15]), (6, [1, 3]), (7, [1, 3, 4]), (8, [1, 3, 4, 5]), (9, [1, 3, 4, 5, 18]), (10, [1, 3, 4, 5]), (11, [1, 4, 5, 6]), (12, [1, 4, 5, 6, 7]), (13, [1, 5, 6, 7, 8]), (14, [1, 51]), (15, [1]), (16, [1, 9]), (17, [1, 9]), (18, [1, 9]), (19, [1, 9, 10]), (20, [1, 9, 66]), (21, [1]), (22, [1, 11]), (23, [1, 11]), (24, [1, 11]), (25, [1, 11, 89]), (26, [1, 11]), (27, [1, 11, 12]), (28, [1, 11, 12]), (29, [1, 11, 12]), (30, [1, 11, 12, 105]), (31, [])], [(0, [1]), (1, [1, 9]), (2, []), (3, [1, 11]), (4, [1, 11]), (5, [1, 11, 12])], some [2], inv⟩
noncomputable def F83k18.K0 : Conts := { nrm := endW F83k18.E false F83k18.fn.results.toList, ret := endW F83k18.E false F83k18.fn.results.toList, ex := [] }
noncomputable def F83k18.kt (k : Nat) (q : List Nat) : Conts := contAt F83k18.E k F83k18.body F83k18.K0 q
noncomputable def F83k18.l1_1_1_1_1_1_1_1_1_1_0_1_0 (n : Nat) (K : Conts) (p0 : Int) (p1 : Int) (p2 : (List Int)) (p3 : (List Int)) (p4 : (List Int)) (p5 : (List Int)) (p6 : (List Int)) (p7 : Int) (p8 : (List (List Int))) : Option AV := loopF F83k18.E n (inLoop (subC [1, 1, 1, 1, 1, 1, 1, 1, 1, 1, 0, 1, 0] F83k18.body)) K ⟨slots 106 [(1, .pb 0 0), (9, .v (.int .i64) p0)], [.box [.v (.int .i64) p1, .v (.sl (.int .i64)) p2, .v (.sl (.int .i64)) p3, .v (.sl (.int .i64)) p4, .v (.sl (.int .i64)) p5, .v (.sl (.int .i64)) p6, .v (.int .i64) p7, .v (.sl (.sl (.int .i64))) p8]]⟩
noncomputable def F83k18.l1_1_1_1_1_1_1_1_1_1_1_0_1_0 (n : Nat) (K : Conts) (p0 : Int) (p1 : Int) (p2 : (List Int)) (p3 : (List Int)) (p4 : (List Int)) (p5 : (List Int)) (p6 : (List Int)) (p7 : Int) (p8 : (List (List Int))) : Option AV := loopF F83k18.E n (inLoop (subC [1, 1, 1, 1, 1, 1, 1, 1, 1, 1, 1, 0, 1, 0] F83k18.body)) K ⟨slots 106 [(1, .pb 0 0), (11, .v (.int .i64) p0)], [.box [.v (.int .i64) p1, .v (.sl (.int .i64)) p2, .v (.sl (.int .i64)) p3, .v (.sl (.int .i64)) p4, .v (.sl (.int .i64)) p5, .v (.sl (.int .i64)) p6, .v (.int .i64) p7, .v (.sl (.sl (.int .i64))) p8]]⟩
noncomputable def F83k18.k_l1_1_1_1_1_1_1_1_1_1_1_0_1_0 (n : Nat) (K : Conts) (q : List Nat) : Conts := contAt F83k18.E n (inLoop (subC [1, 1, 1, 1, 1, 1, 1, 1, 1, 1, 1, 0, 1, 0] F83k18.body)) (loopK F83k18.E n (inLoop (subC [1, 1, 1, 1, 1, 1, 1, 1, 1, 1, 1, 0, 1, 0] F83k18.body)) K) q
noncomputable def F83k18.l1_1_1_1_1_1_1_1_1_1_1_0_1_0_0_1_0_0_1_1_0 (n : Nat) (K : Conts) (p0 : Int) (p1 : Int) (p2 : Int) (p3 : (List Int)) (p4 : (List Int)) (p5 : (List Int)) (p6 : (List Int)) (p7 : (List Int)) (p8 : Int) (p9 : (List (List Int))) : Option AV := loopF F83k18.E n (inLoop (subC [1, 1, 1, 1, 1, 1, 1, 1, 1, 1, 1, 0, 1, 0, 0, 1, 0, 0, 1, 1, 0] F83k18.body)) K ⟨slots 106 [(1, .pb 0 0), (11, .v (.int .i64) p0), (12, .v (.int .i64) p1)], [.box [.v (.int .i64) p2, .v (.sl (.int .i64)) p3, .v (.sl (.int .i64)) p4, .v (.sl (.int .i64)) p5, .v (.sl (.int .i64)) p6, .v (.sl (.int .i64)) p7, .v (.int .i64) p8, .v (.sl (.sl (.int .i64))) p9]]⟩
theorem F83k18.start_eq (k : Nat) (c : ((List Int) × ((List Int) × ((List Int) × ((List Int) × ((List Int) × (Int × (List (List Int))))))))) : callW F83k18.E false F83k18.fn k [.agg [.v (.int .i64) (18 : Int), .v (.sl (.int .i64)) c.1, .v (.sl (.int .i64)) c.2.1, .v (.sl (.int .i64)) c.2.2.1, .v (.sl (.int .i64)) c.2.2.2.1, .v (.sl (.int .i64)) c.2.2.2.2.1, .v (.int .i64) c.2.2.2.2.2.1, .v (.sl (.sl (.int .i64))) c.2.2.2.2.2.2]] =
    bif !(inL c.2.2.1 (-1000000 : Int) 1000000) then
      some (.v .bool false)
    else
      bif !(inL c.2.2.2.1 (-1000000 : Int) 1000000) then
        some (.v .bool false)
      else
        bif !(inL c.2.2.2.2.1 (-1000000 : Int) 1000000) then
          some (.v .bool false)
        else
          bif decide (c.2.2.2.2.2.1 < (-9999999999 : Int)) then
            some (.v .bool false)
          else
            bif decide (c.2.2.2.2.2.1 > 9999999999) then
              some (.v .bool false)
            else
              F83k18.l1_1_1_1_1_1_1_1_1_1_0_1_0 k (F83k18.kt k [1, 1, 1, 1, 1, 1, 1, 1, 1, 1, 0, 1, 0]) 0 18 c.1 c.2.1 c.2.2.1 c.2.2.2.1 c.2.2.2.2.1 c.2.2.2.2.2.1 c.2.2.2.2.2.2 := by kernel_rfl
theorem F83k18.l1_1_1_1_1_1_1_1_1_1_0_1_0_eq (n : Nat) (K : Conts) (p0 : Int) (p1 : Int) (p2 : (List Int)) (p3 : (List Int)) (p4 : (List Int)) (p5 : (List Int)) (p6 : (List Int)) (p7 : Int) (p8 : (List (List Int))) : F83k18.l1_1_1_1_1_1_1_1_1_1_0_1_0 (n + 1) K p0 p1 p2 p3 p4 p5 p6 p7 p8 =
    bif decide (p0 < (p8.length : Int)) then
      bif decide (0 ≤ p0) && decide (p0 < p8.length) then
        bif !(inL (p8.getD p0.toNat []) (-1000000 : Int) 1000000) then
          K.ret ⟨slots 106 [(2, .v .bool false)], []⟩
        else
          F83k18.l1_1_1_1_1_1_1_1_1_1_0_1_0 n K (IntKind.i64.wrap (p0 + 1)) p1 p2 p3 p4 p5 p6 p7 p8
      else
        none
    else
      exitK K 0 ⟨slots 106 [(1, .pb 0 0)], [.box [.v (.int .i64) p1, .v (.sl (.int .i64)) p2, .v (.sl (.int .i64)) p3, .v (.sl (.int .i64)) p4, .v (.sl (.int .i64)) p5, .v (.sl (.int .i64)) p6, .v (.int .i64) p7, .v (.sl (.sl (.int .i64))) p8]]⟩ := by kernel_rfl
theorem F83k18.c0 (k : Nat) : (F83k18.kt k [1, 1, 1, 1, 1, 1, 1, 1, 1, 1, 0, 1, 0]).ret ⟨slots 106 [(2, .v .bool false)], []⟩ =
    some (.v .bool false) := by kernel_rfl
theorem F83k18.c1 (k : Nat) (p0 : Int) (p1 : (List Int)) (p2 : (List Int)) (p3 : (List Int)) (p4 : (List Int)) (p5 : (List Int)) (p6 : Int) (p7 : (List (List Int))) : exitK (F83k18.kt k [1, 1, 1, 1, 1, 1, 1, 1, 1, 1, 0, 1, 0]) 0 ⟨slots 106 [(1, .pb 0 0)], [.box [.v (.int .i64) p0, .v (.sl (.int .i64)) p1, .v (.sl (.int .i64)) p2, .v (.sl (.int .i64)) p3, .v (.sl (.int .i64)) p4, .v (.sl (.int .i64)) p5, .v (.int .i64) p6, .v (.sl (.sl (.int .i64))) p7]]⟩ =
    F83k18.l1_1_1_1_1_1_1_1_1_1_1_0_1_0 k (F83k18.kt k [1, 1, 1, 1, 1, 1, 1, 1, 1, 1, 1, 0, 1, 0]) 0 p0 p1 p2 p3 p4 p5 p6 p7 := by kernel_rfl
theorem F83k18.l1_1_1_1_1_1_1_1_1_1_1_0_1_0_eq (n : Nat) (K : Conts) (p0 : Int) (p1 : Int) (p2 : (List Int)) (p3 : (List Int)) (p4 : (List Int)) (p5 : (List Int)) (p6 : (List Int)) (p7 : Int) (p8 : (List (List Int))) : F83k18.l1_1_1_1_1_1_1_1_1_1_1_0_1_0 (n + 1) K p0 p1 p2 p3 p4 p5 p6 p7 p8 =
    bif decide (p1 = 21) then
      bif decide (p0 < (p4.length : Int)) then
        bif decide (0 ≤ p0) && decide (p0 < p5.length) then
          bif decide (0 ≤ p0) && decide (p0 < p6.length) then
            bif decide ((p5.getD p0.toNat (0 : Int)) > (p6.getD p0.toNat (0 : Int))) then
              K.ret ⟨slots 106 [(2, .v .bool false)], []⟩
            else
              F83k18.l1_1_1_1_1_1_1_1_1_1_1_0_1_0_0_1_0_0_1_1_0 n (F83k18.k_l1_1_1_1_1_1_1_1_1_1_1_0_1_0 n K [1, 0, 0, 1, 1, 0]) p0 0 p1 p2 p3 p4 p5 p6 p7 p8
          else
            none
        else
          none
      else
        exitK K 2 ⟨slots 106 [], []⟩
    else
      exitK K 2 ⟨slots 106 [], []⟩ := by kernel_rfl
theorem F83k18.c3 (k : Nat) : exitK (F83k18.kt k [1, 1, 1, 1, 1, 1, 1, 1, 1, 1, 1, 0, 1, 0]) 2 ⟨slots 106 [], []⟩ =
    some (.v .bool true) := by kernel_rfl
end Go.Proofs.YthdpbmcidebagaaGreatDoor.Ev
