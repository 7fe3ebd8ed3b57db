/-
The functions as the evaluator runs them: printed by a program of mine, each equation by kernel_rfl.
Conditions: none.
-/
import Derived.Test.YtnojoaghcbljfaaGreatDoorAa
set_option linter.unusedVariables false
set_option linter.unusedSimpArgs false
set_option maxRecDepth 100000
namespace Go.Proofs.YtnojoaghcbljfaaGreatDoor.Ev
open Go
/-! ### 51k22: jigsaw/jigsawref06.Right -/
noncomputable def F51k22.fn : Func := Go.Proofs.Tryz.f64
noncomputable def F51k22.E : Env := ⟨tt, [(65, h_shapes), (101, h_arityD), (102, h_inL), (103, h_coefsD)], [(1, [1, 2]), (2, [1, 2, 17]), (3, [1, 2]), (4, [1, 2, 5]), (5, [1, 2, 6]), (6, [1, 2, 27]), (7, [1, 2]), (8, [1, 2, 7]), (9, [1, 2, 7, 29]), (10, [2, 7]), (11, [2, 7, 8]), (12, [2, 8, 9]), (13, [2, 45]), (14, [2]), (15, [6]), (16, [49]), (17, [])], [], some [4], inv⟩
theorem F51k22.start_eq (k : Nat) (c : ((List Int) × ((List Int) × ((List Int) × ((List Int) × ((List Int) × (Int × (List (List Int))))))))) (a1 : Int) : callW F51k22.E false F51k22.fn k [.agg [.v (.int .i64) (22 : Int), .v (.sl (.int .i64)) c.1, .v (.sl (.int .i64)) c.2.1, .v (.sl (.int .i64)) c.2.2.1, .v (.sl (.int .i64)) c.2.2.2.1, .v (.sl (.int .i64)) c.2.2.2.2.1, .v (.int .i64) c.2.2.2.2.2.1, .v (.sl (.sl (.int .i64))) c.2.2.2.2.2.2], .v (.int .i64) a1] =
    bif decide ((22 : Int) < shapesL.length) then
      bif !(arityD (22, c) ⟨#[86, 87]⟩) then
        some (.v (.int .i64) (10 : Int))
      else
        bif decide (a1 > 0) then
          bif !(inL c.1 0 (IntKind.i64.wrap (a1 - 1))) then
            some (.v (.int .i64) (7 : Int))
          else
            bif !(inL c.2.1 0 (IntKind.i64.wrap (a1 - 1))) then
              some (.v (.int .i64) (7 : Int))
            else
              bif !(coefsD (22, c)) then some (.v (.int .i64) (11 : Int)) else some (.v (.int .i64) (0 : Int))
        else
          bif !(inL c.1 0 (-1 : Int)) then
            some (.v (.int .i64) (7 : Int))
          else
            bif !(inL c.2.1 0 (-1 : Int)) then
              some (.v (.int .i64) (7 : Int))
            else
              bif !(coefsD (22, c)) then some (.v (.int .i64) (11 : Int)) else some (.v (.int .i64) (0 : Int))
    else
      none := by kernel_rfl

/-! ### 83k22: jigsaw/jigsawref06.Coefs -/
noncomputable def F83k22.fn : Func := Go.Proofs.Tryz.f103
noncomputable def F83k22.body : Code := bodyOf F83k22.fn
noncomputable def F83k22.E : Env := ⟨tt, [(102, h_inL)], [(1, [1]), (2, [1, 3]), (3, [1, 3, 4]), (4, [1, 3, 4, 5]), (5, [1, 3, 4, 5, 15]), (6, [1, 3]), (7, [1, 3, 4]), (8, [1, 3, 4, 5]), (9, [1, 3, 4, 5, 18]), (10, [1, 3, 4, 5]), (11, [1, 4, 5, 6]), (12, [1, 4, 5, 6, 7]), (13, [1, 5, 6, 7, 8]), (14, [1, 51]), (15, [1]), (16, [1, 9]), (17, [1, 9]), (18, [1, 9]), (19, [1, 9, 10]), (20, [1, 9, 66]), (21, [1]), (22, [1, 11]), (23, [1, 11]), (24, [1, 11]), (25, [1, 11, 89]), (26, [1, 11]), (27, [1, 11, 12]), (28, [1, 11, 12]), (29, [1, 11, 12]), (30, [1, 11, 12, 105]), (31, [])], [(0, [1]), (1, [1, 9]), (2, []), (3, [1, 11]), (4, [1, 11]), (5, [1, 11, 12])], some [2], inv⟩
noncomputable def F83k22.K0 : Conts := { nrm := endW F83k22.E false F83k22.fn.results.toList, ret := endW F83k22.E false F83k22.fn.results.toList, ex := [] }
noncomputable def F83k22.kt (k : Nat) (q : List Nat) : Conts := contAt F83k22.E k F83k22.body F83k22.K0 q
noncomputable def F83k22.l1_1_1_1_1_1_1_1_1_1_0_1_0 (n : Nat) (K : Conts) (p0 : Int) (p1 : Int) (p2 : (List Int)) (p3 : (List Int)) (p4 : (List Int)) (p5 : (List Int)) (p6 : (List Int)) (p7 : Int) (p8 : (List (List Int))) : Option AV := loopF F83k22.E n (inLoop (subC [1, 1, 1, 1, 1, 1, 1, 1, 1, 1, 0, 1, 0] F83k22.body)) K ⟨slots 106 [(1, .pb 0 0), (9, .v (.int .i64) p0)], [.box [.v (.int .i64) p1, .v (.sl (.int .i64)) p2, .v (.sl (.int .i64)) p3, .v (.sl (.int .i64)) p4, .v (.sl (.int .i64)) p5, .v (.sl (.int .i64)) p6, .v (.int .i64) p7, .v (.sl (.sl (.int .i64))) p8]]⟩
noncomputable def F83k22.l1_1_1_1_1_1_1_1_1_1_1_0_1_0 (n : Nat) (K : Conts) (p0 : Int) (p1 : Int) (p2 : (List Int)) (p3 : (List Int)) (p4 : (List Int)) (p5 : (List Int)) (p6 : (List Int)) (p7 : Int) (p8 : (List (List Int))) : Option AV := loopF F83k22.E n (inLoop (subC [1, 1, 1, 1, 1, 1, 1, 1, 1, 1, 1, 0, 1, 0] F83k22.body)) K ⟨slots 106 [(1, .pb 0 0), (11, .v (.int .i64) p0)], [.box [.v (.int .i64) p1, .v (.sl (.int .i64)) p2, .v (.sl (.int .i64)) p3, .v (.sl (.int .i64)) p4, .v (.sl (.int .i64)) p5, .v (.sl (.int .i64)) p6, .v (.int .i64) p7, .v (.sl (.sl (.int .i64))) p8]]⟩
noncomputable def F83k22.k_l1_1_1_1_1_1_1_1_1_1_1_0_1_0 (n : Nat) (K : Conts) (q : List Nat) : Conts := contAt F83k22.E n (inLoop (subC [1, 1, 1, 1, 1, 1, 1, 1, 1, 1, 1, 0, 1, 0] F83k22.body)) (loopK F83k22.E n (inLoop (subC [1, 1, 1, 1, 1, 1, 1, 1, 1, 1, 1, 0, 1, 0] F83k22.body)) K) q
noncomputable def F83k22.l1_1_1_1_1_1_1_1_1_1_1_0_1_0_0_1_0_0_1_1_0 (n : Nat) (K : Conts) (p0 : Int) (p1 : Int) (p2 : Int) (p3 : (List Int)) (p4 : (List Int)) (p5 : (List Int)) (p6 : (List Int)) (p7 : (List Int)) (p8 : Int) (p9 : (List (List Int))) : Option AV := loopF F83k22.E n (inLoop (subC [1, 1, 1, 1, 1, 1, 1, 1, 1, 1, 1, 0, 1, 0, 0, 1, 0, 0, 1, 1, 0] F83k22.body)) K ⟨slots 106 [(1, .pb 0 0), (11, .v (.int .i64) p0), (12, .v (.int .i64) p1)], [.box [.v (.int .i64) p2, .v (.sl (.int .i64)) p3, .v (.sl (.int .i64)) p4, .v (.sl (.int .i64)) p5, .v (.sl (.int .i64)) p6, .v (.sl (.int .i64)) p7, .v (.int .i64) p8, .v (.sl (.sl (.int .i64))) p9]]⟩
theorem F83k22.start_eq (k : Nat) (c : ((List Int) × ((List Int) × ((List Int) × ((List Int) × ((List Int) × (Int × (List (List Int))))))))) : callW F83k22.E false F83k22.fn k [.agg [.v (.int .i64) (22 : Int), .v (.sl (.int .i64)) c.1, .v (.sl (.int .i64)) c.2.1, .v (.sl (.int .i64)) c.2.2.1, .v (.sl (.int .i64)) c.2.2.2.1, .v (.sl (.int .i64)) c.2.2.2.2.1, .v (.int .i64) c.2.2.2.2.2.1, .v (.sl (.sl (.int .i64))) c.2.2.2.2.2.2]] =
    bif !(inL c.2.2.1 (-1000000 : Int) 1000000) then
      some (.v .bool false)
    else
      bif !(inL c.2.2.2.1 (-1000000 : Int) 1000000) then
        some (.v .bool false)
      else
        bif !(inL c.2.2.2.2.1 (-1000000 : Int) 1000000) then
          some (.v .bool false)
        else
          bif decide (c.2.2.2.2.2.1 < (-9999999999 : Int)) then
            some (.v .bool false)
          else
            bif decide (c.2.2.2.2.2.1 > 9999999999) then
              some (.v .bool false)
            else
              F83k22.l1_1_1_1_1_1_1_1_1_1_0_1_0 k (F83k22.kt k [1, 1, 1, 1, 1, 1, 1, 1, 1, 1, 0, 1, 0]) 0 22 c.1 c.2.1 c.2.2.1 c.2.2.2.1 c.2.2.2.2.1 c.2.2.2.2.2.1 c.2.2.2.2.2.2 := by kernel_rfl
theorem F83k22.l1_1_1_1_1_1_1_1_1_1_0_1_0_eq (n : Nat) (K : Conts) (p0 : Int) (p1 : Int) (p2 : (List Int)) (p3 : (List Int)) (p4 : (List Int)) (p5 : (List Int)) (p6 : (List Int)) (p7 : Int) (p8 : (List (List Int))) : F83k22.l1_1_1_1_1_1_1_1_1_1_0_1_0 (n + 1) K p0 p1 p2 p3 p4 p5 p6 p7 p8 =
    bif decide (p0 < (p8.length : Int)) then
      bif decide (0 ≤ p0) && decide (p0 < p8.length) then
        bif !(inL (p8.getD p0.toNat []) (-1000000 : Int) 1000000) then
          K.ret ⟨slots 106 [(2, .v .bool false)], []⟩
        else
          F83k22.l1_1_1_1_1_1_1_1_1_1_0_1_0 n K (IntKind.i64.wrap (p0 + 1)) p1 p2 p3 p4 p5 p6 p7 p8
      else
        none
    else
      exitK K 0 ⟨slots 106 [(1, .pb 0 0)], [.box [.v (.int .i64) p1, .v (.sl (.int .i64)) p2, .v (.sl (.int .i64)) p3, .v (.sl (.int .i64)) p4, .v (.sl (.int .i64)) p5, .v (.sl (.int .i64)) p6, .v (.int .i64) p7, .v (.sl (.sl (.int .i64))) p8]]⟩ := by kernel_rfl
theorem F83k22.c0 (k : Nat) : (F83k22.kt k [1, 1, 1, 1, 1, 1, 1, 1, 1, 1, 0, 1, 0]).ret ⟨slots 106 [(2, .v .bool false)], []⟩ =
    some (.v .bool false) := by kernel_rfl
theorem F83k22.c1 (k : Nat) (p0 : Int) (p1 : (List Int)) (p2 : (List Int)) (p3 : (List Int)) (p4 : (List Int)) (p5 : (List Int)) (p6 : Int) (p7 : (List (List Int))) : exitK (F83k22.kt k [1, 1, 1, 1, 1, 1, 1, 1, 1, 1, 0, 1, 0]) 0 ⟨slots 106 [(1, .pb 0 0)], [.box [.v (.int .i64) p0, .v (.sl (.int .i64)) p1, .v (.sl (.int .i64)) p2, .v (.sl (.int .i64)) p3, .v (.sl (.int .i64)) p4, .v (.sl (.int .i64)) p5, .v (.int .i64) p6, .v (.sl (.sl (.int .i64))) p7]]⟩ =
    F83k22.l1_1_1_1_1_1_1_1_1_1_1_0_1_0 k (F83k22.kt k [1, 1, 1, 1, 1, 1, 1, 1, 1, 1, 1, 0, 1, 0]) 0 p0 p1 p2 p3 p4 p5 p6 p7 := by kernel_rfl
theorem F83k22.l1_1_1_1_1_1_1_1_1_1_1_0_1_0_eq (n : Nat) (K : Conts) (p0 : Int) (p1 : Int) (p2 : (List Int)) (p3 : (List Int)) (p4 : (List Int)) (p5 : (List Int)) (p6 : (List Int)) (p7 : Int) (p8 : (List (List Int))) : F83k22.l1_1_1_1_1_1_1_1_1_1_1_0_1_0 (n + 1) K p0 p1 p2 p3 p4 p5 p6 p7 p8 =
    bif decide (p1 = 21) then
      bif decide (p0 < (p4.length : Int)) then
        bif decide (0 ≤ p0) && decide (p0 < p5.length) then
          bif decide (0 ≤ p0) && decide (p0 < p6.length) then
            bif decide ((p5.getD p0.toNat (0 : Int)) > (p6.getD p0.toNat (0 : Int))) then
              K.ret ⟨slots 106 [(2, .v .bool false)], []⟩
            else
              F83k22.l1_1_1_1_1_1_1_1_1_1_1_0_1_0_0_1_0_0_1_1_0 n (F83k22.k_l1_1_1_1_1_1_1_1_1_1_1_0_1_0 n K [1, 0, 0, 1, 1, 0]) p0 0 p1 p2 p3 p4 p5 p6 p7 p8
          else
            none
        else
          none
      else
        exitK K 2 ⟨slots 106 [], []⟩
    else
      exitK K 2 ⟨slots 106 [], []⟩ := by kernel_rfl
theorem F83k22.c3 (k : Nat) : exitK (F83k22.kt k [1, 1, 1, 1, 1, 1, 1, 1, 1, 1, 1, 0, 1, 0]) 2 ⟨slots 106 [], []⟩ =
    some (.v .bool true) := by kernel_rfl
end Go.Proofs.YtnojoaghcbljfaaGreatDoor.Ev
