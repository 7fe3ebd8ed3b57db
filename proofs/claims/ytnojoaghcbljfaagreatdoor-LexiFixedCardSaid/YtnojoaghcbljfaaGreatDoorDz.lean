/-
The functions as the evaluator runs them: printed by a program of mine, each equation by kernel_rfl.
Conditions: none.
-/
import Derived.Test.YtnojoaghcbljfaaGreatDoorAa
set_option linter.unusedVariables false
set_option linter.unusedSimpArgs false
set_option maxRecDepth 100000
namespace Go.Proofs.YtnojoaghcbljfaaGreatDoor.Ev
open Go
/-! ### 63k22: jigsaw/jigsawref09.pairs -/
noncomputable def F63k22.fn : Func := Go.Proofs.Tryz.f76
noncomputable def F63k22.body : Code := bodyOf F63k22.fn
noncomputable def F63k22.E : Env := ⟨tt, [], [(1, [1, 2]), (2, [1, 2, 5]), (3, [1, 2, 5, 18]), (4, [1, 2, 5, 6]), (5, [1, 2, 5, 6]), (6, [1, 2, 5, 6]), (7, [1, 2, 5, 6, 7]), (8, [1, 2, 5, 6, 7, 8]), (9, [1, 2, 5, 6, 7, 8, 42]), (10, []), (11, [1, 2, 5]), (12, [1, 2, 5, 9]), (13, [1, 2, 5, 9]), (14, [1, 2, 5, 9]), (15, [1, 2, 5, 9, 10]), (16, [1, 2, 5, 9, 10]), (17, [1, 2, 5, 9, 10]), (18, [1, 2, 5, 9, 10, 11]), (19, [1, 2, 5, 9, 10, 11, 12]), (20, [1, 2, 5, 9, 10, 98]), (21, [])], [(0, []), (1, [1, 2, 5, 6]), (2, []), (3, [1, 2, 5, 9]), (4, [1, 2, 5, 9]), (5, [1, 2, 5, 9, 10])], some [4], inv⟩
noncomputable def F63k22.K0 : Conts := { nrm := endW F63k22.E false F63k22.fn.results.toList, ret := endW F63k22.E false F63k22.fn.results.toList, ex := [] }
noncomputable def F63k22.kt (k : Nat) (q : List Nat) : Conts := contAt F63k22.E k F63k22.body F63k22.K0 q
noncomputable def F63k22.l1_1_0_1_0_0_1_0 (n : Nat) (K : Conts) (p0 : (List Int)) (p1 : Int) (p2 : Int) (p3 : Int) (p4 : (List Int)) (p5 : (List Int)) (p6 : (List Int)) (p7 : (List Int)) (p8 : (List Int)) (p9 : Int) (p10 : (List (List Int))) : Option AV := loopF F63k22.E n (inLoop (subC [1, 1, 0, 1, 0, 0, 1, 0] F63k22.body)) K ⟨slots 99 [(1, .v (.sl (.int .i64)) p0), (2, .pb 0 0), (5, .v (.int .i64) p1), (6, .v (.int .i64) p2)], [.box [.v (.int .i64) p3, .v (.sl (.int .i64)) p4, .v (.sl (.int .i64)) p5, .v (.sl (.int .i64)) p6, .v (.sl (.int .i64)) p7, .v (.sl (.int .i64)) p8, .v (.int .i64) p9, .v (.sl (.sl (.int .i64))) p10]]⟩
theorem F63k22.start_eq (k : Nat) (c : ((List Int) × ((List Int) × ((List Int) × ((List Int) × ((List Int) × (Int × (List (List Int))))))))) (a1 : (List Int)) : callW F63k22.E false F63k22.fn k [.agg [.v (.int .i64) (22 : Int), .v (.sl (.int .i64)) c.1, .v (.sl (.int .i64)) c.2.1, .v (.sl (.int .i64)) c.2.2.1, .v (.sl (.int .i64)) c.2.2.2.1, .v (.sl (.int .i64)) c.2.2.2.2.1, .v (.int .i64) c.2.2.2.2.2.1, .v (.sl (.sl (.int .i64))) c.2.2.2.2.2.2], .v (.sl (.int .i64)) a1] =
    F63k22.l1_1_0_1_0_0_1_0 k (F63k22.kt k [1, 1, 0, 1, 0, 0, 1, 0]) a1 (c.1.length : Int) 0 22 c.1 c.2.1 c.2.2.1 c.2.2.2.1 c.2.2.2.2.1 c.2.2.2.2.2.1 c.2.2.2.2.2.2 := by kernel_rfl
theorem F63k22.l1_1_0_1_0_0_1_0_eq (n : Nat) (K : Conts) (p0 : (List Int)) (p1 : Int) (p2 : Int) (p3 : Int) (p4 : (List Int)) (p5 : (List Int)) (p6 : (List Int)) (p7 : (List Int)) (p8 : (List Int)) (p9 : Int) (p10 : (List (List Int))) : F63k22.l1_1_0_1_0_0_1_0 (n + 1) K p0 p1 p2 p3 p4 p5 p6 p7 p8 p9 p10 =
    bif decide (p2 < p1) then
      bif decide (0 ≤ p2) && decide (p2 < p4.length) then
        bif decide (0 ≤ (p4.getD p2.toNat (0 : Int))) && decide ((p4.getD p2.toNat (0 : Int)) < p0.length) then
          bif decide (0 ≤ p2) && decide (p2 < p5.length) then
            bif decide (0 ≤ (p5.getD p2.toNat (0 : Int))) && decide ((p5.getD p2.toNat (0 : Int)) < p0.length) then
              bif !(decide ((p0.getD ((p4.getD p2.toNat (0 : Int)).toNat) (0 : Int)) = (p0.getD ((p5.getD p2.toNat (0 : Int)).toNat) (0 : Int)))) then
                K.ret ⟨slots 99 [(4, .v .bool (decide ((p0.getD ((p4.getD p2.toNat (0 : Int)).toNat) (0 : Int)) < (p0.getD ((p5.getD p2.toNat (0 : Int)).toNat) (0 : Int)))))], []⟩
              else
                F63k22.l1_1_0_1_0_0_1_0 n K p0 p1 (IntKind.i64.wrap (p2 + 1)) p3 p4 p5 p6 p7 p8 p9 p10
            else
              none
          else
            none
        else
          none
      else
        none
    else
      exitK K 0 ⟨slots 99 [], []⟩ := by kernel_rfl
theorem F63k22.c0 (k : Nat) (p0 : Bool) : (F63k22.kt k [1, 1, 0, 1, 0, 0, 1, 0]).ret ⟨slots 99 [(4, .v .bool p0)], []⟩ =
    some (.v .bool p0) := by kernel_rfl
theorem F63k22.c1 (k : Nat) : exitK (F63k22.kt k [1, 1, 0, 1, 0, 0, 1, 0]) 0 ⟨slots 99 [], []⟩ =
    some (.v .bool true) := by kernel_rfl

/-! ### 28k22: jigsaw/jigsawref09.Holds -/
noncomputable def F28k22.fn : Func := Go.Proofs.Tryz.f36
noncomputable def F28k22.E : Env := ⟨tt, [(76, h_pairC)], [(1, [1, 2]), (2, [1, 2, 9]), (3, [1, 2]), (4, [1, 2, 15]), (5, [1, 2]), (6, [1, 2, 21]), (7, [1, 2]), (8, [1, 2, 26]), (9, [1, 2, 26, 27]), (10, [1, 2, 5]), (11, [1, 2, 5]), (12, [1, 2, 5]), (13, [1, 2, 5, 6]), (14, [1, 2, 5, 6]), (15, [1, 2, 5, 6]), (16, [1, 2, 5, 6, 57]), (17, []), (19, [1, 2, 26, 58]), (21, [1, 2, 26, 63]), (23, [1, 2, 26, 68]), (25, [1, 2, 73]), (26, [1, 2])], [(0, [1, 2]), (1, []), (2, [1, 2, 5]), (3, [1, 2, 5]), (4, [1, 2, 5, 6])], some [4], inv⟩
theorem F28k22.start_eq (k : Nat) (c : ((List Int) × ((List Int) × ((List Int) × ((List Int) × ((List Int) × (Int × (List (List Int))))))))) (a1 : (List Int)) : callW F28k22.E false F28k22.fn k [.agg [.v (.int .i64) (22 : Int), .v (.sl (.int .i64)) c.1, .v (.sl (.int .i64)) c.2.1, .v (.sl (.int .i64)) c.2.2.1, .v (.sl (.int .i64)) c.2.2.2.1, .v (.sl (.int .i64)) c.2.2.2.2.1, .v (.int .i64) c.2.2.2.2.2.1, .v (.sl (.sl (.int .i64))) c.2.2.2.2.2.2], .v (.sl (.int .i64)) a1] =
    bif pairB (22, c) a1 then some (.v .bool (pairC (22, c) a1)) else none := by kernel_rfl

end Go.Proofs.YtnojoaghcbljfaaGreatDoor.Ev
