/-
The functions as the evaluator runs them: printed by a program of mine, each equation by kernel_rfl.
Conditions: none.
-/
import Derived.Test.YtohdaehblenokaaGreatGh
import Derived.Test.YtohdaehblenokaaGreatCf
set_option linter.unusedVariables false
set_option linter.unusedSimpArgs false
set_option maxRecDepth 100000
namespace Go.Proofs.YtohdaehblenokaaGreat.Ev
open Go
noncomputable def F526.fn : Func := Go.Proofs.Tryz.f9
noncomputable def F526.E : Env := ⟨tt, [(7, h_holdsX)], [(1, []), (2, [1]), (3, [1, 2])], [], some [0], inv, []⟩
theorem F526.start_eq (k : Nat)  : callW F526.E false F526.fn k [] =
 bif holdsXB (17, ([0,1,2], ([], ([], ([], ([], ((0 : Int), []))))))) [3,1,2] then
 bif holdsX (17, ([0,1,2], ([], ([], ([], ([], ((0 : Int), []))))))) [3,1,2] then
 bif holdsXB (17, ([0,1,2], ([], ([], ([], ([], ((0 : Int), []))))))) [3,1,3] then
 bif !(holdsX (17, ([0,1,2], ([], ([], ([], ([], ((0 : Int), []))))))) [3,1,3]) then
 bif holdsXB (20, ([0,1,2], ([], ([], ([], ([], ((0 : Int), []))))))) [2,3,1] then
 bif holdsX (20, ([0,1,2], ([], ([], ([], ([], ((0 : Int), []))))))) [2,3,1] then
 bif holdsXB (20, ([0,1,2], ([], ([], ([], ([], ((0 : Int), []))))))) [1,3,2] then
 some (.v .bool (!(holdsX (20, ([0,1,2], ([], ([], ([], ([], ((0 : Int), []))))))) [1,3,2])))
 else
 none
 else
 some (.v .bool false)
 else
 none
 else
 some (.v .bool false)
 else
 none
 else
 some (.v .bool false)
 else
 none := by kernel_rfl
noncomputable def F721.fn : Func := Go.Proofs.Tryz.f5
noncomputable def F721.E : Env := ⟨tt, [], [(1, [0])], [], some [2], inv, []⟩
theorem F721.start_eq (k : Nat) (a0 : List Int) : callW F721.E false F721.fn k [.v (.sl (.int .i64)) a0] =
 bif decide (0 ≤ (if 8 < (a0.length : Int) then 8 else (a0.length : Int))) && decide ((if 8 < (a0.length : Int) then 8 else (a0.length : Int)) ≤ a0.length) then
 some (.v (.sl (.int .i64)) (a0.take ((if 8 < (a0.length : Int) then 8 else (a0.length : Int)).toNat) : (List Int)))
 else
 none := by kernel_rfl
noncomputable def F720.fn : Func := Go.Proofs.Tryz.f3
noncomputable def F720.body : Code := bodyOf F720.fn
noncomputable def F720.E : Env := ⟨tt, [(4, h_conA), (5, h_short721), (6, h_nearL), (7, h_holdsX), (8, h_anyY), (9, h_wakes526)], [(1, [1, 3, 5]), (2, [1, 3, 5]), (3, [1, 5, 7]), (4, [1, 5, 7, 8]), (5, [1, 7, 9]), (6, [1, 48, 49, 50]), (7, [1, 48, 49, 50, 51]), (8, [1, 11, 48, 49, 50]), (9, [1, 11, 48, 49, 50, 59, 60, 61]), (10, [1, 11, 48, 49, 50, 59, 60, 61, 62]), (11, [1, 11, 13, 48, 49, 50, 59, 60, 61]), (12, [1, 11, 48, 49, 50, 59, 60, 61, 71]), (13, [1, 11, 48, 49, 50, 59, 60, 61]), (14, [1, 48, 49, 50]), (15, [])], [(0, []), (1, [1, 48, 49, 50]), (2, [1, 48, 49, 50]), (3, [1, 11, 48, 49, 50, 59, 60, 61])], some [6], inv, []⟩
noncomputable def F720.K0 : Conts := { nrm := endW F720.E false F720.fn.results.toList, ret := endW F720.E false F720.fn.results.toList, ex := [] }
noncomputable def F720.kt (k : Nat) (q : List Nat) : Conts := contAt F720.E k F720.body F720.K0 q
noncomputable def F720.l1_1_1_1_1_0_1_0 (n : Nat) (K : Conts) (p0 : List Int) (p1 p2 : Int) (p3 : List Con) : Option AV := loopF F720.E n (inLoop (subC [1,1,1,1,1,0,1,0] F720.body)) K ⟨slots 75 [(1, .v (.sl (.int .i64)) p0), (48, .own 0), (49, .v (.int .i64) p1), (50, .v (.int .i64) p2)], [.row 30 (.pair (.int .i64) (.pair (.sl (.int .i64)) (.pair (.sl (.int .i64)) (.pair (.sl (.int .i64)) (.pair (.sl (.int .i64)) (.pair (.sl (.int .i64)) (.pair (.int .i64) (.sl (.sl (.int .i64)))))))))) p3]⟩
noncomputable def F720.k_l1_1_1_1_1_0_1_0 (n : Nat) (K : Conts) (q : List Nat) : Conts := contAt F720.E n (inLoop (subC [1, 1, 1, 1, 1, 0, 1, 0] F720.body)) (loopK F720.E n (inLoop (subC [1, 1, 1, 1, 1, 0, 1, 0] F720.body)) K) q
noncomputable def F720.l1_1_1_1_1_0_1_0_0_1_1_0_0_1_1_0 (n : Nat) (K : Conts) (p0 : List Int) (p1 p2 p3 p4 p5 : Int) (p6 p7 p8 p9 p10 : List Int) (p11 : Int) (p12 : List (List Int)) (p13 : List Con) (p14 : List (List Int)) : Option AV := loopF F720.E n (inLoop (subC [1,1,1,1,1,0,1,0,0,1,1,0,0,1,1,0] F720.body)) K ⟨slots 75 [(1, .v (.sl (.int .i64)) p0), (11, .pb 0 0), (48, .own 1), (49, .v (.int .i64) p1), (50, .v (.int .i64) p2), (59, .own 2), (60, .v (.int .i64) p3), (61, .v (.int .i64) p4)], [.box (bC p5 p6 p7 p8 p9 p10 p11 p12), .row 30 (.pair (.int .i64) (.pair (.sl (.int .i64)) (.pair (.sl (.int .i64)) (.pair (.sl (.int .i64)) (.pair (.sl (.int .i64)) (.pair (.sl (.int .i64)) (.pair (.int .i64) (.sl (.sl (.int .i64)))))))))) p13, .row 27 (.sl (.int .i64)) p14]⟩
theorem F720.start_eq (k : Nat) (a0 : Int × ((List Int) × ((List Int) × ((List Int) × (Int × Int))))) (a1 : List Int) (kk : Int) (c : (List Int) × ((List Int) × ((List Int) × ((List Int) × ((List Int) × (Int × (List (List Int)))))))) : callW F720.E false F720.fn k [.agg [.v (.int .u8) a0.1, .v (.sl (.int .u8)) a0.2.1, .v (.sl (.int .u8)) a0.2.2.1, .v (.sl (.int .i8)) a0.2.2.2.1, .v (.int .i16) a0.2.2.2.2.1, .v (.int .u8) a0.2.2.2.2.2], .v (.sl (.int .i64)) a1, .agg (bC kk c.1 c.2.1 c.2.2.1 c.2.2.2.1 c.2.2.2.2.1 c.2.2.2.2.2.1 c.2.2.2.2.2.2)] =
 bif decide (0 ≤ (if 8 < (a1.length : Int) then 8 else (a1.length : Int))) && decide ((if 8 < (a1.length : Int) then 8 else (a1.length : Int)) ≤ a1.length) then
 bif conAB a0 5 then
 F720.l1_1_1_1_1_0_1_0 k (F720.kt k [1,1,1,1,1,0,1,0]) (a1.take ((if 8 < (a1.length : Int) then 8 else (a1.length : Int)).toNat)) ([conA a0 5, (kk, (c.1.take 8, (c.2.1.take 8, (c.2.2.1.take 8, (c.2.2.2.1.take 8, (c.2.2.2.2.1.take 8, (c.2.2.2.2.2.1, [])))))))].length : Int) 0 [conA a0 5, (kk, (c.1.take 8, (c.2.1.take 8, (c.2.2.1.take 8, (c.2.2.2.1.take 8, (c.2.2.2.2.1.take 8, (c.2.2.2.2.2.1, [])))))))]
 else
 none
 else
 none := by kernel_rfl
theorem F720.l1_1_1_1_1_0_1_0_eq (n : Nat) (K : Conts) (p0 : List Int) (p1 p2 : Int) (p3 : List Con) : F720.l1_1_1_1_1_0_1_0 (n + 1) K p0 p1 p2 p3 =
 bif decide (p2 < p1) then
 bif decide (0 ≤ p2) && decide (p2 < p3.length) then
 bif nearLB p0 5 then
 bif nearLB p0 3 then
 F720.l1_1_1_1_1_0_1_0_0_1_1_0_0_1_1_0 n (F720.k_l1_1_1_1_1_0_1_0 n K [1,1,0,0,1,1,0]) p0 p1 p2 ([nearL p0 5, p0, nearL p0 3].length : Int) 0 ((p3.getD p2.toNat ((0 : Int), ([], ([], ([], ([], ([], ((0 : Int), [])))))))).1) (((p3.getD p2.toNat ((0 : Int), ([], ([], ([], ([], ([], ((0 : Int), [])))))))).2).1) ((((p3.getD p2.toNat ((0 : Int), ([], ([], ([], ([], ([], ((0 : Int), [])))))))).2).2).1) (((((p3.getD p2.toNat ((0 : Int), ([], ([], ([], ([], ([], ((0 : Int), [])))))))).2).2).2).1) ((((((p3.getD p2.toNat ((0 : Int), ([], ([], ([], ([], ([], ((0 : Int), [])))))))).2).2).2).2).1) (((((((p3.getD p2.toNat ((0 : Int), ([], ([], ([], ([], ([], ((0 : Int), [])))))))).2).2).2).2).2).1) ((((((((p3.getD p2.toNat ((0 : Int), ([], ([], ([], ([], ([], ((0 : Int), [])))))))).2).2).2).2).2).2).1) ((((((((p3.getD p2.toNat ((0 : Int), ([], ([], ([], ([], ([], ((0 : Int), [])))))))).2).2).2).2).2).2).2) p3 [nearL p0 5, p0, nearL p0 3]
 else
 none
 else
 none
 else
 none
 else
 exitK K 0 ⟨slots 75 [], []⟩ := by kernel_rfl
theorem F720.l1_1_1_1_1_0_1_0_0_1_1_0_0_1_1_0_eq (n : Nat) (K : Conts) (p0 : List Int) (p1 p2 p3 p4 p5 : Int) (p6 p7 p8 p9 p10 : List Int) (p11 : Int) (p12 : List (List Int)) (p13 : List Con) (p14 : List (List Int)) : F720.l1_1_1_1_1_0_1_0_0_1_1_0_0_1_1_0 (n + 1) K p0 p1 p2 p3 p4 p5 p6 p7 p8 p9 p10 p11 p12 p13 p14 =
 bif decide (p4 < p3) then
 bif decide (0 ≤ p4) && decide (p4 < p14.length) then
 bif holdsXB (p5, (p6, (p7, (p8, (p9, (p10, (p11, p12))))))) (p14.getD p4.toNat []) then
 bif anyYB (p5, (p6, (p7, (p8, (p9, (p10, (p11, p12))))))) (p14.getD p4.toNat []) then
 bif !((holdsX (p5, (p6, (p7, (p8, (p9, (p10, (p11, p12))))))) (p14.getD p4.toNat [])) == (anyY (p5, (p6, (p7, (p8, (p9, (p10, (p11, p12))))))) (p14.getD p4.toNat []))) then
 K.ret ⟨slots 75 [(6, .v .bool false)], []⟩
 else
 F720.l1_1_1_1_1_0_1_0_0_1_1_0_0_1_1_0 n K p0 p1 p2 p3 (IntKind.i64.wrap (p4 + 1)) p5 p6 p7 p8 p9 p10 p11 p12 p13 p14
 else
 none
 else
 none
 else
 none
 else
 exitK K 2 ⟨slots 75 [(1, .v (.sl (.int .i64)) p0), (48, .own 0), (49, .v (.int .i64) p1), (50, .v (.int .i64) p2)], [.row 30 (.pair (.int .i64) (.pair (.sl (.int .i64)) (.pair (.sl (.int .i64)) (.pair (.sl (.int .i64)) (.pair (.sl (.int .i64)) (.pair (.sl (.int .i64)) (.pair (.int .i64) (.sl (.sl (.int .i64)))))))))) p13]⟩ := by kernel_rfl
theorem F720.c0 (k : Nat) : exitK (F720.kt k [1,1,1,1,1,0,1,0]) 0 ⟨slots 75 [], []⟩ =
 some (.v .bool true) := by kernel_rfl
theorem F720.c2 (n : Nat) (K : Conts) (p0 : List Int) (p1 p2 : Int) (p3 : List Con) : exitK (F720.k_l1_1_1_1_1_0_1_0 n K [1,1,0,0,1,1,0]) 2 ⟨slots 75 [(1, .v (.sl (.int .i64)) p0), (48, .own 0), (49, .v (.int .i64) p1), (50, .v (.int .i64) p2)], [.row 30 (.pair (.int .i64) (.pair (.sl (.int .i64)) (.pair (.sl (.int .i64)) (.pair (.sl (.int .i64)) (.pair (.sl (.int .i64)) (.pair (.sl (.int .i64)) (.pair (.int .i64) (.sl (.sl (.int .i64)))))))))) p3]⟩ =
 F720.l1_1_1_1_1_0_1_0 n K p0 p1 (IntKind.i64.wrap (p2 + 1)) p3 := by kernel_rfl
end Go.Proofs.YtohdaehblenokaaGreat.Ev
