/-
The functions as the evaluator runs them: printed by a program of mine, each equation by kernel_rfl.
Conditions: none.
-/
import Derived.Test.YtnojoaghcbljfaaGreatDoorAa
set_option linter.unusedVariables false
set_option linter.unusedSimpArgs false
set_option maxRecDepth 100000
namespace Go.Proofs.YtnojoaghcbljfaaGreatDoor.Ev
open Go
noncomputable def F469.fn : Func := Go.Proofs.Tryz.f169
noncomputable def F469.E : Env := ⟨tt, [], [(1, [0]), (2, [0, 4]), (3, [0])], [], some [2], inv, []⟩
theorem F469.start_eq (k : Nat) (a0 : List Int) : callW F469.E true F469.fn k [.v (.sl (.int .u64)) a0] =
 bif !(decide (a0.length = 0)) then
 bif decide ((([] : (List Int)).length + a0.length) * 8 ≤ LIM) then some (.nw 81 (.int .u64) ([] ++ a0)) else none
 else
 none := by kernel_rfl
noncomputable def F445g447.fn : Func := Go.Proofs.Tryz.f145
noncomputable def F445g447.body : Code := bodyOf F445g447.fn
noncomputable def F445g447.E : Env := ⟨tt, [(99, h_madeD), (147, h_andK), (169, h_cloneU)], [(1, [1, 2, 4]), (2, [1, 2, 4, 6]), (3, [1, 2, 4, 6, 13, 14, 15]), (4, [1, 2, 4, 6, 13, 14, 15, 16]), (5, [1, 2, 4, 6, 7, 8, 13, 14, 15]), (6, [1, 2, 4, 6, 13, 14, 15]), (7, [2, 4, 6]), (8, [2, 4, 9]), (9, [2, 4, 9, 38]), (11, [2, 4, 9, 45]), (13, [2, 4, 9, 50]), (15, [4, 9, 55]), (16, [4, 9])], [(0, [2, 4, 6]), (1, [1, 2, 4, 6, 13, 14, 15]), (2, [4, 9])], some [4, 5], inv, []⟩
noncomputable def F445g447.K0 : Conts := { nrm := endW F445g447.E false F445g447.fn.results.toList, ret := endW F445g447.E false F445g447.fn.results.toList, ex := [] }
noncomputable def F445g447.kt (k : Nat) (q : List Nat) : Conts := contAt F445g447.E k F445g447.body F445g447.K0 q
noncomputable def F445g447.l1_1_0_1_0 (n : Nat) (K : Conts) (p0 : Int) (p1 : List Int) (p2 p3 p4 p5 p6 p7 : Int) (p8 : List Int) (p9 p10 p11 p12 p13 p14 p15 : Int) (p16 : List Int) : Option AV := loopF F445g447.E n (inLoop (subC [1,1,0,1,0] F445g447.body)) K ⟨slots 70 [(1, .fn 147 [] [.rp [.v (.int .i64) p0, .v (.sl (.int .u64)) p1, .v (.int .i64) p2, .v (.int .i64) p3, .v (.int .i64) p4]]), (2, .pb 0 0), (4, .pb 1 0), (6, .own 2), (13, .own 2), (14, .v (.int .i64) p5), (15, .v (.int .i64) p6)], [.box [.v (.int .i64) p7, .v (.sl (.int .u64)) p8, .v (.int .i64) p9, .v (.int .i64) p10, .v (.int .i64) p11], .box [.v (.int .i64) p12, .nl, .v (.int .i64) p13, .v (.int .i64) p14, .v (.int .i64) p15], .row 81 (.int .u64) p16]⟩
theorem F445g447.start_eq (k : Nat) (a0 z : Dom) : callW F445g447.E false F445g447.fn k [.agg [.v (.int .i64) a0.1, .v (.sl (.int .u64)) a0.2.1, .v (.int .i64) a0.2.2.1, .v (.int .i64) a0.2.2.2.1, .v (.int .i64) a0.2.2.2.2], .fn 147 [] [.rp [.v (.int .i64) z.1, .v (.sl (.int .u64)) z.2.1, .v (.int .i64) z.2.2.1, .v (.int .i64) z.2.2.2.1, .v (.int .i64) z.2.2.2.2]]] =
 bif wordsB a0.2.1 then
 F445g447.l1_1_0_1_0 k (F445g447.kt k [1,1,0,1,0]) z.1 z.2.1 z.2.2.1 z.2.2.2.1 z.2.2.2.2 (a0.2.1.length : Int) 0 a0.1 a0.2.1 a0.2.2.1 a0.2.2.2.1 a0.2.2.2.2 (0 : Int) (0 : Int) (0 : Int) (0 : Int) a0.2.1
 else
 none := by kernel_rfl
theorem F445g447.l1_1_0_1_0_eq (n : Nat) (K : Conts) (p0 : Int) (p1 : List Int) (p2 p3 p4 p5 p6 p7 : Int) (p8 : List Int) (p9 p10 p11 p12 p13 p14 p15 : Int) (p16 : List Int) : F445g447.l1_1_0_1_0 (n + 1) K p0 p1 p2 p3 p4 p5 p6 p7 p8 p9 p10 p11 p12 p13 p14 p15 p16 =
 bif decide (p6 < p5) then
 bif decide (0 ≤ p6) && decide (p6 < p16.length) then
 bif andKB (p0, (p1, (p2, (p3, p4)))) (IntKind.i64.wrap (p7 + (IntKind.i64.wrap (64 * p6)))) then
 bif decide (0 ≤ p6) && decide (p6 < p16.length) then
 F445g447.l1_1_0_1_0 n K p0 p1 p2 p3 p4 p5 (IntKind.i64.wrap (p6 + 1)) p7 p8 p9 p10 p11 p12 p13 p14 p15 (p16.set p6.toNat (bitsW .and .u64 (p16.getD p6.toNat (0 : Int)) (andK (p0, (p1, (p2, (p3, p4)))) (IntKind.i64.wrap (p7 + (IntKind.i64.wrap (64 * p6)))) (p16.getD p6.toNat (0 : Int)))))
 else
 none
 else
 none
 else
 none
 else
 exitK K 0 ⟨slots 70 [(2, .pb 0 0), (4, .pb 1 0), (6, .own 2)], [.box [.v (.int .i64) p7, .v (.sl (.int .u64)) p8, .v (.int .i64) p9, .v (.int .i64) p10, .v (.int .i64) p11], .box [.v (.int .i64) p12, .nl, .v (.int .i64) p13, .v (.int .i64) p14, .v (.int .i64) p15], .row 81 (.int .u64) p16]⟩ := by kernel_rfl
theorem F445g447.c0 (k : Nat) (p0 : Int) (p1 : List Int) (p2 p3 p4 p5 p6 p7 p8 : Int) (p9 : List Int) : exitK (F445g447.kt k [1,1,0,1,0]) 0 ⟨slots 70 [(2, .pb 0 0), (4, .pb 1 0), (6, .own 2)], [.box [.v (.int .i64) p0, .v (.sl (.int .u64)) p1, .v (.int .i64) p2, .v (.int .i64) p3, .v (.int .i64) p4], .box [.v (.int .i64) p5, .nl, .v (.int .i64) p6, .v (.int .i64) p7, .v (.int .i64) p8], .row 81 (.int .u64) p9]⟩ =
 bif p9.all uB then
 bif decide ((((((madeD p0 p9).2).2).2).2) = p4) then
 some (.tup [.agg [.v (.int .i64) p0, .v (.sl (.int .u64)) p1, .v (.int .i64) p2, .v (.int .i64) p3, .v (.int .i64) p4], .v (.int .i64) (0 : Int)])
 else
 bif decide ((((((madeD p0 p9).2).2).2).2) = 0) then
 some (.tup [.agg [.v (.int .i64) (0 : Int), .nl, .v (.int .i64) (0 : Int), .v (.int .i64) (0 : Int), .v (.int .i64) (0 : Int)], .v (.int .i64) (4 : Int)])
 else
 bif decide ((((((madeD p0 p9).2).2).2).2) = 1) then
 some (.tup [.agg [.v (.int .i64) ((madeD p0 p9).1), .v (.sl (.int .u64)) (((madeD p0 p9).2).1), .v (.int .i64) ((((madeD p0 p9).2).2).1), .v (.int .i64) (((((madeD p0 p9).2).2).2).1), .v (.int .i64) (((((madeD p0 p9).2).2).2).2)], .v (.int .i64) (3 : Int)])
 else
 bif !(decide (((((madeD p0 p9).2).2).1) = p2)) then
 some (.tup [.agg [.v (.int .i64) ((madeD p0 p9).1), .v (.sl (.int .u64)) (((madeD p0 p9).2).1), .v (.int .i64) ((((madeD p0 p9).2).2).1), .v (.int .i64) (((((madeD p0 p9).2).2).2).1), .v (.int .i64) (((((madeD p0 p9).2).2).2).2)], .v (.int .i64) (2 : Int)])
 else
 bif !(decide ((((((madeD p0 p9).2).2).2).1) = p3)) then
 some (.tup [.agg [.v (.int .i64) ((madeD p0 p9).1), .v (.sl (.int .u64)) (((madeD p0 p9).2).1), .v (.int .i64) ((((madeD p0 p9).2).2).1), .v (.int .i64) (((((madeD p0 p9).2).2).2).1), .v (.int .i64) (((((madeD p0 p9).2).2).2).2)], .v (.int .i64) (2 : Int)])
 else
 some (.tup [.agg [.v (.int .i64) ((madeD p0 p9).1), .v (.sl (.int .u64)) (((madeD p0 p9).2).1), .v (.int .i64) ((((madeD p0 p9).2).2).1), .v (.int .i64) (((((madeD p0 p9).2).2).2).1), .v (.int .i64) (((((madeD p0 p9).2).2).2).2)], .v (.int .i64) (1 : Int)])
 else
 none := by kernel_rfl
noncomputable def F445g446.fn : Func := Go.Proofs.Tryz.f145
noncomputable def F445g446.body : Code := bodyOf F445g446.fn
noncomputable def F445g446.E : Env := ⟨tt, [(99, h_madeD), (146, h_noK), (169, h_cloneU)], [(1, [1, 2, 4]), (2, [1, 2, 4, 6]), (3, [1, 2, 4, 6, 13, 14, 15]), (4, [1, 2, 4, 6, 13, 14, 15, 16]), (5, [1, 2, 4, 6, 7, 8, 13, 14, 15]), (6, [1, 2, 4, 6, 13, 14, 15]), (7, [2, 4, 6]), (8, [2, 4, 9]), (9, [2, 4, 9, 38]), (11, [2, 4, 9, 45]), (13, [2, 4, 9, 50]), (15, [4, 9, 55]), (16, [4, 9])], [(0, [2, 4, 6]), (1, [1, 2, 4, 6, 13, 14, 15]), (2, [4, 9])], some [4, 5], inv, []⟩
noncomputable def F445g446.K0 : Conts := { nrm := endW F445g446.E false F445g446.fn.results.toList, ret := endW F445g446.E false F445g446.fn.results.toList, ex := [] }
noncomputable def F445g446.kt (k : Nat) (q : List Nat) : Conts := contAt F445g446.E k F445g446.body F445g446.K0 q
noncomputable def F445g446.l1_1_0_1_0 (n : Nat) (K : Conts) (p0 p1 p2 p3 : Int) (p4 : List Int) (p5 p6 p7 p8 p9 p10 p11 : Int) (p12 : List Int) : Option AV := loopF F445g446.E n (inLoop (subC [1,1,0,1,0] F445g446.body)) K ⟨slots 70 [(1, .fn 146 [] [.rp [.v (.int .i64) p0]]), (2, .pb 0 0), (4, .pb 1 0), (6, .own 2), (13, .own 2), (14, .v (.int .i64) p1), (15, .v (.int .i64) p2)], [.box [.v (.int .i64) p3, .v (.sl (.int .u64)) p4, .v (.int .i64) p5, .v (.int .i64) p6, .v (.int .i64) p7], .box [.v (.int .i64) p8, .nl, .v (.int .i64) p9, .v (.int .i64) p10, .v (.int .i64) p11], .row 81 (.int .u64) p12]⟩
theorem F445g446.start_eq (k : Nat) (a0 : Dom) (z : Int) : callW F445g446.E false F445g446.fn k [.agg [.v (.int .i64) a0.1, .v (.sl (.int .u64)) a0.2.1, .v (.int .i64) a0.2.2.1, .v (.int .i64) a0.2.2.2.1, .v (.int .i64) a0.2.2.2.2], .fn 146 [] [.rp [.v (.int .i64) z]]] =
 bif wordsB a0.2.1 then
 F445g446.l1_1_0_1_0 k (F445g446.kt k [1,1,0,1,0]) z (a0.2.1.length : Int) 0 a0.1 a0.2.1 a0.2.2.1 a0.2.2.2.1 a0.2.2.2.2 (0 : Int) (0 : Int) (0 : Int) (0 : Int) a0.2.1
 else
 none := by kernel_rfl
theorem F445g446.l1_1_0_1_0_eq (n : Nat) (K : Conts) (p0 p1 p2 p3 : Int) (p4 : List Int) (p5 p6 p7 p8 p9 p10 p11 : Int) (p12 : List Int) : F445g446.l1_1_0_1_0 (n + 1) K p0 p1 p2 p3 p4 p5 p6 p7 p8 p9 p10 p11 p12 =
 bif decide (p2 < p1) then
 bif decide (0 ≤ p2) && decide (p2 < p12.length) then
 bif noKB p0 (IntKind.i64.wrap (p3 + (IntKind.i64.wrap (64 * p2)))) then
 bif decide (0 ≤ p2) && decide (p2 < p12.length) then
 F445g446.l1_1_0_1_0 n K p0 p1 (IntKind.i64.wrap (p2 + 1)) p3 p4 p5 p6 p7 p8 p9 p10 p11 (p12.set p2.toNat (bitsW .and .u64 (p12.getD p2.toNat (0 : Int)) (noK p0 (IntKind.i64.wrap (p3 + (IntKind.i64.wrap (64 * p2)))) (p12.getD p2.toNat (0 : Int)))))
 else
 none
 else
 none
 else
 none
 else
 exitK K 0 ⟨slots 70 [(2, .pb 0 0), (4, .pb 1 0), (6, .own 2)], [.box [.v (.int .i64) p3, .v (.sl (.int .u64)) p4, .v (.int .i64) p5, .v (.int .i64) p6, .v (.int .i64) p7], .box [.v (.int .i64) p8, .nl, .v (.int .i64) p9, .v (.int .i64) p10, .v (.int .i64) p11], .row 81 (.int .u64) p12]⟩ := by kernel_rfl
theorem F445g446.c0 (k : Nat) (p0 : Int) (p1 : List Int) (p2 p3 p4 p5 p6 p7 p8 : Int) (p9 : List Int) : exitK (F445g446.kt k [1,1,0,1,0]) 0 ⟨slots 70 [(2, .pb 0 0), (4, .pb 1 0), (6, .own 2)], [.box [.v (.int .i64) p0, .v (.sl (.int .u64)) p1, .v (.int .i64) p2, .v (.int .i64) p3, .v (.int .i64) p4], .box [.v (.int .i64) p5, .nl, .v (.int .i64) p6, .v (.int .i64) p7, .v (.int .i64) p8], .row 81 (.int .u64) p9]⟩ =
 bif p9.all uB then
 bif decide ((((((madeD p0 p9).2).2).2).2) = p4) then
 some (.tup [.agg [.v (.int .i64) p0, .v (.sl (.int .u64)) p1, .v (.int .i64) p2, .v (.int .i64) p3, .v (.int .i64) p4], .v (.int .i64) (0 : Int)])
 else
 bif decide ((((((madeD p0 p9).2).2).2).2) = 0) then
 some (.tup [.agg [.v (.int .i64) (0 : Int), .nl, .v (.int .i64) (0 : Int), .v (.int .i64) (0 : Int), .v (.int .i64) (0 : Int)], .v (.int .i64) (4 : Int)])
 else
 bif decide ((((((madeD p0 p9).2).2).2).2) = 1) then
 some (.tup [.agg [.v (.int .i64) ((madeD p0 p9).1), .v (.sl (.int .u64)) (((madeD p0 p9).2).1), .v (.int .i64) ((((madeD p0 p9).2).2).1), .v (.int .i64) (((((madeD p0 p9).2).2).2).1), .v (.int .i64) (((((madeD p0 p9).2).2).2).2)], .v (.int .i64) (3 : Int)])
 else
 bif !(decide (((((madeD p0 p9).2).2).1) = p2)) then
 some (.tup [.agg [.v (.int .i64) ((madeD p0 p9).1), .v (.sl (.int .u64)) (((madeD p0 p9).2).1), .v (.int .i64) ((((madeD p0 p9).2).2).1), .v (.int .i64) (((((madeD p0 p9).2).2).2).1), .v (.int .i64) (((((madeD p0 p9).2).2).2).2)], .v (.int .i64) (2 : Int)])
 else
 bif !(decide ((((((madeD p0 p9).2).2).2).1) = p3)) then
 some (.tup [.agg [.v (.int .i64) ((madeD p0 p9).1), .v (.sl (.int .u64)) (((madeD p0 p9).2).1), .v (.int .i64) ((((madeD p0 p9).2).2).1), .v (.int .i64) (((((madeD p0 p9).2).2).2).1), .v (.int .i64) (((((madeD p0 p9).2).2).2).2)], .v (.int .i64) (2 : Int)])
 else
 some (.tup [.agg [.v (.int .i64) ((madeD p0 p9).1), .v (.sl (.int .u64)) (((madeD p0 p9).2).1), .v (.int .i64) ((((madeD p0 p9).2).2).1), .v (.int .i64) (((((madeD p0 p9).2).2).2).1), .v (.int .i64) (((((madeD p0 p9).2).2).2).2)], .v (.int .i64) (1 : Int)])
 else
 none := by kernel_rfl
noncomputable def F445g466.fn : Func := Go.Proofs.Tryz.f145
noncomputable def F445g466.body : Code := bodyOf F445g466.fn
noncomputable def F445g466.E : Env := ⟨tt, [(99, h_madeD), (166, h_mostK), (169, h_cloneU)], [(1, [1, 2, 4]), (2, [1, 2, 4, 6]), (3, [1, 2, 4, 6, 13, 14, 15]), (4, [1, 2, 4, 6, 13, 14, 15, 16]), (5, [1, 2, 4, 6, 7, 8, 13, 14, 15]), (6, [1, 2, 4, 6, 13, 14, 15]), (7, [2, 4, 6]), (8, [2, 4, 9]), (9, [2, 4, 9, 38]), (11, [2, 4, 9, 45]), (13, [2, 4, 9, 50]), (15, [4, 9, 55]), (16, [4, 9])], [(0, [2, 4, 6]), (1, [1, 2, 4, 6, 13, 14, 15]), (2, [4, 9])], some [4, 5], inv, []⟩
noncomputable def F445g466.K0 : Conts := { nrm := endW F445g466.E false F445g466.fn.results.toList, ret := endW F445g466.E false F445g466.fn.results.toList, ex := [] }
noncomputable def F445g466.kt (k : Nat) (q : List Nat) : Conts := contAt F445g466.E k F445g466.body F445g466.K0 q
noncomputable def F445g466.l1_1_0_1_0 (n : Nat) (K : Conts) (p0 p1 p2 p3 : Int) (p4 : List Int) (p5 p6 p7 p8 p9 p10 p11 : Int) (p12 : List Int) : Option AV := loopF F445g466.E n (inLoop (subC [1,1,0,1,0] F445g466.body)) K ⟨slots 70 [(1, .fn 166 [] [.rp [.v (.int .i64) p0]]), (2, .pb 0 0), (4, .pb 1 0), (6, .own 2), (13, .own 2), (14, .v (.int .i64) p1), (15, .v (.int .i64) p2)], [.box [.v (.int .i64) p3, .v (.sl (.int .u64)) p4, .v (.int .i64) p5, .v (.int .i64) p6, .v (.int .i64) p7], .box [.v (.int .i64) p8, .nl, .v (.int .i64) p9, .v (.int .i64) p10, .v (.int .i64) p11], .row 81 (.int .u64) p12]⟩
theorem F445g466.start_eq (k : Nat) (a0 : Dom) (z : Int) : callW F445g466.E false F445g466.fn k [.agg [.v (.int .i64) a0.1, .v (.sl (.int .u64)) a0.2.1, .v (.int .i64) a0.2.2.1, .v (.int .i64) a0.2.2.2.1, .v (.int .i64) a0.2.2.2.2], .fn 166 [] [.rp [.v (.int .i64) z]]] =
 bif wordsB a0.2.1 then
 F445g466.l1_1_0_1_0 k (F445g466.kt k [1,1,0,1,0]) z (a0.2.1.length : Int) 0 a0.1 a0.2.1 a0.2.2.1 a0.2.2.2.1 a0.2.2.2.2 (0 : Int) (0 : Int) (0 : Int) (0 : Int) a0.2.1
 else
 none := by kernel_rfl
theorem F445g466.l1_1_0_1_0_eq (n : Nat) (K : Conts) (p0 p1 p2 p3 : Int) (p4 : List Int) (p5 p6 p7 p8 p9 p10 p11 : Int) (p12 : List Int) : F445g466.l1_1_0_1_0 (n + 1) K p0 p1 p2 p3 p4 p5 p6 p7 p8 p9 p10 p11 p12 =
 bif decide (p2 < p1) then
 bif decide (0 ≤ p2) && decide (p2 < p12.length) then
 bif mostKB p0 (IntKind.i64.wrap (p3 + (IntKind.i64.wrap (64 * p2)))) then
 bif decide (0 ≤ p2) && decide (p2 < p12.length) then
 F445g466.l1_1_0_1_0 n K p0 p1 (IntKind.i64.wrap (p2 + 1)) p3 p4 p5 p6 p7 p8 p9 p10 p11 (p12.set p2.toNat (bitsW .and .u64 (p12.getD p2.toNat (0 : Int)) (mostK p0 (IntKind.i64.wrap (p3 + (IntKind.i64.wrap (64 * p2)))) (p12.getD p2.toNat (0 : Int)))))
 else
 none
 else
 none
 else
 none
 else
 exitK K 0 ⟨slots 70 [(2, .pb 0 0), (4, .pb 1 0), (6, .own 2)], [.box [.v (.int .i64) p3, .v (.sl (.int .u64)) p4, .v (.int .i64) p5, .v (.int .i64) p6, .v (.int .i64) p7], .box [.v (.int .i64) p8, .nl, .v (.int .i64) p9, .v (.int .i64) p10, .v (.int .i64) p11], .row 81 (.int .u64) p12]⟩ := by kernel_rfl
theorem F445g466.c0 (k : Nat) (p0 : Int) (p1 : List Int) (p2 p3 p4 p5 p6 p7 p8 : Int) (p9 : List Int) : exitK (F445g466.kt k [1,1,0,1,0]) 0 ⟨slots 70 [(2, .pb 0 0), (4, .pb 1 0), (6, .own 2)], [.box [.v (.int .i64) p0, .v (.sl (.int .u64)) p1, .v (.int .i64) p2, .v (.int .i64) p3, .v (.int .i64) p4], .box [.v (.int .i64) p5, .nl, .v (.int .i64) p6, .v (.int .i64) p7, .v (.int .i64) p8], .row 81 (.int .u64) p9]⟩ =
 bif p9.all uB then
 bif decide ((((((madeD p0 p9).2).2).2).2) = p4) then
 some (.tup [.agg [.v (.int .i64) p0, .v (.sl (.int .u64)) p1, .v (.int .i64) p2, .v (.int .i64) p3, .v (.int .i64) p4], .v (.int .i64) (0 : Int)])
 else
 bif decide ((((((madeD p0 p9).2).2).2).2) = 0) then
 some (.tup [.agg [.v (.int .i64) (0 : Int), .nl, .v (.int .i64) (0 : Int), .v (.int .i64) (0 : Int), .v (.int .i64) (0 : Int)], .v (.int .i64) (4 : Int)])
 else
 bif decide ((((((madeD p0 p9).2).2).2).2) = 1) then
 some (.tup [.agg [.v (.int .i64) ((madeD p0 p9).1), .v (.sl (.int .u64)) (((madeD p0 p9).2).1), .v (.int .i64) ((((madeD p0 p9).2).2).1), .v (.int .i64) (((((madeD p0 p9).2).2).2).1), .v (.int .i64) (((((madeD p0 p9).2).2).2).2)], .v (.int .i64) (3 : Int)])
 else
 bif !(decide (((((madeD p0 p9).2).2).1) = p2)) then
 some (.tup [.agg [.v (.int .i64) ((madeD p0 p9).1), .v (.sl (.int .u64)) (((madeD p0 p9).2).1), .v (.int .i64) ((((madeD p0 p9).2).2).1), .v (.int .i64) (((((madeD p0 p9).2).2).2).1), .v (.int .i64) (((((madeD p0 p9).2).2).2).2)], .v (.int .i64) (2 : Int)])
 else
 bif !(decide ((((((madeD p0 p9).2).2).2).1) = p3)) then
 some (.tup [.agg [.v (.int .i64) ((madeD p0 p9).1), .v (.sl (.int .u64)) (((madeD p0 p9).2).1), .v (.int .i64) ((((madeD p0 p9).2).2).1), .v (.int .i64) (((((madeD p0 p9).2).2).2).1), .v (.int .i64) (((((madeD p0 p9).2).2).2).2)], .v (.int .i64) (2 : Int)])
 else
 some (.tup [.agg [.v (.int .i64) ((madeD p0 p9).1), .v (.sl (.int .u64)) (((madeD p0 p9).2).1), .v (.int .i64) ((((madeD p0 p9).2).2).1), .v (.int .i64) (((((madeD p0 p9).2).2).2).1), .v (.int .i64) (((((madeD p0 p9).2).2).2).2)], .v (.int .i64) (1 : Int)])
 else
 none := by kernel_rfl
noncomputable def F445g468.fn : Func := Go.Proofs.Tryz.f145
noncomputable def F445g468.body : Code := bodyOf F445g468.fn
noncomputable def F445g468.E : Env := ⟨tt, [(99, h_madeD), (168, h_leastK), (169, h_cloneU)], [(1, [1, 2, 4]), (2, [1, 2, 4, 6]), (3, [1, 2, 4, 6, 13, 14, 15]), (4, [1, 2, 4, 6, 13, 14, 15, 16]), (5, [1, 2, 4, 6, 7, 8, 13, 14, 15]), (6, [1, 2, 4, 6, 13, 14, 15]), (7, [2, 4, 6]), (8, [2, 4, 9]), (9, [2, 4, 9, 38]), (11, [2, 4, 9, 45]), (13, [2, 4, 9, 50]), (15, [4, 9, 55]), (16, [4, 9])], [(0, [2, 4, 6]), (1, [1, 2, 4, 6, 13, 14, 15]), (2, [4, 9])], some [4, 5], inv, []⟩
noncomputable def F445g468.K0 : Conts := { nrm := endW F445g468.E false F445g468.fn.results.toList, ret := endW F445g468.E false F445g468.fn.results.toList, ex := [] }
noncomputable def F445g468.kt (k : Nat) (q : List Nat) : Conts := contAt F445g468.E k F445g468.body F445g468.K0 q
noncomputable def F445g468.l1_1_0_1_0 (n : Nat) (K : Conts) (p0 p1 p2 p3 : Int) (p4 : List Int) (p5 p6 p7 p8 p9 p10 p11 : Int) (p12 : List Int) : Option AV := loopF F445g468.E n (inLoop (subC [1,1,0,1,0] F445g468.body)) K ⟨slots 70 [(1, .fn 168 [] [.rp [.v (.int .i64) p0]]), (2, .pb 0 0), (4, .pb 1 0), (6, .own 2), (13, .own 2), (14, .v (.int .i64) p1), (15, .v (.int .i64) p2)], [.box [.v (.int .i64) p3, .v (.sl (.int .u64)) p4, .v (.int .i64) p5, .v (.int .i64) p6, .v (.int .i64) p7], .box [.v (.int .i64) p8, .nl, .v (.int .i64) p9, .v (.int .i64) p10, .v (.int .i64) p11], .row 81 (.int .u64) p12]⟩
theorem F445g468.start_eq (k : Nat) (a0 : Dom) (z : Int) : callW F445g468.E false F445g468.fn k [.agg [.v (.int .i64) a0.1, .v (.sl (.int .u64)) a0.2.1, .v (.int .i64) a0.2.2.1, .v (.int .i64) a0.2.2.2.1, .v (.int .i64) a0.2.2.2.2], .fn 168 [] [.rp [.v (.int .i64) z]]] =
 bif wordsB a0.2.1 then
 F445g468.l1_1_0_1_0 k (F445g468.kt k [1,1,0,1,0]) z (a0.2.1.length : Int) 0 a0.1 a0.2.1 a0.2.2.1 a0.2.2.2.1 a0.2.2.2.2 (0 : Int) (0 : Int) (0 : Int) (0 : Int) a0.2.1
 else
 none := by kernel_rfl
theorem F445g468.l1_1_0_1_0_eq (n : Nat) (K : Conts) (p0 p1 p2 p3 : Int) (p4 : List Int) (p5 p6 p7 p8 p9 p10 p11 : Int) (p12 : List Int) : F445g468.l1_1_0_1_0 (n + 1) K p0 p1 p2 p3 p4 p5 p6 p7 p8 p9 p10 p11 p12 =
 bif decide (p2 < p1) then
 bif decide (0 ≤ p2) && decide (p2 < p12.length) then
 bif leastKB p0 (IntKind.i64.wrap (p3 + (IntKind.i64.wrap (64 * p2)))) then
 bif decide (0 ≤ p2) && decide (p2 < p12.length) then
 F445g468.l1_1_0_1_0 n K p0 p1 (IntKind.i64.wrap (p2 + 1)) p3 p4 p5 p6 p7 p8 p9 p10 p11 (p12.set p2.toNat (bitsW .and .u64 (p12.getD p2.toNat (0 : Int)) (leastK p0 (IntKind.i64.wrap (p3 + (IntKind.i64.wrap (64 * p2)))) (p12.getD p2.toNat (0 : Int)))))
 else
 none
 else
 none
 else
 none
 else
 exitK K 0 ⟨slots 70 [(2, .pb 0 0), (4, .pb 1 0), (6, .own 2)], [.box [.v (.int .i64) p3, .v (.sl (.int .u64)) p4, .v (.int .i64) p5, .v (.int .i64) p6, .v (.int .i64) p7], .box [.v (.int .i64) p8, .nl, .v (.int .i64) p9, .v (.int .i64) p10, .v (.int .i64) p11], .row 81 (.int .u64) p12]⟩ := by kernel_rfl
theorem F445g468.c0 (k : Nat) (p0 : Int) (p1 : List Int) (p2 p3 p4 p5 p6 p7 p8 : Int) (p9 : List Int) : exitK (F445g468.kt k [1,1,0,1,0]) 0 ⟨slots 70 [(2, .pb 0 0), (4, .pb 1 0), (6, .own 2)], [.box [.v (.int .i64) p0, .v (.sl (.int .u64)) p1, .v (.int .i64) p2, .v (.int .i64) p3, .v (.int .i64) p4], .box [.v (.int .i64) p5, .nl, .v (.int .i64) p6, .v (.int .i64) p7, .v (.int .i64) p8], .row 81 (.int .u64) p9]⟩ =
 bif p9.all uB then
 bif decide ((((((madeD p0 p9).2).2).2).2) = p4) then
 some (.tup [.agg [.v (.int .i64) p0, .v (.sl (.int .u64)) p1, .v (.int .i64) p2, .v (.int .i64) p3, .v (.int .i64) p4], .v (.int .i64) (0 : Int)])
 else
 bif decide ((((((madeD p0 p9).2).2).2).2) = 0) then
 some (.tup [.agg [.v (.int .i64) (0 : Int), .nl, .v (.int .i64) (0 : Int), .v (.int .i64) (0 : Int), .v (.int .i64) (0 : Int)], .v (.int .i64) (4 : Int)])
 else
 bif decide ((((((madeD p0 p9).2).2).2).2) = 1) then
 some (.tup [.agg [.v (.int .i64) ((madeD p0 p9).1), .v (.sl (.int .u64)) (((madeD p0 p9).2).1), .v (.int .i64) ((((madeD p0 p9).2).2).1), .v (.int .i64) (((((madeD p0 p9).2).2).2).1), .v (.int .i64) (((((madeD p0 p9).2).2).2).2)], .v (.int .i64) (3 : Int)])
 else
 bif !(decide (((((madeD p0 p9).2).2).1) = p2)) then
 some (.tup [.agg [.v (.int .i64) ((madeD p0 p9).1), .v (.sl (.int .u64)) (((madeD p0 p9).2).1), .v (.int .i64) ((((madeD p0 p9).2).2).1), .v (.int .i64) (((((madeD p0 p9).2).2).2).1), .v (.int .i64) (((((madeD p0 p9).2).2).2).2)], .v (.int .i64) (2 : Int)])
 else
 bif !(decide ((((((madeD p0 p9).2).2).2).1) = p3)) then
 some (.tup [.agg [.v (.int .i64) ((madeD p0 p9).1), .v (.sl (.int .u64)) (((madeD p0 p9).2).1), .v (.int .i64) ((((madeD p0 p9).2).2).1), .v (.int .i64) (((((madeD p0 p9).2).2).2).1), .v (.int .i64) (((((madeD p0 p9).2).2).2).2)], .v (.int .i64) (2 : Int)])
 else
 some (.tup [.agg [.v (.int .i64) ((madeD p0 p9).1), .v (.sl (.int .u64)) (((madeD p0 p9).2).1), .v (.int .i64) ((((madeD p0 p9).2).2).1), .v (.int .i64) (((((madeD p0 p9).2).2).2).1), .v (.int .i64) (((((madeD p0 p9).2).2).2).2)], .v (.int .i64) (1 : Int)])
 else
 none := by kernel_rfl
noncomputable def F447.fn : Func := Go.Proofs.Tryz.f147
noncomputable def F447.E : Env := ⟨tt, [(53, h_wordD)], [(1, [0, 2])], [], some [5], inv, []⟩
theorem F447.start_eq (k : Nat) (a0 a1 : Int) (z : Dom) : callW F447.E false F447.fn k [.v (.int .i64) a0, .v (.int .u64) a1, .rp [.v (.int .i64) z.1, .v (.sl (.int .u64)) z.2.1, .v (.int .i64) z.2.2.1, .v (.int .i64) z.2.2.2.1, .v (.int .i64) z.2.2.2.2]] =
 bif wordB z a0 then some (.v (.int .u64) (wordD z a0)) else none := by kernel_rfl
noncomputable def F412.fn : Func := Go.Proofs.Tryz.f112
noncomputable def F412.E : Env := ⟨tt, [(145, h_less)], [(1, [2, 3, 4])], [], some [4, 5], inv, []⟩
theorem F412.start_eq (k : Nat) (a0 a1 : Dom) : callW F412.E false F412.fn k [.agg [.v (.int .i64) a0.1, .v (.sl (.int .u64)) a0.2.1, .v (.int .i64) a0.2.2.1, .v (.int .i64) a0.2.2.2.1, .v (.int .i64) a0.2.2.2.2], .agg [.v (.int .i64) a1.1, .v (.sl (.int .u64)) a1.2.1, .v (.int .i64) a1.2.2.1, .v (.int .i64) a1.2.2.2.1, .v (.int .i64) a1.2.2.2.2]] =
 bif cutB a0 (andKB a1) then
 some (.tup [.agg [.v (.int .i64) (((cutD a0 (andK a1)).1).1), .v (.sl (.int .u64)) ((((cutD a0 (andK a1)).1).2).1), .v (.int .i64) (((((cutD a0 (andK a1)).1).2).2).1), .v (.int .i64) ((((((cutD a0 (andK a1)).1).2).2).2).1), .v (.int .i64) ((((((cutD a0 (andK a1)).1).2).2).2).2)], .v (.int .i64) ((cutD a0 (andK a1)).2)])
 else
 none := by kernel_rfl
noncomputable def F362.fn : Func := Go.Proofs.Tryz.f62
noncomputable def F362.E : Env := ⟨tt, [], [(1, [1])], [], some [2], inv, []⟩
theorem F362.start_eq (k : Nat) (a0 : Dom) : callW F362.E false F362.fn k [.agg [.v (.int .i64) a0.1, .v (.sl (.int .u64)) a0.2.1, .v (.int .i64) a0.2.2.1, .v (.int .i64) a0.2.2.2.1, .v (.int .i64) a0.2.2.2.2]] =
 some (.v (.int .i64) a0.2.2.1) := by kernel_rfl
noncomputable def F386.fn : Func := Go.Proofs.Tryz.f86
noncomputable def F386.E : Env := ⟨tt, [], [(1, [1])], [], some [2], inv, []⟩
theorem F386.start_eq (k : Nat) (a0 : Dom) : callW F386.E false F386.fn k [.agg [.v (.int .i64) a0.1, .v (.sl (.int .u64)) a0.2.1, .v (.int .i64) a0.2.2.1, .v (.int .i64) a0.2.2.2.1, .v (.int .i64) a0.2.2.2.2]] =
 some (.v (.int .i64) a0.2.2.2.1) := by kernel_rfl
noncomputable def F446.fn : Func := Go.Proofs.Tryz.f146
noncomputable def F446.E : Env := ⟨tt, [(54, h_placeD)], [(1, [0, 2]), (2, [0, 2, 9]), (3, [])], [], some [5], inv, []⟩
theorem F446.start_eq (k : Nat) (a0 a1 z : Int) : callW F446.E false F446.fn k [.v (.int .i64) a0, .v (.int .u64) a1, .rp [.v (.int .i64) z]] =
 bif decide (a0 = (placeD z)) then
 bif decide (0 ≤ (IntKind.i64.wrap (z - a0))) then some (.v (.int .u64) (bitsW .xor .u64 18446744073709551615 (shlW .u64 1 (IntKind.i64.wrap (z - a0))))) else none
 else
 some (.v (.int .u64) (18446744073709551615 : Int)) := by kernel_rfl
noncomputable def F466.fn : Func := Go.Proofs.Tryz.f166
noncomputable def F466.E : Env := ⟨tt, [(167, h_aboveD)], [(1, [0, 2])], [], some [5], inv, []⟩
theorem F466.start_eq (k : Nat) (a0 a1 z : Int) : callW F466.E false F466.fn k [.v (.int .i64) a0, .v (.int .u64) a1, .rp [.v (.int .i64) z]] =
 bif aboveB a0 (IntKind.i64.wrap (z + 1)) then some (.v (.int .u64) (bitsW .xor .u64 18446744073709551615 (aboveD a0 (IntKind.i64.wrap (z + 1))))) else none := by kernel_rfl
noncomputable def F468.fn : Func := Go.Proofs.Tryz.f168
noncomputable def F468.E : Env := ⟨tt, [(167, h_aboveD)], [(1, [0, 2])], [], some [5], inv, []⟩
theorem F468.start_eq (k : Nat) (a0 a1 z : Int) : callW F468.E false F468.fn k [.v (.int .i64) a0, .v (.int .u64) a1, .rp [.v (.int .i64) z]] =
 bif aboveB a0 z then some (.v (.int .u64) (aboveD a0 z)) else none := by kernel_rfl
noncomputable def F380.fn : Func := Go.Proofs.Tryz.f80
noncomputable def F380.E : Env := ⟨tt, [], [(1, [0]), (2, [0, 4]), (3, [0])], [], some [2], inv, []⟩
theorem F380.start_eq (k : Nat) (a0 : List Dom) : callW F380.E true F380.fn k [.v (.sl DomT) a0] =
 bif !(decide (a0.length = 0)) then
 bif decide ((([] : (List Dom)).length + a0.length) * 56 ≤ LIM) then
 some (.nw 47 DomT ([] ++ a0))
 else
 none
 else
 none := by kernel_rfl
noncomputable def F465.fn : Func := Go.Proofs.Tryz.f165
noncomputable def F465.E : Env := ⟨tt, [], [(1, [0, 1])], [], some [4], inv, []⟩
theorem F465.start_eq (k : Nat) (a0 a1 : Int) : callW F465.E false F465.fn k [.v (.int .i64) a0, .v (.int .i64) a1] =
 bif !(decide (a1 = 0)) then
 bif !(decide (a1 = (-1 : Int))) then some (.v .bool true) else some (.v .bool (!(decide (a0 = (-9223372036854775808 : Int)))))
 else
 some (.v .bool false) := by kernel_rfl
noncomputable def F441.fn : Func := Go.Proofs.Tryz.f141
noncomputable def F441.E : Env := ⟨tt, [(165, h_rightN)], [(1, [0, 1]), (2, [0, 1, 9]), (3, [0, 1]), (4, [0, 1, 20]), (5, [0, 1])], [], some [4, 5], inv, []⟩
theorem F441.start_eq (k : Nat) (a0 a1 : Int) : callW F441.E false F441.fn k [.v (.int .i64) a0, .v (.int .i64) a1] =
 bif !(rightN a0 a1) then
 some (.tup [.v (.int .i64) (0 : Int), .v .bool false])
 else
 bif !decide (a1 = 0) then
 bif !(decide ((a0.tmod a1) = 0)) then
 bif !((decide (a0 < 0)) == (decide (a1 < 0))) then
 bif !decide (a1 = 0) then some (.tup [.v (.int .i64) (IntKind.i64.wrap ((IntKind.i64.wrap (a0.tdiv a1)) - 1)), .v .bool true]) else none
 else
 bif !decide (a1 = 0) then some (.tup [.v (.int .i64) (IntKind.i64.wrap (a0.tdiv a1)), .v .bool true]) else none
 else
 bif !decide (a1 = 0) then some (.tup [.v (.int .i64) (IntKind.i64.wrap (a0.tdiv a1)), .v .bool true]) else none
 else
 none := by kernel_rfl
noncomputable def F443.fn : Func := Go.Proofs.Tryz.f143
noncomputable def F443.E : Env := ⟨tt, [(165, h_rightN)], [(1, [0, 1]), (2, [0, 1, 9]), (3, [0, 1]), (4, [0, 1, 20]), (5, [0, 1])], [], some [4, 5], inv, []⟩
theorem F443.start_eq (k : Nat) (a0 a1 : Int) : callW F443.E false F443.fn k [.v (.int .i64) a0, .v (.int .i64) a1] =
 bif !(rightN a0 a1) then
 some (.tup [.v (.int .i64) (0 : Int), .v .bool false])
 else
 bif !decide (a1 = 0) then
 bif !(decide ((a0.tmod a1) = 0)) then
 bif (decide (a0 < 0)) == (decide (a1 < 0)) then
 bif !decide (a1 = 0) then some (.tup [.v (.int .i64) (IntKind.i64.wrap ((IntKind.i64.wrap (a0.tdiv a1)) + 1)), .v .bool true]) else none
 else
 bif !decide (a1 = 0) then some (.tup [.v (.int .i64) (IntKind.i64.wrap (a0.tdiv a1)), .v .bool true]) else none
 else
 bif !decide (a1 = 0) then some (.tup [.v (.int .i64) (IntKind.i64.wrap (a0.tdiv a1)), .v .bool true]) else none
 else
 none := by kernel_rfl
noncomputable def F467.fn : Func := Go.Proofs.Tryz.f167
noncomputable def F467.E : Env := ⟨tt, [], [(1, [0, 1]), (2, [0, 1, 5]), (4, [0, 1, 9]), (5, [0, 1])], [(0, [0, 1])], some [4], inv, []⟩
theorem F467.start_eq (k : Nat) (a0 a1 : Int) : callW F467.E false F467.fn k [.v (.int .i64) a0, .v (.int .i64) a1] =
 bif decide (a1 ≤ a0) then
 some (.v (.int .u64) (18446744073709551615 : Int))
 else
 bif decide ((IntKind.i64.wrap (a1 - a0)) ≥ 64) then
 some (.v (.int .u64) (0 : Int))
 else
 bif decide (0 ≤ (IntKind.i64.wrap (a1 - a0))) then some (.v (.int .u64) (shlW .u64 18446744073709551615 (IntKind.i64.wrap (a1 - a0)))) else none := by kernel_rfl
noncomputable def F442.fn : Func := Go.Proofs.Tryz.f142
noncomputable def F442.E : Env := ⟨tt, [(145, h_less)], [(1, [2, 3, 4]), (2, [2, 3, 4])], [], some [4, 5], inv, []⟩
theorem F442.start_eq (k : Nat) (a0 : Dom) (a1 : Int) : callW F442.E false F442.fn k [.agg [.v (.int .i64) a0.1, .v (.sl (.int .u64)) a0.2.1, .v (.int .i64) a0.2.2.1, .v (.int .i64) a0.2.2.2.1, .v (.int .i64) a0.2.2.2.2], .v (.int .i64) a1] =
 bif cutB a0 (mostKB (if (-1000001 : Int) > if 1000000 < a1 then 1000000 else a1 then (-1000001 : Int) else if 1000000 < a1 then 1000000 else a1)) then
 some (.tup [.agg [.v (.int .i64) (((cutD a0 (mostK (if (-1000001 : Int) > if 1000000 < a1 then 1000000 else a1 then (-1000001 : Int) else if 1000000 < a1 then 1000000 else a1))).1).1 : Int), .v (.sl (.int .u64)) ((((cutD a0 (mostK (if (-1000001 : Int) > if 1000000 < a1 then 1000000 else a1 then (-1000001 : Int) else if 1000000 < a1 then 1000000 else a1))).1).2).1 : (List Int)), .v (.int .i64) (((((cutD a0 (mostK (if (-1000001 : Int) > if 1000000 < a1 then 1000000 else a1 then (-1000001 : Int) else if 1000000 < a1 then 1000000 else a1))).1).2).2).1 : Int), .v (.int .i64) ((((((cutD a0 (mostK (if (-1000001 : Int) > if 1000000 < a1 then 1000000 else a1 then (-1000001 : Int) else if 1000000 < a1 then 1000000 else a1))).1).2).2).2).1 : Int), .v (.int .i64) ((((((cutD a0 (mostK (if (-1000001 : Int) > if 1000000 < a1 then 1000000 else a1 then (-1000001 : Int) else if 1000000 < a1 then 1000000 else a1))).1).2).2).2).2 : Int)], .v (.int .i64) ((cutD a0 (mostK (if (-1000001 : Int) > if 1000000 < a1 then 1000000 else a1 then (-1000001 : Int) else if 1000000 < a1 then 1000000 else a1))).2 : Int)])
 else
 none := by kernel_rfl
noncomputable def F444.fn : Func := Go.Proofs.Tryz.f144
noncomputable def F444.E : Env := ⟨tt, [(145, h_less)], [(1, [2, 3, 4]), (2, [2, 3, 4])], [], some [4, 5], inv, []⟩
theorem F444.start_eq (k : Nat) (a0 : Dom) (a1 : Int) : callW F444.E false F444.fn k [.agg [.v (.int .i64) a0.1, .v (.sl (.int .u64)) a0.2.1, .v (.int .i64) a0.2.2.1, .v (.int .i64) a0.2.2.2.1, .v (.int .i64) a0.2.2.2.2], .v (.int .i64) a1] =
 bif cutB a0 (leastKB (if (-1000000 : Int) > if 1000001 < a1 then 1000001 else a1 then (-1000000 : Int) else if 1000001 < a1 then 1000001 else a1)) then
 some (.tup [.agg [.v (.int .i64) (((cutD a0 (leastK (if (-1000000 : Int) > if 1000001 < a1 then 1000001 else a1 then (-1000000 : Int) else if 1000001 < a1 then 1000001 else a1))).1).1 : Int), .v (.sl (.int .u64)) ((((cutD a0 (leastK (if (-1000000 : Int) > if 1000001 < a1 then 1000001 else a1 then (-1000000 : Int) else if 1000001 < a1 then 1000001 else a1))).1).2).1 : (List Int)), .v (.int .i64) (((((cutD a0 (leastK (if (-1000000 : Int) > if 1000001 < a1 then 1000001 else a1 then (-1000000 : Int) else if 1000001 < a1 then 1000001 else a1))).1).2).2).1 : Int), .v (.int .i64) ((((((cutD a0 (leastK (if (-1000000 : Int) > if 1000001 < a1 then 1000001 else a1 then (-1000000 : Int) else if 1000001 < a1 then 1000001 else a1))).1).2).2).2).1 : Int), .v (.int .i64) ((((((cutD a0 (leastK (if (-1000000 : Int) > if 1000001 < a1 then 1000001 else a1 then (-1000000 : Int) else if 1000001 < a1 then 1000001 else a1))).1).2).2).2).2 : Int)], .v (.int .i64) ((cutD a0 (leastK (if (-1000000 : Int) > if 1000001 < a1 then 1000001 else a1 then (-1000000 : Int) else if 1000001 < a1 then 1000001 else a1))).2 : Int)])
 else
 none := by kernel_rfl
noncomputable def F411.fn : Func := Go.Proofs.Tryz.f111
noncomputable def F411.E : Env := ⟨tt, [(145, h_less)], [(1, [2, 3, 4])], [], some [4, 5], inv, []⟩
theorem F411.start_eq (k : Nat) (a0 : Dom) (a1 : Int) : callW F411.E false F411.fn k [.agg [.v (.int .i64) a0.1, .v (.sl (.int .u64)) a0.2.1, .v (.int .i64) a0.2.2.1, .v (.int .i64) a0.2.2.2.1, .v (.int .i64) a0.2.2.2.2], .v (.int .i64) a1] =
 bif cutB a0 (noKB a1) then
 some (.tup [.agg [.v (.int .i64) (((cutD a0 (noK a1)).1).1), .v (.sl (.int .u64)) ((((cutD a0 (noK a1)).1).2).1), .v (.int .i64) (((((cutD a0 (noK a1)).1).2).2).1), .v (.int .i64) ((((((cutD a0 (noK a1)).1).2).2).2).1), .v (.int .i64) ((((((cutD a0 (noK a1)).1).2).2).2).2)], .v (.int .i64) ((cutD a0 (noK a1)).2)])
 else
 none := by kernel_rfl
noncomputable def F410.fn : Func := Go.Proofs.Tryz.f110
noncomputable def F410.E : Env := ⟨tt, [(62, h_minD), (86, h_maxD)], [(1, [0, 3])], [], some [4], inv, []⟩
theorem F410.start_eq (k : Nat) (a0 : Int) (a1 : Dom) : callW F410.E false F410.fn k [.v (.int .i64) a0, .agg [.v (.int .i64) a1.1, .v (.sl (.int .u64)) a1.2.1, .v (.int .i64) a1.2.2.1, .v (.int .i64) a1.2.2.2.1, .v (.int .i64) a1.2.2.2.2]] =
 some (.v (.int .i64) (if IntKind.i64.wrap (a0 * (maxD a1)) < IntKind.i64.wrap (a0 * (minD a1)) then IntKind.i64.wrap (a0 * (maxD a1)) else IntKind.i64.wrap (a0 * (minD a1)))) := by kernel_rfl
noncomputable def F408.fn : Func := Go.Proofs.Tryz.f108
noncomputable def F408.body : Code := bodyOf F408.fn
noncomputable def F408.E : Env := ⟨tt, [(110, h_leastT)], [(1, [0, 1]), (2, [0, 1, 5]), (3, [1, 5, 8, 9, 10]), (4, [1, 5, 8, 9, 10, 11]), (5, [1, 5, 6, 7, 8, 9, 10]), (6, [1, 5, 8, 9, 10]), (7, [5])], [(0, [5]), (1, [1, 5, 8, 9, 10])], some [4], inv, []⟩
noncomputable def F408.K0 : Conts := { nrm := endW F408.E false F408.fn.results.toList, ret := endW F408.E false F408.fn.results.toList, ex := [] }
noncomputable def F408.kt (k : Nat) (q : List Nat) : Conts := contAt F408.E k F408.body F408.K0 q
noncomputable def F408.l1_1_0_1_0 (n : Nat) (K : Conts) (p0 : List Dom) (p1 : Int) (p2 : List Int) (p3 p4 : Int) : Option AV := loopF F408.E n (inLoop (subC [1,1,0,1,0] F408.body)) K ⟨slots 25 [(1, .v (.sl DomT) p0), (5, .v (.int .i64) p1), (8, .v (.sl (.int .i64)) p2), (9, .v (.int .i64) p3), (10, .v (.int .i64) p4)], []⟩
theorem F408.start_eq (k : Nat) (a0 : List Int) (a1 : List Dom) : callW F408.E false F408.fn k [.v (.sl (.int .i64)) a0, .v (.sl DomT) a1] =
 F408.l1_1_0_1_0 k (F408.kt k [1,1,0,1,0]) a1 0 a0 (a0.length : Int) 0 := by kernel_rfl
theorem F408.l1_1_0_1_0_eq (n : Nat) (K : Conts) (p0 : List Dom) (p1 : Int) (p2 : List Int) (p3 p4 : Int) : F408.l1_1_0_1_0 (n + 1) K p0 p1 p2 p3 p4 =
 bif decide (p4 < p3) then
 bif decide (0 ≤ p4) && decide (p4 < p2.length) then
 bif decide (0 ≤ p4) && decide (p4 < p0.length) then
 bif leastB (p2.getD p4.toNat (0 : Int)) (p0.getD p4.toNat ((0 : Int), ([], ((0 : Int), ((0 : Int), (0 : Int)))))) then
 F408.l1_1_0_1_0 n K p0 (IntKind.i64.wrap (p1 + (leastT (p2.getD p4.toNat (0 : Int)) (p0.getD p4.toNat ((0 : Int), ([], ((0 : Int), ((0 : Int), (0 : Int))))))))) p2 p3 (IntKind.i64.wrap (p4 + 1))
 else
 none
 else
 none
 else
 none
 else
 exitK K 0 ⟨slots 25 [(5, .v (.int .i64) p1)], []⟩ := by kernel_rfl
theorem F408.c0 (k : Nat) (p0 : Int) : exitK (F408.kt k [1,1,0,1,0]) 0 ⟨slots 25 [(5, .v (.int .i64) p0)], []⟩ =
 some (.v (.int .i64) p0) := by kernel_rfl
noncomputable def F407.fn : Func := Go.Proofs.Tryz.f107
noncomputable def F407.body : Code := bodyOf F407.fn
noncomputable def F407.E : Env := ⟨tt, [], [(1, [0]), (2, [0, 3]), (3, [3, 6, 7, 8, 30003]), (4, [3, 6, 7, 8, 9]), (5, [3, 5, 6, 7, 8]), (6, [3, 6, 7, 8]), (7, [3])], [(0, [3]), (1, [3, 6, 7, 8])], some [2], inv, []⟩
noncomputable def F407.K0 : Conts := { nrm := endW F407.E false F407.fn.results.toList, ret := endW F407.E false F407.fn.results.toList, ex := [] }
noncomputable def F407.kt (k : Nat) (q : List Nat) : Conts := contAt F407.E k F407.body F407.K0 q
noncomputable def F407.l1_1_0_1_0 (n : Nat) (K : Conts) (p0 : List Int) (p1 p2 : Int) (p3 : List Int) : Option AV := loopF F407.E n (inLoop (subC [1,1,0,1,0] F407.body)) K ⟨slots 19 [(3, .own 0), (6, .v (.sl (.int .i64)) p0), (7, .v (.int .i64) p1), (8, .v (.int .i64) p2)], [.row 3 (.int .i64) p3]⟩
theorem F407.start_eq (k : Nat) (a0 : List Int) : callW F407.E false F407.fn k [.v (.sl (.int .i64)) a0] =
 F407.l1_1_0_1_0 k (F407.kt k [1,1,0,1,0]) a0 (a0.length : Int) 0 [] := by kernel_rfl
theorem F407.l1_1_0_1_0_eq (n : Nat) (K : Conts) (p0 : List Int) (p1 p2 : Int) (p3 : List Int) : F407.l1_1_0_1_0 (n + 1) K p0 p1 p2 p3 =
 bif decide (p2 < p1) then
 bif decide (0 ≤ p2) && decide (p2 < p0.length) then
 bif decide ((p3.length + [IntKind.i64.wrap (0 - (p0.getD p2.toNat (0 : Int)))].length) * 8 ≤ LIM) then
 F407.l1_1_0_1_0 n K p0 p1 (IntKind.i64.wrap (p2 + 1)) (p3 ++ [IntKind.i64.wrap (0 - (p0.getD p2.toNat (0 : Int)))])
 else
 none
 else
 none
 else
 exitK K 0 ⟨slots 19 [(3, .own 0)], [.row 3 (.int .i64) p3]⟩ := by kernel_rfl
theorem F407.c0 (k : Nat) (p0 : List Int) : exitK (F407.kt k [1,1,0,1,0]) 0 ⟨slots 19 [(3, .own 0)], [.row 3 (.int .i64) p0]⟩ =
 some (.v (.sl (.int .i64)) p0) := by kernel_rfl
noncomputable def F409.fn : Func := Go.Proofs.Tryz.f109
noncomputable def F409.E : Env := ⟨tt, [(141, h_floorN), (142, h_atMost), (143, h_ceilN), (144, h_atLeast)], [(1, [0, 1, 5, 6]), (2, [0, 1, 5, 6, 12]), (3, [5, 6, 8]), (5, [0, 1, 5, 6, 26]), (6, [5, 6, 10]), (8, [5, 6, 40]), (9, [5, 6])], [(0, [5, 6])], some [6, 7], inv, []⟩
theorem F409.start_eq (k : Nat) (a0 a1 : Int) (a2 : Dom) : callW F409.E false F409.fn k [.v (.int .i64) a0, .v (.int .i64) a1, .agg [.v (.int .i64) a2.1, .v (.sl (.int .u64)) a2.2.1, .v (.int .i64) a2.2.2.1, .v (.int .i64) a2.2.2.2.1, .v (.int .i64) a2.2.2.2.2]] =
 bif decide (a0 > 0) then
 bif floorB a1 a0 then
 bif domB a2 then
 some (.tup [.agg [.v (.int .i64) (((atMostD a2 (quoN a1 a0)).1).1), .v (.sl (.int .u64)) ((((atMostD a2 (quoN a1 a0)).1).2).1), .v (.int .i64) (((((atMostD a2 (quoN a1 a0)).1).2).2).1), .v (.int .i64) ((((((atMostD a2 (quoN a1 a0)).1).2).2).2).1), .v (.int .i64) ((((((atMostD a2 (quoN a1 a0)).1).2).2).2).2)], .v (.int .i64) ((atMostD a2 (quoN a1 a0)).2)])
 else
 none
 else
 none
 else
 bif decide (a0 < 0) then
 bif ceilB a1 a0 then
 bif domB a2 then
 some (.tup [.agg [.v (.int .i64) (((atLeastD a2 (quoN a1 a0)).1).1), .v (.sl (.int .u64)) ((((atLeastD a2 (quoN a1 a0)).1).2).1), .v (.int .i64) (((((atLeastD a2 (quoN a1 a0)).1).2).2).1), .v (.int .i64) ((((((atLeastD a2 (quoN a1 a0)).1).2).2).2).1), .v (.int .i64) ((((((atLeastD a2 (quoN a1 a0)).1).2).2).2).2)], .v (.int .i64) ((atLeastD a2 (quoN a1 a0)).2)])
 else
 none
 else
 none
 else
 bif decide (a1 < 0) then
 some (.tup [.agg [.v (.int .i64) (0 : Int), .nl, .v (.int .i64) (0 : Int), .v (.int .i64) (0 : Int), .v (.int .i64) (0 : Int)], .v (.int .i64) (4 : Int)])
 else
 some (.tup [.agg [.v (.int .i64) a2.1, .v (.sl (.int .u64)) a2.2.1, .v (.int .i64) a2.2.2.1, .v (.int .i64) a2.2.2.2.1, .v (.int .i64) a2.2.2.2.2], .v (.int .i64) (0 : Int)]) := by kernel_rfl
noncomputable def F378.fn : Func := Go.Proofs.Tryz.f78
noncomputable def F378.body : Code := bodyOf F378.fn
noncomputable def F378.E : Env := ⟨tt, [(80, h_cloneD), (108, h_lowsD), (109, h_cutT), (110, h_leastT)], [(1, [0, 1, 2]), (2, [0, 1, 2, 9]), (3, [0, 1, 2, 9, 10]), (4, [0, 1, 2, 9, 10, 11]), (5, [1, 2, 9, 10, 11, 21, 22, 23]), (6, [1, 2, 9, 10, 11, 21, 22, 23, 24]), (7, [1, 2, 9, 10, 11, 12, 13, 21, 22, 23]), (8, [1, 2, 9, 10, 11, 12, 14, 15, 21, 22, 23]), (9, [1, 2, 9, 10, 11, 12, 14, 15, 21, 22, 23, 48]), (10, [1, 2, 9, 10, 11, 12, 14, 15, 21, 22, 23]), (11, [1, 2, 9, 10, 11, 15, 21, 22, 23]), (12, [1, 2, 9, 10, 11, 21, 22, 23]), (13, [10, 11])], [(0, [10, 11]), (1, [1, 2, 9, 10, 11, 21, 22, 23])], some [6, 7, 8], inv, []⟩
noncomputable def F378.K0 : Conts := { nrm := endW F378.E false F378.fn.results.toList, ret := endW F378.E false F378.fn.results.toList, ex := [] }
noncomputable def F378.kt (k : Nat) (q : List Nat) : Conts := contAt F378.E k F378.body F378.K0 q
noncomputable def F378.l1_1_1_1_0_1_0 (n : Nat) (K : Conts) (p0 : Int) (p1 : List Dom) (p2 : Int) (p3 : Bool) (p4 : List Int) (p5 p6 : Int) (p7 : List Dom) : Option AV := loopF F378.E n (inLoop (subC [1,1,1,1,0,1,0] F378.body)) K ⟨slots 61 [(1, .v (.int .i64) p0), (2, .v (.sl DomT) p1), (9, .v (.int .i64) p2), (10, .own 0), (11, .v .bool p3), (21, .v (.sl (.int .i64)) p4), (22, .v (.int .i64) p5), (23, .v (.int .i64) p6)], [.row 47 DomT p7]⟩
theorem F378.start_eq (k : Nat) (a0 : List Int) (a1 : Int) (a2 : List Dom) : callW F378.E false F378.fn k [.v (.sl (.int .i64)) a0, .v (.int .i64) a1, .v (.sl DomT) a2] =
 bif lowsB a0 a2 then
 bif cloneB a2 then F378.l1_1_1_1_0_1_0 k (F378.kt k [1,1,1,1,0,1,0]) a1 a2 (lowsD a0 a2) false a0 (a0.length : Int) 0 a2 else none
 else
 none := by kernel_rfl
theorem F378.l1_1_1_1_0_1_0_eq (n : Nat) (K : Conts) (p0 : Int) (p1 : List Dom) (p2 : Int) (p3 : Bool) (p4 : List Int) (p5 p6 : Int) (p7 : List Dom) : F378.l1_1_1_1_0_1_0 (n + 1) K p0 p1 p2 p3 p4 p5 p6 p7 =
 bif decide (p6 < p5) then
 bif decide (0 ≤ p6) && decide (p6 < p4.length) then
 bif decide (0 ≤ p6) && decide (p6 < p1.length) then
 bif leastB (p4.getD p6.toNat (0 : Int)) (p1.getD p6.toNat ((0 : Int), ([], ((0 : Int), ((0 : Int), (0 : Int)))))) then
 bif decide (0 ≤ p6) && decide (p6 < p1.length) then
 bif cutTB (p4.getD p6.toNat (0 : Int)) (IntKind.i64.wrap (p0 - (IntKind.i64.wrap (p2 - (leastT (p4.getD p6.toNat (0 : Int)) (p1.getD p6.toNat ((0 : Int), ([], ((0 : Int), ((0 : Int), (0 : Int))))))))))) (p1.getD p6.toNat ((0 : Int), ([], ((0 : Int), ((0 : Int), (0 : Int)))))) then
 bif decide (((cutT (p4.getD p6.toNat (0 : Int)) (IntKind.i64.wrap (p0 - (IntKind.i64.wrap (p2 - (leastT (p4.getD p6.toNat (0 : Int)) (p1.getD p6.toNat ((0 : Int), ([], ((0 : Int), ((0 : Int), (0 : Int))))))))))) (p1.getD p6.toNat ((0 : Int), ([], ((0 : Int), ((0 : Int), (0 : Int))))))).2) = 4) then
 K.ret ⟨slots 61 [(6, .nl), (7, .v .bool false), (8, .v .bool false)], []⟩
 else
 bif decide (0 ≤ p6) && decide (p6 < p7.length) then
 bif p3 then
 F378.l1_1_1_1_0_1_0 n K p0 p1 p2 true p4 p5 (IntKind.i64.wrap (p6 + 1)) (p7.set p6.toNat ((cutT (p4.getD p6.toNat (0 : Int)) (IntKind.i64.wrap (p0 - (IntKind.i64.wrap (p2 - (leastT (p4.getD p6.toNat (0 : Int)) (p1.getD p6.toNat ((0 : Int), ([], ((0 : Int), ((0 : Int), (0 : Int))))))))))) (p1.getD p6.toNat ((0 : Int), ([], ((0 : Int), ((0 : Int), (0 : Int))))))).1))
 else
 F378.l1_1_1_1_0_1_0 n K p0 p1 p2 (!(decide (((cutT (p4.getD p6.toNat (0 : Int)) (IntKind.i64.wrap (p0 - (IntKind.i64.wrap (p2 - (leastT (p4.getD p6.toNat (0 : Int)) (p1.getD p6.toNat ((0 : Int), ([], ((0 : Int), ((0 : Int), (0 : Int))))))))))) (p1.getD p6.toNat ((0 : Int), ([], ((0 : Int), ((0 : Int), (0 : Int))))))).2) = 0))) p4 p5 (IntKind.i64.wrap (p6 + 1)) (p7.set p6.toNat ((cutT (p4.getD p6.toNat (0 : Int)) (IntKind.i64.wrap (p0 - (IntKind.i64.wrap (p2 - (leastT (p4.getD p6.toNat (0 : Int)) (p1.getD p6.toNat ((0 : Int), ([], ((0 : Int), ((0 : Int), (0 : Int))))))))))) (p1.getD p6.toNat ((0 : Int), ([], ((0 : Int), ((0 : Int), (0 : Int))))))).1))
 else
 none
 else
 none
 else
 none
 else
 none
 else
 none
 else
 none
 else
 exitK K 0 ⟨slots 61 [(10, .own 0), (11, .v .bool p3)], [.row 47 DomT p7]⟩ := by kernel_rfl
theorem F378.c0 (k : Nat) : (F378.kt k [1,1,1,1,0,1,0]).ret ⟨slots 61 [(6, .nl), (7, .v .bool false), (8, .v .bool false)], []⟩ =
 some (.tup [.nl, .v .bool false, .v .bool false]) := by kernel_rfl
theorem F378.c1 (k : Nat) (p0 : Bool) (p1 : List Dom) : exitK (F378.kt k [1,1,1,1,0,1,0]) 0 ⟨slots 61 [(10, .own 0), (11, .v .bool p0)], [.row 47 DomT p1]⟩ =
 some (.tup [.v (.sl DomT) p1, .v .bool p0, .v .bool true]) := by kernel_rfl
noncomputable def F378o.fn : Func := Go.Proofs.Tryz.f78
noncomputable def F378o.body : Code := bodyOf F378o.fn
noncomputable def F378o.E : Env := ⟨tt, [(80, h_cloneD), (108, h_lowsD), (109, h_cutT), (110, h_leastT)], [(1, [0, 1, 2]), (2, [0, 1, 2, 9]), (3, [0, 1, 2, 9, 10]), (4, [0, 1, 2, 9, 10, 11]), (5, [1, 2, 9, 10, 11, 21, 22, 23]), (6, [1, 2, 9, 10, 11, 21, 22, 23, 24]), (7, [1, 2, 9, 10, 11, 12, 13, 21, 22, 23]), (8, [1, 2, 9, 10, 11, 12, 14, 15, 21, 22, 23]), (9, [1, 2, 9, 10, 11, 12, 14, 15, 21, 22, 23, 48]), (10, [1, 2, 9, 10, 11, 12, 14, 15, 21, 22, 23]), (11, [1, 2, 9, 10, 11, 15, 21, 22, 23]), (12, [1, 2, 9, 10, 11, 21, 22, 23]), (13, [10, 11])], [(0, [10, 11]), (1, [1, 2, 9, 10, 11, 21, 22, 23])], some [6, 7, 8], inv, []⟩
noncomputable def F378o.K0 : Conts := { nrm := endW F378o.E true F378o.fn.results.toList, ret := endW F378o.E true F378o.fn.results.toList, ex := [] }
noncomputable def F378o.kt (k : Nat) (q : List Nat) : Conts := contAt F378o.E k F378o.body F378o.K0 q
noncomputable def F378o.l1_1_1_1_0_1_0 (n : Nat) (K : Conts) (p0 : Int) (p1 : List Dom) (p2 : Int) (p3 : Bool) (p4 : List Int) (p5 p6 : Int) (p7 : List Dom) : Option AV := loopF F378o.E n (inLoop (subC [1,1,1,1,0,1,0] F378o.body)) K ⟨slots 61 [(1, .v (.int .i64) p0), (2, .v (.sl DomT) p1), (9, .v (.int .i64) p2), (10, .own 0), (11, .v .bool p3), (21, .v (.sl (.int .i64)) p4), (22, .v (.int .i64) p5), (23, .v (.int .i64) p6)], [.row 47 DomT p7]⟩
theorem F378o.start_eq (k : Nat) (a0 : List Int) (a1 : Int) (a2 : List Dom) : callW F378o.E true F378o.fn k [.v (.sl (.int .i64)) a0, .v (.int .i64) a1, .v (.sl DomT) a2] =
 bif lowsB a0 a2 then
 bif cloneB a2 then F378o.l1_1_1_1_0_1_0 k (F378o.kt k [1,1,1,1,0,1,0]) a1 a2 (lowsD a0 a2) false a0 (a0.length : Int) 0 a2 else none
 else
 none := by kernel_rfl
theorem F378o.l1_1_1_1_0_1_0_eq (n : Nat) (K : Conts) (p0 : Int) (p1 : List Dom) (p2 : Int) (p3 : Bool) (p4 : List Int) (p5 p6 : Int) (p7 : List Dom) : F378o.l1_1_1_1_0_1_0 (n + 1) K p0 p1 p2 p3 p4 p5 p6 p7 =
 bif decide (p6 < p5) then
 bif decide (0 ≤ p6) && decide (p6 < p4.length) then
 bif decide (0 ≤ p6) && decide (p6 < p1.length) then
 bif leastB (p4.getD p6.toNat (0 : Int)) (p1.getD p6.toNat ((0 : Int), ([], ((0 : Int), ((0 : Int), (0 : Int)))))) then
 bif decide (0 ≤ p6) && decide (p6 < p1.length) then
 bif cutTB (p4.getD p6.toNat (0 : Int)) (IntKind.i64.wrap (p0 - (IntKind.i64.wrap (p2 - (leastT (p4.getD p6.toNat (0 : Int)) (p1.getD p6.toNat ((0 : Int), ([], ((0 : Int), ((0 : Int), (0 : Int))))))))))) (p1.getD p6.toNat ((0 : Int), ([], ((0 : Int), ((0 : Int), (0 : Int)))))) then
 bif decide (((cutT (p4.getD p6.toNat (0 : Int)) (IntKind.i64.wrap (p0 - (IntKind.i64.wrap (p2 - (leastT (p4.getD p6.toNat (0 : Int)) (p1.getD p6.toNat ((0 : Int), ([], ((0 : Int), ((0 : Int), (0 : Int))))))))))) (p1.getD p6.toNat ((0 : Int), ([], ((0 : Int), ((0 : Int), (0 : Int))))))).2) = 4) then
 K.ret ⟨slots 61 [(6, .nl), (7, .v .bool false), (8, .v .bool false)], []⟩
 else
 bif decide (0 ≤ p6) && decide (p6 < p7.length) then
 bif p3 then
 F378o.l1_1_1_1_0_1_0 n K p0 p1 p2 true p4 p5 (IntKind.i64.wrap (p6 + 1)) (p7.set p6.toNat ((cutT (p4.getD p6.toNat (0 : Int)) (IntKind.i64.wrap (p0 - (IntKind.i64.wrap (p2 - (leastT (p4.getD p6.toNat (0 : Int)) (p1.getD p6.toNat ((0 : Int), ([], ((0 : Int), ((0 : Int), (0 : Int))))))))))) (p1.getD p6.toNat ((0 : Int), ([], ((0 : Int), ((0 : Int), (0 : Int))))))).1))
 else
 F378o.l1_1_1_1_0_1_0 n K p0 p1 p2 (!(decide (((cutT (p4.getD p6.toNat (0 : Int)) (IntKind.i64.wrap (p0 - (IntKind.i64.wrap (p2 - (leastT (p4.getD p6.toNat (0 : Int)) (p1.getD p6.toNat ((0 : Int), ([], ((0 : Int), ((0 : Int), (0 : Int))))))))))) (p1.getD p6.toNat ((0 : Int), ([], ((0 : Int), ((0 : Int), (0 : Int))))))).2) = 0))) p4 p5 (IntKind.i64.wrap (p6 + 1)) (p7.set p6.toNat ((cutT (p4.getD p6.toNat (0 : Int)) (IntKind.i64.wrap (p0 - (IntKind.i64.wrap (p2 - (leastT (p4.getD p6.toNat (0 : Int)) (p1.getD p6.toNat ((0 : Int), ([], ((0 : Int), ((0 : Int), (0 : Int))))))))))) (p1.getD p6.toNat ((0 : Int), ([], ((0 : Int), ((0 : Int), (0 : Int))))))).1))
 else
 none
 else
 none
 else
 none
 else
 none
 else
 none
 else
 none
 else
 exitK K 0 ⟨slots 61 [(10, .own 0), (11, .v .bool p3)], [.row 47 DomT p7]⟩ := by kernel_rfl
theorem F378o.c0 (k : Nat) : (F378o.kt k [1,1,1,1,0,1,0]).ret ⟨slots 61 [(6, .nl), (7, .v .bool false), (8, .v .bool false)], []⟩ =
 some (.tup [.nl, .v .bool false, .v .bool false]) := by kernel_rfl
theorem F378o.c1 (k : Nat) (p0 : Bool) (p1 : List Dom) : exitK (F378o.kt k [1,1,1,1,0,1,0]) 0 ⟨slots 61 [(10, .own 0), (11, .v .bool p0)], [.row 47 DomT p1]⟩ =
 some (.tup [.nw 47 DomT p1, .v .bool p0, .v .bool true]) := by kernel_rfl
noncomputable def F377.fn : Func := Go.Proofs.Tryz.f77
noncomputable def F377.body : Code := bodyOf F377.fn
noncomputable def F377.E : Env := ⟨tt, [(78, h_boundD), (107, h_turnedL)], [(1, [1, 2]), (2, [2, 6, 7, 8]), (3, [2, 6, 7, 23]), (4, [2, 6, 7]), (5, [2, 7, 9, 10, 11]), (6, [2, 7, 9, 10, 37]), (7, [2, 7, 9, 10]), (8, [1, 2, 7, 10]), (9, [1, 2, 44])], [(0, [4, 5]), (1, [1, 2])], some [4, 5], inv, []⟩
noncomputable def F377.K0 : Conts := { nrm := endW F377.E false F377.fn.results.toList, ret := endW F377.E false F377.fn.results.toList, ex := [] }
noncomputable def F377.kt (k : Nat) (q : List Nat) : Conts := contAt F377.E k F377.body F377.K0 q
noncomputable def F377.l1_0 (n : Nat) (K : Conts) (p0 : List Dom) (p1 : Int) (p2 p3 p4 p5 p6 : List Int) (p7 : Int) (p8 : List (List Int)) : Option AV := loopF F377.E n (inLoop (subC [1,0] F377.body)) K ⟨slots 46 [(1, .v (.sl DomT) p0), (2, .pb 0 0)], [.box (bC p1 p2 p3 p4 p5 p6 p7 p8)]⟩
theorem F377.start_eq (k : Nat) (a0 : Con) (a1 : List Dom) : callW F377.E false F377.fn k [.agg (bC a0.1 a0.2.1 a0.2.2.1 a0.2.2.2.1 a0.2.2.2.2.1 a0.2.2.2.2.2.1 a0.2.2.2.2.2.2.1 a0.2.2.2.2.2.2.2), .v (.sl DomT) a1] =
 F377.l1_0 k (F377.kt k [1,0]) a1 a0.1 a0.2.1 a0.2.2.1 a0.2.2.2.1 a0.2.2.2.2.1 a0.2.2.2.2.2.1 a0.2.2.2.2.2.2.1 a0.2.2.2.2.2.2.2 := by kernel_rfl
theorem F377.l1_0_eq (n : Nat) (K : Conts) (p0 : List Dom) (p1 : Int) (p2 p3 p4 p5 p6 : List Int) (p7 : Int) (p8 : List (List Int)) : F377.l1_0 (n + 1) K p0 p1 p2 p3 p4 p5 p6 p7 p8 =
 bif boundB p4 p7 p0 then
 bif !((boundD p4 p7 p0).2.2) then
 K.ret ⟨slots 46 [(4, .nl), (5, .v .bool false)], []⟩
 else
 bif turnedB p4 then
 bif boundB (turnedL p4) (IntKind.i64.wrap (0 - p7)) ((boundD p4 p7 p0).1) then
 bif !((boundD (turnedL p4) (IntKind.i64.wrap (0 - p7)) ((boundD p4 p7 p0).1)).2.2) then
 K.ret ⟨slots 46 [(4, .nl), (5, .v .bool false)], []⟩
 else
 bif !((boundD p4 p7 p0).2.1) then
 bif !((boundD (turnedL p4) (IntKind.i64.wrap (0 - p7)) ((boundD p4 p7 p0).1)).2.1) then
 K.ret ⟨slots 46 [(4, .v (.sl DomT) ((boundD (turnedL p4) (IntKind.i64.wrap (0 - p7)) ((boundD p4 p7 p0).1)).1)), (5, .v .bool true)], []⟩
 else
 F377.l1_0 n K ((boundD (turnedL p4) (IntKind.i64.wrap (0 - p7)) ((boundD p4 p7 p0).1)).1) p1 p2 p3 p4 p5 p6 p7 p8
 else
 F377.l1_0 n K ((boundD (turnedL p4) (IntKind.i64.wrap (0 - p7)) ((boundD p4 p7 p0).1)).1) p1 p2 p3 p4 p5 p6 p7 p8
 else
 none
 else
 none
 else
 none := by kernel_rfl
theorem F377.c0 (k : Nat) : (F377.kt k [1,0]).ret ⟨slots 46 [(4, .nl), (5, .v .bool false)], []⟩ =
 some (.tup [.nl, .v .bool false]) := by kernel_rfl
theorem F377.c1 (k : Nat) (p0 : List Dom) : (F377.kt k [1,0]).ret ⟨slots 46 [(4, .v (.sl DomT) p0), (5, .v .bool true)], []⟩ =
 some (.tup [.v (.sl DomT) p0, .v .bool true]) := by kernel_rfl
noncomputable def F379.fn : Func := Go.Proofs.Tryz.f79
noncomputable def F379.body : Code := bodyOf F379.fn
noncomputable def F379.E : Env := ⟨tt, [(62, h_minD), (80, h_cloneD), (92, h_sizeD), (111, h_without)], [(1, [1, 2]), (2, [1, 2, 6, 7]), (3, [1, 2, 6, 7, 14, 15, 16]), (4, [1, 2, 6, 7, 14, 15, 16, 17]), (5, [1, 2, 6, 7, 8, 9, 14, 15, 16]), (6, [1, 2, 6, 7, 8, 9, 14, 15, 16, 26]), (7, [1, 2, 6, 7, 8, 14, 15, 16]), (8, [1, 2, 7, 8, 14, 15, 16, 37]), (9, [1, 2, 7, 8, 14, 15, 16]), (10, [1, 2, 6, 7, 14, 15, 16]), (11, [1, 2, 6, 7]), (12, [1, 2, 6, 7, 42]), (13, [1, 2, 6, 7]), (14, [1, 6, 10, 11]), (15, [1, 6, 10, 11, 64]), (16, [1, 6, 10, 11]), (17, [1, 6, 10, 11, 12]), (18, [12])], [(0, [1, 2, 6, 7]), (1, [1, 2, 6, 7, 14, 15, 16])], some [4, 5], inv, []⟩
noncomputable def F379.K0 : Conts := { nrm := endW F379.E false F379.fn.results.toList, ret := endW F379.E false F379.fn.results.toList, ex := [] }
noncomputable def F379.kt (k : Nat) (q : List Nat) : Conts := contAt F379.E k F379.body F379.K0 q
noncomputable def F379.l1_1_0_1_0 (n : Nat) (K : Conts) (p0 : List Dom) (p1 p2 : Int) (p3 : List Int) (p4 p5 p6 : Int) (p7 p8 p9 p10 p11 : List Int) (p12 : Int) (p13 : List (List Int)) : Option AV := loopF F379.E n (inLoop (subC [1,1,0,1,0] F379.body)) K ⟨slots 89 [(1, .v (.sl DomT) p0), (2, .pb 0 0), (6, .v (.int .i64) p1), (7, .v (.int .i64) p2), (14, .v (.sl (.int .i64)) p3), (15, .v (.int .i64) p4), (16, .v (.int .i64) p5)], [.box (bC p6 p7 p8 p9 p10 p11 p12 p13)]⟩
theorem F379.start_eq (k : Nat) (a0 : Con) (a1 : List Dom) : callW F379.E false F379.fn k [.agg (bC a0.1 a0.2.1 a0.2.2.1 a0.2.2.2.1 a0.2.2.2.2.1 a0.2.2.2.2.2.1 a0.2.2.2.2.2.2.1 a0.2.2.2.2.2.2.2), .v (.sl DomT) a1] =
 F379.l1_1_0_1_0 k (F379.kt k [1,1,0,1,0]) a1 (-1 : Int) 0 a0.2.2.2.1 (a0.2.2.2.1.length : Int) 0 a0.1 a0.2.1 a0.2.2.1 a0.2.2.2.1 a0.2.2.2.2.1 a0.2.2.2.2.2.1 a0.2.2.2.2.2.2.1 a0.2.2.2.2.2.2.2 := by kernel_rfl
theorem F379.l1_1_0_1_0_eq (n : Nat) (K : Conts) (p0 : List Dom) (p1 p2 : Int) (p3 : List Int) (p4 p5 p6 : Int) (p7 p8 p9 p10 p11 : List Int) (p12 : Int) (p13 : List (List Int)) : F379.l1_1_0_1_0 (n + 1) K p0 p1 p2 p3 p4 p5 p6 p7 p8 p9 p10 p11 p12 p13 =
 bif decide (p5 < p4) then
 bif decide (0 ≤ p5) && decide (p5 < p3.length) then
 bif decide (0 ≤ p5) && decide (p5 < p0.length) then
 bif decide ((sizeD (p0.getD p5.toNat ((0 : Int), ([], ((0 : Int), ((0 : Int), (0 : Int))))))) = 1) then
 bif decide (0 ≤ p5) && decide (p5 < p0.length) then
 F379.l1_1_0_1_0 n K p0 p1 (IntKind.i64.wrap (p2 + (IntKind.i64.wrap ((p3.getD p5.toNat (0 : Int)) * (minD (p0.getD p5.toNat ((0 : Int), ([], ((0 : Int), ((0 : Int), (0 : Int))))))))))) p3 p4 (IntKind.i64.wrap (p5 + 1)) p6 p7 p8 p9 p10 p11 p12 p13
 else
 none
 else
 bif decide (p1 ≥ 0) then
 K.ret ⟨slots 89 [(4, .v (.sl DomT) p0), (5, .v .bool true)], []⟩
 else
 F379.l1_1_0_1_0 n K p0 p5 p2 p3 p4 (IntKind.i64.wrap (p5 + 1)) p6 p7 p8 p9 p10 p11 p12 p13
 else
 none
 else
 none
 else
 exitK K 0 ⟨slots 89 [(1, .v (.sl DomT) p0), (2, .pb 0 0), (6, .v (.int .i64) p1), (7, .v (.int .i64) p2)], [.box (bC p6 p7 p8 p9 p10 p11 p12 p13)]⟩ := by kernel_rfl
theorem F379.c0 (k : Nat) (p0 : List Dom) : (F379.kt k [1,1,0,1,0]).ret ⟨slots 89 [(4, .v (.sl DomT) p0), (5, .v .bool true)], []⟩ =
 some (.tup [.v (.sl DomT) p0, .v .bool true]) := by kernel_rfl
theorem F379.c1 (k : Nat) (p0 : List Dom) (p1 p2 p3 : Int) (p4 p5 p6 p7 p8 : List Int) (p9 : Int) (p10 : List (List Int)) : exitK (F379.kt k [1,1,0,1,0]) 0 ⟨slots 89 [(1, .v (.sl DomT) p0), (2, .pb 0 0), (6, .v (.int .i64) p1), (7, .v (.int .i64) p2)], [.box (bC p3 p4 p5 p6 p7 p8 p9 p10)]⟩ =
 bif decide (p1 < 0) then
 some (.tup [.v (.sl DomT) p0, .v .bool (!(decide (p2 = p9)))])
 else
 bif decide (0 ≤ p1) && decide (p1 < p6.length) then
 bif decide ((p6.getD p1.toNat (0 : Int)) = 0) then
 bif !(decide ((p6.getD p1.toNat (0 : Int)) = 0)) then
 some (.tup [.v (.sl DomT) p0, .v .bool true])
 else
 some (.tup [.v (.sl DomT) p0, .v .bool (!(decide ((IntKind.i64.wrap (p9 - p2)) = 0)))])
 else
 bif !decide (p6.getD p1.toNat (0 : Int) = 0) then
 bif !(decide (((IntKind.i64.wrap (p9 - p2)).tmod (p6.getD p1.toNat (0 : Int))) = 0)) then
 bif !(decide ((p6.getD p1.toNat (0 : Int)) = 0)) then
 some (.tup [.v (.sl DomT) p0, .v .bool true])
 else
 some (.tup [.v (.sl DomT) p0, .v .bool (!(decide ((IntKind.i64.wrap (p9 - p2)) = 0)))])
 else
 bif cloneB p0 then
 bif decide (0 ≤ p1) && decide (p1 < p0.length) then
 bif !decide (p6.getD p1.toNat (0 : Int) = 0) then
 bif domB (p0.getD p1.toNat ((0 : Int), ([], ((0 : Int), ((0 : Int), (0 : Int)))))) && bigB (IntKind.i64.wrap ((IntKind.i64.wrap (p9 - p2)).tdiv (p6.getD p1.toNat (0 : Int)))) then
 bif decide (0 ≤ p1) && decide (p1 < p0.length) then
 some (.tup [.v (.sl DomT) (p0.set p1.toNat ((withoutD (p0.getD p1.toNat ((0 : Int), ([], ((0 : Int), ((0 : Int), (0 : Int)))))) (IntKind.i64.wrap ((IntKind.i64.wrap (p9 - p2)).tdiv (p6.getD p1.toNat (0 : Int))))).1)), .v .bool true])
 else
 none
 else
 none
 else
 none
 else
 none
 else
 none
 else
 none
 else
 none := by kernel_rfl
noncomputable def F339.fn : Func := Go.Proofs.Tryz.f39
noncomputable def F339.body : Code := bodyOf F339.fn
noncomputable def F339.E : Env := ⟨tt, [(48, h_fitsD), (77, h_equalF), (78, h_boundD), (79, h_unlikeF), (80, h_cloneD), (81, h_reifiedF)], [(1, [1, 2]), (2, [1, 2, 11]), (3, [1, 2]), (4, [1, 2, 6]), (5, [1, 2, 6, 7]), (6, [1, 2, 6, 7, 13]), (7, [1, 2, 6, 7, 13, 14]), (9, [1, 2, 6, 7, 13, 22]), (11, [1, 2, 6, 7, 13, 34]), (13, [1, 2, 6, 7, 43]), (14, [6, 7]), (15, [6, 52]), (16, [6])], [(0, [6, 7])], some [4, 5], inv, []⟩
noncomputable def F339.K0 : Conts := { nrm := endW F339.E false F339.fn.results.toList, ret := endW F339.E false F339.fn.results.toList, ex := [] }
noncomputable def F339.kt (k : Nat) (q : List Nat) : Conts := contAt F339.E k F339.body F339.K0 q
noncomputable def F339.n1_1_1_1_1 (n : Nat) (K : Conts) (p0 : List Dom) (p1 : Bool) : Option AV := runC F339.E (loopF F339.E n) (subC [1,1,1,1,1] F339.body) K ⟨slots 54 [(6, .v (.sl DomT) p0), (7, .v .bool p1)], []⟩
noncomputable def F339.n1_1_1_1_1b (n : Nat) (K : Conts)  : Option AV := runC F339.E (loopF F339.E n) (subC [1,1,1,1,1] F339.body) K ⟨slots 54 [(6, .nl), (7, .v .bool false)], []⟩
theorem F339.start_eq (k : Nat) (a0 : Con) (a1 : List Dom) : callW F339.E false F339.fn k [.agg (bC a0.1 a0.2.1 a0.2.2.1 a0.2.2.2.1 a0.2.2.2.2.1 a0.2.2.2.2.2.1 a0.2.2.2.2.2.2.1 a0.2.2.2.2.2.2.2), .v (.sl DomT) a1] =
 bif fitsB a0 1 4 then
 bif !(fitsD a0 a1 1 4) then
 some (.tup [.nl, .v .bool false])
 else
 bif decide (a0.1 = 1) then
 bif equalB a0 a1 then F339.n1_1_1_1_1 k (F339.kt k [1,1,1,1,1]) ((equalF a0 a1).1) ((equalF a0 a1).2) else none
 else
 bif decide (a0.1 = 2) then
 bif boundB a0.2.2.2.1 a0.2.2.2.2.2.2.1 a1 then
 F339.n1_1_1_1_1 k (F339.kt k [1,1,1,1,1]) ((boundD a0.2.2.2.1 a0.2.2.2.2.2.2.1 a1).1) ((boundD a0.2.2.2.1 a0.2.2.2.2.2.2.1 a1).2.2)
 else
 none
 else
 bif decide (a0.1 = 3) then
 bif cloneB a1 then
 bif unlikeB a0 a1 then F339.n1_1_1_1_1 k (F339.kt k [1,1,1,1,1]) ((unlikeF a0 a1).1) ((unlikeF a0 a1).2) else none
 else
 none
 else
 bif decide (a0.1 = 4) then
 bif reifiedB a0 a1 then F339.n1_1_1_1_1 k (F339.kt k [1,1,1,1,1]) ((reifiedF a0 a1).1) ((reifiedF a0 a1).2) else none
 else
 F339.n1_1_1_1_1b k (F339.kt k [1,1,1,1,1])
 else
 none := by kernel_rfl
theorem F339.n1_1_1_1_1_eq (n : Nat) (K : Conts) (p0 : List Dom) (p1 : Bool) : F339.n1_1_1_1_1 n K p0 p1 =
 bif !p1 then
 K.ret ⟨slots 54 [(4, .nl), (5, .v .bool false)], []⟩
 else
 K.ret ⟨slots 54 [(4, .v (.sl DomT) p0), (5, .v .bool true)], []⟩ := by kernel_rfl
theorem F339.c0 (k : Nat) : (F339.kt k [1,1,1,1,1]).ret ⟨slots 54 [(4, .nl), (5, .v .bool false)], []⟩ =
 some (.tup [.nl, .v .bool false]) := by kernel_rfl
theorem F339.c1 (k : Nat) (p0 : List Dom) : (F339.kt k [1,1,1,1,1]).ret ⟨slots 54 [(4, .v (.sl DomT) p0), (5, .v .bool true)], []⟩ =
 some (.tup [.v (.sl DomT) p0, .v .bool true]) := by kernel_rfl
noncomputable def F414.fn : Func := Go.Proofs.Tryz.f114
noncomputable def F414.E : Env := ⟨tt, [], [(1, [0, 1]), (2, [0, 1, 5]), (3, [5, 6]), (4, [5, 6, 22]), (5, [6])], [], some [4], inv, []⟩
theorem F414.start_eq (k : Nat) (a0 : Int) (a1 : List Int) : callW F414.E false F414.fn k [.v (.int .i64) a0, .v (.sl (.int .i64)) a1] =
 bif decide ((0 : Int) < a1.length) then
 bif decide (0 ≤ (IntKind.i64.wrap ((a1.length : Int) - 1))) && decide ((IntKind.i64.wrap ((a1.length : Int) - 1)) < a1.length) then
 bif decide ((IntKind.i64.wrap (a0 * (a1.getD 0 (0 : Int)))) < (IntKind.i64.wrap (a0 * (a1.getD ((IntKind.i64.wrap ((a1.length : Int) - 1)).toNat) (0 : Int))))) then
 some (.v (.int .i64) (IntKind.i64.wrap (a0 * (a1.getD 0 (0 : Int)))))
 else
 some (.v (.int .i64) (IntKind.i64.wrap (a0 * (a1.getD ((IntKind.i64.wrap ((a1.length : Int) - 1)).toNat) (0 : Int)))))
 else
 none
 else
 none := by kernel_rfl
noncomputable def F383.fn : Func := Go.Proofs.Tryz.f83
noncomputable def F383.body : Code := bodyOf F383.fn
noncomputable def F383.E : Env := ⟨tt, [(114, h_lowR)], [(1, [0, 1, 2, 3]), (2, [0, 1, 2, 3, 10]), (3, [0, 1, 2, 3, 10, 11, 300010]), (4, [0, 1, 2, 3, 10, 11]), (5, [0, 1, 2, 3, 10, 11]), (6, [0, 1, 2, 3, 10, 11, 12]), (7, [0, 1, 2, 3, 10, 11, 12, 13]), (8, [0, 1, 2, 3, 10, 11, 12, 13]), (9, [0, 1, 2, 3, 10, 11, 12, 13]), (10, [0, 1, 2, 3, 10, 11, 12, 13, 30]), (11, [0, 1, 2, 3, 10, 11, 12]), (12, [0, 1, 2, 3, 10, 11, 12, 14]), (13, [0, 1, 2, 3, 10, 11, 12, 14, 15, 30014]), (14, [0, 1, 2, 3, 10, 11, 12, 14, 15]), (15, [0, 1, 2, 3, 10, 11, 12, 14, 15]), (16, [0, 1, 2, 3, 10, 11, 12, 14, 15, 70]), (17, [0, 1, 2, 3, 10, 11, 14]), (18, [0, 1, 2, 3, 10, 11, 14, 83]), (19, [0, 1, 2, 3, 10, 11, 14]), (20, [10])], [(0, [10]), (1, [0, 1, 2, 3, 10, 11]), (2, [0, 1, 2, 3, 10, 11, 12]), (3, [0, 1, 2, 3, 10, 11, 12, 13]), (4, [0, 1, 2, 3, 10, 11, 14]), (5, [0, 1, 2, 3, 10, 11, 12, 14, 15])], some [8, 9], inv, []⟩
noncomputable def F383.K0 : Conts := { nrm := endW F383.E false F383.fn.results.toList, ret := endW F383.E false F383.fn.results.toList, ex := [] }
noncomputable def F383.kt (k : Nat) (q : List Nat) : Conts := contAt F383.E k F383.body F383.K0 q
noncomputable def F383.l1_1_0_1_0 (n : Nat) (K : Conts) (p0 : List Int) (p1 p2 : Int) (p3 : List (List Int)) (p4 : Int) (p5 : List (List Int)) : Option AV := loopF F383.E n (inLoop (subC [1,1,0,1,0] F383.body)) K ⟨slots 89 [(0, .v (.sl (.int .i64)) p0), (1, .v (.int .i64) p1), (2, .v (.int .i64) p2), (3, .v (.sl (.sl (.int .i64))) p3), (10, .own 0), (11, .v (.int .i64) p4)], [.row 30 (.sl (.int .i64)) p5]⟩
noncomputable def F383.k_l1_1_0_1_0 (n : Nat) (K : Conts) (q : List Nat) : Conts := contAt F383.E n (inLoop (subC [1, 1, 0, 1, 0] F383.body)) (loopK F383.E n (inLoop (subC [1, 1, 0, 1, 0] F383.body)) K) q
noncomputable def F383.l1_1_0_1_0_0_1_0_0_1_0_1_0 (n : Nat) (K : Conts) (p0 : List Int) (p1 p2 : Int) (p3 : List (List Int)) (p4 p5 p6 : Int) (p7 : List (List Int)) : Option AV := loopF F383.E n (inLoop (subC [1,1,0,1,0,0,1,0,0,1,0,1,0] F383.body)) K ⟨slots 89 [(0, .v (.sl (.int .i64)) p0), (1, .v (.int .i64) p1), (2, .v (.int .i64) p2), (3, .v (.sl (.sl (.int .i64))) p3), (10, .own 0), (11, .v (.int .i64) p4), (12, .v (.int .i64) p5), (13, .v (.int .i64) p6)], [.row 30 (.sl (.int .i64)) p7]⟩
noncomputable def F383.l1_1_0_1_0_0_1_0_0_1_1_1_0_1_0 (n : Nat) (K : Conts) (p0 : List Int) (p1 p2 : Int) (p3 : List (List Int)) (p4 p5 p6 : Int) (p7 : List (List Int)) (p8 : List Int) : Option AV := loopF F383.E n (inLoop (subC [1,1,0,1,0,0,1,0,0,1,1,1,0,1,0] F383.body)) K ⟨slots 89 [(0, .v (.sl (.int .i64)) p0), (1, .v (.int .i64) p1), (2, .v (.int .i64) p2), (3, .v (.sl (.sl (.int .i64))) p3), (10, .own 0), (11, .v (.int .i64) p4), (12, .v (.int .i64) p5), (14, .own 1), (15, .v (.int .i64) p6)], [.row 30 (.sl (.int .i64)) p7, .row 3 (.int .i64) p8]⟩
theorem F383.start_eq (k : Nat) (a0 : List Int) (a1 a2 : Int) (a3 : List (List Int)) : callW F383.E false F383.fn k [.v (.sl (.int .i64)) a0, .v (.int .i64) a1, .v (.int .i64) a2, .v (.sl (.sl (.int .i64))) a3] =
 F383.l1_1_0_1_0 k (F383.kt k [1,1,0,1,0]) a0 a1 a2 a3 0 [] := by kernel_rfl
theorem F383.l1_1_0_1_0_eq (n : Nat) (K : Conts) (p0 : List Int) (p1 p2 : Int) (p3 : List (List Int)) (p4 : Int) (p5 : List (List Int)) : F383.l1_1_0_1_0 (n + 1) K p0 p1 p2 p3 p4 p5 =
 bif decide (p4 < (p3.length : Int)) then
 F383.l1_1_0_1_0_0_1_0_0_1_0_1_0 n (F383.k_l1_1_0_1_0 n K [1,0,0,1,0,1,0]) p0 p1 p2 p3 p4 0 0 p5
 else
 exitK K 0 ⟨slots 89 [(10, .own 0)], [.row 30 (.sl (.int .i64)) p5]⟩ := by kernel_rfl
theorem F383.l1_1_0_1_0_0_1_0_0_1_0_1_0_eq (n : Nat) (K : Conts) (p0 : List Int) (p1 p2 : Int) (p3 : List (List Int)) (p4 p5 p6 : Int) (p7 : List (List Int)) : F383.l1_1_0_1_0_0_1_0_0_1_0_1_0 (n + 1) K p0 p1 p2 p3 p4 p5 p6 p7 =
 bif decide (p6 < (p0.length : Int)) then
 bif !(decide (p6 = p4)) then
 bif decide (0 ≤ p6) && decide (p6 < p0.length) then
 bif decide (0 ≤ p6) && decide (p6 < p3.length) then
 bif lowRB (IntKind.i64.wrap (p1 * (p0.getD p6.toNat (0 : Int)))) (p3.getD p6.toNat []) then
 F383.l1_1_0_1_0_0_1_0_0_1_0_1_0 n K p0 p1 p2 p3 p4 (IntKind.i64.wrap (p5 + (lowR (IntKind.i64.wrap (p1 * (p0.getD p6.toNat (0 : Int)))) (p3.getD p6.toNat [])))) (IntKind.i64.wrap (p6 + 1)) p7
 else
 none
 else
 none
 else
 none
 else
 F383.l1_1_0_1_0_0_1_0_0_1_0_1_0 n K p0 p1 p2 p3 p4 p5 (IntKind.i64.wrap (p6 + 1)) p7
 else
 exitK K 2 ⟨slots 89 [(0, .v (.sl (.int .i64)) p0), (1, .v (.int .i64) p1), (2, .v (.int .i64) p2), (3, .v (.sl (.sl (.int .i64))) p3), (10, .own 0), (11, .v (.int .i64) p4), (12, .v (.int .i64) p5)], [.row 30 (.sl (.int .i64)) p7]⟩ := by kernel_rfl
theorem F383.c0 (k : Nat) (p0 : List (List Int)) : exitK (F383.kt k [1,1,0,1,0]) 0 ⟨slots 89 [(10, .own 0)], [.row 30 (.sl (.int .i64)) p0]⟩ =
 some (.tup [.v (.sl (.sl (.int .i64))) p0, .v .bool true]) := by kernel_rfl
theorem F383.c1 (n : Nat) (K : Conts) (p0 : List Int) (p1 p2 : Int) (p3 : List (List Int)) (p4 p5 : Int) (p6 : List (List Int)) : exitK (F383.k_l1_1_0_1_0 n K [1,0,0,1,0,1,0]) 2 ⟨slots 89 [(0, .v (.sl (.int .i64)) p0), (1, .v (.int .i64) p1), (2, .v (.int .i64) p2), (3, .v (.sl (.sl (.int .i64))) p3), (10, .own 0), (11, .v (.int .i64) p4), (12, .v (.int .i64) p5)], [.row 30 (.sl (.int .i64)) p6]⟩ =
 F383.l1_1_0_1_0_0_1_0_0_1_1_1_0_1_0 n (F383.k_l1_1_0_1_0 n K [1,0,0,1,1,1,0,1,0]) p0 p1 p2 p3 p4 p5 0 p6 [] := by kernel_rfl
theorem F383.l1_1_0_1_0_0_1_0_0_1_1_1_0_1_0_eq (n : Nat) (K : Conts) (p0 : List Int) (p1 p2 : Int) (p3 : List (List Int)) (p4 p5 p6 : Int) (p7 : List (List Int)) (p8 : List Int) : F383.l1_1_0_1_0_0_1_0_0_1_1_1_0_1_0 (n + 1) K p0 p1 p2 p3 p4 p5 p6 p7 p8 =
 bif decide (0 ≤ p4) && decide (p4 < p3.length) then
 bif decide (p6 < ((p3.getD p4.toNat []).length : Int)) then
 bif decide (0 ≤ p4) && decide (p4 < p0.length) then
 bif decide (0 ≤ p4) && decide (p4 < p3.length) then
 bif decide (0 ≤ p6) && decide (p6 < (p3.getD p4.toNat []).length) then
 bif decide ((IntKind.i64.wrap ((IntKind.i64.wrap ((IntKind.i64.wrap (p1 * (p0.getD p4.toNat (0 : Int)))) * ((p3.getD p4.toNat []).getD p6.toNat (0 : Int)))) + p5)) ≤ p2) then
 bif decide (0 ≤ p4) && decide (p4 < p3.length) then
 bif decide (0 ≤ p6) && decide (p6 < (p3.getD p4.toNat []).length) then
 bif decide ((p8.length + [(p3.getD p4.toNat []).getD p6.toNat (0 : Int)].length) * 8 ≤ LIM) then
 F383.l1_1_0_1_0_0_1_0_0_1_1_1_0_1_0 n K p0 p1 p2 p3 p4 p5 (IntKind.i64.wrap (p6 + 1)) p7 (p8 ++ [(p3.getD p4.toNat []).getD p6.toNat (0 : Int)])
 else
 none
 else
 none
 else
 none
 else
 F383.l1_1_0_1_0_0_1_0_0_1_1_1_0_1_0 n K p0 p1 p2 p3 p4 p5 (IntKind.i64.wrap (p6 + 1)) p7 p8
 else
 none
 else
 none
 else
 none
 else
 exitK K 4 ⟨slots 89 [(0, .v (.sl (.int .i64)) p0), (1, .v (.int .i64) p1), (2, .v (.int .i64) p2), (3, .v (.sl (.sl (.int .i64))) p3), (10, .own 0), (11, .v (.int .i64) p4), (14, .own 1)], [.row 30 (.sl (.int .i64)) p7, .row 3 (.int .i64) p8]⟩
 else
 none := by kernel_rfl
theorem F383.c2 (n : Nat) (K : Conts) (p0 : List Int) (p1 p2 : Int) (p3 : List (List Int)) (p4 : Int) (p5 : List (List Int)) (p6 : List Int) : exitK (F383.k_l1_1_0_1_0 n K [1,0,0,1,1,1,0,1,0]) 4 ⟨slots 89 [(0, .v (.sl (.int .i64)) p0), (1, .v (.int .i64) p1), (2, .v (.int .i64) p2), (3, .v (.sl (.sl (.int .i64))) p3), (10, .own 0), (11, .v (.int .i64) p4), (14, .own 1)], [.row 30 (.sl (.int .i64)) p5, .row 3 (.int .i64) p6]⟩ =
 bif decide ((p6.length : Int) = 0) then
 K.ret ⟨slots 89 [(8, .nl), (9, .v .bool false)], []⟩
 else
 bif decide ((p5.length + [p6].length) * 24 ≤ LIM) then F383.l1_1_0_1_0 n K p0 p1 p2 p3 (IntKind.i64.wrap (p4 + 1)) (p5 ++ [p6]) else none := by kernel_rfl
theorem F383.c3 (k : Nat) : (F383.kt k [1,1,0,1,0]).ret ⟨slots 89 [(8, .nl), (9, .v .bool false)], []⟩ =
 some (.tup [.nl, .v .bool false]) := by kernel_rfl
noncomputable def F383o.fn : Func := Go.Proofs.Tryz.f83
noncomputable def F383o.body : Code := bodyOf F383o.fn
noncomputable def F383o.E : Env := ⟨tt, [(114, h_lowR)], [(1, [0, 1, 2, 3]), (2, [0, 1, 2, 3, 10]), (3, [0, 1, 2, 3, 10, 11, 300010]), (4, [0, 1, 2, 3, 10, 11]), (5, [0, 1, 2, 3, 10, 11]), (6, [0, 1, 2, 3, 10, 11, 12]), (7, [0, 1, 2, 3, 10, 11, 12, 13]), (8, [0, 1, 2, 3, 10, 11, 12, 13]), (9, [0, 1, 2, 3, 10, 11, 12, 13]), (10, [0, 1, 2, 3, 10, 11, 12, 13, 30]), (11, [0, 1, 2, 3, 10, 11, 12]), (12, [0, 1, 2, 3, 10, 11, 12, 14]), (13, [0, 1, 2, 3, 10, 11, 12, 14, 15, 30014]), (14, [0, 1, 2, 3, 10, 11, 12, 14, 15]), (15, [0, 1, 2, 3, 10, 11, 12, 14, 15]), (16, [0, 1, 2, 3, 10, 11, 12, 14, 15, 70]), (17, [0, 1, 2, 3, 10, 11, 14]), (18, [0, 1, 2, 3, 10, 11, 14, 83]), (19, [0, 1, 2, 3, 10, 11, 14]), (20, [10])], [(0, [10]), (1, [0, 1, 2, 3, 10, 11]), (2, [0, 1, 2, 3, 10, 11, 12]), (3, [0, 1, 2, 3, 10, 11, 12, 13]), (4, [0, 1, 2, 3, 10, 11, 14]), (5, [0, 1, 2, 3, 10, 11, 12, 14, 15])], some [8, 9], inv, []⟩
noncomputable def F383o.K0 : Conts := { nrm := endW F383o.E true F383o.fn.results.toList, ret := endW F383o.E true F383o.fn.results.toList, ex := [] }
noncomputable def F383o.kt (k : Nat) (q : List Nat) : Conts := contAt F383o.E k F383o.body F383o.K0 q
noncomputable def F383o.l1_1_0_1_0 (n : Nat) (K : Conts) (p0 : List Int) (p1 p2 : Int) (p3 : List (List Int)) (p4 : Int) (p5 : List (List Int)) : Option AV := loopF F383o.E n (inLoop (subC [1,1,0,1,0] F383o.body)) K ⟨slots 89 [(0, .v (.sl (.int .i64)) p0), (1, .v (.int .i64) p1), (2, .v (.int .i64) p2), (3, .v (.sl (.sl (.int .i64))) p3), (10, .own 0), (11, .v (.int .i64) p4)], [.row 30 (.sl (.int .i64)) p5]⟩
noncomputable def F383o.k_l1_1_0_1_0 (n : Nat) (K : Conts) (q : List Nat) : Conts := contAt F383o.E n (inLoop (subC [1, 1, 0, 1, 0] F383o.body)) (loopK F383o.E n (inLoop (subC [1, 1, 0, 1, 0] F383o.body)) K) q
noncomputable def F383o.l1_1_0_1_0_0_1_0_0_1_0_1_0 (n : Nat) (K : Conts) (p0 : List Int) (p1 p2 : Int) (p3 : List (List Int)) (p4 p5 p6 : Int) (p7 : List (List Int)) : Option AV := loopF F383o.E n (inLoop (subC [1,1,0,1,0,0,1,0,0,1,0,1,0] F383o.body)) K ⟨slots 89 [(0, .v (.sl (.int .i64)) p0), (1, .v (.int .i64) p1), (2, .v (.int .i64) p2), (3, .v (.sl (.sl (.int .i64))) p3), (10, .own 0), (11, .v (.int .i64) p4), (12, .v (.int .i64) p5), (13, .v (.int .i64) p6)], [.row 30 (.sl (.int .i64)) p7]⟩
noncomputable def F383o.l1_1_0_1_0_0_1_0_0_1_1_1_0_1_0 (n : Nat) (K : Conts) (p0 : List Int) (p1 p2 : Int) (p3 : List (List Int)) (p4 p5 p6 : Int) (p7 : List (List Int)) (p8 : List Int) : Option AV := loopF F383o.E n (inLoop (subC [1,1,0,1,0,0,1,0,0,1,1,1,0,1,0] F383o.body)) K ⟨slots 89 [(0, .v (.sl (.int .i64)) p0), (1, .v (.int .i64) p1), (2, .v (.int .i64) p2), (3, .v (.sl (.sl (.int .i64))) p3), (10, .own 0), (11, .v (.int .i64) p4), (12, .v (.int .i64) p5), (14, .own 1), (15, .v (.int .i64) p6)], [.row 30 (.sl (.int .i64)) p7, .row 3 (.int .i64) p8]⟩
theorem F383o.start_eq (k : Nat) (a0 : List Int) (a1 a2 : Int) (a3 : List (List Int)) : callW F383o.E true F383o.fn k [.v (.sl (.int .i64)) a0, .v (.int .i64) a1, .v (.int .i64) a2, .v (.sl (.sl (.int .i64))) a3] =
 F383o.l1_1_0_1_0 k (F383o.kt k [1,1,0,1,0]) a0 a1 a2 a3 0 [] := by kernel_rfl
theorem F383o.l1_1_0_1_0_eq (n : Nat) (K : Conts) (p0 : List Int) (p1 p2 : Int) (p3 : List (List Int)) (p4 : Int) (p5 : List (List Int)) : F383o.l1_1_0_1_0 (n + 1) K p0 p1 p2 p3 p4 p5 =
 bif decide (p4 < (p3.length : Int)) then
 F383o.l1_1_0_1_0_0_1_0_0_1_0_1_0 n (F383o.k_l1_1_0_1_0 n K [1,0,0,1,0,1,0]) p0 p1 p2 p3 p4 0 0 p5
 else
 exitK K 0 ⟨slots 89 [(10, .own 0)], [.row 30 (.sl (.int .i64)) p5]⟩ := by kernel_rfl
theorem F383o.l1_1_0_1_0_0_1_0_0_1_0_1_0_eq (n : Nat) (K : Conts) (p0 : List Int) (p1 p2 : Int) (p3 : List (List Int)) (p4 p5 p6 : Int) (p7 : List (List Int)) : F383o.l1_1_0_1_0_0_1_0_0_1_0_1_0 (n + 1) K p0 p1 p2 p3 p4 p5 p6 p7 =
 bif decide (p6 < (p0.length : Int)) then
 bif !(decide (p6 = p4)) then
 bif decide (0 ≤ p6) && decide (p6 < p0.length) then
 bif decide (0 ≤ p6) && decide (p6 < p3.length) then
 bif lowRB (IntKind.i64.wrap (p1 * (p0.getD p6.toNat (0 : Int)))) (p3.getD p6.toNat []) then
 F383o.l1_1_0_1_0_0_1_0_0_1_0_1_0 n K p0 p1 p2 p3 p4 (IntKind.i64.wrap (p5 + (lowR (IntKind.i64.wrap (p1 * (p0.getD p6.toNat (0 : Int)))) (p3.getD p6.toNat [])))) (IntKind.i64.wrap (p6 + 1)) p7
 else
 none
 else
 none
 else
 none
 else
 F383o.l1_1_0_1_0_0_1_0_0_1_0_1_0 n K p0 p1 p2 p3 p4 p5 (IntKind.i64.wrap (p6 + 1)) p7
 else
 exitK K 2 ⟨slots 89 [(0, .v (.sl (.int .i64)) p0), (1, .v (.int .i64) p1), (2, .v (.int .i64) p2), (3, .v (.sl (.sl (.int .i64))) p3), (10, .own 0), (11, .v (.int .i64) p4), (12, .v (.int .i64) p5)], [.row 30 (.sl (.int .i64)) p7]⟩ := by kernel_rfl
theorem F383o.c0 (k : Nat) (p0 : List (List Int)) : exitK (F383o.kt k [1,1,0,1,0]) 0 ⟨slots 89 [(10, .own 0)], [.row 30 (.sl (.int .i64)) p0]⟩ =
 some (.tup [.nw 30 (.sl (.int .i64)) p0, .v .bool true]) := by kernel_rfl
theorem F383o.c1 (n : Nat) (K : Conts) (p0 : List Int) (p1 p2 : Int) (p3 : List (List Int)) (p4 p5 : Int) (p6 : List (List Int)) : exitK (F383o.k_l1_1_0_1_0 n K [1,0,0,1,0,1,0]) 2 ⟨slots 89 [(0, .v (.sl (.int .i64)) p0), (1, .v (.int .i64) p1), (2, .v (.int .i64) p2), (3, .v (.sl (.sl (.int .i64))) p3), (10, .own 0), (11, .v (.int .i64) p4), (12, .v (.int .i64) p5)], [.row 30 (.sl (.int .i64)) p6]⟩ =
 F383o.l1_1_0_1_0_0_1_0_0_1_1_1_0_1_0 n (F383o.k_l1_1_0_1_0 n K [1,0,0,1,1,1,0,1,0]) p0 p1 p2 p3 p4 p5 0 p6 [] := by kernel_rfl
theorem F383o.l1_1_0_1_0_0_1_0_0_1_1_1_0_1_0_eq (n : Nat) (K : Conts) (p0 : List Int) (p1 p2 : Int) (p3 : List (List Int)) (p4 p5 p6 : Int) (p7 : List (List Int)) (p8 : List Int) : F383o.l1_1_0_1_0_0_1_0_0_1_1_1_0_1_0 (n + 1) K p0 p1 p2 p3 p4 p5 p6 p7 p8 =
 bif decide (0 ≤ p4) && decide (p4 < p3.length) then
 bif decide (p6 < ((p3.getD p4.toNat []).length : Int)) then
 bif decide (0 ≤ p4) && decide (p4 < p0.length) then
 bif decide (0 ≤ p4) && decide (p4 < p3.length) then
 bif decide (0 ≤ p6) && decide (p6 < (p3.getD p4.toNat []).length) then
 bif decide ((IntKind.i64.wrap ((IntKind.i64.wrap ((IntKind.i64.wrap (p1 * (p0.getD p4.toNat (0 : Int)))) * ((p3.getD p4.toNat []).getD p6.toNat (0 : Int)))) + p5)) ≤ p2) then
 bif decide (0 ≤ p4) && decide (p4 < p3.length) then
 bif decide (0 ≤ p6) && decide (p6 < (p3.getD p4.toNat []).length) then
 bif decide ((p8.length + [(p3.getD p4.toNat []).getD p6.toNat (0 : Int)].length) * 8 ≤ LIM) then
 F383o.l1_1_0_1_0_0_1_0_0_1_1_1_0_1_0 n K p0 p1 p2 p3 p4 p5 (IntKind.i64.wrap (p6 + 1)) p7 (p8 ++ [(p3.getD p4.toNat []).getD p6.toNat (0 : Int)])
 else
 none
 else
 none
 else
 none
 else
 F383o.l1_1_0_1_0_0_1_0_0_1_1_1_0_1_0 n K p0 p1 p2 p3 p4 p5 (IntKind.i64.wrap (p6 + 1)) p7 p8
 else
 none
 else
 none
 else
 none
 else
 exitK K 4 ⟨slots 89 [(0, .v (.sl (.int .i64)) p0), (1, .v (.int .i64) p1), (2, .v (.int .i64) p2), (3, .v (.sl (.sl (.int .i64))) p3), (10, .own 0), (11, .v (.int .i64) p4), (14, .own 1)], [.row 30 (.sl (.int .i64)) p7, .row 3 (.int .i64) p8]⟩
 else
 none := by kernel_rfl
theorem F383o.c2 (n : Nat) (K : Conts) (p0 : List Int) (p1 p2 : Int) (p3 : List (List Int)) (p4 : Int) (p5 : List (List Int)) (p6 : List Int) : exitK (F383o.k_l1_1_0_1_0 n K [1,0,0,1,1,1,0,1,0]) 4 ⟨slots 89 [(0, .v (.sl (.int .i64)) p0), (1, .v (.int .i64) p1), (2, .v (.int .i64) p2), (3, .v (.sl (.sl (.int .i64))) p3), (10, .own 0), (11, .v (.int .i64) p4), (14, .own 1)], [.row 30 (.sl (.int .i64)) p5, .row 3 (.int .i64) p6]⟩ =
 bif decide ((p6.length : Int) = 0) then
 K.ret ⟨slots 89 [(8, .nl), (9, .v .bool false)], []⟩
 else
 bif decide ((p5.length + [p6].length) * 24 ≤ LIM) then F383o.l1_1_0_1_0 n K p0 p1 p2 p3 (IntKind.i64.wrap (p4 + 1)) (p5 ++ [p6]) else none := by kernel_rfl
theorem F383o.c3 (k : Nat) : (F383o.kt k [1,1,0,1,0]).ret ⟨slots 89 [(8, .nl), (9, .v .bool false)], []⟩ =
 some (.tup [.nl, .v .bool false]) := by kernel_rfl
noncomputable def F382.fn : Func := Go.Proofs.Tryz.f82
noncomputable def F382.body : Code := bodyOf F382.fn
noncomputable def F382.E : Env := ⟨tt, [(20, h_sameL), (83, h_byR)], [(1, [1, 2]), (2, [1, 2, 6]), (3, [1, 2, 6]), (4, [1, 2, 6]), (5, [1, 2, 6, 7, 8]), (6, [1, 2, 6, 7, 24]), (7, [1, 2, 6, 7]), (8, [1, 2, 6, 7, 8]), (9, [1, 2, 6, 7, 36]), (10, [1, 2, 6, 7]), (11, [2, 6, 7, 9]), (12, [2, 6, 7, 40]), (13, [2, 6, 7]), (14, [])], [(0, []), (1, [1, 2, 6])], some [4, 5], inv, []⟩
noncomputable def F382.K0 : Conts := { nrm := endW F382.E false F382.fn.results.toList, ret := endW F382.E false F382.fn.results.toList, ex := [] }
noncomputable def F382.kt (k : Nat) (q : List Nat) : Conts := contAt F382.E k F382.body F382.K0 q
noncomputable def F382.l1_0_1_0 (n : Nat) (K : Conts) (p0 : List (List Int)) (p1 p2 : Int) (p3 p4 p5 p6 p7 : List Int) (p8 : Int) (p9 : List (List Int)) : Option AV := loopF F382.E n (inLoop (subC [1,0,1,0] F382.body)) K ⟨slots 43 [(1, .v (.sl (.sl (.int .i64))) p0), (2, .pb 0 0), (6, .v (.int .i64) p1)], [.box (bC p2 p3 p4 p5 p6 p7 p8 p9)]⟩
theorem F382.start_eq (k : Nat) (a0 : Con) (a1 : List (List Int)) : callW F382.E false F382.fn k [.agg (bC a0.1 a0.2.1 a0.2.2.1 a0.2.2.2.1 a0.2.2.2.2.1 a0.2.2.2.2.2.1 a0.2.2.2.2.2.2.1 a0.2.2.2.2.2.2.2), .v (.sl (.sl (.int .i64))) a1] =
 F382.l1_0_1_0 k (F382.kt k [1,0,1,0]) a1 0 a0.1 a0.2.1 a0.2.2.1 a0.2.2.2.1 a0.2.2.2.2.1 a0.2.2.2.2.2.1 a0.2.2.2.2.2.2.1 a0.2.2.2.2.2.2.2 := by kernel_rfl
theorem F382.l1_0_1_0_eq (n : Nat) (K : Conts) (p0 : List (List Int)) (p1 p2 : Int) (p3 p4 p5 p6 p7 : List Int) (p8 : Int) (p9 : List (List Int)) : F382.l1_0_1_0 (n + 1) K p0 p1 p2 p3 p4 p5 p6 p7 p8 p9 =
 bif decide (p1 < 1000000) then
 bif byRB p5 1 p8 p0 then
 bif !((byR p5 1 p8 p0).2) then
 K.ret ⟨slots 43 [(4, .nl), (5, .v .bool false)], []⟩
 else
 bif byRB p5 (-1 : Int) (IntKind.i64.wrap (0 - p8)) ((byR p5 1 p8 p0).1) then
 bif !((byR p5 (-1 : Int) (IntKind.i64.wrap (0 - p8)) ((byR p5 1 p8 p0).1)).2) then
 K.ret ⟨slots 43 [(4, .nl), (5, .v .bool false)], []⟩
 else
 bif Nat.ble ((byR p5 (-1 : Int) (IntKind.i64.wrap (0 - p8)) ((byR p5 1 p8 p0).1)).1).length 1000 && lensB ((byR p5 (-1 : Int) (IntKind.i64.wrap (0 - p8)) ((byR p5 1 p8 p0).1)).1) then
 bif sameL ((byR p5 (-1 : Int) (IntKind.i64.wrap (0 - p8)) ((byR p5 1 p8 p0).1)).1) p0 then
 K.ret ⟨slots 43 [(4, .v (.sl (.sl (.int .i64))) ((byR p5 (-1 : Int) (IntKind.i64.wrap (0 - p8)) ((byR p5 1 p8 p0).1)).1)), (5, .v .bool true)], []⟩
 else
 F382.l1_0_1_0 n K ((byR p5 (-1 : Int) (IntKind.i64.wrap (0 - p8)) ((byR p5 1 p8 p0).1)).1) (IntKind.i64.wrap (p1 + 1)) p2 p3 p4 p5 p6 p7 p8 p9
 else
 none
 else
 none
 else
 none
 else
 exitK K 0 ⟨slots 43 [], []⟩ := by kernel_rfl
theorem F382.c0 (k : Nat) : (F382.kt k [1,0,1,0]).ret ⟨slots 43 [(4, .nl), (5, .v .bool false)], []⟩ =
 some (.tup [.nl, .v .bool false]) := by kernel_rfl
theorem F382.c1 (k : Nat) (p0 : List (List Int)) : (F382.kt k [1,0,1,0]).ret ⟨slots 43 [(4, .v (.sl (.sl (.int .i64))) p0), (5, .v .bool true)], []⟩ =
 some (.tup [.v (.sl (.sl (.int .i64))) p0, .v .bool true]) := by kernel_rfl
noncomputable def F384.fn : Func := Go.Proofs.Tryz.f84
noncomputable def F384.body : Code := bodyOf F384.fn
noncomputable def F384.E : Env := ⟨tt, [], [(1, [1, 2]), (2, [1, 2, 6]), (3, [1, 2, 6, 7]), (4, [1, 2, 6, 7, 8]), (5, [1, 2, 6, 7, 8, 9]), (6, [1, 2, 6, 7, 8, 9]), (7, [1, 2, 6, 7, 8, 9]), (8, [1, 2, 6, 7, 8, 9, 25]), (9, [1, 2, 6, 8, 9]), (11, [1, 2, 6, 7, 8]), (12, [1, 2, 6, 7, 8, 44]), (13, [1, 2, 6, 7, 8]), (14, [1, 2, 7, 8, 47]), (15, [1, 2, 7, 8]), (16, [1, 2, 7, 8, 10]), (17, [1, 2, 7, 8, 10, 11, 300010]), (18, [1, 2, 7, 8, 10, 11]), (19, [1, 2, 7, 8, 10, 11]), (20, [1, 2, 7, 8, 10, 11, 12]), (21, [1, 2, 7, 8, 10, 11, 12, 13, 30012]), (22, [1, 2, 7, 8, 10, 11, 12, 13]), (23, [1, 2, 7, 8, 10, 11, 12, 13]), (24, [1, 2, 7, 8, 10, 11, 12, 13, 90]), (25, [1, 2, 7, 8, 10, 11, 12]), (26, [1, 2, 7, 8, 10, 11, 12, 103]), (27, [1, 2, 7, 8, 10, 11, 12]), (28, [10])], [(0, [1, 2, 6, 7, 8]), (1, [1, 2, 6, 7, 8, 9]), (2, [10]), (3, [1, 2, 7, 8, 10, 11]), (4, [1, 2, 7, 8, 10, 11, 12]), (5, [1, 2, 7, 8, 10, 11, 12, 13])], some [4, 5], inv, []⟩
noncomputable def F384.K0 : Conts := { nrm := endW F384.E false F384.fn.results.toList, ret := endW F384.E false F384.fn.results.toList, ex := [] }
noncomputable def F384.kt (k : Nat) (q : List Nat) : Conts := contAt F384.E k F384.body F384.K0 q
noncomputable def F384.l1_1_1_1_0_1_0 (n : Nat) (K : Conts) (p0 : List (List Int)) (p1 p2 p3 p4 p5 : Int) (p6 p7 p8 p9 p10 : List Int) (p11 : Int) (p12 : List (List Int)) : Option AV := loopF F384.E n (inLoop (subC [1,1,1,1,0,1,0] F384.body)) K ⟨slots 109 [(1, .v (.sl (.sl (.int .i64))) p0), (2, .pb 0 0), (6, .v (.int .i64) p1), (7, .v (.int .i64) p2), (8, .v (.int .i64) p3), (9, .v (.int .i64) p4)], [.box (bC p5 p6 p7 p8 p9 p10 p11 p12)]⟩
noncomputable def F384.l1_1_1_1_1_1_1_1_0_1_0 (n : Nat) (K : Conts) (p0 : List (List Int)) (p1 p2 p3 p4 : Int) (p5 p6 p7 p8 p9 : List Int) (p10 : Int) (p11 p12 : List (List Int)) : Option AV := loopF F384.E n (inLoop (subC [1,1,1,1,1,1,1,1,0,1,0] F384.body)) K ⟨slots 109 [(1, .v (.sl (.sl (.int .i64))) p0), (2, .pb 0 0), (7, .v (.int .i64) p1), (8, .v (.int .i64) p2), (10, .own 1), (11, .v (.int .i64) p3)], [.box (bC p4 p5 p6 p7 p8 p9 p10 p11), .row 30 (.sl (.int .i64)) p12]⟩
noncomputable def F384.k_l1_1_1_1_1_1_1_1_0_1_0 (n : Nat) (K : Conts) (q : List Nat) : Conts := contAt F384.E n (inLoop (subC [1, 1, 1, 1, 1, 1, 1, 1, 0, 1, 0] F384.body)) (loopK F384.E n (inLoop (subC [1, 1, 1, 1, 1, 1, 1, 1, 0, 1, 0] F384.body)) K) q
noncomputable def F384.l1_1_1_1_1_1_1_1_0_1_0_0_1_0_0_1_0_1_0 (n : Nat) (K : Conts) (p0 : List (List Int)) (p1 p2 p3 p4 p5 : Int) (p6 p7 p8 p9 p10 : List Int) (p11 : Int) (p12 p13 : List (List Int)) (p14 : List Int) : Option AV := loopF F384.E n (inLoop (subC [1,1,1,1,1,1,1,1,0,1,0,0,1,0,0,1,0,1,0] F384.body)) K ⟨slots 109 [(1, .v (.sl (.sl (.int .i64))) p0), (2, .pb 0 0), (7, .v (.int .i64) p1), (8, .v (.int .i64) p2), (10, .own 1), (11, .v (.int .i64) p3), (12, .own 2), (13, .v (.int .i64) p4)], [.box (bC p5 p6 p7 p8 p9 p10 p11 p12), .row 30 (.sl (.int .i64)) p13, .row 3 (.int .i64) p14]⟩
theorem F384.start_eq (k : Nat) (a0 : Con) (a1 : List (List Int)) : callW F384.E false F384.fn k [.agg (bC a0.1 a0.2.1 a0.2.2.1 a0.2.2.2.1 a0.2.2.2.2.1 a0.2.2.2.2.2.1 a0.2.2.2.2.2.2.1 a0.2.2.2.2.2.2.2), .v (.sl (.sl (.int .i64))) a1] =
 F384.l1_1_1_1_0_1_0 k (F384.kt k [1,1,1,1,0,1,0]) a1 0 0 0 0 a0.1 a0.2.1 a0.2.2.1 a0.2.2.2.1 a0.2.2.2.2.1 a0.2.2.2.2.2.1 a0.2.2.2.2.2.2.1 a0.2.2.2.2.2.2.2 := by kernel_rfl
theorem F384.l1_1_1_1_0_1_0_eq (n : Nat) (K : Conts) (p0 : List (List Int)) (p1 p2 p3 p4 p5 : Int) (p6 p7 p8 p9 p10 : List Int) (p11 : Int) (p12 : List (List Int)) : F384.l1_1_1_1_0_1_0 (n + 1) K p0 p1 p2 p3 p4 p5 p6 p7 p8 p9 p10 p11 p12 =
 bif decide (p4 < (p0.length : Int)) then
 bif decide (0 ≤ p4) && decide (p4 < p0.length) then
 bif decide (((p0.getD p4.toNat []).length : Int) > 1) then
 F384.l1_1_1_1_0_1_0 n K p0 (IntKind.i64.wrap (p1 + 1)) p4 p3 (IntKind.i64.wrap (p4 + 1)) p5 p6 p7 p8 p9 p10 p11 p12
 else
 bif decide (0 ≤ p4) && decide (p4 < p8.length) then
 bif decide (0 ≤ p4) && decide (p4 < p0.length) then
 bif decide ((0 : Int) < (p0.getD p4.toNat []).length) then
 F384.l1_1_1_1_0_1_0 n K p0 p1 p2 (IntKind.i64.wrap (p3 + (IntKind.i64.wrap ((p8.getD p4.toNat (0 : Int)) * ((p0.getD p4.toNat []).getD 0 (0 : Int)))))) (IntKind.i64.wrap (p4 + 1)) p5 p6 p7 p8 p9 p10 p11 p12
 else
 none
 else
 none
 else
 none
 else
 none
 else
 exitK K 0 ⟨slots 109 [(1, .v (.sl (.sl (.int .i64))) p0), (2, .pb 0 0), (6, .v (.int .i64) p1), (7, .v (.int .i64) p2), (8, .v (.int .i64) p3)], [.box (bC p5 p6 p7 p8 p9 p10 p11 p12)]⟩ := by kernel_rfl
theorem F384.c0 (k : Nat) (p0 : List (List Int)) (p1 p2 p3 p4 : Int) (p5 p6 p7 p8 p9 : List Int) (p10 : Int) (p11 : List (List Int)) : exitK (F384.kt k [1,1,1,1,0,1,0]) 0 ⟨slots 109 [(1, .v (.sl (.sl (.int .i64))) p0), (2, .pb 0 0), (6, .v (.int .i64) p1), (7, .v (.int .i64) p2), (8, .v (.int .i64) p3)], [.box (bC p4 p5 p6 p7 p8 p9 p10 p11)]⟩ =
 bif decide (p1 > 1) then
 some (.tup [.v (.sl (.sl (.int .i64))) p0, .v .bool true])
 else
 bif decide (p1 = 0) then
 some (.tup [.v (.sl (.sl (.int .i64))) p0, .v .bool (!(decide (p3 = p10)))])
 else
 F384.l1_1_1_1_1_1_1_1_0_1_0 k (F384.kt k [1,1,1,1,1,1,1,1,0,1,0]) p0 p2 p3 0 p4 p5 p6 p7 p8 p9 p10 p11 [] := by kernel_rfl
theorem F384.l1_1_1_1_1_1_1_1_0_1_0_eq (n : Nat) (K : Conts) (p0 : List (List Int)) (p1 p2 p3 p4 : Int) (p5 p6 p7 p8 p9 : List Int) (p10 : Int) (p11 p12 : List (List Int)) : F384.l1_1_1_1_1_1_1_1_0_1_0 (n + 1) K p0 p1 p2 p3 p4 p5 p6 p7 p8 p9 p10 p11 p12 =
 bif decide (p3 < (p0.length : Int)) then
 F384.l1_1_1_1_1_1_1_1_0_1_0_0_1_0_0_1_0_1_0 n (F384.k_l1_1_1_1_1_1_1_1_0_1_0 n K [1,0,0,1,0,1,0]) p0 p1 p2 p3 0 p4 p5 p6 p7 p8 p9 p10 p11 p12 []
 else
 exitK K 2 ⟨slots 109 [(10, .own 0)], [.row 30 (.sl (.int .i64)) p12]⟩ := by kernel_rfl
theorem F384.l1_1_1_1_1_1_1_1_0_1_0_0_1_0_0_1_0_1_0_eq (n : Nat) (K : Conts) (p0 : List (List Int)) (p1 p2 p3 p4 p5 : Int) (p6 p7 p8 p9 p10 : List Int) (p11 : Int) (p12 p13 : List (List Int)) (p14 : List Int) : F384.l1_1_1_1_1_1_1_1_0_1_0_0_1_0_0_1_0_1_0 (n + 1) K p0 p1 p2 p3 p4 p5 p6 p7 p8 p9 p10 p11 p12 p13 p14 =
 bif decide (0 ≤ p3) && decide (p3 < p0.length) then
 bif decide (p4 < ((p0.getD p3.toNat []).length : Int)) then
 bif !(decide (p3 = p1)) then
 bif decide (0 ≤ p3) && decide (p3 < p0.length) then
 bif decide (0 ≤ p4) && decide (p4 < (p0.getD p3.toNat []).length) then
 bif decide ((p14.length + [(p0.getD p3.toNat []).getD p4.toNat (0 : Int)].length) * 8 ≤ LIM) then
 F384.l1_1_1_1_1_1_1_1_0_1_0_0_1_0_0_1_0_1_0 n K p0 p1 p2 p3 (IntKind.i64.wrap (p4 + 1)) p5 p6 p7 p8 p9 p10 p11 p12 p13 (p14 ++ [(p0.getD p3.toNat []).getD p4.toNat (0 : Int)])
 else
 none
 else
 none
 else
 none
 else
 bif decide (0 ≤ p3) && decide (p3 < p8.length) then
 bif decide (0 ≤ p3) && decide (p3 < p0.length) then
 bif decide (0 ≤ p4) && decide (p4 < (p0.getD p3.toNat []).length) then
 bif !(decide ((IntKind.i64.wrap (p2 + (IntKind.i64.wrap ((p8.getD p3.toNat (0 : Int)) * ((p0.getD p3.toNat []).getD p4.toNat (0 : Int)))))) = p11)) then
 bif decide (0 ≤ p3) && decide (p3 < p0.length) then
 bif decide (0 ≤ p4) && decide (p4 < (p0.getD p3.toNat []).length) then
 bif decide ((p14.length + [(p0.getD p3.toNat []).getD p4.toNat (0 : Int)].length) * 8 ≤ LIM) then
 F384.l1_1_1_1_1_1_1_1_0_1_0_0_1_0_0_1_0_1_0 n K p0 p1 p2 p3 (IntKind.i64.wrap (p4 + 1)) p5 p6 p7 p8 p9 p10 p11 p12 p13 (p14 ++ [(p0.getD p3.toNat []).getD p4.toNat (0 : Int)])
 else
 none
 else
 none
 else
 none
 else
 F384.l1_1_1_1_1_1_1_1_0_1_0_0_1_0_0_1_0_1_0 n K p0 p1 p2 p3 (IntKind.i64.wrap (p4 + 1)) p5 p6 p7 p8 p9 p10 p11 p12 p13 p14
 else
 none
 else
 none
 else
 none
 else
 exitK K 4 ⟨slots 109 [(1, .v (.sl (.sl (.int .i64))) p0), (2, .pb 0 0), (7, .v (.int .i64) p1), (8, .v (.int .i64) p2), (10, .own 1), (11, .v (.int .i64) p3), (12, .own 2)], [.box (bC p5 p6 p7 p8 p9 p10 p11 p12), .row 30 (.sl (.int .i64)) p13, .row 3 (.int .i64) p14]⟩
 else
 none := by kernel_rfl
theorem F384.c1 (k : Nat) (p0 : List (List Int)) : exitK (F384.kt k [1,1,1,1,1,1,1,1,0,1,0]) 2 ⟨slots 109 [(10, .own 0)], [.row 30 (.sl (.int .i64)) p0]⟩ =
 some (.tup [.v (.sl (.sl (.int .i64))) p0, .v .bool true]) := by kernel_rfl
theorem F384.c2 (n : Nat) (K : Conts) (p0 : List (List Int)) (p1 p2 p3 p4 : Int) (p5 p6 p7 p8 p9 : List Int) (p10 : Int) (p11 p12 : List (List Int)) (p13 : List Int) : exitK (F384.k_l1_1_1_1_1_1_1_1_0_1_0 n K [1,0,0,1,0,1,0]) 4 ⟨slots 109 [(1, .v (.sl (.sl (.int .i64))) p0), (2, .pb 0 0), (7, .v (.int .i64) p1), (8, .v (.int .i64) p2), (10, .own 1), (11, .v (.int .i64) p3), (12, .own 2)], [.box (bC p4 p5 p6 p7 p8 p9 p10 p11), .row 30 (.sl (.int .i64)) p12, .row 3 (.int .i64) p13]⟩ =
 bif decide ((p13.length : Int) = 0) then
 K.ret ⟨slots 109 [(4, .nl), (5, .v .bool false)], []⟩
 else
 bif decide ((p12.length + [p13].length) * 24 ≤ LIM) then
 F384.l1_1_1_1_1_1_1_1_0_1_0 n K p0 p1 p2 (IntKind.i64.wrap (p3 + 1)) p4 p5 p6 p7 p8 p9 p10 p11 (p12 ++ [p13])
 else
 none := by kernel_rfl
theorem F384.c3 (k : Nat) : (F384.kt k [1,1,1,1,1,1,1,1,0,1,0]).ret ⟨slots 109 [(4, .nl), (5, .v .bool false)], []⟩ =
 some (.tup [.nl, .v .bool false]) := by kernel_rfl
noncomputable def F341.fn : Func := Go.Proofs.Tryz.f41
noncomputable def F341.E : Env := ⟨tt, [(33, h_fitsR), (82, h_equalR), (83, h_byR), (84, h_unlikeR), (85, h_reifiedR)], [(1, [1, 2]), (2, [1, 2, 6]), (3, [1, 2, 13]), (4, [1, 2]), (5, [1, 2, 15]), (6, [1, 2, 15, 16]), (8, [1, 2, 15, 23]), (10, [1, 2, 33]), (11, [7, 8]), (12, [7, 42]), (13, [7]), (14, [1, 2])], [(0, [1, 2])], some [4, 5], inv, []⟩
theorem F341.start_eq (k : Nat) (a0 : Con) (a1 : List (List Int)) : callW F341.E false F341.fn k [.agg (bC a0.1 a0.2.1 a0.2.2.1 a0.2.2.2.1 a0.2.2.2.2.1 a0.2.2.2.2.2.1 a0.2.2.2.2.2.2.1 a0.2.2.2.2.2.2.2), .v (.sl (.sl (.int .i64))) a1] =
 bif fitsB a0 1 4 then
 bif !(fitsR a0 a1 1 4) then
 some (.tup [.nl, .v .bool false])
 else
 bif decide (a0.1 = 1) then
 bif equalRB a0 a1 then some (.tup [.v (.sl (.sl (.int .i64))) ((equalR a0 a1).1), .v .bool ((equalR a0 a1).2)]) else none
 else
 bif decide (a0.1 = 2) then
 bif byRB a0.2.2.2.1 1 a0.2.2.2.2.2.2.1 a1 then
 some (.tup [.v (.sl (.sl (.int .i64))) ((byR a0.2.2.2.1 1 a0.2.2.2.2.2.2.1 a1).1), .v .bool ((byR a0.2.2.2.1 1 a0.2.2.2.2.2.2.1 a1).2)])
 else
 none
 else
 bif decide (a0.1 = 3) then
 bif unlikeRB a0 a1 then
 bif !((unlikeR a0 a1).2) then some (.tup [.nl, .v .bool false]) else some (.tup [.v (.sl (.sl (.int .i64))) ((unlikeR a0 a1).1), .v .bool true])
 else
 none
 else
 bif reifiedRB a0 a1 then some (.tup [.v (.sl (.sl (.int .i64))) ((reifiedR a0 a1).1), .v .bool ((reifiedR a0 a1).2)]) else none
 else
 none := by kernel_rfl
noncomputable def F340.fn : Func := Go.Proofs.Tryz.f40
noncomputable def F340.body : Code := bodyOf F340.fn
noncomputable def F340.E : Env := ⟨tt, [(50, h_ofD)], [(1, [0]), (2, [0, 3]), (3, [3, 8, 9, 10, 470003]), (4, [3, 8, 9, 10, 11]), (5, [3, 5, 8, 9, 10]), (6, [3, 6, 8, 9, 10]), (7, [3, 8, 9, 10]), (8, [3])], [(0, [3]), (1, [3, 8, 9, 10])], some [2], inv, []⟩
noncomputable def F340.K0 : Conts := { nrm := endW F340.E false F340.fn.results.toList, ret := endW F340.E false F340.fn.results.toList, ex := [] }
noncomputable def F340.kt (k : Nat) (q : List Nat) : Conts := contAt F340.E k F340.body F340.K0 q
noncomputable def F340.l1_1_0_1_0 (n : Nat) (K : Conts) (p0 : List (List Int)) (p1 p2 : Int) (p3 : List Dom) : Option AV := loopF F340.E n (inLoop (subC [1,1,0,1,0] F340.body)) K ⟨slots 25 [(3, .own 0), (8, .v (.sl (.sl (.int .i64))) p0), (9, .v (.int .i64) p1), (10, .v (.int .i64) p2)], [.row 47 DomT p3]⟩
theorem F340.start_eq (k : Nat) (a0 : List (List Int)) : callW F340.E false F340.fn k [.v (.sl (.sl (.int .i64))) a0] =
 F340.l1_1_0_1_0 k (F340.kt k [1,1,0,1,0]) a0 (a0.length : Int) 0 [] := by kernel_rfl
theorem F340.l1_1_0_1_0_eq (n : Nat) (K : Conts) (p0 : List (List Int)) (p1 p2 : Int) (p3 : List Dom) : F340.l1_1_0_1_0 (n + 1) K p0 p1 p2 p3 =
 bif decide (p2 < p1) then
 bif decide (0 ≤ p2) && decide (p2 < p0.length) then
 bif decide ((p3.length + [(ofD (p0.getD p2.toNat [])).1].length) * 56 ≤ LIM) then
 F340.l1_1_0_1_0 n K p0 p1 (IntKind.i64.wrap (p2 + 1)) (p3 ++ [(ofD (p0.getD p2.toNat [])).1])
 else
 none
 else
 none
 else
 exitK K 0 ⟨slots 25 [(3, .own 0)], [.row 47 DomT p3]⟩ := by kernel_rfl
theorem F340.c0 (k : Nat) (p0 : List Dom) : exitK (F340.kt k [1,1,0,1,0]) 0 ⟨slots 25 [(3, .own 0)], [.row 47 DomT p0]⟩ =
 some (.v (.sl DomT) p0) := by kernel_rfl
noncomputable def F343.fn : Func := Go.Proofs.Tryz.f43
noncomputable def F343.body : Code := bodyOf F343.fn
noncomputable def F343.E : Env := ⟨tt, [(23, h_listD)], [(1, [0]), (2, [0, 3]), (3, [3, 6, 7, 8, 300003]), (4, [3, 6, 7, 8, 9]), (5, [3, 5, 6, 7, 8]), (6, [3, 6, 7, 8]), (7, [3])], [(0, [3]), (1, [3, 6, 7, 8])], some [2], inv, []⟩
noncomputable def F343.K0 : Conts := { nrm := endW F343.E false F343.fn.results.toList, ret := endW F343.E false F343.fn.results.toList, ex := [] }
noncomputable def F343.kt (k : Nat) (q : List Nat) : Conts := contAt F343.E k F343.body F343.K0 q
noncomputable def F343.l1_1_0_1_0 (n : Nat) (K : Conts) (p0 : List Dom) (p1 p2 : Int) (p3 : List (List Int)) : Option AV := loopF F343.E n (inLoop (subC [1,1,0,1,0] F343.body)) K ⟨slots 19 [(3, .own 0), (6, .v (.sl DomT) p0), (7, .v (.int .i64) p1), (8, .v (.int .i64) p2)], [.row 30 (.sl (.int .i64)) p3]⟩
theorem F343.start_eq (k : Nat) (a0 : List Dom) : callW F343.E false F343.fn k [.v (.sl DomT) a0] =
 F343.l1_1_0_1_0 k (F343.kt k [1,1,0,1,0]) a0 (a0.length : Int) 0 [] := by kernel_rfl
theorem F343.l1_1_0_1_0_eq (n : Nat) (K : Conts) (p0 : List Dom) (p1 p2 : Int) (p3 : List (List Int)) : F343.l1_1_0_1_0 (n + 1) K p0 p1 p2 p3 =
 bif decide (p2 < p1) then
 bif decide (0 ≤ p2) && decide (p2 < p0.length) then
 bif listB (p0.getD p2.toNat ((0 : Int), ([], ((0 : Int), ((0 : Int), (0 : Int)))))) then
 bif decide ((p3.length + [listD (p0.getD p2.toNat ((0 : Int), ([], ((0 : Int), ((0 : Int), (0 : Int))))))].length) * 24 ≤ LIM) then
 F343.l1_1_0_1_0 n K p0 p1 (IntKind.i64.wrap (p2 + 1)) (p3 ++ [listD (p0.getD p2.toNat ((0 : Int), ([], ((0 : Int), ((0 : Int), (0 : Int))))))])
 else
 none
 else
 none
 else
 none
 else
 exitK K 0 ⟨slots 19 [(3, .own 0)], [.row 30 (.sl (.int .i64)) p3]⟩ := by kernel_rfl
theorem F343.c0 (k : Nat) (p0 : List (List Int)) : exitK (F343.kt k [1,1,0,1,0]) 0 ⟨slots 19 [(3, .own 0)], [.row 30 (.sl (.int .i64)) p0]⟩ =
 some (.v (.sl (.sl (.int .i64))) p0) := by kernel_rfl
end Go.Proofs.YtnojoaghcbljfaaGreatDoor.Ev
