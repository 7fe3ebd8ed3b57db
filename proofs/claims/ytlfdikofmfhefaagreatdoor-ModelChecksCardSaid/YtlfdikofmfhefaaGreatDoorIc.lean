/-
The functions as the evaluator runs them: printed by a program of mine, each equation by kernel_rfl.
Conditions: none.
The functions as the evaluator runs them: printed by a program of mine, each equation by kernel_rfl.
Conditions: none.
-/
import Derived.Test.YtlfdikofmfhefaaGreatDoorIa
set_option linter.unusedVariables false
set_option linter.unusedSimpArgs false
set_option maxRecDepth 100000
namespace Go.Proofs.YtlfdikofmfhefaaGreatDoor.Ev
open Go
noncomputable def F512.fn : Func := Go.Proofs.Tryz.f7
noncomputable def F512.body : Code := bodyOf F512.fn
noncomputable def F512.E : Env := ⟨tt, [(22, h_varsX), (23, h_rightG), (24, h_goalX)], [(1, [1]), (2, [1, 8]), (4, [1, 16]), (5, [1]), (6, [1, 4]), (7, [1, 4, 30]), (8, [1]), (9, [1, 33, 34, 35]), (10, [1, 33, 34, 35, 36]), (11, [1, 5, 6, 33, 34, 35]), (12, [1, 5, 7, 33, 34, 35]), (13, [1, 5, 7, 33, 34, 35, 46]), (14, [1, 33, 34, 35]), (15, [1]), (16, [52]), (17, [])], [(0, [1]), (1, [1]), (2, [1, 33, 34, 35])], some [2, 3], inv, []⟩
noncomputable def F512.K0 : Conts := { nrm := endW F512.E false F512.fn.results.toList, ret := endW F512.E false F512.fn.results.toList, ex := [] }
noncomputable def F512.kt (k : Nat) (q : List Nat) : Conts := contAt F512.E k F512.body F512.K0 q
noncomputable def F512.l1_1_1_0_1_0 (n : Nat) (K : Conts) (p0 : List Con) (p1 p2 : Int) (p3 : List ByteArray) (p4 : List (List Int)) (p5 : List Con) (p6 p7 : Int) : Option AV := loopF F512.E n (inLoop (subC [1,1,1,0,1,0] F512.body)) K ⟨slots 53 [(1, .pb 0 0), (33, .v (.sl (.pair (.int .i64) (.pair (.sl (.int .i64)) (.pair (.sl (.int .i64)) (.pair (.sl (.int .i64)) (.pair (.sl (.int .i64)) (.pair (.sl (.int .i64)) (.pair (.int .i64) (.sl (.sl (.int .i64))))))))))) p0), (34, .v (.int .i64) p1), (35, .v (.int .i64) p2)], [.box [.v (.sl .str) p3, .v (.sl (.sl (.int .i64))) p4, .v (.sl (.pair (.int .i64) (.pair (.sl (.int .i64)) (.pair (.sl (.int .i64)) (.pair (.sl (.int .i64)) (.pair (.sl (.int .i64)) (.pair (.sl (.int .i64)) (.pair (.int .i64) (.sl (.sl (.int .i64))))))))))) p5, .v (.int .i64) p6, .v (.int .i64) p7]]⟩
theorem F512.start_eq (k : Nat) (ns : List ByteArray) (ds : List (List Int)) (cs : List Con) (g o : Int) : callW F512.E false F512.fn k [.agg [.v (.sl .str) ns, .v (.sl (.sl (.int .i64))) ds, .v (.sl (.pair (.int .i64) (.pair (.sl (.int .i64)) (.pair (.sl (.int .i64)) (.pair (.sl (.int .i64)) (.pair (.sl (.int .i64)) (.pair (.sl (.int .i64)) (.pair (.int .i64) (.sl (.sl (.int .i64))))))))))) cs, .v (.int .i64) g, .v (.int .i64) o]] =
 bif !(decide ((ns.length : Int) = (ds.length : Int))) then
 some (.tup [.v (.int .i64) (-1 : Int), .v (.int .i64) (2 : Int)])
 else
 bif decide ((ns.length : Int) > 256) then
 some (.tup [.v (.int .i64) (-1 : Int), .v (.int .i64) (12 : Int)])
 else
 bif decide ((cs.length : Int) > 1024) then
 some (.tup [.v (.int .i64) (-1 : Int), .v (.int .i64) (12 : Int)])
 else
 bif varsB2 (ns, (ds, (cs, (g, o)))) then
 bif !(decide ((varsX (ns, (ds, (cs, (g, o))))) = 0)) then
 some (.tup [.v (.int .i64) (-1 : Int), .v (.int .i64) (varsX (ns, (ds, (cs, (g, o)))))])
 else
 F512.l1_1_1_0_1_0 k (F512.kt k [1,1,1,0,1,0]) cs (cs.length : Int) 0 ns ds cs g o
 else
 none := by kernel_rfl
theorem F512.l1_1_1_0_1_0_eq (n : Nat) (K : Conts) (p0 : List Con) (p1 p2 : Int) (p3 : List ByteArray) (p4 : List (List Int)) (p5 : List Con) (p6 p7 : Int) : F512.l1_1_1_0_1_0 (n + 1) K p0 p1 p2 p3 p4 p5 p6 p7 =
 bif decide (p2 < p1) then
 bif decide (0 ≤ p2) && decide (p2 < p0.length) then
 bif smallC (p0.getD p2.toNat ((0 : Int), ([], ([], ([], ([], ([], ((0 : Int), [])))))))) then
 bif !(decide ((rightG (p0.getD p2.toNat ((0 : Int), ([], ([], ([], ([], ([], ((0 : Int), [])))))))) (p3.length : Int)) = 0)) then
 K.ret ⟨slots 53 [(2, .v (.int .i64) p2), (3, .v (.int .i64) (rightG (p0.getD p2.toNat ((0 : Int), ([], ([], ([], ([], ([], ((0 : Int), [])))))))) (p3.length : Int)))], []⟩
 else
 F512.l1_1_1_0_1_0 n K p0 p1 (IntKind.i64.wrap (p2 + 1)) p3 p4 p5 p6 p7
 else
 none
 else
 none
 else
 exitK K 1 ⟨slots 53 [(1, .pb 0 0)], [.box [.v (.sl .str) p3, .v (.sl (.sl (.int .i64))) p4, .v (.sl (.pair (.int .i64) (.pair (.sl (.int .i64)) (.pair (.sl (.int .i64)) (.pair (.sl (.int .i64)) (.pair (.sl (.int .i64)) (.pair (.sl (.int .i64)) (.pair (.int .i64) (.sl (.sl (.int .i64))))))))))) p5, .v (.int .i64) p6, .v (.int .i64) p7]]⟩ := by kernel_rfl
theorem F512.c0 (k : Nat) (p0 p1 : Int) : (F512.kt k [1,1,1,0,1,0]).ret ⟨slots 53 [(2, .v (.int .i64) p0), (3, .v (.int .i64) p1)], []⟩ =
 some (.tup [.v (.int .i64) p0, .v (.int .i64) p1]) := by kernel_rfl
theorem F512.c1 (k : Nat) (p0 : List ByteArray) (p1 : List (List Int)) (p2 : List Con) (p3 p4 : Int) : exitK (F512.kt k [1,1,1,0,1,0]) 1 ⟨slots 53 [(1, .pb 0 0)], [.box [.v (.sl .str) p0, .v (.sl (.sl (.int .i64))) p1, .v (.sl (.pair (.int .i64) (.pair (.sl (.int .i64)) (.pair (.sl (.int .i64)) (.pair (.sl (.int .i64)) (.pair (.sl (.int .i64)) (.pair (.sl (.int .i64)) (.pair (.int .i64) (.sl (.sl (.int .i64))))))))))) p2, .v (.int .i64) p3, .v (.int .i64) p4]]⟩ =
 bif Nat.ble (p0, (p1, (p2, (p3, p4)))).1.length 2000 then
 bif !(goalX (p0, (p1, (p2, (p3, p4))))) then
 some (.tup [.v (.int .i64) (-1 : Int), .v (.int .i64) (17 : Int)])
 else
 some (.tup [.v (.int .i64) (-1 : Int), .v (.int .i64) (0 : Int)])
 else
 none := by kernel_rfl
noncomputable def F513.fn : Func := Go.Proofs.Tryz.f8
noncomputable def F513.body : Code := bodyOf F513.fn
noncomputable def F513.E : Env := ⟨tt, [(25, h_nameY), (26, h_refA), (27, h_sameL), (28, h_rightD)], [(1, [1]), (2, [1, 18]), (3, [1]), (4, [1, 28]), (5, [1]), (6, [1, 4]), (7, [1, 4]), (8, [1, 4]), (9, [1, 4, 5]), (10, [1, 4, 67]), (11, [1, 4]), (12, [1, 4, 6]), (13, [1, 4, 6]), (14, [1, 4, 6]), (15, [1, 4, 6, 83]), (16, [1, 4]), (17, [1, 4, 7, 8]), (18, [1, 4, 8, 9]), (19, [1, 4, 105]), (20, [1]), (21, [1, 10]), (22, [1, 10]), (23, [1, 10]), (24, [1, 10, 11]), (25, [1, 10, 11, 123]), (26, [1]), (27, [161]), (28, [])], [(0, [1]), (1, [1, 4]), (2, [1, 4]), (3, [1, 4, 6]), (4, [1]), (5, [1, 10])], some [2, 3], inv, []⟩
noncomputable def F513.K0 : Conts := { nrm := endW F513.E false F513.fn.results.toList, ret := endW F513.E false F513.fn.results.toList, ex := [] }
noncomputable def F513.kt (k : Nat) (q : List Nat) : Conts := contAt F513.E k F513.body F513.K0 q
noncomputable def F513.l1_1_1_0_1_0 (n : Nat) (K : Conts) (p0 : Int) (p1 : List ByteArray) (p2 : List (List Int)) (p3 : List Con) (p4 p5 : Int) : Option AV := loopF F513.E n (inLoop (subC [1,1,1,0,1,0] F513.body)) K ⟨slots 162 [(1, .pb 0 0), (4, .v (.int .i64) p0)], [.box [.v (.sl .str) p1, .v (.sl (.sl (.int .i64))) p2, .v (.sl (.pair (.int .i64) (.pair (.sl (.int .i64)) (.pair (.sl (.int .i64)) (.pair (.sl (.int .i64)) (.pair (.sl (.int .i64)) (.pair (.sl (.int .i64)) (.pair (.int .i64) (.sl (.sl (.int .i64))))))))))) p3, .v (.int .i64) p4, .v (.int .i64) p5]]⟩
noncomputable def F513.k_l1_1_1_0_1_0 (n : Nat) (K : Conts) (q : List Nat) : Conts := contAt F513.E n (inLoop (subC [1, 1, 1, 0, 1, 0] F513.body)) (loopK F513.E n (inLoop (subC [1, 1, 1, 0, 1, 0] F513.body)) K) q
noncomputable def F513.l1_1_1_0_1_0_0_1_0_0_1_1_0_1_0 (n : Nat) (K : Conts) (p0 p1 : Int) (p2 : List ByteArray) (p3 : List (List Int)) (p4 : List Con) (p5 p6 : Int) : Option AV := loopF F513.E n (inLoop (subC [1,1,1,0,1,0,0,1,0,0,1,1,0,1,0] F513.body)) K ⟨slots 162 [(1, .pb 0 0), (4, .v (.int .i64) p0), (6, .v (.int .i64) p1)], [.box [.v (.sl .str) p2, .v (.sl (.sl (.int .i64))) p3, .v (.sl (.pair (.int .i64) (.pair (.sl (.int .i64)) (.pair (.sl (.int .i64)) (.pair (.sl (.int .i64)) (.pair (.sl (.int .i64)) (.pair (.sl (.int .i64)) (.pair (.int .i64) (.sl (.sl (.int .i64))))))))))) p4, .v (.int .i64) p5, .v (.int .i64) p6]]⟩
noncomputable def F513.l1_1_1_1_0_1_0 (n : Nat) (K : Conts) (p0 : Int) (p1 : List ByteArray) (p2 : List (List Int)) (p3 : List Con) (p4 p5 : Int) : Option AV := loopF F513.E n (inLoop (subC [1,1,1,1,0,1,0] F513.body)) K ⟨slots 162 [(1, .pb 0 0), (10, .v (.int .i64) p0)], [.box [.v (.sl .str) p1, .v (.sl (.sl (.int .i64))) p2, .v (.sl (.pair (.int .i64) (.pair (.sl (.int .i64)) (.pair (.sl (.int .i64)) (.pair (.sl (.int .i64)) (.pair (.sl (.int .i64)) (.pair (.sl (.int .i64)) (.pair (.int .i64) (.sl (.sl (.int .i64))))))))))) p3, .v (.int .i64) p4, .v (.int .i64) p5]]⟩
theorem F513.start_eq (k : Nat) (ns : List ByteArray) (ds : List (List Int)) (cs : List Con) (g o : Int) : callW F513.E false F513.fn k [.agg [.v (.sl .str) ns, .v (.sl (.sl (.int .i64))) ds, .v (.sl (.pair (.int .i64) (.pair (.sl (.int .i64)) (.pair (.sl (.int .i64)) (.pair (.sl (.int .i64)) (.pair (.sl (.int .i64)) (.pair (.sl (.int .i64)) (.pair (.int .i64) (.sl (.sl (.int .i64))))))))))) cs, .v (.int .i64) g, .v (.int .i64) o]] =
 bif !(decide ((ns.length : Int) = (ds.length : Int))) then
 some (.tup [.v (.int .i64) (-1 : Int), .v (.int .i64) (2 : Int)])
 else
 bif decide ((ns.length : Int) > 256) then
 some (.tup [.v (.int .i64) (-1 : Int), .v (.int .i64) (12 : Int)])
 else
 bif decide ((cs.length : Int) > 1024) then
 some (.tup [.v (.int .i64) (-1 : Int), .v (.int .i64) (12 : Int)])
 else
 F513.l1_1_1_0_1_0 k (F513.kt k [1,1,1,0,1,0]) 0 ns ds cs g o := by kernel_rfl
theorem F513.l1_1_1_0_1_0_eq (n : Nat) (K : Conts) (p0 : Int) (p1 : List ByteArray) (p2 : List (List Int)) (p3 : List Con) (p4 p5 : Int) : F513.l1_1_1_0_1_0 (n + 1) K p0 p1 p2 p3 p4 p5 =
 bif decide (p0 < (p1.length : Int)) then
 bif decide (0 ≤ p0) && decide (p0 < p1.length) then
 bif Nat.ble (p1.getD p0.toNat ByteArray.empty).size 1000 then
 bif !(nameY (p1.getD p0.toNat ByteArray.empty)) then
 K.ret ⟨slots 162 [(2, .v (.int .i64) (-1 : Int)), (3, .v (.int .i64) (7 : Int))], []⟩
 else
 bif decide (0 ≤ p0) && decide (p0 < p1.length) then
 bif strEq (p1.getD p0.toNat ByteArray.empty) ⟨#[118, 97, 114]⟩ then
 K.ret ⟨slots 162 [(2, .v (.int .i64) (-1 : Int)), (3, .v (.int .i64) (7 : Int))], []⟩
 else
 bif decide (0 ≤ p0) && decide (p0 < p1.length) then
 bif strEq (p1.getD p0.toNat ByteArray.empty) ⟨#[99, 111, 110, 115, 116, 114, 97, 105, 110, 116]⟩ then
 K.ret ⟨slots 162 [(2, .v (.int .i64) (-1 : Int)), (3, .v (.int .i64) (7 : Int))], []⟩
 else
 bif decide (0 ≤ p0) && decide (p0 < p1.length) then
 bif strEq (p1.getD p0.toNat ByteArray.empty) ⟨#[115, 111, 108, 118, 101]⟩ then
 K.ret ⟨slots 162 [(2, .v (.int .i64) (-1 : Int)), (3, .v (.int .i64) (7 : Int))], []⟩
 else
 F513.l1_1_1_0_1_0_0_1_0_0_1_1_0_1_0 n (F513.k_l1_1_1_0_1_0 n K [1,0,0,1,1,0,1,0]) p0 0 p1 p2 p3 p4 p5
 else
 none
 else
 none
 else
 none
 else
 none
 else
 none
 else
 exitK K 0 ⟨slots 162 [(1, .pb 0 0)], [.box [.v (.sl .str) p1, .v (.sl (.sl (.int .i64))) p2, .v (.sl (.pair (.int .i64) (.pair (.sl (.int .i64)) (.pair (.sl (.int .i64)) (.pair (.sl (.int .i64)) (.pair (.sl (.int .i64)) (.pair (.sl (.int .i64)) (.pair (.int .i64) (.sl (.sl (.int .i64))))))))))) p3, .v (.int .i64) p4, .v (.int .i64) p5]]⟩ := by kernel_rfl
theorem F513.l1_1_1_0_1_0_0_1_0_0_1_1_0_1_0_eq (n : Nat) (K : Conts) (p0 p1 : Int) (p2 : List ByteArray) (p3 : List (List Int)) (p4 : List Con) (p5 p6 : Int) : F513.l1_1_1_0_1_0_0_1_0_0_1_1_0_1_0 (n + 1) K p0 p1 p2 p3 p4 p5 p6 =
 bif decide (p1 < p0) then
 bif decide (0 ≤ p1) && decide (p1 < p2.length) then
 bif decide (0 ≤ p0) && decide (p0 < p2.length) then
 bif strEq (p2.getD p1.toNat ByteArray.empty) (p2.getD p0.toNat ByteArray.empty) then
 K.ret ⟨slots 162 [(2, .v (.int .i64) (-1 : Int)), (3, .v (.int .i64) (8 : Int))], []⟩
 else
 F513.l1_1_1_0_1_0_0_1_0_0_1_1_0_1_0 n K p0 (IntKind.i64.wrap (p1 + 1)) p2 p3 p4 p5 p6
 else
 none
 else
 none
 else
 exitK K 2 ⟨slots 162 [(1, .pb 0 0), (4, .v (.int .i64) p0)], [.box [.v (.sl .str) p2, .v (.sl (.sl (.int .i64))) p3, .v (.sl (.pair (.int .i64) (.pair (.sl (.int .i64)) (.pair (.sl (.int .i64)) (.pair (.sl (.int .i64)) (.pair (.sl (.int .i64)) (.pair (.sl (.int .i64)) (.pair (.int .i64) (.sl (.sl (.int .i64))))))))))) p4, .v (.int .i64) p5, .v (.int .i64) p6]]⟩ := by kernel_rfl
theorem F513.c0 (k : Nat) (p0 p1 : Int) : (F513.kt k [1,1,1,0,1,0]).ret ⟨slots 162 [(2, .v (.int .i64) p0), (3, .v (.int .i64) p1)], []⟩ =
 some (.tup [.v (.int .i64) p0, .v (.int .i64) p1]) := by kernel_rfl
theorem F513.c1 (k : Nat) (p0 : List ByteArray) (p1 : List (List Int)) (p2 : List Con) (p3 p4 : Int) : exitK (F513.kt k [1,1,1,0,1,0]) 0 ⟨slots 162 [(1, .pb 0 0)], [.box [.v (.sl .str) p0, .v (.sl (.sl (.int .i64))) p1, .v (.sl (.pair (.int .i64) (.pair (.sl (.int .i64)) (.pair (.sl (.int .i64)) (.pair (.sl (.int .i64)) (.pair (.sl (.int .i64)) (.pair (.sl (.int .i64)) (.pair (.int .i64) (.sl (.sl (.int .i64))))))))))) p2, .v (.int .i64) p3, .v (.int .i64) p4]]⟩ =
 F513.l1_1_1_1_0_1_0 k (F513.kt k [1,1,1,1,0,1,0]) 0 p0 p1 p2 p3 p4 := by kernel_rfl
theorem F513.c2 (n : Nat) (K : Conts) (p0 p1 : Int) : (F513.k_l1_1_1_0_1_0 n K [1,0,0,1,1,0,1,0]).ret ⟨slots 162 [(2, .v (.int .i64) p0), (3, .v (.int .i64) p1)], []⟩ =
 K.ret ⟨slots 162 [(2, .v (.int .i64) p0), (3, .v (.int .i64) p1)], []⟩ := by kernel_rfl
theorem F513.c3 (n : Nat) (K : Conts) (p0 : Int) (p1 : List ByteArray) (p2 : List (List Int)) (p3 : List Con) (p4 p5 : Int) : exitK (F513.k_l1_1_1_0_1_0 n K [1,0,0,1,1,0,1,0]) 2 ⟨slots 162 [(1, .pb 0 0), (4, .v (.int .i64) p0)], [.box [.v (.sl .str) p1, .v (.sl (.sl (.int .i64))) p2, .v (.sl (.pair (.int .i64) (.pair (.sl (.int .i64)) (.pair (.sl (.int .i64)) (.pair (.sl (.int .i64)) (.pair (.sl (.int .i64)) (.pair (.sl (.int .i64)) (.pair (.int .i64) (.sl (.sl (.int .i64))))))))))) p3, .v (.int .i64) p4, .v (.int .i64) p5]]⟩ =
 bif decide (0 ≤ p0) && decide (p0 < p2.length) then
 bif Nat.ble (p2.getD p0.toNat []).length 1000 then
 bif decide (0 ≤ p0) && decide (p0 < p2.length) then
 bif Nat.ble (refL (p2.getD p0.toNat [])).length 1000 then
 bif !(decide ((refE (p2.getD p0.toNat [])) = 0)) then
 K.ret ⟨slots 162 [(2, .v (.int .i64) (-1 : Int)), (3, .v (.int .i64) (3 : Int))], []⟩
 else
 bif !(eqL (refL (p2.getD p0.toNat [])) (p2.getD p0.toNat [])) then
 K.ret ⟨slots 162 [(2, .v (.int .i64) (-1 : Int)), (3, .v (.int .i64) (3 : Int))], []⟩
 else
 F513.l1_1_1_0_1_0 n K (IntKind.i64.wrap (p0 + 1)) p1 p2 p3 p4 p5
 else
 none
 else
 none
 else
 none
 else
 none := by kernel_rfl
theorem F513.l1_1_1_1_0_1_0_eq (n : Nat) (K : Conts) (p0 : Int) (p1 : List ByteArray) (p2 : List (List Int)) (p3 : List Con) (p4 p5 : Int) : F513.l1_1_1_1_0_1_0 (n + 1) K p0 p1 p2 p3 p4 p5 =
 bif decide (p0 < (p3.length : Int)) then
 bif decide (0 ≤ p0) && decide (p0 < p3.length) then
 bif smallC (p3.getD p0.toNat ((0 : Int), ([], ([], ([], ([], ([], ((0 : Int), [])))))))) && rightNB (p1.length : Int) then
 bif !(decide ((rightD (p3.getD p0.toNat ((0 : Int), ([], ([], ([], ([], ([], ((0 : Int), [])))))))) (p1.length : Int)) = 0)) then
 K.ret ⟨slots 162 [(2, .v (.int .i64) p0), (3, .v (.int .i64) (rightD (p3.getD p0.toNat ((0 : Int), ([], ([], ([], ([], ([], ((0 : Int), [])))))))) (p1.length : Int)))], []⟩
 else
 F513.l1_1_1_1_0_1_0 n K (IntKind.i64.wrap (p0 + 1)) p1 p2 p3 p4 p5
 else
 none
 else
 none
 else
 exitK K 4 ⟨slots 162 [(1, .pb 0 0)], [.box [.v (.sl .str) p1, .v (.sl (.sl (.int .i64))) p2, .v (.sl (.pair (.int .i64) (.pair (.sl (.int .i64)) (.pair (.sl (.int .i64)) (.pair (.sl (.int .i64)) (.pair (.sl (.int .i64)) (.pair (.sl (.int .i64)) (.pair (.int .i64) (.sl (.sl (.int .i64))))))))))) p3, .v (.int .i64) p4, .v (.int .i64) p5]]⟩ := by kernel_rfl
theorem F513.c4 (k : Nat) (p0 p1 : Int) : (F513.kt k [1,1,1,1,0,1,0]).ret ⟨slots 162 [(2, .v (.int .i64) p0), (3, .v (.int .i64) p1)], []⟩ =
 some (.tup [.v (.int .i64) p0, .v (.int .i64) p1]) := by kernel_rfl
theorem F513.c5 (k : Nat) (p0 : List ByteArray) (p1 : List (List Int)) (p2 : List Con) (p3 p4 : Int) : exitK (F513.kt k [1,1,1,1,0,1,0]) 4 ⟨slots 162 [(1, .pb 0 0)], [.box [.v (.sl .str) p0, .v (.sl (.sl (.int .i64))) p1, .v (.sl (.pair (.int .i64) (.pair (.sl (.int .i64)) (.pair (.sl (.int .i64)) (.pair (.sl (.int .i64)) (.pair (.sl (.int .i64)) (.pair (.sl (.int .i64)) (.pair (.int .i64) (.sl (.sl (.int .i64))))))))))) p2, .v (.int .i64) p3, .v (.int .i64) p4]]⟩ =
 bif decide (p3 < 0) then
 some (.tup [.v (.int .i64) (-1 : Int), .v (.int .i64) (17 : Int)])
 else
 bif decide (p3 > 2) then
 some (.tup [.v (.int .i64) (-1 : Int), .v (.int .i64) (17 : Int)])
 else
 bif decide (p3 = 0) then
 bif !(decide (p4 = 0)) then
 some (.tup [.v (.int .i64) (-1 : Int), .v (.int .i64) (17 : Int)])
 else
 bif decide (p3 > 0) then
 bif decide (p4 < 0) then
 some (.tup [.v (.int .i64) (-1 : Int), .v (.int .i64) (17 : Int)])
 else
 bif decide (p4 ≥ (p0.length : Int)) then
 some (.tup [.v (.int .i64) (-1 : Int), .v (.int .i64) (17 : Int)])
 else
 some (.tup [.v (.int .i64) (-1 : Int), .v (.int .i64) (0 : Int)])
 else
 some (.tup [.v (.int .i64) (-1 : Int), .v (.int .i64) (0 : Int)])
 else
 bif decide (p3 > 0) then
 bif decide (p4 < 0) then
 some (.tup [.v (.int .i64) (-1 : Int), .v (.int .i64) (17 : Int)])
 else
 bif decide (p4 ≥ (p0.length : Int)) then
 some (.tup [.v (.int .i64) (-1 : Int), .v (.int .i64) (17 : Int)])
 else
 some (.tup [.v (.int .i64) (-1 : Int), .v (.int .i64) (0 : Int)])
 else
 some (.tup [.v (.int .i64) (-1 : Int), .v (.int .i64) (0 : Int)]) := by kernel_rfl
end Go.Proofs.YtlfdikofmfhefaaGreatDoor.Ev
set_option linter.unusedVariables false
set_option linter.unusedSimpArgs false
set_option maxRecDepth 100000
namespace Go.Proofs.YtlfdikofmfhefaaGreatDoor.Ev
open Go
end Go.Proofs.YtlfdikofmfhefaaGreatDoor.Ev
