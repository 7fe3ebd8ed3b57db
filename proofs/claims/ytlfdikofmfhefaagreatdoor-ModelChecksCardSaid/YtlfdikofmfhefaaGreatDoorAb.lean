/-
The functions as the evaluator runs them: printed by a program of mine, each equation by kernel_rfl.
Conditions: none.
Seat 'a': domains: what the functions answer.
Conditions: numbers and offsets are those of domains.
-/
import Derived.Test.YtlfdikofmfhefaaGreatDoorAa
set_option linter.unusedVariables false
set_option linter.unusedSimpArgs false
set_option maxRecDepth 100000
namespace Go.Proofs.YtlfdikofmfhefaaGreatDoor.Ev
open Go
noncomputable def F66.fn : Func := Go.Proofs.Tryz.f133
noncomputable def F66.E : Env := ⟨tt, [], [(1, [0])], [], some [2], inv, []⟩
theorem F66.start_eq (k : Nat) (a0 : Int) : callW F66.E false F66.fn k [.v (.int .i64) a0] =
 bif decide (a0 ≥ (-1000000 : Int)) then some (.v .bool (decide (a0 ≤ 1000000))) else some (.v .bool false) := by kernel_rfl
noncomputable def F68.fn : Func := Go.Proofs.Tryz.f152
noncomputable def F68.E : Env := ⟨tt, [], [(1, [0])], [], some [2], inv, []⟩
theorem F68.start_eq (k : Nat) (a0 : Int) : callW F68.E false F68.fn k [.v (.int .i64) a0] =
 some (.v (.int .i64) (bitsW .andNot .i64 a0 63)) := by kernel_rfl
noncomputable def F71.fn : Func := Go.Proofs.Tryz.f136
noncomputable def F71.E : Env := ⟨tt, [(152, h_placeD)], [(1, [0, 1, 4])], [], some [4], inv, []⟩
theorem F71.start_eq (k : Nat) (a0 a1 : Int) : callW F71.E true F71.fn k [.v (.int .i64) a0, .v (.int .i64) a1] =
 bif decide (0 ≤ (IntKind.i64.wrap ((IntKind.i64.wrap ((IntKind.i64.wrap ((placeD a1) - (placeD a0))).tdiv 64)) + 1))) && decide ((IntKind.i64.wrap ((IntKind.i64.wrap ((IntKind.i64.wrap ((placeD a1) - (placeD a0))).tdiv 64)) + 1)).toNat * 8 ≤ LIM) then
 some (.agg [.v (.int .i64) (placeD a0), .nw 145 (.int .u64) (List.replicate ((IntKind.i64.wrap ((IntKind.i64.wrap ((IntKind.i64.wrap ((placeD a1) - (placeD a0))).tdiv 64)) + 1)).toNat) (0 : Int)), .v (.int .i64) (0 : Int), .v (.int .i64) (0 : Int), .v (.int .i64) (0 : Int)])
 else
 none := by kernel_rfl
noncomputable def F89.fn : Func := Go.Proofs.Tryz.f154
noncomputable def F89.E : Env := ⟨tt, [], [(1, [0]), (2, [0]), (3, [0]), (4, [0]), (5, [0]), (6, [0]), (7, [0])], [], some [2], inv, []⟩
noncomputable def F102.fn : Func := Go.Proofs.Tryz.f123
noncomputable def F102.body : Code := bodyOf F102.fn
noncomputable def F102.E : Env := ⟨tt, [], [(1, [0, 2]), (2, [0, 2, 4]), (3, [0]), (4, [0, 2]), (5, [0, 2, 8]), (6, [0, 2]), (7, [0, 2]), (8, [0, 2, 14]), (9, [0, 2]), (10, [0, 2])], [], some [2], inv, []⟩
noncomputable def F102.K0 : Conts := { nrm := endW F102.E false F102.fn.results.toList, ret := endW F102.E false F102.fn.results.toList, ex := [] }
noncomputable def F102.kt (k : Nat) (q : List Nat) : Conts := contAt F102.E k F102.body F102.K0 q
noncomputable def F102.n1_1 (n : Nat) (K : Conts) (p0 p1 : Int) : Option AV := runC F102.E (loopF F102.E n) (subC [1,1] F102.body) K ⟨slots 25 [(0, .v (.int .u64) p0), (2, .v (.int .i64) p1)], []⟩
noncomputable def F102.k_n1_1 (n : Nat) (K : Conts) (q : List Nat) : Conts := contAt F102.E n (subC [1, 1] F102.body) K q
noncomputable def F102.n1_1_1 (n : Nat) (K : Conts) (p0 p1 : Int) : Option AV := runC F102.E (loopF F102.E n) (subC [1,1,1] F102.body) K ⟨slots 25 [(0, .v (.int .u64) p0), (2, .v (.int .i64) p1)], []⟩
noncomputable def F102.k_n1_1_1 (n : Nat) (K : Conts) (q : List Nat) : Conts := contAt F102.E n (subC [1, 1, 1] F102.body) K q
noncomputable def F102.n1_1_1_1 (n : Nat) (K : Conts) (p0 p1 : Int) : Option AV := runC F102.E (loopF F102.E n) (subC [1,1,1,1] F102.body) K ⟨slots 25 [(0, .v (.int .u64) p0), (2, .v (.int .i64) p1)], []⟩
theorem F102.start_eq (k : Nat) (a0 : Int) : callW F102.E false F102.fn k [.v (.int .u64) a0] =
 bif decide (a0 ≥ 4294967296) then F102.n1_1 k (F102.kt k [1,1]) (shrW .u64 a0 32) 32 else F102.n1_1 k (F102.kt k [1,1]) a0 0 := by kernel_rfl
theorem F102.n1_1_eq (n : Nat) (K : Conts) (p0 p1 : Int) : F102.n1_1 n K p0 p1 =
 bif decide (p0 ≥ 65536) then F102.n1_1_1 n (F102.k_n1_1 n K [1]) (shrW .u64 p0 16) (IntKind.i64.wrap (p1 + 16)) else F102.n1_1_1 n (F102.k_n1_1 n K [1]) p0 p1 := by kernel_rfl
theorem F102.n1_1_1_eq (n : Nat) (K : Conts) (p0 p1 : Int) : F102.n1_1_1 n K p0 p1 =
 bif decide (p0 ≥ 256) then F102.n1_1_1_1 n (F102.k_n1_1_1 n K [1]) (shrW .u64 p0 8) (IntKind.i64.wrap (p1 + 8)) else F102.n1_1_1_1 n (F102.k_n1_1_1 n K [1]) p0 p1 := by kernel_rfl
theorem F102.n1_1_1_1_eq (n : Nat) (K : Conts) (p0 p1 : Int) : F102.n1_1_1_1 n K p0 p1 =
 bif decide (0 ≤ (IntKind.u8.wrap p0)) && decide ((IntKind.u8.wrap p0) < len8tab.size) then
 K.ret ⟨slots 25 [(2, .v (.int .i64) (IntKind.i64.wrap (p1 + (IntKind.i64.wrap (byteW len8tab ((IntKind.u8.wrap p0).toNat))))))], []⟩
 else
 none := by kernel_rfl
theorem F102.c0 (n : Nat) (K : Conts) (p0 : Int) : (F102.k_n1_1_1 n K [1]).ret ⟨slots 25 [(2, .v (.int .i64) p0)], []⟩ =
 K.ret ⟨slots 25 [(2, .v (.int .i64) p0)], []⟩ := by kernel_rfl
theorem F102.c1 (n : Nat) (K : Conts) (p0 : Int) : (F102.k_n1_1 n K [1]).ret ⟨slots 25 [(2, .v (.int .i64) p0)], []⟩ =
 K.ret ⟨slots 25 [(2, .v (.int .i64) p0)], []⟩ := by kernel_rfl
theorem F102.c2 (k : Nat) (p0 : Int) : (F102.kt k [1,1]).ret ⟨slots 25 [(2, .v (.int .i64) p0)], []⟩ =
 some (.v (.int .i64) p0) := by kernel_rfl
noncomputable def F88.fn : Func := Go.Proofs.Tryz.f153
noncomputable def F88.E : Env := ⟨tt, [(123, h_len64D)], [(1, [0])], [], some [2], inv, []⟩
theorem F88.start_eq (k : Nat) (a0 : Int) : callW F88.E false F88.fn k [.v (.int .u64) a0] =
 bif uB a0 then some (.v (.int .i64) (IntKind.i64.wrap (64 - (len64D a0)))) else none := by kernel_rfl
noncomputable def F72.fn : Func := Go.Proofs.Tryz.f137
noncomputable def F72.body : Code := bodyOf F72.fn
noncomputable def F72.E : Env := ⟨tt, [(138, h_tzD), (153, h_lzD), (154, h_onesD)], [(1, [0, 1, 4]), (2, [0, 1, 4, 5]), (3, [0, 4, 5, 11, 12, 13]), (4, [0, 4, 5, 11, 12, 13, 14]), (5, [0, 4, 5, 6, 7, 11, 12, 13]), (6, [0, 4, 5, 6, 7, 11, 12, 13]), (7, [0, 4, 5, 6, 7, 11, 12, 13, 22]), (8, [0, 4, 5, 6, 7, 11, 12, 13]), (9, [0, 4, 5, 7, 11, 12, 13]), (10, [0, 4, 5, 11, 12, 13]), (11, [4, 5])], [(0, [4, 5]), (1, [0, 4, 5, 11, 12, 13])], some [4], inv, []⟩
noncomputable def F72.K0 : Conts := { nrm := endW F72.E false F72.fn.results.toList, ret := endW F72.E false F72.fn.results.toList, ex := [] }
noncomputable def F72.kt (k : Nat) (q : List Nat) : Conts := contAt F72.E k F72.body F72.K0 q
noncomputable def F72.l1_1_0_1_0 (n : Nat) (K : Conts) (p0 : Int) (p1 : List Int) (p2 p3 p4 p5 p6 p7 p8 : Int) (p9 : List Int) (p10 p11 p12 : Int) : Option AV := loopF F72.E n (inLoop (subC [1,1,0,1,0] F72.body)) K ⟨slots 49 [(0, .v (.int .i64) p0), (4, .pb 0 0), (5, .pb 1 0), (11, .v (.sl (.int .u64)) p1), (12, .v (.int .i64) p2), (13, .v (.int .i64) p3)], [.box [.v (.int .i64) p4, .nl, .v (.int .i64) p5, .v (.int .i64) p6, .v (.int .i64) p7], .box [.v (.int .i64) p8, .v (.sl (.int .u64)) p9, .v (.int .i64) p10, .v (.int .i64) p11, .v (.int .i64) p12]]⟩
theorem F72.start_eq (k : Nat) (a0 : Int) (a1 : List Int) : callW F72.E false F72.fn k [.v (.int .i64) a0, .v (.sl (.int .u64)) a1] =
 F72.l1_1_0_1_0 k (F72.kt k [1,1,0,1,0]) a0 a1 (a1.length : Int) 0 (0 : Int) (0 : Int) (0 : Int) (0 : Int) a0 a1 (0 : Int) (0 : Int) (0 : Int) := by kernel_rfl
theorem F72.l1_1_0_1_0_eq (n : Nat) (K : Conts) (p0 : Int) (p1 : List Int) (p2 p3 p4 p5 p6 p7 p8 : Int) (p9 : List Int) (p10 p11 p12 : Int) : F72.l1_1_0_1_0 (n + 1) K p0 p1 p2 p3 p4 p5 p6 p7 p8 p9 p10 p11 p12 =
 bif decide (p3 < p2) then
 bif decide (0 ≤ p3) && decide (p3 < p1.length) then
 bif decide ((p1.getD p3.toNat (0 : Int)) = 0) then
 F72.l1_1_0_1_0 n K p0 p1 p2 (IntKind.i64.wrap (p3 + 1)) p4 p5 p6 p7 p8 p9 p10 p11 p12
 else
 bif decide (p12 = 0) then
 bif uB (p1.getD p3.toNat (0 : Int)) then
 bif uB (p1.getD p3.toNat (0 : Int)) then
 bif uB (p1.getD p3.toNat (0 : Int)) then
 F72.l1_1_0_1_0 n K p0 p1 p2 (IntKind.i64.wrap (p3 + 1)) p4 p5 p6 p7 p8 p9 (IntKind.i64.wrap ((IntKind.i64.wrap (p0 + (IntKind.i64.wrap (64 * p3)))) + (tzD (p1.getD p3.toNat (0 : Int))))) (IntKind.i64.wrap ((IntKind.i64.wrap ((IntKind.i64.wrap ((IntKind.i64.wrap (p0 + (IntKind.i64.wrap (64 * p3)))) + 64)) - 1)) - (lzD (p1.getD p3.toNat (0 : Int))))) (IntKind.i64.wrap (p12 + (onesD (p1.getD p3.toNat (0 : Int)))))
 else
 none
 else
 none
 else
 none
 else
 bif uB (p1.getD p3.toNat (0 : Int)) then
 bif uB (p1.getD p3.toNat (0 : Int)) then
 F72.l1_1_0_1_0 n K p0 p1 p2 (IntKind.i64.wrap (p3 + 1)) p4 p5 p6 p7 p8 p9 p10 (IntKind.i64.wrap ((IntKind.i64.wrap ((IntKind.i64.wrap ((IntKind.i64.wrap (p0 + (IntKind.i64.wrap (64 * p3)))) + 64)) - 1)) - (lzD (p1.getD p3.toNat (0 : Int))))) (IntKind.i64.wrap (p12 + (onesD (p1.getD p3.toNat (0 : Int)))))
 else
 none
 else
 none
 else
 none
 else
 exitK K 0 ⟨slots 49 [(4, .pb 0 0), (5, .pb 1 0)], [.box [.v (.int .i64) p4, .nl, .v (.int .i64) p5, .v (.int .i64) p6, .v (.int .i64) p7], .box [.v (.int .i64) p8, .v (.sl (.int .u64)) p9, .v (.int .i64) p10, .v (.int .i64) p11, .v (.int .i64) p12]]⟩ := by kernel_rfl
theorem F72.c0 (k : Nat) (p0 p1 p2 p3 p4 : Int) (p5 : List Int) (p6 p7 p8 : Int) : exitK (F72.kt k [1,1,0,1,0]) 0 ⟨slots 49 [(4, .pb 0 0), (5, .pb 1 0)], [.box [.v (.int .i64) p0, .nl, .v (.int .i64) p1, .v (.int .i64) p2, .v (.int .i64) p3], .box [.v (.int .i64) p4, .v (.sl (.int .u64)) p5, .v (.int .i64) p6, .v (.int .i64) p7, .v (.int .i64) p8]]⟩ =
 some (.agg [.v (.int .i64) p4, .v (.sl (.int .u64)) p5, .v (.int .i64) p6, .v (.int .i64) p7, .v (.int .i64) p8]) := by kernel_rfl
noncomputable def F29.fn : Func := Go.Proofs.Tryz.f101
noncomputable def F29.body : Code := bodyOf F29.fn
noncomputable def F29.E : Env := ⟨tt, [(138, h_tzD)], [(1, [1]), (2, [1, 3]), (3, [1, 3, 7, 8, 9, 30003]), (4, [1, 3, 7, 8, 9, 10]), (5, [1, 3, 4, 5, 7, 8, 9, 30003]), (6, [1, 3, 4, 5, 7, 8, 9]), (7, [1, 3, 4, 5, 7, 8, 9]), (8, [1, 3, 7, 8, 9]), (9, [3])], [(0, [3]), (1, [1, 3, 7, 8, 9]), (2, [1, 3, 7, 8, 9]), (3, [1, 3, 4, 5, 7, 8, 9])], some [2], inv, []⟩
noncomputable def F29.K0 : Conts := { nrm := endW F29.E false F29.fn.results.toList, ret := endW F29.E false F29.fn.results.toList, ex := [] }
noncomputable def F29.kt (k : Nat) (q : List Nat) : Conts := contAt F29.E k F29.body F29.K0 q
noncomputable def F29.l1_1_0_1_0 (n : Nat) (K : Conts) (p0 : List Int) (p1 p2 p3 : Int) (p4 : List Int) (p5 p6 p7 : Int) (p8 : List Int) : Option AV := loopF F29.E n (inLoop (subC [1,1,0,1,0] F29.body)) K ⟨slots 33 [(1, .pb 0 0), (3, .own 1), (7, .v (.sl (.int .u64)) p0), (8, .v (.int .i64) p1), (9, .v (.int .i64) p2)], [.box [.v (.int .i64) p3, .v (.sl (.int .u64)) p4, .v (.int .i64) p5, .v (.int .i64) p6, .v (.int .i64) p7], .row 3 (.int .i64) p8]⟩
noncomputable def F29.k_l1_1_0_1_0 (n : Nat) (K : Conts) (q : List Nat) : Conts := contAt F29.E n (inLoop (subC [1, 1, 0, 1, 0] F29.body)) (loopK F29.E n (inLoop (subC [1, 1, 0, 1, 0] F29.body)) K) q
noncomputable def F29.l1_1_0_1_0_0_1_1_0_0_1_0 (n : Nat) (K : Conts) (p0 p1 : Int) (p2 : List Int) (p3 p4 p5 : Int) (p6 : List Int) (p7 p8 p9 : Int) (p10 : List Int) : Option AV := loopF F29.E n (inLoop (subC [1,1,0,1,0,0,1,1,0,0,1,0] F29.body)) K ⟨slots 33 [(1, .pb 0 0), (3, .own 1), (4, .v (.int .i64) p0), (5, .v (.int .u64) p1), (7, .v (.sl (.int .u64)) p2), (8, .v (.int .i64) p3), (9, .v (.int .i64) p4)], [.box [.v (.int .i64) p5, .v (.sl (.int .u64)) p6, .v (.int .i64) p7, .v (.int .i64) p8, .v (.int .i64) p9], .row 3 (.int .i64) p10]⟩
theorem F29.start_eq (k : Nat) (a0 : Dom) : callW F29.E false F29.fn k [.agg [.v (.int .i64) a0.1, .v (.sl (.int .u64)) a0.2.1, .v (.int .i64) a0.2.2.1, .v (.int .i64) a0.2.2.2.1, .v (.int .i64) a0.2.2.2.2]] =
 F29.l1_1_0_1_0 k (F29.kt k [1,1,0,1,0]) a0.2.1 (a0.2.1.length : Int) 0 a0.1 a0.2.1 a0.2.2.1 a0.2.2.2.1 a0.2.2.2.2 [] := by kernel_rfl
theorem F29.l1_1_0_1_0_eq (n : Nat) (K : Conts) (p0 : List Int) (p1 p2 p3 : Int) (p4 : List Int) (p5 p6 p7 : Int) (p8 : List Int) : F29.l1_1_0_1_0 (n + 1) K p0 p1 p2 p3 p4 p5 p6 p7 p8 =
 bif decide (p2 < p1) then
 bif decide (0 ≤ p2) && decide (p2 < p0.length) then
 F29.l1_1_0_1_0_0_1_1_0_0_1_0 n (F29.k_l1_1_0_1_0 n K [1,1,0,0,1,0]) p2 (p0.getD p2.toNat (0 : Int)) p0 p1 p2 p3 p4 p5 p6 p7 p8
 else
 none
 else
 exitK K 0 ⟨slots 33 [(3, .own 0)], [.row 3 (.int .i64) p8]⟩ := by kernel_rfl
theorem F29.l1_1_0_1_0_0_1_1_0_0_1_0_eq (n : Nat) (K : Conts) (p0 p1 : Int) (p2 : List Int) (p3 p4 p5 : Int) (p6 : List Int) (p7 p8 p9 : Int) (p10 : List Int) : F29.l1_1_0_1_0_0_1_1_0_0_1_0 (n + 1) K p0 p1 p2 p3 p4 p5 p6 p7 p8 p9 p10 =
 bif !(decide (p1 = 0)) then
 bif uB p1 then
 bif decide ((p10.length + [IntKind.i64.wrap ((IntKind.i64.wrap (p5 + (IntKind.i64.wrap (64 * p0)))) + (tzD p1))].length) * 8 ≤ LIM) then
 F29.l1_1_0_1_0_0_1_1_0_0_1_0 n K p0 (bitsW .and .u64 p1 (IntKind.u64.wrap (p1 - 1))) p2 p3 p4 p5 p6 p7 p8 p9 (p10 ++ [IntKind.i64.wrap ((IntKind.i64.wrap (p5 + (IntKind.i64.wrap (64 * p0)))) + (tzD p1))])
 else
 none
 else
 none
 else
 exitK K 2 ⟨slots 33 [(1, .pb 0 0), (3, .own 1), (7, .v (.sl (.int .u64)) p2), (8, .v (.int .i64) p3), (9, .v (.int .i64) p4)], [.box [.v (.int .i64) p5, .v (.sl (.int .u64)) p6, .v (.int .i64) p7, .v (.int .i64) p8, .v (.int .i64) p9], .row 3 (.int .i64) p10]⟩ := by kernel_rfl
theorem F29.c0 (k : Nat) (p0 : List Int) : exitK (F29.kt k [1,1,0,1,0]) 0 ⟨slots 33 [(3, .own 0)], [.row 3 (.int .i64) p0]⟩ =
 some (.v (.sl (.int .i64)) p0) := by kernel_rfl
theorem F29.c1 (n : Nat) (K : Conts) (p0 : List Int) (p1 p2 p3 : Int) (p4 : List Int) (p5 p6 p7 : Int) (p8 : List Int) : exitK (F29.k_l1_1_0_1_0 n K [1,1,0,0,1,0]) 2 ⟨slots 33 [(1, .pb 0 0), (3, .own 1), (7, .v (.sl (.int .u64)) p0), (8, .v (.int .i64) p1), (9, .v (.int .i64) p2)], [.box [.v (.int .i64) p3, .v (.sl (.int .u64)) p4, .v (.int .i64) p5, .v (.int .i64) p6, .v (.int .i64) p7], .row 3 (.int .i64) p8]⟩ =
 F29.l1_1_0_1_0 n K p0 p1 (IntKind.i64.wrap (p2 + 1)) p3 p4 p5 p6 p7 p8 := by kernel_rfl
noncomputable def F78.fn : Func := Go.Proofs.Tryz.f132
noncomputable def F78.E : Env := ⟨tt, [(133, h_inD)], [(1, [0])], [], some [2], inv, []⟩
theorem F78.start_eq (k : Nat) (a0 : Int) : callW F78.E false F78.fn k [.v (.int .i64) a0] =
 some (.v .bool (!(inD a0))) := by kernel_rfl
noncomputable def F79.fn : Func := Go.Proofs.Tryz.f134
noncomputable def F79.body : Code := bodyOf F79.fn
noncomputable def F79.E : Env := ⟨tt, [], [(1, [0]), (2, [0, 7]), (3, [0]), (4, [0, 3]), (5, [0, 3, 4]), (6, [0, 3, 4]), (7, [0, 3, 4]), (8, [3])], [(0, [3]), (1, [0, 3, 4])], some [2], inv, []⟩
noncomputable def F79.K0 : Conts := { nrm := endW F79.E false F79.fn.results.toList, ret := endW F79.E false F79.fn.results.toList, ex := [] }
noncomputable def F79.kt (k : Nat) (q : List Nat) : Conts := contAt F79.E k F79.body F79.K0 q
noncomputable def F79.n1_1 (n : Nat) (K : Conts) (p0 : List Int) : Option AV := runC F79.E (loopF F79.E n) (subC [1,1] F79.body) K ⟨slots 25 [(0, .v (.sl (.int .i64)) p0)], []⟩
noncomputable def F79.k_n1_1 (n : Nat) (K : Conts) (q : List Nat) : Conts := contAt F79.E n (subC [1, 1] F79.body) K q
noncomputable def F79.l1_1_1_0_1_0 (n : Nat) (K : Conts) (p0 : List Int) (p1 p2 : Int) : Option AV := loopF F79.E n (inLoop (subC [1,1,1,0,1,0] F79.body)) K ⟨slots 25 [(0, .v (.sl (.int .i64)) p0), (3, .v (.int .i64) p1), (4, .v (.int .i64) p2)], []⟩
theorem F79.start_eq (k : Nat) (a0 : List Int) : callW F79.E false F79.fn k [.v (.sl (.int .i64)) a0] =
 bif decide ((a0.length : Int) < 1) then none else F79.n1_1 k (F79.kt k [1,1]) a0 := by kernel_rfl
theorem F79.n1_1_eq (n : Nat) (K : Conts) (p0 : List Int) : F79.n1_1 n K p0 =
 bif decide ((0 : Int) < p0.length) then F79.l1_1_1_0_1_0 n (F79.k_n1_1 n K [1,0,1,0]) p0 (p0.getD 0 (0 : Int)) 1 else none := by kernel_rfl
theorem F79.l1_1_1_0_1_0_eq (n : Nat) (K : Conts) (p0 : List Int) (p1 p2 : Int) : F79.l1_1_1_0_1_0 (n + 1) K p0 p1 p2 =
 bif decide (p2 < (p0.length : Int)) then
 bif decide (0 ≤ p2) && decide (p2 < p0.length) then
 F79.l1_1_1_0_1_0 n K p0 (if p0.getD p2.toNat (0 : Int) > p1 then p0.getD p2.toNat (0 : Int) else p1) (IntKind.i64.wrap (p2 + 1))
 else
 none
 else
 exitK K 0 ⟨slots 25 [(3, .v (.int .i64) p1)], []⟩ := by kernel_rfl
theorem F79.c0 (n : Nat) (K : Conts) (p0 : Int) : exitK (F79.k_n1_1 n K [1,0,1,0]) 0 ⟨slots 25 [(3, .v (.int .i64) p0)], []⟩ =
 K.ret ⟨slots 25 [(2, .v (.int .i64) p0)], []⟩ := by kernel_rfl
theorem F79.c1 (k : Nat) (p0 : Int) : (F79.kt k [1,1]).ret ⟨slots 25 [(2, .v (.int .i64) p0)], []⟩ =
 some (.v (.int .i64) p0) := by kernel_rfl
noncomputable def F80.fn : Func := Go.Proofs.Tryz.f135
noncomputable def F80.body : Code := bodyOf F80.fn
noncomputable def F80.E : Env := ⟨tt, [], [(1, [0]), (2, [0, 7]), (3, [0]), (4, [0, 3]), (5, [0, 3, 4]), (6, [0, 3, 4]), (7, [0, 3, 4]), (8, [3])], [(0, [3]), (1, [0, 3, 4])], some [2], inv, []⟩
noncomputable def F80.K0 : Conts := { nrm := endW F80.E false F80.fn.results.toList, ret := endW F80.E false F80.fn.results.toList, ex := [] }
noncomputable def F80.kt (k : Nat) (q : List Nat) : Conts := contAt F80.E k F80.body F80.K0 q
noncomputable def F80.n1_1 (n : Nat) (K : Conts) (p0 : List Int) : Option AV := runC F80.E (loopF F80.E n) (subC [1,1] F80.body) K ⟨slots 25 [(0, .v (.sl (.int .i64)) p0)], []⟩
noncomputable def F80.k_n1_1 (n : Nat) (K : Conts) (q : List Nat) : Conts := contAt F80.E n (subC [1, 1] F80.body) K q
noncomputable def F80.l1_1_1_0_1_0 (n : Nat) (K : Conts) (p0 : List Int) (p1 p2 : Int) : Option AV := loopF F80.E n (inLoop (subC [1,1,1,0,1,0] F80.body)) K ⟨slots 25 [(0, .v (.sl (.int .i64)) p0), (3, .v (.int .i64) p1), (4, .v (.int .i64) p2)], []⟩
theorem F80.start_eq (k : Nat) (a0 : List Int) : callW F80.E false F80.fn k [.v (.sl (.int .i64)) a0] =
 bif decide ((a0.length : Int) < 1) then none else F80.n1_1 k (F80.kt k [1,1]) a0 := by kernel_rfl
theorem F80.n1_1_eq (n : Nat) (K : Conts) (p0 : List Int) : F80.n1_1 n K p0 =
 bif decide ((0 : Int) < p0.length) then F80.l1_1_1_0_1_0 n (F80.k_n1_1 n K [1,0,1,0]) p0 (p0.getD 0 (0 : Int)) 1 else none := by kernel_rfl
theorem F80.l1_1_1_0_1_0_eq (n : Nat) (K : Conts) (p0 : List Int) (p1 p2 : Int) : F80.l1_1_1_0_1_0 (n + 1) K p0 p1 p2 =
 bif decide (p2 < (p0.length : Int)) then
 bif decide (0 ≤ p2) && decide (p2 < p0.length) then
 F80.l1_1_1_0_1_0 n K p0 (if p0.getD p2.toNat (0 : Int) < p1 then p0.getD p2.toNat (0 : Int) else p1) (IntKind.i64.wrap (p2 + 1))
 else
 none
 else
 exitK K 0 ⟨slots 25 [(3, .v (.int .i64) p1)], []⟩ := by kernel_rfl
theorem F80.c0 (n : Nat) (K : Conts) (p0 : Int) : exitK (F80.k_n1_1 n K [1,0,1,0]) 0 ⟨slots 25 [(3, .v (.int .i64) p0)], []⟩ =
 K.ret ⟨slots 25 [(2, .v (.int .i64) p0)], []⟩ := by kernel_rfl
theorem F80.c1 (k : Nat) (p0 : Int) : (F80.kt k [1,1]).ret ⟨slots 25 [(2, .v (.int .i64) p0)], []⟩ =
 some (.v (.int .i64) p0) := by kernel_rfl
noncomputable def F50.fn : Func := Go.Proofs.Tryz.f100
noncomputable def F50.body : Code := bodyOf F50.fn
noncomputable def F50.E : Env := ⟨tt, [(55, h_any), (134, h_maxL), (135, h_minL), (136, h_room), (137, h_madeD)], [(1, [0, 2]), (2, [0, 2, 7]), (4, [0, 2, 12]), (6, [0, 2, 16]), (7, [0, 2]), (8, [0, 2, 4]), (9, [2, 4, 29, 30, 31]), (10, [2, 4, 29, 30, 31, 32]), (11, [2, 4, 6, 29, 30, 31]), (12, [2, 4, 29, 30, 31]), (13, [2, 4])], [(0, [0, 2]), (1, [2, 4]), (2, [2, 4, 29, 30, 31])], some [2, 3], inv, []⟩
noncomputable def F50.K0 : Conts := { nrm := endW F50.E false F50.fn.results.toList, ret := endW F50.E false F50.fn.results.toList, ex := [] }
noncomputable def F50.kt (k : Nat) (q : List Nat) : Conts := contAt F50.E k F50.body F50.K0 q
noncomputable def F50.l1_1_1_0_1_0 (n : Nat) (K : Conts) (p0 : List Int) (p1 p2 p3 p4 p5 p6 p7 p8 p9 p10 : Int) (p11 : List Int) : Option AV := loopF F50.E n (inLoop (subC [1,1,1,0,1,0] F50.body)) K ⟨slots 58 [(2, .pb 0 0), (4, .pb 1 0), (29, .v (.sl (.int .i64)) p0), (30, .v (.int .i64) p1), (31, .v (.int .i64) p2)], [.box [.v (.int .i64) p3, .nl, .v (.int .i64) p4, .v (.int .i64) p5, .v (.int .i64) p6], .box [.v (.int .i64) p7, .own 2, .v (.int .i64) p8, .v (.int .i64) p9, .v (.int .i64) p10], .row 145 (.int .u64) p11]⟩
theorem F50.start_eq (k : Nat) (a0 : List Int) : callW F50.E false F50.fn k [.v (.sl (.int .i64)) a0] =
 bif decide ((a0.length : Int) = 0) then
 some (.tup [.agg [.v (.int .i64) (0 : Int), .nl, .v (.int .i64) (0 : Int), .v (.int .i64) (0 : Int), .v (.int .i64) (0 : Int)], .v (.int .i64) (4 : Int)])
 else
 bif List.any a0 outD then
 some (.tup [.agg [.v (.int .i64) (0 : Int), .nl, .v (.int .i64) (0 : Int), .v (.int .i64) (0 : Int), .v (.int .i64) (0 : Int)], .v (.int .i64) (3 : Int)])
 else
 bif !a0.isEmpty then
 bif !a0.isEmpty then
 bif decide ((IntKind.i64.wrap ((maxL a0) - (minL a0))) ≥ 65536) then
 some (.tup [.agg [.v (.int .i64) (0 : Int), .nl, .v (.int .i64) (0 : Int), .v (.int .i64) (0 : Int), .v (.int .i64) (0 : Int)], .v (.int .i64) (5 : Int)])
 else
 bif !a0.isEmpty then
 bif !a0.isEmpty then
 bif roomB (minL a0) (maxL a0) then
 F50.l1_1_1_0_1_0 k (F50.kt k [1,1,1,0,1,0]) a0 (a0.length : Int) 0 (0 : Int) (0 : Int) (0 : Int) (0 : Int) (placeD (minL a0)) 0 0 0 (zerosD (minL a0) (maxL a0))
 else
 none
 else
 none
 else
 none
 else
 none
 else
 none := by kernel_rfl
theorem F50.l1_1_1_0_1_0_eq (n : Nat) (K : Conts) (p0 : List Int) (p1 p2 p3 p4 p5 p6 p7 p8 p9 p10 : Int) (p11 : List Int) : F50.l1_1_1_0_1_0 (n + 1) K p0 p1 p2 p3 p4 p5 p6 p7 p8 p9 p10 p11 =
 bif decide (p2 < p1) then
 bif decide (0 ≤ p2) && decide (p2 < p0.length) then
 bif decide (0 ≤ (IntKind.i64.wrap ((IntKind.i64.wrap ((p0.getD p2.toNat (0 : Int)) - p7)).tdiv 64))) && decide ((IntKind.i64.wrap ((IntKind.i64.wrap ((p0.getD p2.toNat (0 : Int)) - p7)).tdiv 64)) < p11.length) then
 bif decide (0 ≤ ((IntKind.i64.wrap ((p0.getD p2.toNat (0 : Int)) - p7)).tmod 64)) then
 bif decide (0 ≤ (IntKind.i64.wrap ((IntKind.i64.wrap ((p0.getD p2.toNat (0 : Int)) - p7)).tdiv 64))) && decide ((IntKind.i64.wrap ((IntKind.i64.wrap ((p0.getD p2.toNat (0 : Int)) - p7)).tdiv 64)) < p11.length) then
 F50.l1_1_1_0_1_0 n K p0 p1 (IntKind.i64.wrap (p2 + 1)) p3 p4 p5 p6 p7 p8 p9 p10 (p11.set ((IntKind.i64.wrap ((IntKind.i64.wrap ((p0.getD p2.toNat (0 : Int)) - p7)).tdiv 64)).toNat) (bitsW .or .u64 (p11.getD ((IntKind.i64.wrap ((IntKind.i64.wrap ((p0.getD p2.toNat (0 : Int)) - p7)).tdiv 64)).toNat) (0 : Int)) (shlW .u64 1 ((IntKind.i64.wrap ((p0.getD p2.toNat (0 : Int)) - p7)).tmod 64))))
 else
 none
 else
 none
 else
 none
 else
 none
 else
 exitK K 1 ⟨slots 58 [(2, .pb 0 0), (4, .pb 1 0)], [.box [.v (.int .i64) p3, .nl, .v (.int .i64) p4, .v (.int .i64) p5, .v (.int .i64) p6], .box [.v (.int .i64) p7, .own 2, .v (.int .i64) p8, .v (.int .i64) p9, .v (.int .i64) p10], .row 145 (.int .u64) p11]⟩ := by kernel_rfl
theorem F50.c0 (k : Nat) (p0 p1 p2 p3 p4 p5 p6 p7 : Int) (p8 : List Int) : exitK (F50.kt k [1,1,1,0,1,0]) 1 ⟨slots 58 [(2, .pb 0 0), (4, .pb 1 0)], [.box [.v (.int .i64) p0, .nl, .v (.int .i64) p1, .v (.int .i64) p2, .v (.int .i64) p3], .box [.v (.int .i64) p4, .own 2, .v (.int .i64) p5, .v (.int .i64) p6, .v (.int .i64) p7], .row 145 (.int .u64) p8]⟩ =
 bif p8.all uB then
 some (.tup [.agg [.v (.int .i64) ((madeD p4 p8).1), .v (.sl (.int .u64)) (((madeD p4 p8).2).1), .v (.int .i64) ((((madeD p4 p8).2).2).1), .v (.int .i64) (((((madeD p4 p8).2).2).2).1), .v (.int .i64) (((((madeD p4 p8).2).2).2).2)], .v (.int .i64) (0 : Int)])
 else
 none := by kernel_rfl
end Go.Proofs.YtlfdikofmfhefaaGreatDoor.Ev
set_option linter.unusedVariables false
set_option linter.unusedSimpArgs false
set_option maxRecDepth 100000
namespace Go.Proofs.YtlfdikofmfhefaaGreatDoor.Ev
open Go
theorem lenMax {n : Nat} (h : n ≤ maxLen) : (n : Int) ≤ 9223372036854775807 := by
 unfold maxLen at h
 have e : (2 : Nat) ^ 63 - 1 = 9223372036854775807 := by decide
 rw [e] at h
 omega
theorem F66.sem (k : Nat) (v : Int) : callW F66.E false F66.fn k [.v (.int .i64) v] = some (.v .bool (inD v)) := by
 rw [F66.start_eq]
 unfold inD
 by_cases h : -1000000 ≤ v <;> simp [h]
theorem F68.sem (k : Nat) (v : Int) : callW F68.E false F68.fn k [.v (.int .i64) v] = some (.v (.int .i64) (placeD v)) := by
 rw [F68.start_eq]
 rfl
theorem F78.sem (k : Nat) (v : Int) : callW F78.E false F78.fn k [.v (.int .i64) v] = some (.v .bool (outD v)) := by
 rw [F78.start_eq]
 rfl
theorem nearB_iff {v : Int} : nearB v = true ↔ -1099511627776 ≤ v ∧ v ≤ 1099511627776 := by unfold nearB; simp
theorem F71.sem (k : Nat) (lo hi : Int) (h : roomB lo hi = true) : callW F71.E true F71.fn k [.v (.int .i64) lo, .v (.int .i64) hi] =
  some (.agg [.v (.int .i64) (placeD lo), .nw 145 (.int .u64) (zerosD lo hi), .v (.int .i64) (0 : Int), .v (.int .i64) (0 : Int), .v (.int .i64) (0 : Int)]) := by
 refine (F71.start_eq k lo hi).trans ?_
 simp only [roomB, Bool.and_eq_true, decide_eq_true_eq] at h
 unfold zerosD
 generalize placeD hi = q at h
 generalize placeD lo = p at h
 have e1 : IntKind.i64.wrap (q - p) = q - p := wrap_ok (by omega) (by omega)
 have e2 : (q - p).tdiv 64 = (q - p) / 64 := Int.tdiv_eq_ediv_of_nonneg (by omega)
 have e3 : IntKind.i64.wrap ((q - p) / 64) = (q - p) / 64 := wrap_ok (by omega) (by omega)
 have e4 : IntKind.i64.wrap ((q - p) / 64 + 1) = (q - p) / 64 + 1 := wrap_ok (by omega) (by omega)
 rw [e1, e2, e3, e4]
 have h0 : 0 ≤ (q - p) / 64 + 1 := by omega
 have h1 : ((q - p) / 64 + 1).toNat * 8 ≤ LIM := by unfold LIM; omega
 simp [h0, h1]
 rfl
theorem F89.sem (k : Nat) (w : Int) : callW F89.E false F89.fn k [.v (.int .u64) w] = some (.v (.int .i64) (onesD w)) := by kernel_rfl
theorem u8_range (x : Int) : 0 ≤ IntKind.u8.wrap x ∧ IntKind.u8.wrap x < len8tab.size := by
 have e : IntKind.u8.wrap x = x % 256 := by simp [IntKind.wrap, IntKind.signed, IntKind.bits]
 have e2 : len8tab.size = 256 := by rfl
 rw [e, e2]
 omega
theorem F102.sem (k : Nat) (w : Int) : callW F102.E false F102.fn k [.v (.int .u64) w] = some (.v (.int .i64) (len64D w)) := by
 have z : ∀ (n : Nat) (K : Conts) (x m : Int), F102.n1_1_1_1 n K x m = K.ret ⟨slots 25 [(2, .v (.int .i64) (lenZ x m))], []⟩ := by
  intro n K x m
  rw [F102.n1_1_1_1_eq]
  obtain ⟨h1, h2⟩ := u8_range x
  simp only [h1, h2, decide_true, Bool.and_true, cond_true]
  rfl
 have c : ∀ (n : Nat) (K : Conts) (x m : Int), F102.n1_1_1 n K x m = K.ret ⟨slots 25 [(2, .v (.int .i64) (lenZ (lenC x) (lenC' x m)))], []⟩ := by
  intro n K x m
  rw [F102.n1_1_1_eq]
  unfold lenC lenC'
  by_cases h : x ≥ 256
  ·simp only [h, decide_true, cond_true, if_true]
   rw [z, F102.c0]
  ·simp only [h, decide_false, cond_false, if_false]
   rw [z, F102.c0]
 have b : ∀ (n : Nat) (K : Conts) (x m : Int), F102.n1_1 n K x m = K.ret ⟨slots 25 [(2, .v (.int .i64) (lenZ (lenC (lenB1 x)) (lenC' (lenB1 x) (lenB' x m))))], []⟩ := by
  intro n K x m
  rw [F102.n1_1_eq]
  unfold lenB1 lenB'
  by_cases h : x ≥ 65536
  ·simp only [h, decide_true, cond_true, if_true]
   rw [c, F102.c1]
  ·simp only [h, decide_false, cond_false, if_false]
   rw [c, F102.c1]
 rw [F102.start_eq]
 unfold len64D
 by_cases h : w ≥ 4294967296
 ·simp only [h, decide_true, cond_true, lenA, lenA', if_true]
  rw [b, F102.c2]
 ·simp only [h, decide_false, cond_false, lenA, lenA', if_false]
  rw [b, F102.c2]
theorem F88.sem (k : Nat) (w : Int) (h : uB w = true) : callW F88.E false F88.fn k [.v (.int .u64) w] = some (.v (.int .i64) (lzD w)) := by
 rw [F88.start_eq, h]
 rfl
theorem F79.loop (K : Conts) (xs : List Int) (hl : xs.length ≤ maxLen) : ∀ (n : Nat) (m i : Int), 0 ≤ i → i ≤ xs.length → xs.length - i < n →
  F79.l1_1_1_0_1_0 n K xs m i = exitK K 0 ⟨slots 25 [(3, .v (.int .i64) (maxF m (xs.drop i.toNat)))], []⟩ := by
 have hm := lenMax hl
 intro n
 induction n with
 | zero => intro m i h0 h1 h2; omega
 | succ n ih =>
  intro m i h0 h1 h2
  rw [F79.l1_1_1_0_1_0_eq]
  by_cases hi : i < xs.length
  ·have hd := drop_get (d := (0 : Int)) h0 hi
   rw [hd]
   simp only [hi, h0, decide_true, Bool.and_true, cond_true]
   rw [wrap_ok (by omega) (by omega)]
   exact ih _ (i + 1) (by omega) (by omega) (by omega)
  ·rw [List.drop_of_length_le (by omega)]
   simp only [hi, decide_false, cond_false]
   rfl
theorem F79.sem (xs : List Int) (h : (!xs.isEmpty) = true) (hl : xs.length ≤ maxLen) : callW F79.E false F79.fn (xs.length + 1) [.v (.sl (.int .i64)) xs] = some (.v (.int .i64) (maxL xs)) := by
 have h0 : 0 < xs.length := by cases xs <;> simp_all
 have h0' : (0 : Int) < xs.length := by omega
 have h1 : ¬ (xs.length : Int) < 1 := by omega
 rw [F79.start_eq, F79.n1_1_eq]
 simp only [h1, h0', decide_true, decide_false, cond_true, cond_false]
 rw [F79.loop _ xs hl _ _ 1 (by omega) (by omega) (by omega), F79.c0, F79.c1]
 rfl
theorem F80.loop (K : Conts) (xs : List Int) (hl : xs.length ≤ maxLen) : ∀ (n : Nat) (m i : Int), 0 ≤ i → i ≤ xs.length → xs.length - i < n →
  F80.l1_1_1_0_1_0 n K xs m i = exitK K 0 ⟨slots 25 [(3, .v (.int .i64) (minF m (xs.drop i.toNat)))], []⟩ := by
 have hm := lenMax hl
 intro n
 induction n with
 | zero => intro m i h0 h1 h2; omega
 | succ n ih =>
  intro m i h0 h1 h2
  rw [F80.l1_1_1_0_1_0_eq]
  by_cases hi : i < xs.length
  ·have hd := drop_get (d := (0 : Int)) h0 hi
   rw [hd]
   simp only [hi, h0, decide_true, Bool.and_true, cond_true]
   rw [wrap_ok (by omega) (by omega)]
   exact ih _ (i + 1) (by omega) (by omega) (by omega)
  ·rw [List.drop_of_length_le (by omega)]
   simp only [hi, decide_false, cond_false]
   rfl
theorem F80.sem (xs : List Int) (h : (!xs.isEmpty) = true) (hl : xs.length ≤ maxLen) : callW F80.E false F80.fn (xs.length + 1) [.v (.sl (.int .i64)) xs] = some (.v (.int .i64) (minL xs)) := by
 have h0 : 0 < xs.length := by cases xs <;> simp_all
 have h0' : (0 : Int) < xs.length := by omega
 have h1 : ¬ (xs.length : Int) < 1 := by omega
 rw [F80.start_eq, F80.n1_1_eq]
 simp only [h1, h0', decide_true, decide_false, cond_true, cond_false]
 rw [F80.loop _ xs hl _ _ 1 (by omega) (by omega) (by omega), F80.c0, F80.c1]
 rfl
theorem getD_uB {ws : List Int} (h : ws.all uB = true) {i : Nat} (hi : i < ws.length) : uB (ws.getD i 0) = true := by
 rw [List.all_eq_true] at h
 rw [List.getD_eq_getElem?_getD, List.getElem?_eq_getElem hi]
 exact h _ (List.getElem_mem hi)
theorem F72.loop (K : Conts) (off : Int) (ws : List Int) (hu : ws.all uB = true) (hl : ws.length ≤ maxLen) (p4 p5 p6 p7 p8 : Int) (p9 : List Int) : ∀ (n : Nat) (i mn mx sz : Int), 0 ≤ i → i ≤ ws.length → ws.length - i < n →
  F72.l1_1_0_1_0 n K off ws ws.length i p4 p5 p6 p7 p8 p9 mn mx sz =
  exitK K 0 ⟨slots 49 [(4, .pb 0 0), (5, .pb 1 0)], [.box [.v (.int .i64) p4, .nl, .v (.int .i64) p5, .v (.int .i64) p6, .v (.int .i64) p7], .box [.v (.int .i64) p8, .v (.sl (.int .u64)) p9,
   .v (.int .i64) (madeGo off i mn mx sz (ws.drop i.toNat)).1, .v (.int .i64) (madeGo off i mn mx sz (ws.drop i.toNat)).2.1, .v (.int .i64) (madeGo off i mn mx sz (ws.drop i.toNat)).2.2]]⟩ := by
 have hm := lenMax hl
 intro n
 induction n with
 | zero => intro i mn mx sz h0 h1 h2; omega
 | succ n ih =>
  intro i mn mx sz h0 h1 h2
  rw [F72.l1_1_0_1_0_eq]
  by_cases hi : i < ws.length
  ·have hu1 := getD_uB hu (i := i.toNat) (by omega)
   rw [drop_get (d := (0 : Int)) h0 hi]
   simp only [hi, h0, decide_true, Bool.and_true, cond_true, madeGo, hu1]
   generalize ws.getD i.toNat 0 = w
   rw [wrap_ok (x := i + 1) (by omega) (by omega)]
   by_cases hw : w = 0
   ·simp only [hw, decide_true, cond_true, if_true]
    exact ih (i + 1) mn mx sz (by omega) (by omega) (by omega)
   ·by_cases hs : sz = 0
    ·simp only [hw, hs, decide_true, decide_false, cond_true, cond_false, if_true, if_false]
     exact ih (i + 1) _ _ _ (by omega) (by omega) (by omega)
    ·simp only [hw, hs, decide_true, decide_false, cond_true, cond_false, if_true, if_false]
     exact ih (i + 1) _ _ _ (by omega) (by omega) (by omega)
  ·rw [List.drop_of_length_le (by omega)]
   simp only [hi, decide_false, cond_false, madeGo]
theorem F72.sem (off : Int) (ws : List Int) (hu : ws.all uB = true) (hl : ws.length ≤ maxLen) : callW F72.E false F72.fn (ws.length + 1) [.v (.int .i64) off, .v (.sl (.int .u64)) ws] = some (.agg (explode DomT (madeD off ws))) := by
 rw [F72.start_eq, F72.loop _ off ws hu hl _ _ _ _ _ _ _ 0 0 0 0 (by omega) (by omega) (by omega), F72.c0]
 rfl
end Go.Proofs.YtlfdikofmfhefaaGreatDoor.Ev
