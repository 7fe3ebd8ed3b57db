/-
The functions as the evaluator runs them: printed by a program of mine, each equation by kernel_rfl.
Conditions: none.
The functions as the evaluator runs them: printed by a program of mine, each equation by kernel_rfl.
Conditions: none.
Seat 'a': loops over lists, once and for all; what the closures' callers answer; words and shapes.
Conditions: none.
-/
import Derived.Test.YtnojoaghcbljfaaGreatDoorAa
import Derived.Test.YtnojoaghcbljfaaGreatDoorAb
set_option linter.unusedVariables false
set_option linter.unusedSimpArgs false
set_option maxRecDepth 100000
namespace Go.Proofs.YtnojoaghcbljfaaGreatDoor.Ev
open Go
noncomputable def F99g78.fn : Func := Go.Proofs.Tryz.f136
noncomputable def F99g78.body : Code := bodyOf F99g78.fn
noncomputable def F99g78.E : Env := ⟨tt, [(95, h_outD)], [(1, [0, 1]), (2, [0, 1, 7, 8]), (3, [0, 1, 7, 8, 9]), (4, [0, 1, 5, 7, 8]), (5, [0, 1, 5, 7, 8, 16]), (6, [0, 1, 7, 8]), (7, [])], [(0, []), (1, [0, 1, 7, 8])], some [4], inv, []⟩
noncomputable def F99g78.K0 : Conts := { nrm := endW F99g78.E false F99g78.fn.results.toList, ret := endW F99g78.E false F99g78.fn.results.toList, ex := [] }
noncomputable def F99g78.kt (k : Nat) (q : List Nat) : Conts := contAt F99g78.E k F99g78.body F99g78.K0 q
noncomputable def F99g78.l1_0_1_0 (n : Nat) (K : Conts) (p0 : List Int) (p1 p2 : Int) : Option AV := loopF F99g78.E n (inLoop (subC [1,0,1,0] F99g78.body)) K ⟨slots 19 [(0, .v (.sl (.int .i64)) p0), (1, .fn 95 [] []), (7, .v (.int .i64) p1), (8, .v (.int .i64) p2)], []⟩
theorem F99g78.start_eq (k : Nat) (a0 : List Int) : callW F99g78.E false F99g78.fn k [.v (.sl (.int .i64)) a0, .fn 95 [] []] =
 F99g78.l1_0_1_0 k (F99g78.kt k [1,0,1,0]) a0 (a0.length : Int) 0 := by kernel_rfl
theorem F99g78.l1_0_1_0_eq (n : Nat) (K : Conts) (p0 : List Int) (p1 p2 : Int) : F99g78.l1_0_1_0 (n + 1) K p0 p1 p2 =
 bif decide (p2 < p1) then
 bif decide (0 ≤ p2) && decide (p2 < p0.length) then
 bif outD (p0.getD p2.toNat (0 : Int)) then K.ret ⟨slots 19 [(4, .v (.int .i64) p2)], []⟩ else F99g78.l1_0_1_0 n K p0 p1 (IntKind.i64.wrap (p2 + 1))
 else
 none
 else
 exitK K 0 ⟨slots 19 [], []⟩ := by kernel_rfl
theorem F99g78.c0 (k : Nat) (p0 : Int) : (F99g78.kt k [1,0,1,0]).ret ⟨slots 19 [(4, .v (.int .i64) p0)], []⟩ =
 some (.v (.int .i64) p0) := by kernel_rfl
theorem F99g78.c1 (k : Nat) : exitK (F99g78.kt k [1,0,1,0]) 0 ⟨slots 19 [], []⟩ =
 some (.v (.int .i64) (-1 : Int)) := by kernel_rfl
noncomputable def F99g96.fn : Func := Go.Proofs.Tryz.f136
noncomputable def F99g96.body : Code := bodyOf F99g96.fn
noncomputable def F99g96.E : Env := ⟨tt, [(133, h_varB)], [(1, [0, 1]), (2, [0, 1, 7, 8]), (3, [0, 1, 7, 8, 9]), (4, [0, 1, 5, 7, 8]), (5, [0, 1, 5, 7, 8, 16]), (6, [0, 1, 7, 8]), (7, [])], [(0, []), (1, [0, 1, 7, 8])], some [4], inv, []⟩
noncomputable def F99g96.K0 : Conts := { nrm := endW F99g96.E false F99g96.fn.results.toList, ret := endW F99g96.E false F99g96.fn.results.toList, ex := [] }
noncomputable def F99g96.kt (k : Nat) (q : List Nat) : Conts := contAt F99g96.E k F99g96.body F99g96.K0 q
noncomputable def F99g96.l1_0_1_0 (n : Nat) (K : Conts) (p0 : List Int) (p1 p2 p3 : Int) : Option AV := loopF F99g96.E n (inLoop (subC [1,0,1,0] F99g96.body)) K ⟨slots 19 [(0, .v (.sl (.int .i64)) p0), (1, .fn 133 [] [.rp [.v (.int .i64) p1]]), (7, .v (.int .i64) p2), (8, .v (.int .i64) p3)], []⟩
theorem F99g96.start_eq (k : Nat) (a0 : List Int) (z : Int) : callW F99g96.E false F99g96.fn k [.v (.sl (.int .i64)) a0, .fn 133 [] [.rp [.v (.int .i64) z]]] =
 F99g96.l1_0_1_0 k (F99g96.kt k [1,0,1,0]) a0 z (a0.length : Int) 0 := by kernel_rfl
theorem F99g96.l1_0_1_0_eq (n : Nat) (K : Conts) (p0 : List Int) (p1 p2 p3 : Int) : F99g96.l1_0_1_0 (n + 1) K p0 p1 p2 p3 =
 bif decide (p3 < p2) then
 bif decide (0 ≤ p3) && decide (p3 < p0.length) then
 bif varB p1 (p0.getD p3.toNat (0 : Int)) then K.ret ⟨slots 19 [(4, .v (.int .i64) p3)], []⟩ else F99g96.l1_0_1_0 n K p0 p1 p2 (IntKind.i64.wrap (p3 + 1))
 else
 none
 else
 exitK K 0 ⟨slots 19 [], []⟩ := by kernel_rfl
theorem F99g96.c0 (k : Nat) (p0 : Int) : (F99g96.kt k [1,0,1,0]).ret ⟨slots 19 [(4, .v (.int .i64) p0)], []⟩ =
 some (.v (.int .i64) p0) := by kernel_rfl
theorem F99g96.c1 (k : Nat) : exitK (F99g96.kt k [1,0,1,0]) 0 ⟨slots 19 [], []⟩ =
 some (.v (.int .i64) (-1 : Int)) := by kernel_rfl
noncomputable def F99g118.fn : Func := Go.Proofs.Tryz.f136
noncomputable def F99g118.body : Code := bodyOf F99g118.fn
noncomputable def F99g118.E : Env := ⟨tt, [(175, h_numB)], [(1, [0, 1]), (2, [0, 1, 7, 8]), (3, [0, 1, 7, 8, 9]), (4, [0, 1, 5, 7, 8]), (5, [0, 1, 5, 7, 8, 16]), (6, [0, 1, 7, 8]), (7, [])], [(0, []), (1, [0, 1, 7, 8])], some [4], inv, []⟩
noncomputable def F99g118.K0 : Conts := { nrm := endW F99g118.E false F99g118.fn.results.toList, ret := endW F99g118.E false F99g118.fn.results.toList, ex := [] }
noncomputable def F99g118.kt (k : Nat) (q : List Nat) : Conts := contAt F99g118.E k F99g118.body F99g118.K0 q
noncomputable def F99g118.l1_0_1_0 (n : Nat) (K : Conts) (p0 : List Int) (p1 p2 p3 : Int) : Option AV := loopF F99g118.E n (inLoop (subC [1,0,1,0] F99g118.body)) K ⟨slots 19 [(0, .v (.sl (.int .i64)) p0), (1, .fn 175 [] [.rp [.v (.int .i64) p1]]), (7, .v (.int .i64) p2), (8, .v (.int .i64) p3)], []⟩
theorem F99g118.start_eq (k : Nat) (a0 : List Int) (z : Int) : callW F99g118.E false F99g118.fn k [.v (.sl (.int .i64)) a0, .fn 175 [] [.rp [.v (.int .i64) z]]] =
 F99g118.l1_0_1_0 k (F99g118.kt k [1,0,1,0]) a0 z (a0.length : Int) 0 := by kernel_rfl
theorem F99g118.l1_0_1_0_eq (n : Nat) (K : Conts) (p0 : List Int) (p1 p2 p3 : Int) : F99g118.l1_0_1_0 (n + 1) K p0 p1 p2 p3 =
 bif decide (p3 < p2) then
 bif decide (0 ≤ p3) && decide (p3 < p0.length) then
 bif numB p1 (p0.getD p3.toNat (0 : Int)) then K.ret ⟨slots 19 [(4, .v (.int .i64) p3)], []⟩ else F99g118.l1_0_1_0 n K p0 p1 p2 (IntKind.i64.wrap (p3 + 1))
 else
 none
 else
 exitK K 0 ⟨slots 19 [], []⟩ := by kernel_rfl
theorem F99g118.c0 (k : Nat) (p0 : Int) : (F99g118.kt k [1,0,1,0]).ret ⟨slots 19 [(4, .v (.int .i64) p0)], []⟩ =
 some (.v (.int .i64) p0) := by kernel_rfl
theorem F99g118.c1 (k : Nat) : exitK (F99g118.kt k [1,0,1,0]) 0 ⟨slots 19 [], []⟩ =
 some (.v (.int .i64) (-1 : Int)) := by kernel_rfl
noncomputable def F77g78.fn : Func := Go.Proofs.Tryz.f94
noncomputable def F77g78.E : Env := ⟨tt, [(136, h_idxF)], [(1, [0, 1])], [], some [4], inv, []⟩
theorem F77g78.start_eq (k : Nat) (a0 : List Int) : callW F77g78.E false F77g78.fn k [.v (.sl (.int .i64)) a0, .fn 95 [] []] =
 some (.v .bool (decide ((idx outD a0 0) ≥ 0))) := by kernel_rfl
noncomputable def F77g96.fn : Func := Go.Proofs.Tryz.f94
noncomputable def F77g96.E : Env := ⟨tt, [(136, h_idxF)], [(1, [0, 1])], [], some [4], inv, []⟩
theorem F77g96.start_eq (k : Nat) (a0 : List Int) (z : Int) : callW F77g96.E false F77g96.fn k [.v (.sl (.int .i64)) a0, .fn 133 [] [.rp [.v (.int .i64) z]]] =
 some (.v .bool (decide ((idx (varB z) a0 0) ≥ 0))) := by kernel_rfl
noncomputable def F77g118.fn : Func := Go.Proofs.Tryz.f94
noncomputable def F77g118.E : Env := ⟨tt, [(136, h_idxF)], [(1, [0, 1])], [], some [4], inv, []⟩
theorem F77g118.start_eq (k : Nat) (a0 : List Int) (z : Int) : callW F77g118.E false F77g118.fn k [.v (.sl (.int .i64)) a0, .fn 175 [] [.rp [.v (.int .i64) z]]] =
 some (.v .bool (decide ((idx (numB z) a0 0) ≥ 0))) := by kernel_rfl
noncomputable def F90g74.fn : Func := Go.Proofs.Tryz.f127
noncomputable def F90g74.body : Code := bodyOf F90g74.fn
noncomputable def F90g74.E : Env := ⟨tt, [(91, h_emptyD)], [(1, [0, 1]), (2, [0, 1, 7, 8]), (3, [0, 1, 7, 8, 9]), (4, [0, 1, 5, 7, 8]), (5, [0, 1, 5, 7, 8, 16]), (6, [0, 1, 7, 8]), (7, [])], [(0, []), (1, [0, 1, 7, 8])], some [4], inv, []⟩
noncomputable def F90g74.K0 : Conts := { nrm := endW F90g74.E false F90g74.fn.results.toList, ret := endW F90g74.E false F90g74.fn.results.toList, ex := [] }
noncomputable def F90g74.kt (k : Nat) (q : List Nat) : Conts := contAt F90g74.E k F90g74.body F90g74.K0 q
noncomputable def F90g74.l1_0_1_0 (n : Nat) (K : Conts) (p0 : List Dom) (p1 p2 : Int) : Option AV := loopF F90g74.E n (inLoop (subC [1,0,1,0] F90g74.body)) K ⟨slots 19 [(0, .v (.sl DomT) p0), (1, .fn 91 [] []), (7, .v (.int .i64) p1), (8, .v (.int .i64) p2)], []⟩
theorem F90g74.start_eq (k : Nat) (a0 : List Dom) : callW F90g74.E false F90g74.fn k [.v (.sl DomT) a0, .fn 91 [] []] =
 F90g74.l1_0_1_0 k (F90g74.kt k [1,0,1,0]) a0 (a0.length : Int) 0 := by kernel_rfl
theorem F90g74.l1_0_1_0_eq (n : Nat) (K : Conts) (p0 : List Dom) (p1 p2 : Int) : F90g74.l1_0_1_0 (n + 1) K p0 p1 p2 =
 bif decide (p2 < p1) then
 bif decide (0 ≤ p2) && decide (p2 < p0.length) then
 bif emptyD (p0.getD p2.toNat ((0 : Int), ([], ((0 : Int), ((0 : Int), (0 : Int)))))) then
 K.ret ⟨slots 19 [(4, .v (.int .i64) p2)], []⟩
 else
 F90g74.l1_0_1_0 n K p0 p1 (IntKind.i64.wrap (p2 + 1))
 else
 none
 else
 exitK K 0 ⟨slots 19 [], []⟩ := by kernel_rfl
theorem F90g74.c0 (k : Nat) (p0 : Int) : (F90g74.kt k [1,0,1,0]).ret ⟨slots 19 [(4, .v (.int .i64) p0)], []⟩ =
 some (.v (.int .i64) p0) := by kernel_rfl
theorem F90g74.c1 (k : Nat) : exitK (F90g74.kt k [1,0,1,0]) 0 ⟨slots 19 [], []⟩ =
 some (.v (.int .i64) (-1 : Int)) := by kernel_rfl
noncomputable def F73g74.fn : Func := Go.Proofs.Tryz.f90
noncomputable def F73g74.E : Env := ⟨tt, [(127, h_idxE)], [(1, [0, 1])], [], some [4], inv, []⟩
theorem F73g74.start_eq (k : Nat) (a0 : List Dom) : callW F73g74.E false F73g74.fn k [.v (.sl DomT) a0, .fn 91 [] []] =
 some (.v .bool (decide ((idx emptyD a0 0) ≥ 0))) := by kernel_rfl
noncomputable def F74.fn : Func := Go.Proofs.Tryz.f91
noncomputable def F74.E : Env := ⟨tt, [(92, h_sizeD)], [(1, [1])], [], some [2], inv, []⟩
theorem F74.start_eq (k : Nat) (a0 : Dom) : callW F74.E false F74.fn k [.agg [.v (.int .i64) a0.1, .v (.sl (.int .u64)) a0.2.1, .v (.int .i64) a0.2.2.1, .v (.int .i64) a0.2.2.2.1, .v (.int .i64) a0.2.2.2.2]] =
 some (.v .bool (decide ((sizeD a0) = 0))) := by kernel_rfl
noncomputable def F96.fn : Func := Go.Proofs.Tryz.f133
noncomputable def F96.E : Env := ⟨tt, [], [(1, [0, 1])], [], some [3], inv, []⟩
theorem F96.start_eq (k : Nat) (a0 z : Int) : callW F96.E false F96.fn k [.v (.int .i64) a0, .rp [.v (.int .i64) z]] =
 bif decide (a0 < 0) then some (.v .bool true) else some (.v .bool (decide (a0 ≥ z))) := by kernel_rfl
noncomputable def F118.fn : Func := Go.Proofs.Tryz.f175
noncomputable def F118.E : Env := ⟨tt, [], [(1, [0, 1])], [], some [3], inv, []⟩
theorem F118.start_eq (k : Nat) (a0 z : Int) : callW F118.E false F118.fn k [.v (.int .i64) a0, .rp [.v (.int .i64) z]] =
 bif decide (a0 < z) then some (.v .bool true) else some (.v .bool (decide (a0 > 1000000))) := by kernel_rfl
end Go.Proofs.YtnojoaghcbljfaaGreatDoor.Ev
set_option linter.unusedVariables false
set_option linter.unusedSimpArgs false
set_option maxRecDepth 100000
namespace Go.Proofs.YtnojoaghcbljfaaGreatDoor.Ev
open Go
noncomputable def F124.fn : Func := Go.Proofs.Tryz.f180
noncomputable def F124.E : Env := ⟨tt, [(185, h_idxI)], [(1, [0, 1])], [], some [4], inv, []⟩
theorem F124.start_eq (k : Nat) (a0 : ByteArray) (a1 : Int) : callW F124.E false F124.fn k [.v .str a0, .v (.int .u8) a1] =
 some (.v (.int .i64) (idxI a0 a1)) := by kernel_rfl
noncomputable def F116.fn : Func := Go.Proofs.Tryz.f173
noncomputable def F116.E : Env := ⟨tt, [(180, h_idxJ)], [(1, [0, 1]), (2, [0, 1, 5]), (3, [0, 1, 5, 16]), (5, [0, 1, 5, 24]), (7, [0, 1, 5, 31]), (9, [0, 1, 5, 36]), (10, [0, 1, 5]), (11, [0, 1, 5, 6]), (12, [0, 1, 5, 6, 7]), (13, [0, 1, 5, 6, 7, 8]), (14, [0, 1, 5, 6, 7, 8, 9]), (15, [0, 1, 5, 6, 7, 8, 9, 10]), (16, [0, 1, 5, 6, 7, 8, 9, 10]), (17, [0, 1, 5, 6, 7, 8, 9, 10, 64]), (18, [0, 1, 5, 6, 7, 8, 9, 10, 11]), (19, [0, 1, 5, 6, 7, 8, 9, 10, 11, 73]), (20, [0, 1, 5, 6, 7, 8, 9, 10, 11]), (21, [0, 1, 5, 6, 7, 8, 9, 10]), (22, [0, 1, 5, 6, 7, 8, 9, 10, 93]), (23, [0, 1, 5, 6, 7, 8, 9, 10]), (24, [0, 1, 5, 6, 7, 8, 9, 10]), (25, [0, 1, 5, 6, 7, 8, 9, 10]), (26, [0, 1, 5, 6, 7, 8, 9, 10, 107]), (27, [8, 12]), (28, [8, 12, 114]), (29, []), (31, [0, 1, 5, 6, 7, 8, 9, 10, 132]), (32, [8, 13]), (33, [8, 13, 139]), (34, [8, 13]), (35, [])], [(0, [0, 1, 5]), (1, []), (2, [0, 1, 5, 6, 7, 8, 9, 10])], some [4], inv, []⟩
theorem F116.start_eq (k : Nat) (a0 : ByteArray) (b : UInt8) : callW F116.E false F116.fn k [.v .str a0, .v .str ⟨#[b]⟩] =
 bif strEq ⟨#[b]⟩ a0 then some (.v (.int .i64) (0 : Int)) else some (.v (.int .i64) (idxJ a0 (byteW ⟨#[b]⟩ 0))) := by kernel_rfl
noncomputable def F109.fn : Func := Go.Proofs.Tryz.f160
noncomputable def F109.E : Env := ⟨tt, [(173, h_idx1)], [(1, [0, 1])], [], some [4], inv, []⟩
theorem F109.start_eq (k : Nat) (a0 : ByteArray) (b : UInt8) : callW F109.E false F109.fn k [.v .str a0, .v .str ⟨#[b]⟩] =
 some (.v (.int .i64) (idx1 a0 ⟨#[b]⟩)) := by kernel_rfl
noncomputable def F94.fn : Func := Go.Proofs.Tryz.f131
noncomputable def F94.E : Env := ⟨tt, [(160, h_idx2)], [(1, [0, 1])], [], some [4], inv, []⟩
theorem F94.start_eq (k : Nat) (a0 : ByteArray) (b : UInt8) : callW F94.E false F94.fn k [.v .str a0, .v .str ⟨#[b]⟩] =
 some (.v .bool (decide ((idx2 a0 ⟨#[b]⟩) ≥ 0))) := by kernel_rfl
noncomputable def F114.fn : Func := Go.Proofs.Tryz.f171
noncomputable def F114.E : Env := ⟨tt, [(179, h_cntI)], [(1, [0, 1]), (2, [0, 1, 9]), (3, [0, 1]), (4, [0, 1, 15]), (5, [0, 1]), (6, [0, 1, 5]), (7, [0, 1, 5, 6]), (8, [0, 1, 5, 6, 24]), (9, [0, 1, 5, 6]), (10, [0, 1, 5, 6])], [(0, [4]), (1, [0, 1, 5])], some [4], inv, []⟩
theorem F114.start_eq (k : Nat) (a0 : ByteArray) (b : UInt8) : callW F114.E false F114.fn k [.v .str a0, .v .str ⟨#[b]⟩] =
 some (.v (.int .i64) (cntI a0 (byteW ⟨#[b]⟩ 0))) := by kernel_rfl
noncomputable def F105.fn : Func := Go.Proofs.Tryz.f156
noncomputable def F105.E : Env := ⟨tt, [], [(1, [0, 1, 2])], [], some [6], inv, []⟩
theorem F105.start_eq (k : Nat) (a0 a1 a2 : Int) : callW F105.E false F105.fn k [.v (.int .i64) a0, .v (.int .i64) a1, .v (.int .i64) a2] =
 bif decide (a0 ≥ a1) then some (.v .bool (decide (a0 ≤ a2))) else some (.v .bool false) := by kernel_rfl
noncomputable def F106.fn : Func := Go.Proofs.Tryz.f157
noncomputable def F106.E : Env := ⟨tt, [(131, h_has1), (156, h_withinD), (171, h_cnt1)], [(1, [0, 1, 2, 3]), (2, [0, 1, 2, 11]), (3, [0, 1, 2])], [], some [8], inv, []⟩
theorem F106.start_eq (k : Nat) (a0 : Int) (a1 a2 a3 : ByteArray) : callW F106.E false F106.fn k [.v (.int .i64) a0, .v .str a1, .v .str a2, .v .str a3] =
 bif decide (a3.size = 1) then
 bif has1 a1 a3 then
 some (.v .bool (withinD a0 1 64))
 else
 bif decide (a2.size = 1) then some (.v .bool (decide (a0 = (cnt1 a1 a2)))) else none
 else
 none := by kernel_rfl
end Go.Proofs.YtnojoaghcbljfaaGreatDoor.Ev
set_option linter.unusedVariables false
set_option linter.unusedSimpArgs false
set_option maxRecDepth 100000
namespace Go.Proofs.YtnojoaghcbljfaaGreatDoor.Ev
open Go
theorem search_loop {α : Type} (L : Nat → Int → Option AV) (xs : List α) (d : α) (p : α → Bool) (hit : Int → Option AV) (miss : Option AV) (hl : xs.length ≤ maxLen)
  (h : ∀ n i, L (n + 1) i = bif decide (i < (xs.length : Int)) then (bif decide (0 ≤ i) && decide (i < (xs.length : Int)) then (bif p (xs.getD i.toNat d) then hit i else L n (IntKind.i64.wrap (i + 1))) else none) else miss) :
  ∀ (n : Nat) (i : Int), 0 ≤ i → i ≤ xs.length → xs.length - i < n → L n i = bif (xs.drop i.toNat).any p then hit (idx p (xs.drop i.toNat) i) else miss := by
 have hm := lenMax hl
 intro n
 induction n with
 | zero => intro i h0 h1 h2; omega
 | succ n ih =>
  intro i h0 h1 h2
  rw [h]
  by_cases hi : i < xs.length
  ·rw [drop_get (d := d) h0 hi]
   simp only [hi, h0, decide_true, Bool.and_true, cond_true, List.any_cons, idx]
   cases hp : p (xs.getD i.toNat d) with
   | true => rfl
   | false =>
    simp only [cond_false, Bool.false_or]
    rw [wrap_ok (by omega) (by omega)]
    exact ih (i + 1) (by omega) (by omega) (by omega)
  ·rw [List.drop_of_length_le (by omega)]
   simp only [hi, decide_false, cond_false, List.any_nil]
def goFold {α σ : Type} (step : Int → σ → α → σ) : Int → σ → List α → σ
 | _, s, [] => s
 | i, s, x :: xs => goFold step (i + 1) (step i s x) xs
theorem range_loop {α σ : Type} (L : Nat → Int → σ → Option AV) (xs : List α) (d : α) (step : Int → σ → α → σ) (done : σ → Option AV) (I : Int → σ → Prop)
  (h : ∀ n i s, I i s → 0 ≤ i → i < xs.length → L (n + 1) i s = L n (i + 1) (step i s (xs.getD i.toNat d)) ∧ I (i + 1) (step i s (xs.getD i.toNat d)))
  (h0 : ∀ n i s, I i s → i = xs.length → L (n + 1) i s = done s) :
  ∀ (n : Nat) (i : Int) (s : σ), I i s → 0 ≤ i → i ≤ xs.length → xs.length - i < n → L n i s = done (goFold step i s (xs.drop i.toNat)) := by
 intro n
 induction n with
 | zero => intro i s hI h0 h1 h2; omega
 | succ n ih =>
  intro i s hI hi h1 h2
  by_cases hlt : i < xs.length
  ·obtain ⟨e, hI'⟩ := h n i s hI hi hlt
   rw [e, drop_get (d := d) hi hlt]
   exact ih (i + 1) _ hI' (by omega) (by omega) (by omega)
  ·rw [h0 n i s hI (by omega), List.drop_of_length_le (by omega)]
   rfl
theorem goFold_map {α β : Type} (f : α → β) : ∀ (xs : List α) (i : Int) (acc : List β), goFold (fun _ (a : List β) x => a ++ [f x]) i acc xs = acc ++ xs.map f
 | [], i, acc => by simp [goFold]
 | x :: xs, i, acc => by
  simp only [goFold, List.map_cons]
  rw [goFold_map f xs (i + 1)]
  simp
theorem idx_any {α : Type} (p : α → Bool) : ∀ (xs : List α) (i : Int), 0 ≤ i → decide (idx p xs i ≥ 0) = xs.any p
 | [], i, h => by simp [idx]
 | x :: xs, i, h => by
  rw [Bool.eq_iff_iff, decide_eq_true_iff, List.any_cons]
  by_cases hp : p x = true
  ·simp [idx, hp, h]
  ·have hp : p x = false := by simpa using hp
   have e : idx p (x :: xs) i = idx p xs (i + 1) := by simp [idx, hp]
   rw [e, hp, Bool.false_or, ← idx_any p xs (i + 1) (by omega), decide_eq_true_iff]
theorem idx_miss {α : Type} (p : α → Bool) : ∀ (xs : List α) (i : Int), xs.any p = false → idx p xs i = -1
 | [], i, h => rfl
 | x :: xs, i, h => by
  simp only [List.any_cons, Bool.or_eq_false_iff] at h
  simp only [idx, h.1, cond_false]
  exact idx_miss p xs (i + 1) h.2
theorem idx_res {α : Type} (p : α → Bool) (xs : List α) (f : Int → Option AV) (m : Option AV) (hm : m = f (-1)) : (bif xs.any p then f (idx p xs 0) else m) = f (idx p xs 0) := by
 cases h : xs.any p with
 | true => rfl
 | false => rw [idx_miss p xs 0 h, hm]; rfl
theorem F99g78.sem (xs : List Int) (hl : xs.length ≤ maxLen) : callW F99g78.E false F99g78.fn (xs.length + 1) [.v (.sl (.int .i64)) xs, .fn 95 [] []] = some (.v (.int .i64) (idx outD xs 0)) := by
 rw [F99g78.start_eq, search_loop (fun n i => F99g78.l1_0_1_0 n _ xs xs.length i) xs 0 outD _ _ hl (fun n i => F99g78.l1_0_1_0_eq n _ xs _ i) _ 0 (by omega) (by omega) (by omega)]
 simp only [F99g78.c0, F99g78.c1]
 exact idx_res outD xs (fun v => some (.v (.int .i64) v)) _ rfl
theorem F99g96.sem (xs : List Int) (z : Int) (hl : xs.length ≤ maxLen) : callW F99g96.E false F99g96.fn (xs.length + 1) [.v (.sl (.int .i64)) xs, .fn 133 [] [.rp [.v (.int .i64) z]]] = some (.v (.int .i64) (idx (varB z) xs 0)) := by
 rw [F99g96.start_eq, search_loop (fun n i => F99g96.l1_0_1_0 n _ xs z xs.length i) xs 0 (varB z) _ _ hl (fun n i => F99g96.l1_0_1_0_eq n _ xs z _ i) _ 0 (by omega) (by omega) (by omega)]
 simp only [F99g96.c0, F99g96.c1]
 exact idx_res (varB z) xs (fun v => some (.v (.int .i64) v)) _ rfl
theorem F99g118.sem (xs : List Int) (z : Int) (hl : xs.length ≤ maxLen) : callW F99g118.E false F99g118.fn (xs.length + 1) [.v (.sl (.int .i64)) xs, .fn 175 [] [.rp [.v (.int .i64) z]]] = some (.v (.int .i64) (idx (numB z) xs 0)) := by
 rw [F99g118.start_eq, search_loop (fun n i => F99g118.l1_0_1_0 n _ xs z xs.length i) xs 0 (numB z) _ _ hl (fun n i => F99g118.l1_0_1_0_eq n _ xs z _ i) _ 0 (by omega) (by omega) (by omega)]
 simp only [F99g118.c0, F99g118.c1]
 exact idx_res (numB z) xs (fun v => some (.v (.int .i64) v)) _ rfl
theorem F90g74.sem (xs : List Dom) (hl : xs.length ≤ maxLen) : callW F90g74.E false F90g74.fn (xs.length + 1) [.v (.sl DomT) xs, .fn 91 [] []] = some (.v (.int .i64) (idx emptyD xs 0)) := by
 refine (F90g74.start_eq _ xs).trans ?_
 rw [search_loop (fun n i => F90g74.l1_0_1_0 n _ xs xs.length i) xs (0, [], 0, 0, 0) emptyD _ _ hl (fun n i => F90g74.l1_0_1_0_eq n _ xs _ i) _ 0 (by omega) (by omega) (by omega)]
 simp only [F90g74.c0, F90g74.c1]
 exact idx_res emptyD xs (fun v => some (.v (.int .i64) v)) _ rfl
theorem F77g78.sem (k : Nat) (xs : List Int) : callW F77g78.E false F77g78.fn k [.v (.sl (.int .i64)) xs, .fn 95 [] []] = some (.v .bool (xs.any outD)) := by
 rw [F77g78.start_eq, idx_any outD xs 0 (Int.le_refl _)]
theorem F77g96.sem (k : Nat) (xs : List Int) (z : Int) : callW F77g96.E false F77g96.fn k [.v (.sl (.int .i64)) xs, .fn 133 [] [.rp [.v (.int .i64) z]]] = some (.v .bool (xs.any (varB z))) := by
 rw [F77g96.start_eq, idx_any (varB z) xs 0 (Int.le_refl _)]
theorem F77g118.sem (k : Nat) (xs : List Int) (z : Int) : callW F77g118.E false F77g118.fn k [.v (.sl (.int .i64)) xs, .fn 175 [] [.rp [.v (.int .i64) z]]] = some (.v .bool (xs.any (numB z))) := by
 rw [F77g118.start_eq, idx_any (numB z) xs 0 (Int.le_refl _)]
theorem F73g74.sem (k : Nat) (xs : List Dom) : callW F73g74.E false F73g74.fn k [.v (.sl DomT) xs, .fn 91 [] []] = some (.v .bool (xs.any emptyD)) := by
 refine (F73g74.start_eq k xs).trans ?_
 rw [idx_any emptyD xs 0 (Int.le_refl _)]
theorem F74.sem (k : Nat) (d : Dom) : callW F74.E false F74.fn k [.agg (explode DomT d)] = some (.v .bool (emptyD d)) := F74.start_eq k d
theorem F96.sem (k : Nat) (v z : Int) : callW F96.E false F96.fn k [.v (.int .i64) v, .rp [.v (.int .i64) z]] = some (.v .bool (varB z v)) := by
 rw [F96.start_eq]
 unfold varB
 cases decide (v < 0) <;> rfl
theorem F118.sem (k : Nat) (v z : Int) : callW F118.E false F118.fn k [.v (.int .i64) v, .rp [.v (.int .i64) z]] = some (.v .bool (numB z v)) := by
 rw [F118.start_eq]
 unfold numB
 cases decide (v < z) <;> rfl
theorem F124.sem (k : Nat) (s : ByteArray) (c : Int) : callW F124.E false F124.fn k [.v .str s, .v (.int .u8) c] = some (.v (.int .i64) (idxJ s c)) := F124.start_eq k s c
theorem F116.sem (k : Nat) (s : ByteArray) (b : UInt8) : callW F116.E false F116.fn k [.v .str s, .v .str ⟨#[b]⟩] = some (.v (.int .i64) (idx1 s ⟨#[b]⟩)) := by
 rw [F116.start_eq]
 unfold idx1 idxJ
 cases strEq ⟨#[b]⟩ s <;> rfl
theorem F109.sem (k : Nat) (s : ByteArray) (b : UInt8) : callW F109.E false F109.fn k [.v .str s, .v .str ⟨#[b]⟩] = some (.v (.int .i64) (idx2 s ⟨#[b]⟩)) := F109.start_eq k s b
theorem F94.sem (k : Nat) (s : ByteArray) (b : UInt8) : callW F94.E false F94.fn k [.v .str s, .v .str ⟨#[b]⟩] = some (.v .bool (has1 s ⟨#[b]⟩)) := F94.start_eq k s b
theorem F114.sem (k : Nat) (s : ByteArray) (b : UInt8) : callW F114.E false F114.fn k [.v .str s, .v .str ⟨#[b]⟩] = some (.v (.int .i64) (cnt1 s ⟨#[b]⟩)) := F114.start_eq k s b
theorem F105.sem (k : Nat) (n a b : Int) : callW F105.E false F105.fn k [.v (.int .i64) n, .v (.int .i64) a, .v (.int .i64) b] = some (.v .bool (withinD n a b)) := by
 rw [F105.start_eq]
 unfold withinD
 cases decide (n ≥ a) <;> rfl
theorem F106.sem (k : Nat) (n : Int) (s o a : ByteArray) (h1 : decide (o.size = 1) = true) (h2 : decide (a.size = 1) = true) : callW F106.E false F106.fn k [.v (.int .i64) n, .v .str s, .v .str o, .v .str a] = some (.v .bool (namedD n s o a)) := by
 rw [F106.start_eq, h1, h2]
 unfold namedD
 cases has1 s a <;> rfl
end Go.Proofs.YtnojoaghcbljfaaGreatDoor.Ev
