/-
The functions as the evaluator runs them: printed by a program of mine, each equation by kernel_rfl.
Conditions: none.
-/
import Derived.Test.YtlfdikofmfhefaaGreatDoorIa
set_option linter.unusedVariables false
set_option linter.unusedSimpArgs false
set_option maxRecDepth 100000
namespace Go.Proofs.YtlfdikofmfhefaaGreatDoor.Ev
open Go
noncomputable def F652.fn : Func := Go.Proofs.Tryz.f97
noncomputable def F652.E : Env := ⟨tt, [], [(1, [0])], [], some [2], inv, []⟩
theorem F652.start_eq (k : Nat) (a0 : Int) : callW F652.E false F652.fn k [.v (.int .i32) a0] =
 bif decide (a0 ≥ 97) then
 bif decide (a0 ≤ 122) then
 some (.v .bool true)
 else
 bif decide (a0 ≥ 65) then some (.v .bool (decide (a0 ≤ 90))) else some (.v .bool false)
 else
 bif decide (a0 ≥ 65) then some (.v .bool (decide (a0 ≤ 90))) else some (.v .bool false) := by kernel_rfl
noncomputable def F683.fn : Func := Go.Proofs.Tryz.f131
noncomputable def F683.E : Env := ⟨tt, [], [(1, [0])], [], some [2], inv, []⟩
theorem F683.start_eq (k : Nat) (a0 : Int) : callW F683.E false F683.fn k [.v (.int .i32) a0] =
 bif decide (a0 ≥ 48) then some (.v .bool (decide (a0 ≤ 57))) else some (.v .bool false) := by kernel_rfl
noncomputable def F654.fn : Func := Go.Proofs.Tryz.f99
noncomputable def F654.E : Env := ⟨tt, [(97, h_letterI), (131, h_digitI)], [(1, [0])], [], some [2], inv, []⟩
theorem F654.start_eq (k : Nat) (a0 : Int) : callW F654.E false F654.fn k [.v (.int .i32) a0] =
 bif letterI a0 then
 some (.v .bool true)
 else
 bif digitI a0 then some (.v .bool true) else some (.v .bool (decide (a0 = 95))) := by kernel_rfl
noncomputable def F663.fn : Func := Go.Proofs.Tryz.f110
noncomputable def F663.E : Env := ⟨tt, [], [(1, [0])], [], some [2], inv, []⟩
theorem F663.start_eq (k : Nat) (a0 : Int) : callW F663.E false F663.fn k [.v (.int .u8) a0] =
 bif decide (a0 ≥ 97) then
 bif decide (a0 ≤ 122) then
 some (.v .bool true)
 else
 bif decide (a0 ≥ 65) then some (.v .bool (decide (a0 ≤ 90))) else some (.v .bool false)
 else
 bif decide (a0 ≥ 65) then some (.v .bool (decide (a0 ≤ 90))) else some (.v .bool false) := by kernel_rfl
noncomputable def F664.fn : Func := Go.Proofs.Tryz.f111
noncomputable def F664.E : Env := ⟨tt, [], [(1, [0])], [], some [2], inv, []⟩
theorem F664.start_eq (k : Nat) (a0 : Int) : callW F664.E false F664.fn k [.v (.int .u8) a0] =
 bif decide (a0 ≥ 48) then some (.v .bool (decide (a0 ≤ 57))) else some (.v .bool false) := by kernel_rfl
noncomputable def F607.fn : Func := Go.Proofs.Tryz.f61
noncomputable def F607.body : Code := bodyOf F607.fn
noncomputable def F607.E : Env := ⟨tt, [(110, h_letterB), (111, h_digitB)], [(1, [0, 1]), (2, [0, 1, 5]), (3, [0, 1, 5]), (4, [0, 1, 5, 6]), (5, [0, 1, 5, 6, 7]), (6, [0, 1, 5, 43]), (7, [0, 1, 5]), (8, [5])], [(0, [5]), (1, [0, 1, 5])], some [4], inv, []⟩
noncomputable def F607.K0 : Conts := { nrm := endW F607.E false F607.fn.results.toList, ret := endW F607.E false F607.fn.results.toList, ex := [] }
noncomputable def F607.kt (k : Nat) (q : List Nat) : Conts := contAt F607.E k F607.body F607.K0 q
noncomputable def F607.l1_1_0_0 (n : Nat) (K : Conts) (p0 : ByteArray) (p1 p2 : Int) : Option AV := loopF F607.E n (inLoop (subC [1,1,0,0] F607.body)) K ⟨slots 48 [(0, .v .str p0), (1, .v (.int .i64) p1), (5, .v (.int .i64) p2)], []⟩
theorem F607.start_eq (k : Nat) (a0 : ByteArray) (a1 : Int) : callW F607.E false F607.fn k [.v .str a0, .v (.int .i64) a1] =
 F607.l1_1_0_0 k (F607.kt k [1,1,0,0]) a0 a1 0 := by kernel_rfl
theorem F607.l1_1_0_0_eq (n : Nat) (K : Conts) (p0 : ByteArray) (p1 p2 : Int) : F607.l1_1_0_0 (n + 1) K p0 p1 p2 =
 bif decide ((IntKind.i64.wrap (p1 + p2)) < (p0.size : Int)) then
 bif decide (0 ≤ (IntKind.i64.wrap (p1 + p2))) && decide ((IntKind.i64.wrap (p1 + p2)) < p0.size) then
 bif decide (0 ≤ (IntKind.i64.wrap (p1 + p2))) && decide ((IntKind.i64.wrap (p1 + p2)) < p0.size) then
 bif !(letterI (byteW p0 ((IntKind.i64.wrap (p1 + p2)).toNat))) then
 bif decide (p2 = 0) then
 K.ret ⟨slots 48 [(4, .v (.int .i64) p2)], []⟩
 else
 bif !(digitI (byteW p0 ((IntKind.i64.wrap (p1 + p2)).toNat))) then
 bif decide (0 ≤ (IntKind.i64.wrap (p1 + p2))) && decide ((IntKind.i64.wrap (p1 + p2)) < p0.size) then
 bif !(decide ((byteW p0 ((IntKind.i64.wrap (p1 + p2)).toNat)) = 95)) then
 K.ret ⟨slots 48 [(4, .v (.int .i64) p2)], []⟩
 else
 F607.l1_1_0_0 n K p0 p1 (IntKind.i64.wrap (p2 + 1))
 else
 none
 else
 F607.l1_1_0_0 n K p0 p1 (IntKind.i64.wrap (p2 + 1))
 else
 F607.l1_1_0_0 n K p0 p1 (IntKind.i64.wrap (p2 + 1))
 else
 none
 else
 none
 else
 exitK K 0 ⟨slots 48 [(5, .v (.int .i64) p2)], []⟩ := by kernel_rfl
theorem F607.c0 (k : Nat) (p0 : Int) : (F607.kt k [1,1,0,0]).ret ⟨slots 48 [(4, .v (.int .i64) p0)], []⟩ =
 some (.v (.int .i64) p0) := by kernel_rfl
theorem F607.c1 (k : Nat) (p0 : Int) : exitK (F607.kt k [1,1,0,0]) 0 ⟨slots 48 [(5, .v (.int .i64) p0)], []⟩ =
 some (.v (.int .i64) p0) := by kernel_rfl
noncomputable def F549.fn : Func := Go.Proofs.Tryz.f25
noncomputable def F549.E : Env := ⟨tt, [(61, h_wordY)], [(1, [0]), (2, [0, 3])], [], some [2], inv, []⟩
theorem F549.start_eq (k : Nat) (a0 : ByteArray) : callW F549.E false F549.fn k [.v .str a0] =
 bif zeroI 0 && Nat.ble a0.size 1000 then
 bif decide ((wordY a0) > 0) then
 bif decide ((wordY a0) = (a0.size : Int)) then some (.v .bool (decide ((wordY a0) ≤ 32))) else some (.v .bool false)
 else
 some (.v .bool false)
 else
 none := by kernel_rfl
noncomputable def F596.fn : Func := Go.Proofs.Tryz.f50
noncomputable def F596.E : Env := ⟨tt, [(97, h_letterI), (98, h_run)], [(1, [0])], [], some [2], inv, []⟩
theorem F596.start_eq (k : Nat) (a0 : ByteArray) : callW F596.E false F596.fn k [.v .str a0] =
 bif !strEq a0 ⟨#[]⟩ then
 bif decide ((a0.size : Int) ≤ 32) then
 bif decide ((0 : Int) < a0.size) then
 bif letterI (IntKind.i32.wrap (byteW a0 0)) then some (.v .bool (decide ((runD a0) = (a0.size : Int)))) else some (.v .bool false)
 else
 none
 else
 some (.v .bool false)
 else
 some (.v .bool false) := by kernel_rfl
noncomputable def F551.fn : Func := Go.Proofs.Tryz.f27
noncomputable def F551.body : Code := bodyOf F551.fn
noncomputable def F551.E : Env := ⟨tt, [], [(1, [0, 1]), (2, [0, 1, 10]), (3, [0, 1]), (4, [0, 1, 5]), (5, [0, 1, 5]), (6, [0, 1, 5]), (7, [0, 1, 5, 25]), (8, [])], [(0, []), (1, [0, 1, 5])], some [4], inv, []⟩
noncomputable def F551.K0 : Conts := { nrm := endW F551.E false F551.fn.results.toList, ret := endW F551.E false F551.fn.results.toList, ex := [] }
noncomputable def F551.kt (k : Nat) (q : List Nat) : Conts := contAt F551.E k F551.body F551.K0 q
noncomputable def F551.l1_1_0_1_0 (n : Nat) (K : Conts) (p0 p1 : List Int) (p2 : Int) : Option AV := loopF F551.E n (inLoop (subC [1,1,0,1,0] F551.body)) K ⟨slots 26 [(0, .v (.sl (.int .i64)) p0), (1, .v (.sl (.int .i64)) p1), (5, .v (.int .i64) p2)], []⟩
theorem F551.start_eq (k : Nat) (a0 a1 : List Int) : callW F551.E false F551.fn k [.v (.sl (.int .i64)) a0, .v (.sl (.int .i64)) a1] =
 bif !(decide ((a0.length : Int) = (a1.length : Int))) then some (.v .bool false) else F551.l1_1_0_1_0 k (F551.kt k [1,1,0,1,0]) a0 a1 0 := by kernel_rfl
theorem F551.l1_1_0_1_0_eq (n : Nat) (K : Conts) (p0 p1 : List Int) (p2 : Int) : F551.l1_1_0_1_0 (n + 1) K p0 p1 p2 =
 bif decide (p2 < (p0.length : Int)) then
 bif decide (0 ≤ p2) && decide (p2 < p0.length) then
 bif decide (0 ≤ p2) && decide (p2 < p1.length) then
 bif !(decide ((p0.getD p2.toNat (0 : Int)) = (p1.getD p2.toNat (0 : Int)))) then
 K.ret ⟨slots 26 [(4, .v .bool false)], []⟩
 else
 F551.l1_1_0_1_0 n K p0 p1 (IntKind.i64.wrap (p2 + 1))
 else
 none
 else
 none
 else
 exitK K 0 ⟨slots 26 [], []⟩ := by kernel_rfl
theorem F551.c0 (k : Nat) : (F551.kt k [1,1,0,1,0]).ret ⟨slots 26 [(4, .v .bool false)], []⟩ =
 some (.v .bool false) := by kernel_rfl
theorem F551.c1 (k : Nat) : exitK (F551.kt k [1,1,0,1,0]) 0 ⟨slots 26 [], []⟩ =
 some (.v .bool true) := by kernel_rfl
noncomputable def F597.fn : Func := Go.Proofs.Tryz.f51
noncomputable def F597.E : Env := ⟨tt, [(41, h_eqL), (100, h_ofD), (101, h_listD)], [(1, [0]), (2, [0, 3, 4])], [], some [2], inv, []⟩
theorem F597.start_eq (k : Nat) (a0 : List Int) : callW F597.E false F597.fn k [.v (.sl (.int .i64)) a0] =
 bif decide (((ofD a0).2) = 0) then
 bif listB ((ofD a0).1) then some (.v .bool (eqL (listD ((ofD a0).1)) a0)) else none
 else
 some (.v .bool false) := by kernel_rfl
noncomputable def F548.fn : Func := Go.Proofs.Tryz.f24
noncomputable def F548.E : Env := ⟨tt, [(60, h_withinD)], [(1, [1]), (2, [1, 5]), (3, [1])], [], some [2], inv, []⟩
theorem F548.start_eq (k : Nat) (ns : List ByteArray) (ds : List (List Int)) (cs : List Con) (g o : Int) : callW F548.E false F548.fn k [.agg [.v (.sl .str) ns, .v (.sl (.sl (.int .i64))) ds, .v (.sl (.pair (.int .i64) (.pair (.sl (.int .i64)) (.pair (.sl (.int .i64)) (.pair (.sl (.int .i64)) (.pair (.sl (.int .i64)) (.pair (.sl (.int .i64)) (.pair (.int .i64) (.sl (.sl (.int .i64))))))))))) cs, .v (.int .i64) g, .v (.int .i64) o]] =
 bif decide (g = 0) then
 some (.v .bool (decide (o = 0)))
 else
 bif withinD g 1 2 then some (.v .bool (withinD o 0 (IntKind.i64.wrap ((ns.length : Int) - 1)))) else some (.v .bool false) := by kernel_rfl
end Go.Proofs.YtlfdikofmfhefaaGreatDoor.Ev
