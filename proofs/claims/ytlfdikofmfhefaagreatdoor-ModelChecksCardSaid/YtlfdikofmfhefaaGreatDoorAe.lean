/-
The functions as the evaluator runs them: printed by a program of mine, each equation by kernel_rfl.
Conditions: none.
The functions as the evaluator runs them: printed by a program of mine, each equation by kernel_rfl.
Conditions: none.
Seat 'a': loops over lists, once and for all; what the closures' callers answer; words and shapes.
Conditions: none.
-/
import Derived.Test.YtlfdikofmfhefaaGreatDoorGh
import Derived.Test.YtlfdikofmfhefaaGreatDoorAa
import Derived.Test.YtlfdikofmfhefaaGreatDoorAb
set_option linter.unusedVariables false
set_option linter.unusedSimpArgs false
set_option maxRecDepth 100000
namespace Go.Proofs.YtlfdikofmfhefaaGreatDoor.Ev
open Go
noncomputable def F99g78.fn : Func := Go.Proofs.Tryz.f105
noncomputable def F99g78.body : Code := bodyOf F99g78.fn
noncomputable def F99g78.E : Env := ⟨tt, [(132, h_outD)], [(1, [0, 1]), (2, [0, 1, 7, 8]), (3, [0, 1, 7, 8, 9]), (4, [0, 1, 5, 7, 8]), (5, [0, 1, 5, 7, 8, 16]), (6, [0, 1, 7, 8]), (7, [])], [(0, []), (1, [0, 1, 7, 8])], some [4], inv, []⟩
noncomputable def F99g78.K0 : Conts := { nrm := endW F99g78.E false F99g78.fn.results.toList, ret := endW F99g78.E false F99g78.fn.results.toList, ex := [] }
noncomputable def F99g78.kt (k : Nat) (q : List Nat) : Conts := contAt F99g78.E k F99g78.body F99g78.K0 q
noncomputable def F99g78.l1_0_1_0 (n : Nat) (K : Conts) (p0 : List Int) (p1 p2 : Int) : Option AV := loopF F99g78.E n (inLoop (subC [1,0,1,0] F99g78.body)) K ⟨slots 19 [(0, .v (.sl (.int .i64)) p0), (1, .fn 132 [] []), (7, .v (.int .i64) p1), (8, .v (.int .i64) p2)], []⟩
theorem F99g78.start_eq (k : Nat) (a0 : List Int) : callW F99g78.E false F99g78.fn k [.v (.sl (.int .i64)) a0, .fn 132 [] []] =
 F99g78.l1_0_1_0 k (F99g78.kt k [1,0,1,0]) a0 (a0.length : Int) 0 := by kernel_rfl
theorem F99g78.l1_0_1_0_eq (n : Nat) (K : Conts) (p0 : List Int) (p1 p2 : Int) : F99g78.l1_0_1_0 (n + 1) K p0 p1 p2 =
 bif decide (p2 < p1) then
 bif decide (0 ≤ p2) && decide (p2 < p0.length) then
 bif outD (p0.getD p2.toNat (0 : Int)) then K.ret ⟨slots 19 [(4, .v (.int .i64) p2)], []⟩ else F99g78.l1_0_1_0 n K p0 p1 (IntKind.i64.wrap (p2 + 1))
 else
 none
 else
 exitK K 0 ⟨slots 19 [], []⟩ := by kernel_rfl
theorem F99g78.c0 (k : Nat) (p0 : Int) : (F99g78.kt k [1,0,1,0]).ret ⟨slots 19 [(4, .v (.int .i64) p0)], []⟩ =
 some (.v (.int .i64) p0) := by kernel_rfl
theorem F99g78.c1 (k : Nat) : exitK (F99g78.kt k [1,0,1,0]) 0 ⟨slots 19 [], []⟩ =
 some (.v (.int .i64) (-1 : Int)) := by kernel_rfl
noncomputable def F99g96.fn : Func := Go.Proofs.Tryz.f105
noncomputable def F99g96.body : Code := bodyOf F99g96.fn
noncomputable def F99g96.E : Env := ⟨tt, [(57, h_varB)], [(1, [0, 1]), (2, [0, 1, 7, 8]), (3, [0, 1, 7, 8, 9]), (4, [0, 1, 5, 7, 8]), (5, [0, 1, 5, 7, 8, 16]), (6, [0, 1, 7, 8]), (7, [])], [(0, []), (1, [0, 1, 7, 8])], some [4], inv, []⟩
noncomputable def F99g96.K0 : Conts := { nrm := endW F99g96.E false F99g96.fn.results.toList, ret := endW F99g96.E false F99g96.fn.results.toList, ex := [] }
noncomputable def F99g96.kt (k : Nat) (q : List Nat) : Conts := contAt F99g96.E k F99g96.body F99g96.K0 q
noncomputable def F99g96.l1_0_1_0 (n : Nat) (K : Conts) (p0 : List Int) (p1 p2 p3 : Int) : Option AV := loopF F99g96.E n (inLoop (subC [1,0,1,0] F99g96.body)) K ⟨slots 19 [(0, .v (.sl (.int .i64)) p0), (1, .fn 57 [] [.rp [.v (.int .i64) p1]]), (7, .v (.int .i64) p2), (8, .v (.int .i64) p3)], []⟩
theorem F99g96.start_eq (k : Nat) (a0 : List Int) (z : Int) : callW F99g96.E false F99g96.fn k [.v (.sl (.int .i64)) a0, .fn 57 [] [.rp [.v (.int .i64) z]]] =
 F99g96.l1_0_1_0 k (F99g96.kt k [1,0,1,0]) a0 z (a0.length : Int) 0 := by kernel_rfl
theorem F99g96.l1_0_1_0_eq (n : Nat) (K : Conts) (p0 : List Int) (p1 p2 p3 : Int) : F99g96.l1_0_1_0 (n + 1) K p0 p1 p2 p3 =
 bif decide (p3 < p2) then
 bif decide (0 ≤ p3) && decide (p3 < p0.length) then
 bif varB p1 (p0.getD p3.toNat (0 : Int)) then K.ret ⟨slots 19 [(4, .v (.int .i64) p3)], []⟩ else F99g96.l1_0_1_0 n K p0 p1 p2 (IntKind.i64.wrap (p3 + 1))
 else
 none
 else
 exitK K 0 ⟨slots 19 [], []⟩ := by kernel_rfl
theorem F99g96.c0 (k : Nat) (p0 : Int) : (F99g96.kt k [1,0,1,0]).ret ⟨slots 19 [(4, .v (.int .i64) p0)], []⟩ =
 some (.v (.int .i64) p0) := by kernel_rfl
theorem F99g96.c1 (k : Nat) : exitK (F99g96.kt k [1,0,1,0]) 0 ⟨slots 19 [], []⟩ =
 some (.v (.int .i64) (-1 : Int)) := by kernel_rfl
noncomputable def F99g118.fn : Func := Go.Proofs.Tryz.f105
noncomputable def F99g118.body : Code := bodyOf F99g118.fn
noncomputable def F99g118.E : Env := ⟨tt, [(142, h_numB)], [(1, [0, 1]), (2, [0, 1, 7, 8]), (3, [0, 1, 7, 8, 9]), (4, [0, 1, 5, 7, 8]), (5, [0, 1, 5, 7, 8, 16]), (6, [0, 1, 7, 8]), (7, [])], [(0, []), (1, [0, 1, 7, 8])], some [4], inv, []⟩
noncomputable def F99g118.K0 : Conts := { nrm := endW F99g118.E false F99g118.fn.results.toList, ret := endW F99g118.E false F99g118.fn.results.toList, ex := [] }
noncomputable def F99g118.kt (k : Nat) (q : List Nat) : Conts := contAt F99g118.E k F99g118.body F99g118.K0 q
noncomputable def F99g118.l1_0_1_0 (n : Nat) (K : Conts) (p0 : List Int) (p1 p2 p3 : Int) : Option AV := loopF F99g118.E n (inLoop (subC [1,0,1,0] F99g118.body)) K ⟨slots 19 [(0, .v (.sl (.int .i64)) p0), (1, .fn 142 [] [.rp [.v (.int .i64) p1]]), (7, .v (.int .i64) p2), (8, .v (.int .i64) p3)], []⟩
theorem F99g118.start_eq (k : Nat) (a0 : List Int) (z : Int) : callW F99g118.E false F99g118.fn k [.v (.sl (.int .i64)) a0, .fn 142 [] [.rp [.v (.int .i64) z]]] =
 F99g118.l1_0_1_0 k (F99g118.kt k [1,0,1,0]) a0 z (a0.length : Int) 0 := by kernel_rfl
theorem F99g118.l1_0_1_0_eq (n : Nat) (K : Conts) (p0 : List Int) (p1 p2 p3 : Int) : F99g118.l1_0_1_0 (n + 1) K p0 p1 p2 p3 =
 bif decide (p3 < p2) then
 bif decide (0 ≤ p3) && decide (p3 < p0.length) then
 bif numB p1 (p0.getD p3.toNat (0 : Int)) then K.ret ⟨slots 19 [(4, .v (.int .i64) p3)], []⟩ else F99g118.l1_0_1_0 n K p0 p1 p2 (IntKind.i64.wrap (p3 + 1))
 else
 none
 else
 exitK K 0 ⟨slots 19 [], []⟩ := by kernel_rfl
theorem F99g118.c0 (k : Nat) (p0 : Int) : (F99g118.kt k [1,0,1,0]).ret ⟨slots 19 [(4, .v (.int .i64) p0)], []⟩ =
 some (.v (.int .i64) p0) := by kernel_rfl
theorem F99g118.c1 (k : Nat) : exitK (F99g118.kt k [1,0,1,0]) 0 ⟨slots 19 [], []⟩ =
 some (.v (.int .i64) (-1 : Int)) := by kernel_rfl
noncomputable def F99g615.fn : Func := Go.Proofs.Tryz.f105
noncomputable def F99g615.body : Code := bodyOf F99g615.fn
noncomputable def F99g615.E : Env := ⟨tt, [(83, h_farB)], [(1, [0, 1]), (2, [0, 1, 7, 8]), (3, [0, 1, 7, 8, 9]), (4, [0, 1, 5, 7, 8]), (5, [0, 1, 5, 7, 8, 16]), (6, [0, 1, 7, 8]), (7, [])], [(0, []), (1, [0, 1, 7, 8])], some [4], inv, []⟩
noncomputable def F99g615.K0 : Conts := { nrm := endW F99g615.E false F99g615.fn.results.toList, ret := endW F99g615.E false F99g615.fn.results.toList, ex := [] }
noncomputable def F99g615.kt (k : Nat) (q : List Nat) : Conts := contAt F99g615.E k F99g615.body F99g615.K0 q
noncomputable def F99g615.l1_0_1_0 (n : Nat) (K : Conts) (p0 : List Int) (p1 p2 : Int) : Option AV := loopF F99g615.E n (inLoop (subC [1,0,1,0] F99g615.body)) K ⟨slots 19 [(0, .v (.sl (.int .i64)) p0), (1, .fn 83 [] []), (7, .v (.int .i64) p1), (8, .v (.int .i64) p2)], []⟩
theorem F99g615.start_eq (k : Nat) (a0 : List Int) : callW F99g615.E false F99g615.fn k [.v (.sl (.int .i64)) a0, .fn 83 [] []] =
 F99g615.l1_0_1_0 k (F99g615.kt k [1,0,1,0]) a0 (a0.length : Int) 0 := by kernel_rfl
theorem F99g615.l1_0_1_0_eq (n : Nat) (K : Conts) (p0 : List Int) (p1 p2 : Int) : F99g615.l1_0_1_0 (n + 1) K p0 p1 p2 =
 bif decide (p2 < p1) then
 bif decide (0 ≤ p2) && decide (p2 < p0.length) then
 bif farB (p0.getD p2.toNat (0 : Int)) then K.ret ⟨slots 19 [(4, .v (.int .i64) p2)], []⟩ else F99g615.l1_0_1_0 n K p0 p1 (IntKind.i64.wrap (p2 + 1))
 else
 none
 else
 exitK K 0 ⟨slots 19 [], []⟩ := by kernel_rfl
theorem F99g615.c0 (k : Nat) (p0 : Int) : (F99g615.kt k [1,0,1,0]).ret ⟨slots 19 [(4, .v (.int .i64) p0)], []⟩ =
 some (.v (.int .i64) p0) := by kernel_rfl
theorem F99g615.c1 (k : Nat) : exitK (F99g615.kt k [1,0,1,0]) 0 ⟨slots 19 [], []⟩ =
 some (.v (.int .i64) (-1 : Int)) := by kernel_rfl
noncomputable def F77g78.fn : Func := Go.Proofs.Tryz.f55
noncomputable def F77g78.E : Env := ⟨tt, [(105, h_idxF)], [(1, [0, 1])], [], some [4], inv, []⟩
theorem F77g78.start_eq (k : Nat) (a0 : List Int) : callW F77g78.E false F77g78.fn k [.v (.sl (.int .i64)) a0, .fn 132 [] []] =
 some (.v .bool (decide ((idx outD a0 0) ≥ 0))) := by kernel_rfl
noncomputable def F77g96.fn : Func := Go.Proofs.Tryz.f55
noncomputable def F77g96.E : Env := ⟨tt, [(105, h_idxF)], [(1, [0, 1])], [], some [4], inv, []⟩
theorem F77g96.start_eq (k : Nat) (a0 : List Int) (z : Int) : callW F77g96.E false F77g96.fn k [.v (.sl (.int .i64)) a0, .fn 57 [] [.rp [.v (.int .i64) z]]] =
 some (.v .bool (decide ((idx (varB z) a0 0) ≥ 0))) := by kernel_rfl
noncomputable def F77g118.fn : Func := Go.Proofs.Tryz.f55
noncomputable def F77g118.E : Env := ⟨tt, [(105, h_idxF)], [(1, [0, 1])], [], some [4], inv, []⟩
theorem F77g118.start_eq (k : Nat) (a0 : List Int) (z : Int) : callW F77g118.E false F77g118.fn k [.v (.sl (.int .i64)) a0, .fn 142 [] [.rp [.v (.int .i64) z]]] =
 some (.v .bool (decide ((idx (numB z) a0 0) ≥ 0))) := by kernel_rfl
noncomputable def F77g615.fn : Func := Go.Proofs.Tryz.f55
noncomputable def F77g615.E : Env := ⟨tt, [(105, h_idxF)], [(1, [0, 1])], [], some [4], inv, []⟩
theorem F77g615.start_eq (k : Nat) (a0 : List Int) : callW F77g615.E false F77g615.fn k [.v (.sl (.int .i64)) a0, .fn 83 [] []] =
 some (.v .bool (decide ((idx farB a0 0) ≥ 0))) := by kernel_rfl
noncomputable def F115g108.fn : Func := Go.Proofs.Tryz.f129
noncomputable def F115g108.body : Code := bodyOf F115g108.fn
noncomputable def F115g108.E : Env := ⟨tt, [(103, h_rowN)], [(1, [0, 1]), (2, [0, 1, 7, 8]), (3, [0, 1, 7, 8, 9]), (4, [0, 1, 5, 7, 8]), (5, [0, 1, 5, 7, 8, 16]), (6, [0, 1, 7, 8]), (7, [])], [(0, []), (1, [0, 1, 7, 8])], some [4], inv, []⟩
noncomputable def F115g108.K0 : Conts := { nrm := endW F115g108.E false F115g108.fn.results.toList, ret := endW F115g108.E false F115g108.fn.results.toList, ex := [] }
noncomputable def F115g108.kt (k : Nat) (q : List Nat) : Conts := contAt F115g108.E k F115g108.body F115g108.K0 q
noncomputable def F115g108.l1_0_1_0 (n : Nat) (K : Conts) (p0 : List (List Int)) (p1 : Int) (p2 p3 p4 p5 p6 : List Int) (p7 : Int) (p8 : List (List Int)) (p9 p10 : Int) : Option AV := loopF F115g108.E n (inLoop (subC [1,0,1,0] F115g108.body)) K ⟨slots 19 [(0, .v (.sl (.sl (.int .i64))) p0), (1, .fn 103 [] [.rp (bC p1 p2 p3 p4 p5 p6 p7 p8)]), (7, .v (.int .i64) p9), (8, .v (.int .i64) p10)], []⟩
theorem F115g108.start_eq (k : Nat) (a0 : List (List Int)) (z : Con) : callW F115g108.E false F115g108.fn k [.v (.sl (.sl (.int .i64))) a0, .fn 103 [] [.rp (bC z.1 z.2.1 z.2.2.1 z.2.2.2.1 z.2.2.2.2.1 z.2.2.2.2.2.1 z.2.2.2.2.2.2.1 z.2.2.2.2.2.2.2)]] =
 F115g108.l1_0_1_0 k (F115g108.kt k [1,0,1,0]) a0 z.1 z.2.1 z.2.2.1 z.2.2.2.1 z.2.2.2.2.1 z.2.2.2.2.2.1 z.2.2.2.2.2.2.1 z.2.2.2.2.2.2.2 (a0.length : Int) 0 := by kernel_rfl
theorem F115g108.l1_0_1_0_eq (n : Nat) (K : Conts) (p0 : List (List Int)) (p1 : Int) (p2 p3 p4 p5 p6 : List Int) (p7 : Int) (p8 : List (List Int)) (p9 p10 : Int) : F115g108.l1_0_1_0 (n + 1) K p0 p1 p2 p3 p4 p5 p6 p7 p8 p9 p10 =
 bif decide (p10 < p9) then
 bif decide (0 ≤ p10) && decide (p10 < p0.length) then
 bif rowN (p1, (p2, (p3, (p4, (p5, (p6, (p7, p8))))))) (p0.getD p10.toNat []) then
 K.ret ⟨slots 19 [(4, .v (.int .i64) p10)], []⟩
 else
 F115g108.l1_0_1_0 n K p0 p1 p2 p3 p4 p5 p6 p7 p8 p9 (IntKind.i64.wrap (p10 + 1))
 else
 none
 else
 exitK K 0 ⟨slots 19 [], []⟩ := by kernel_rfl
theorem F115g108.c0 (k : Nat) (p0 : Int) : (F115g108.kt k [1,0,1,0]).ret ⟨slots 19 [(4, .v (.int .i64) p0)], []⟩ =
 some (.v (.int .i64) p0) := by kernel_rfl
theorem F115g108.c1 (k : Nat) : exitK (F115g108.kt k [1,0,1,0]) 0 ⟨slots 19 [], []⟩ =
 some (.v (.int .i64) (-1 : Int)) := by kernel_rfl
noncomputable def F115g621.fn : Func := Go.Proofs.Tryz.f129
noncomputable def F115g621.body : Code := bodyOf F115g621.fn
noncomputable def F115g621.E : Env := ⟨tt, [(89, h_rowEqB)], [(1, [0, 1]), (2, [0, 1, 7, 8]), (3, [0, 1, 7, 8, 9]), (4, [0, 1, 5, 7, 8]), (5, [0, 1, 5, 7, 8, 16]), (6, [0, 1, 7, 8]), (7, [])], [(0, []), (1, [0, 1, 7, 8])], some [4], inv, []⟩
noncomputable def F115g621.K0 : Conts := { nrm := endW F115g621.E false F115g621.fn.results.toList, ret := endW F115g621.E false F115g621.fn.results.toList, ex := [] }
noncomputable def F115g621.kt (k : Nat) (q : List Nat) : Conts := contAt F115g621.E k F115g621.body F115g621.K0 q
noncomputable def F115g621.l1_0_1_0 (n : Nat) (K : Conts) (p0 : List (List Int)) (p1 : List Int) (p2 p3 : Int) : Option AV := loopF F115g621.E n (inLoop (subC [1,0,1,0] F115g621.body)) K ⟨slots 19 [(0, .v (.sl (.sl (.int .i64))) p0), (1, .fn 89 [] [.rp [.v (.sl (.int .i64)) p1]]), (7, .v (.int .i64) p2), (8, .v (.int .i64) p3)], []⟩
theorem F115g621.start_eq (k : Nat) (a0 : List (List Int)) (z : List Int) : callW F115g621.E false F115g621.fn k [.v (.sl (.sl (.int .i64))) a0, .fn 89 [] [.rp [.v (.sl (.int .i64)) z]]] =
 F115g621.l1_0_1_0 k (F115g621.kt k [1,0,1,0]) a0 z (a0.length : Int) 0 := by kernel_rfl
theorem F115g621.l1_0_1_0_eq (n : Nat) (K : Conts) (p0 : List (List Int)) (p1 : List Int) (p2 p3 : Int) : F115g621.l1_0_1_0 (n + 1) K p0 p1 p2 p3 =
 bif decide (p3 < p2) then
 bif decide (0 ≤ p3) && decide (p3 < p0.length) then
 bif rowEqB p1 (p0.getD p3.toNat []) then K.ret ⟨slots 19 [(4, .v (.int .i64) p3)], []⟩ else F115g621.l1_0_1_0 n K p0 p1 p2 (IntKind.i64.wrap (p3 + 1))
 else
 none
 else
 exitK K 0 ⟨slots 19 [], []⟩ := by kernel_rfl
theorem F115g621.c0 (k : Nat) (p0 : Int) : (F115g621.kt k [1,0,1,0]).ret ⟨slots 19 [(4, .v (.int .i64) p0)], []⟩ =
 some (.v (.int .i64) p0) := by kernel_rfl
theorem F115g621.c1 (k : Nat) : exitK (F115g621.kt k [1,0,1,0]) 0 ⟨slots 19 [], []⟩ =
 some (.v (.int .i64) (-1 : Int)) := by kernel_rfl
noncomputable def F107g108.fn : Func := Go.Proofs.Tryz.f88
noncomputable def F107g108.E : Env := ⟨tt, [(129, h_idxR)], [(1, [0, 1])], [], some [4], inv, []⟩
theorem F107g108.start_eq (k : Nat) (a0 : List (List Int)) (z : Con) : callW F107g108.E false F107g108.fn k [.v (.sl (.sl (.int .i64))) a0, .fn 103 [] [.rp (bC z.1 z.2.1 z.2.2.1 z.2.2.2.1 z.2.2.2.2.1 z.2.2.2.2.2.1 z.2.2.2.2.2.2.1 z.2.2.2.2.2.2.2)]] =
 some (.v .bool (decide ((idx (rowN z) a0 0) ≥ 0))) := by kernel_rfl
noncomputable def F107g621.fn : Func := Go.Proofs.Tryz.f88
noncomputable def F107g621.E : Env := ⟨tt, [(129, h_idxR)], [(1, [0, 1])], [], some [4], inv, []⟩
theorem F107g621.start_eq (k : Nat) (a0 : List (List Int)) (z : List Int) : callW F107g621.E false F107g621.fn k [.v (.sl (.sl (.int .i64))) a0, .fn 89 [] [.rp [.v (.sl (.int .i64)) z]]] =
 some (.v .bool (decide ((idx (rowEqB z) a0 0) ≥ 0))) := by kernel_rfl
noncomputable def F96.fn : Func := Go.Proofs.Tryz.f57
noncomputable def F96.E : Env := ⟨tt, [], [(1, [0, 1])], [], some [3], inv, []⟩
theorem F96.start_eq (k : Nat) (a0 z : Int) : callW F96.E false F96.fn k [.v (.int .i64) a0, .rp [.v (.int .i64) z]] =
 bif decide (a0 < 0) then some (.v .bool true) else some (.v .bool (decide (a0 ≥ z))) := by kernel_rfl
noncomputable def F118.fn : Func := Go.Proofs.Tryz.f142
noncomputable def F118.E : Env := ⟨tt, [], [(1, [0, 1])], [], some [3], inv, []⟩
theorem F118.start_eq (k : Nat) (a0 z : Int) : callW F118.E false F118.fn k [.v (.int .i64) a0, .rp [.v (.int .i64) z]] =
 bif decide (a0 < z) then some (.v .bool true) else some (.v .bool (decide (a0 > 1000000))) := by kernel_rfl
noncomputable def F108.fn : Func := Go.Proofs.Tryz.f103
noncomputable def F108.E : Env := ⟨tt, [], [(1, [0, 1])], [], some [3], inv, []⟩
theorem F108.start_eq (k : Nat) (a0 : List Int) (z : Con) : callW F108.E false F108.fn k [.v (.sl (.int .i64)) a0, .rp (bC z.1 z.2.1 z.2.2.1 z.2.2.2.1 z.2.2.2.2.1 z.2.2.2.2.2.1 z.2.2.2.2.2.2.1 z.2.2.2.2.2.2.2)] =
 some (.v .bool (!(decide ((a0.length : Int) = (z.2.1.length : Int))))) := by kernel_rfl
noncomputable def F615.fn : Func := Go.Proofs.Tryz.f83
noncomputable def F615.E : Env := ⟨tt, [], [(1, [0])], [], some [2], inv, []⟩
theorem F615.start_eq (k : Nat) (a0 : Int) : callW F615.E false F615.fn k [.v (.int .i64) a0] =
 bif decide (a0 < (-1000000 : Int)) then some (.v .bool true) else some (.v .bool (decide (a0 > 1000000))) := by kernel_rfl
noncomputable def F621.fn : Func := Go.Proofs.Tryz.f89
noncomputable def F621.E : Env := ⟨tt, [(41, h_eqL)], [(1, [0, 1])], [], some [3], inv, []⟩
theorem F621.start_eq (k : Nat) (a0 z : List Int) : callW F621.E false F621.fn k [.v (.sl (.int .i64)) a0, .rp [.v (.sl (.int .i64)) z]] =
 some (.v .bool (eqL a0 z)) := by kernel_rfl
end Go.Proofs.YtlfdikofmfhefaaGreatDoor.Ev
set_option linter.unusedVariables false
set_option linter.unusedSimpArgs false
set_option maxRecDepth 100000
namespace Go.Proofs.YtlfdikofmfhefaaGreatDoor.Ev
open Go
noncomputable def F124.fn : Func := Go.Proofs.Tryz.f157
noncomputable def F124.E : Env := ⟨tt, [(163, h_idxI)], [(1, [0, 1])], [], some [4], inv, []⟩
theorem F124.start_eq (k : Nat) (a0 : ByteArray) (a1 : Int) : callW F124.E false F124.fn k [.v .str a0, .v (.int .u8) a1] =
 some (.v (.int .i64) (idxI a0 a1)) := by kernel_rfl
noncomputable def F116.fn : Func := Go.Proofs.Tryz.f140
noncomputable def F116.E : Env := ⟨tt, [(157, h_idxJ)], [(1, [0, 1]), (2, [0, 1, 5]), (3, [0, 1, 5, 16]), (5, [0, 1, 5, 24]), (7, [0, 1, 5, 31]), (9, [0, 1, 5, 36]), (10, [0, 1, 5]), (11, [0, 1, 5, 6]), (12, [0, 1, 5, 6, 7]), (13, [0, 1, 5, 6, 7, 8]), (14, [0, 1, 5, 6, 7, 8, 9]), (15, [0, 1, 5, 6, 7, 8, 9, 10]), (16, [0, 1, 5, 6, 7, 8, 9, 10]), (17, [0, 1, 5, 6, 7, 8, 9, 10, 64]), (18, [0, 1, 5, 6, 7, 8, 9, 10, 11]), (19, [0, 1, 5, 6, 7, 8, 9, 10, 11, 73]), (20, [0, 1, 5, 6, 7, 8, 9, 10, 11]), (21, [0, 1, 5, 6, 7, 8, 9, 10]), (22, [0, 1, 5, 6, 7, 8, 9, 10, 93]), (23, [0, 1, 5, 6, 7, 8, 9, 10]), (24, [0, 1, 5, 6, 7, 8, 9, 10]), (25, [0, 1, 5, 6, 7, 8, 9, 10]), (26, [0, 1, 5, 6, 7, 8, 9, 10, 107]), (27, [8, 12]), (28, [8, 12, 114]), (29, []), (31, [0, 1, 5, 6, 7, 8, 9, 10, 132]), (32, [8, 13]), (33, [8, 13, 139]), (34, [8, 13]), (35, [])], [(0, [0, 1, 5]), (1, []), (2, [0, 1, 5, 6, 7, 8, 9, 10])], some [4], inv, []⟩
theorem F116.start_eq (k : Nat) (a0 : ByteArray) (b : UInt8) : callW F116.E false F116.fn k [.v .str a0, .v .str ⟨#[b]⟩] =
 bif strEq ⟨#[b]⟩ a0 then some (.v (.int .i64) (0 : Int)) else some (.v (.int .i64) (idxJ a0 (byteW ⟨#[b]⟩ 0))) := by kernel_rfl
noncomputable def F109.fn : Func := Go.Proofs.Tryz.f104
noncomputable def F109.E : Env := ⟨tt, [(140, h_idx1)], [(1, [0, 1])], [], some [4], inv, []⟩
theorem F109.start_eq (k : Nat) (a0 : ByteArray) (b : UInt8) : callW F109.E false F109.fn k [.v .str a0, .v .str ⟨#[b]⟩] =
 some (.v (.int .i64) (idx1 a0 ⟨#[b]⟩)) := by kernel_rfl
noncomputable def F94.fn : Func := Go.Proofs.Tryz.f54
noncomputable def F94.E : Env := ⟨tt, [(104, h_idx2)], [(1, [0, 1])], [], some [4], inv, []⟩
theorem F94.start_eq (k : Nat) (a0 : ByteArray) (b : UInt8) : callW F94.E false F94.fn k [.v .str a0, .v .str ⟨#[b]⟩] =
 some (.v .bool (decide ((idx2 a0 ⟨#[b]⟩) ≥ 0))) := by kernel_rfl
noncomputable def F114.fn : Func := Go.Proofs.Tryz.f139
noncomputable def F114.E : Env := ⟨tt, [(156, h_cntI)], [(1, [0, 1]), (2, [0, 1, 9]), (3, [0, 1]), (4, [0, 1, 15]), (5, [0, 1]), (6, [0, 1, 5]), (7, [0, 1, 5, 6]), (8, [0, 1, 5, 6, 24]), (9, [0, 1, 5, 6]), (10, [0, 1, 5, 6])], [(0, [4]), (1, [0, 1, 5])], some [4], inv, []⟩
theorem F114.start_eq (k : Nat) (a0 : ByteArray) (b : UInt8) : callW F114.E false F114.fn k [.v .str a0, .v .str ⟨#[b]⟩] =
 some (.v (.int .i64) (cntI a0 (byteW ⟨#[b]⟩ 0))) := by kernel_rfl
noncomputable def F105.fn : Func := Go.Proofs.Tryz.f60
noncomputable def F105.E : Env := ⟨tt, [], [(1, [0, 1, 2])], [], some [6], inv, []⟩
theorem F105.start_eq (k : Nat) (a0 a1 a2 : Int) : callW F105.E false F105.fn k [.v (.int .i64) a0, .v (.int .i64) a1, .v (.int .i64) a2] =
 bif decide (a0 ≥ a1) then some (.v .bool (decide (a0 ≤ a2))) else some (.v .bool false) := by kernel_rfl
noncomputable def F106.fn : Func := Go.Proofs.Tryz.f102
noncomputable def F106.E : Env := ⟨tt, [(54, h_has1), (60, h_withinD), (139, h_cnt1)], [(1, [0, 1, 2, 3]), (2, [0, 1, 2, 11]), (3, [0, 1, 2])], [], some [8], inv, []⟩
theorem F106.start_eq (k : Nat) (a0 : Int) (a1 a2 a3 : ByteArray) : callW F106.E false F106.fn k [.v (.int .i64) a0, .v .str a1, .v .str a2, .v .str a3] =
 bif decide (a3.size = 1) then
 bif has1 a1 a3 then
 some (.v .bool (withinD a0 1 64))
 else
 bif decide (a2.size = 1) then some (.v .bool (decide (a0 = (cnt1 a1 a2)))) else none
 else
 none := by kernel_rfl
noncomputable def F53.fn : Func := Go.Proofs.Tryz.f71
noncomputable def F53.body : Code := bodyOf F53.fn
noncomputable def F53.E : Env := ⟨tt, [], [(1, [0, 1]), (2, [0, 1, 5]), (3, [0, 1, 5, 6]), (4, [0, 1, 5, 6]), (5, [0, 1, 5, 6]), (6, [0, 1, 5, 6, 17]), (7, [5])], [(0, [5]), (1, [0, 1, 5, 6])], some [4], inv, []⟩
noncomputable def F53.K0 : Conts := { nrm := endW F53.E false F53.fn.results.toList, ret := endW F53.E false F53.fn.results.toList, ex := [] }
noncomputable def F53.kt (k : Nat) (q : List Nat) : Conts := contAt F53.E k F53.body F53.K0 q
noncomputable def F53.l1_1_0_1_0 (n : Nat) (K : Conts) (p0 : ByteArray) (p1 p2 p3 : Int) : Option AV := loopF F53.E n (inLoop (subC [1,1,0,1,0] F53.body)) K ⟨slots 21 [(0, .v .str p0), (1, .v (.int .u8) p1), (5, .v (.int .i64) p2), (6, .v (.int .i64) p3)], []⟩
theorem F53.start_eq (k : Nat) (a0 : ByteArray) (a1 : Int) : callW F53.E false F53.fn k [.v .str a0, .v (.int .u8) a1] =
 F53.l1_1_0_1_0 k (F53.kt k [1,1,0,1,0]) a0 a1 0 0 := by kernel_rfl
theorem F53.l1_1_0_1_0_eq (n : Nat) (K : Conts) (p0 : ByteArray) (p1 p2 p3 : Int) : F53.l1_1_0_1_0 (n + 1) K p0 p1 p2 p3 =
 bif decide (p3 < (p0.size : Int)) then
 bif decide (0 ≤ p3) && decide (p3 < p0.size) then
 bif decide ((byteW p0 p3.toNat) = p1) then
 F53.l1_1_0_1_0 n K p0 p1 (IntKind.i64.wrap (p2 + 1)) (IntKind.i64.wrap (p3 + 1))
 else
 F53.l1_1_0_1_0 n K p0 p1 p2 (IntKind.i64.wrap (p3 + 1))
 else
 none
 else
 exitK K 0 ⟨slots 21 [(5, .v (.int .i64) p2)], []⟩ := by kernel_rfl
theorem F53.c0 (k : Nat) (p0 : Int) : exitK (F53.kt k [1,1,0,1,0]) 0 ⟨slots 21 [(5, .v (.int .i64) p0)], []⟩ =
 some (.v (.int .i64) p0) := by kernel_rfl
noncomputable def F100.fn : Func := Go.Proofs.Tryz.f112
noncomputable def F100.E : Env := ⟨tt, [], [(1, [0, 1, 2]), (2, [0, 1, 8]), (3, [0, 1])], [], some [6], inv, []⟩
theorem F100.start_eq (k : Nat) (a0 a1 a2 : Int) : callW F100.E false F100.fn k [.v (.int .i64) a0, .v (.int .i64) a1, .v (.int .i64) a2] =
 bif decide (a2 > 0) then
 bif decide (a0 ≥ 1) then some (.v .bool (decide (a0 ≤ 64))) else some (.v .bool false)
 else
 some (.v .bool (decide (a0 = a1))) := by kernel_rfl
noncomputable def F82.fn : Func := Go.Proofs.Tryz.f64
noncomputable def F82.body : Code := bodyOf F82.fn
noncomputable def F82.E : Env := ⟨tt, [], [(1, [0, 1, 2]), (2, [0, 1, 2, 7]), (3, [0, 1, 2, 7]), (4, [0, 1, 2, 7]), (5, [0, 1, 2, 7, 27]), (6, [])], [(0, []), (1, [0, 1, 2, 7])], some [6], inv, []⟩
noncomputable def F82.K0 : Conts := { nrm := endW F82.E false F82.fn.results.toList, ret := endW F82.E false F82.fn.results.toList, ex := [] }
noncomputable def F82.kt (k : Nat) (q : List Nat) : Conts := contAt F82.E k F82.body F82.K0 q
noncomputable def F82.l1_0_1_0 (n : Nat) (K : Conts) (p0 : List Int) (p1 p2 p3 : Int) : Option AV := loopF F82.E n (inLoop (subC [1,0,1,0] F82.body)) K ⟨slots 28 [(0, .v (.sl (.int .i64)) p0), (1, .v (.int .i64) p1), (2, .v (.int .i64) p2), (7, .v (.int .i64) p3)], []⟩
theorem F82.start_eq (k : Nat) (a0 : List Int) (a1 a2 : Int) : callW F82.E false F82.fn k [.v (.sl (.int .i64)) a0, .v (.int .i64) a1, .v (.int .i64) a2] =
 F82.l1_0_1_0 k (F82.kt k [1,0,1,0]) a0 a1 a2 0 := by kernel_rfl
theorem F82.l1_0_1_0_eq (n : Nat) (K : Conts) (p0 : List Int) (p1 p2 p3 : Int) : F82.l1_0_1_0 (n + 1) K p0 p1 p2 p3 =
 bif decide (p3 < (p0.length : Int)) then
 bif decide (0 ≤ p3) && decide (p3 < p0.length) then
 bif decide ((p0.getD p3.toNat (0 : Int)) < p1) then
 K.ret ⟨slots 28 [(6, .v .bool false)], []⟩
 else
 bif decide (0 ≤ p3) && decide (p3 < p0.length) then
 bif decide ((p0.getD p3.toNat (0 : Int)) > p2) then K.ret ⟨slots 28 [(6, .v .bool false)], []⟩ else F82.l1_0_1_0 n K p0 p1 p2 (IntKind.i64.wrap (p3 + 1))
 else
 none
 else
 none
 else
 exitK K 0 ⟨slots 28 [], []⟩ := by kernel_rfl
theorem F82.c0 (k : Nat) : (F82.kt k [1,0,1,0]).ret ⟨slots 28 [(6, .v .bool false)], []⟩ =
 some (.v .bool false) := by kernel_rfl
theorem F82.c1 (k : Nat) : exitK (F82.kt k [1,0,1,0]) 0 ⟨slots 28 [], []⟩ =
 some (.v .bool true) := by kernel_rfl
end Go.Proofs.YtlfdikofmfhefaaGreatDoor.Ev
set_option linter.unusedVariables false
set_option linter.unusedSimpArgs false
set_option maxRecDepth 100000
namespace Go.Proofs.YtlfdikofmfhefaaGreatDoor.Ev
open Go
theorem search_loop {α : Type} (L : Nat → Int → Option AV) (xs : List α) (d : α) (p : α → Bool) (hit : Int → Option AV) (miss : Option AV) (hl : xs.length ≤ maxLen)
  (h : ∀ n i, L (n + 1) i = bif decide (i < (xs.length : Int)) then (bif decide (0 ≤ i) && decide (i < (xs.length : Int)) then (bif p (xs.getD i.toNat d) then hit i else L n (IntKind.i64.wrap (i + 1))) else none) else miss) :
  ∀ (n : Nat) (i : Int), 0 ≤ i → i ≤ xs.length → xs.length - i < n → L n i = bif (xs.drop i.toNat).any p then hit (idx p (xs.drop i.toNat) i) else miss := by
 have hm := lenMax hl
 intro n
 induction n with
 | zero => intro i h0 h1 h2; omega
 | succ n ih =>
  intro i h0 h1 h2
  rw [h]
  by_cases hi : i < xs.length
  ·rw [drop_get (d := d) h0 hi]
   simp only [hi, h0, decide_true, Bool.and_true, cond_true, List.any_cons, idx]
   cases hp : p (xs.getD i.toNat d) with
   | true => rfl
   | false =>
    simp only [cond_false, Bool.false_or]
    rw [wrap_ok (by omega) (by omega)]
    exact ih (i + 1) (by omega) (by omega) (by omega)
  ·rw [List.drop_of_length_le (by omega)]
   simp only [hi, decide_false, cond_false, List.any_nil]
def goFold {α σ : Type} (step : Int → σ → α → σ) : Int → σ → List α → σ
 | _, s, [] => s
 | i, s, x :: xs => goFold step (i + 1) (step i s x) xs
theorem range_loop {α σ : Type} (L : Nat → Int → σ → Option AV) (xs : List α) (d : α) (step : Int → σ → α → σ) (done : σ → Option AV) (I : Int → σ → Prop)
  (h : ∀ n i s, I i s → 0 ≤ i → i < xs.length → L (n + 1) i s = L n (i + 1) (step i s (xs.getD i.toNat d)) ∧ I (i + 1) (step i s (xs.getD i.toNat d)))
  (h0 : ∀ n i s, I i s → i = xs.length → L (n + 1) i s = done s) :
  ∀ (n : Nat) (i : Int) (s : σ), I i s → 0 ≤ i → i ≤ xs.length → xs.length - i < n → L n i s = done (goFold step i s (xs.drop i.toNat)) := by
 intro n
 induction n with
 | zero => intro i s hI h0 h1 h2; omega
 | succ n ih =>
  intro i s hI hi h1 h2
  by_cases hlt : i < xs.length
  ·obtain ⟨e, hI'⟩ := h n i s hI hi hlt
   rw [e, drop_get (d := d) hi hlt]
   exact ih (i + 1) _ hI' (by omega) (by omega) (by omega)
  ·rw [h0 n i s hI (by omega), List.drop_of_length_le (by omega)]
   rfl
theorem range_loopN {α σ : Type} (L : Nat → Int → σ → Option AV) (xs : List α) (d : α) (step : Int → σ → α → σ) (done : σ → Option AV) (I : Int → σ → Prop) (N : Nat)
  (h : ∀ n i s, N ≤ n → I i s → 0 ≤ i → i < xs.length → L (n + 1) i s = L n (i + 1) (step i s (xs.getD i.toNat d)) ∧ I (i + 1) (step i s (xs.getD i.toNat d)))
  (h0 : ∀ n i s, N ≤ n → I i s → i = xs.length → L (n + 1) i s = done s) :
  ∀ (n : Nat) (i : Int) (s : σ), I i s → 0 ≤ i → i ≤ xs.length → xs.length - i + N < n → L n i s = done (goFold step i s (xs.drop i.toNat)) := by
 intro n
 induction n with
 | zero => intro i s hI h0 h1 h2; omega
 | succ n ih =>
  intro i s hI hi h1 h2
  by_cases hlt : i < xs.length
  ·obtain ⟨e, hI'⟩ := h n i s (by omega) hI hi hlt
   rw [e, drop_get (d := d) hi hlt]
   exact ih (i + 1) _ hI' (by omega) (by omega) (by omega)
  ·rw [h0 n i s (by omega) hI (by omega), List.drop_of_length_le (by omega)]
   rfl
theorem idx_any {α : Type} (p : α → Bool) : ∀ (xs : List α) (i : Int), 0 ≤ i → decide (idx p xs i ≥ 0) = xs.any p
 | [], i, h => by simp [idx]
 | x :: xs, i, h => by
  rw [Bool.eq_iff_iff, decide_eq_true_iff, List.any_cons]
  by_cases hp : p x = true
  ·simp [idx, hp, h]
  ·have hp : p x = false := by simpa using hp
   have e : idx p (x :: xs) i = idx p xs (i + 1) := by simp [idx, hp]
   rw [e, hp, Bool.false_or, ← idx_any p xs (i + 1) (by omega), decide_eq_true_iff]
theorem idx_miss {α : Type} (p : α → Bool) : ∀ (xs : List α) (i : Int), xs.any p = false → idx p xs i = -1
 | [], i, h => rfl
 | x :: xs, i, h => by
  simp only [List.any_cons, Bool.or_eq_false_iff] at h
  simp only [idx, h.1, cond_false]
  exact idx_miss p xs (i + 1) h.2
theorem idx_res {α : Type} (p : α → Bool) (xs : List α) (f : Int → Option AV) (m : Option AV) (hm : m = f (-1)) : (bif xs.any p then f (idx p xs 0) else m) = f (idx p xs 0) := by
 cases h : xs.any p with
 | true => rfl
 | false => rw [idx_miss p xs 0 h, hm]; rfl
theorem F99g78.sem (xs : List Int) (hl : xs.length ≤ maxLen) : callW F99g78.E false F99g78.fn (xs.length + 1) [.v (.sl (.int .i64)) xs, .fn 132 [] []] = some (.v (.int .i64) (idx outD xs 0)) := by
 rw [F99g78.start_eq, search_loop (fun n i => F99g78.l1_0_1_0 n _ xs xs.length i) xs 0 outD _ _ hl (fun n i => F99g78.l1_0_1_0_eq n _ xs _ i) _ 0 (by omega) (by omega) (by omega)]
 simp only [F99g78.c0, F99g78.c1]
 exact idx_res outD xs (fun v => some (.v (.int .i64) v)) _ rfl
theorem F99g96.sem (xs : List Int) (z : Int) (hl : xs.length ≤ maxLen) : callW F99g96.E false F99g96.fn (xs.length + 1) [.v (.sl (.int .i64)) xs, .fn 57 [] [.rp [.v (.int .i64) z]]] = some (.v (.int .i64) (idx (varB z) xs 0)) := by
 rw [F99g96.start_eq, search_loop (fun n i => F99g96.l1_0_1_0 n _ xs z xs.length i) xs 0 (varB z) _ _ hl (fun n i => F99g96.l1_0_1_0_eq n _ xs z _ i) _ 0 (by omega) (by omega) (by omega)]
 simp only [F99g96.c0, F99g96.c1]
 exact idx_res (varB z) xs (fun v => some (.v (.int .i64) v)) _ rfl
theorem F99g118.sem (xs : List Int) (z : Int) (hl : xs.length ≤ maxLen) : callW F99g118.E false F99g118.fn (xs.length + 1) [.v (.sl (.int .i64)) xs, .fn 142 [] [.rp [.v (.int .i64) z]]] = some (.v (.int .i64) (idx (numB z) xs 0)) := by
 rw [F99g118.start_eq, search_loop (fun n i => F99g118.l1_0_1_0 n _ xs z xs.length i) xs 0 (numB z) _ _ hl (fun n i => F99g118.l1_0_1_0_eq n _ xs z _ i) _ 0 (by omega) (by omega) (by omega)]
 simp only [F99g118.c0, F99g118.c1]
 exact idx_res (numB z) xs (fun v => some (.v (.int .i64) v)) _ rfl
theorem F115g108.sem (xs : List (List Int)) (z : Con) (hl : xs.length ≤ maxLen) : callW F115g108.E false F115g108.fn (xs.length + 1) [.v (.sl (.sl (.int .i64))) xs, .fn 103 [] [.rp (explode ConT z)]] = some (.v (.int .i64) (idx (rowN z) xs 0)) := by
 refine (F115g108.start_eq _ xs z).trans ?_
 rw [search_loop (fun n i => F115g108.l1_0_1_0 n _ xs z.1 z.2.1 z.2.2.1 z.2.2.2.1 z.2.2.2.2.1 z.2.2.2.2.2.1 z.2.2.2.2.2.2.1 z.2.2.2.2.2.2.2 xs.length i) xs [] (rowN z) _ _ hl (fun n i => F115g108.l1_0_1_0_eq n _ xs _ _ _ _ _ _ _ _ _ i) _ 0 (by omega) (by omega) (by omega)]
 simp only [F115g108.c0, F115g108.c1]
 exact idx_res (rowN z) xs (fun v => some (.v (.int .i64) v)) _ rfl
theorem F77g78.sem (k : Nat) (xs : List Int) : callW F77g78.E false F77g78.fn k [.v (.sl (.int .i64)) xs, .fn 132 [] []] = some (.v .bool (xs.any outD)) := by
 rw [F77g78.start_eq, idx_any outD xs 0 (Int.le_refl _)]
theorem F77g96.sem (k : Nat) (xs : List Int) (z : Int) : callW F77g96.E false F77g96.fn k [.v (.sl (.int .i64)) xs, .fn 57 [] [.rp [.v (.int .i64) z]]] = some (.v .bool (xs.any (varB z))) := by
 rw [F77g96.start_eq, idx_any (varB z) xs 0 (Int.le_refl _)]
theorem F77g118.sem (k : Nat) (xs : List Int) (z : Int) : callW F77g118.E false F77g118.fn k [.v (.sl (.int .i64)) xs, .fn 142 [] [.rp [.v (.int .i64) z]]] = some (.v .bool (xs.any (numB z))) := by
 rw [F77g118.start_eq, idx_any (numB z) xs 0 (Int.le_refl _)]
theorem F107g108.sem (k : Nat) (xs : List (List Int)) (z : Con) : callW F107g108.E false F107g108.fn k [.v (.sl (.sl (.int .i64))) xs, .fn 103 [] [.rp (explode ConT z)]] = some (.v .bool (xs.any (rowN z))) := by
 refine (F107g108.start_eq k xs z).trans ?_
 rw [idx_any (rowN z) xs 0 (Int.le_refl _)]
theorem F96.sem (k : Nat) (v z : Int) : callW F96.E false F96.fn k [.v (.int .i64) v, .rp [.v (.int .i64) z]] = some (.v .bool (varB z v)) := by
 rw [F96.start_eq]
 unfold varB
 cases decide (v < 0) <;> rfl
theorem F118.sem (k : Nat) (v z : Int) : callW F118.E false F118.fn k [.v (.int .i64) v, .rp [.v (.int .i64) z]] = some (.v .bool (numB z v)) := by
 rw [F118.start_eq]
 unfold numB
 cases decide (v < z) <;> rfl
theorem F108.sem (k : Nat) (r : List Int) (z : Con) : callW F108.E false F108.fn k [.v (.sl (.int .i64)) r, .rp (explode ConT z)] = some (.v .bool (rowN z r)) := F108.start_eq k r z
theorem F124.sem (k : Nat) (s : ByteArray) (c : Int) : callW F124.E false F124.fn k [.v .str s, .v (.int .u8) c] = some (.v (.int .i64) (idxJ s c)) := F124.start_eq k s c
theorem F116.sem (k : Nat) (s : ByteArray) (b : UInt8) : callW F116.E false F116.fn k [.v .str s, .v .str ⟨#[b]⟩] = some (.v (.int .i64) (idx1 s ⟨#[b]⟩)) := by
 rw [F116.start_eq]
 unfold idx1 idxJ
 cases strEq ⟨#[b]⟩ s <;> rfl
theorem F109.sem (k : Nat) (s : ByteArray) (b : UInt8) : callW F109.E false F109.fn k [.v .str s, .v .str ⟨#[b]⟩] = some (.v (.int .i64) (idx2 s ⟨#[b]⟩)) := F109.start_eq k s b
theorem F94.sem (k : Nat) (s : ByteArray) (b : UInt8) : callW F94.E false F94.fn k [.v .str s, .v .str ⟨#[b]⟩] = some (.v .bool (has1 s ⟨#[b]⟩)) := F94.start_eq k s b
theorem F114.sem (k : Nat) (s : ByteArray) (b : UInt8) : callW F114.E false F114.fn k [.v .str s, .v .str ⟨#[b]⟩] = some (.v (.int .i64) (cnt1 s ⟨#[b]⟩)) := F114.start_eq k s b
theorem F105.sem (k : Nat) (n a b : Int) : callW F105.E false F105.fn k [.v (.int .i64) n, .v (.int .i64) a, .v (.int .i64) b] = some (.v .bool (withinD n a b)) := by
 rw [F105.start_eq]
 unfold withinD
 cases decide (n ≥ a) <;> rfl
theorem F106.sem (k : Nat) (n : Int) (s o a : ByteArray) (h1 : decide (o.size = 1) = true) (h2 : decide (a.size = 1) = true) : callW F106.E false F106.fn k [.v (.int .i64) n, .v .str s, .v .str o, .v .str a] = some (.v .bool (namedD n s o a)) := by
 rw [F106.start_eq, h1, h2]
 unfold namedD
 cases has1 s a <;> rfl
theorem F53.loop (K : Conts) (s : ByteArray) (c : Int) (hs : s.size ≤ 100) : ∀ (n : Nat) (i m : Nat), i ≤ s.size → m ≤ i → s.size - i < n →
  F53.l1_1_0_1_0 n K s c (m : Int) (i : Int) = exitK K 0 ⟨slots 21 [(5, .v (.int .i64) (hasGo s c (List.range' i (s.size - i)) m))], []⟩ := by
 intro n
 induction n with
 | zero => intro i m h1 h2 h3; omega
 | succ n ih =>
  intro i m h1 h2 h3
  rw [F53.l1_1_0_1_0_eq]
  by_cases hi : i < s.size
  ·have e : s.size - i = (s.size - (i + 1)) + 1 := by omega
   rw [e, List.range'_succ]
   have a1 : (i : Int) < s.size := by omega
   have a2 : (0 : Int) ≤ i := by omega
   simp only [a1, a2, decide_true, Bool.and_true, cond_true, hasGo]
   have e1 : IntKind.i64.wrap ((i : Int) + 1) = ((i + 1 : Nat) : Int) := by rw [wrap_ok (by omega) (by omega)]; omega
   have e2 : IntKind.i64.wrap ((m : Int) + 1) = ((m + 1 : Nat) : Int) := by rw [wrap_ok (by omega) (by omega)]; omega
   rw [e1, e2]
   have e3 : (i : Int).toNat = i := by omega
   rw [e3]
   by_cases hb : byteW s i = c
   ·simp only [hb, decide_true, cond_true, if_true]
    have := ih (i + 1) (m + 1) (by omega) (by omega) (by omega)
    rw [this]
    rfl
   ·simp only [hb, decide_false, cond_false, if_false]
    exact ih (i + 1) m (by omega) (by omega) (by omega)
  ·have e : s.size - i = 0 := by omega
   have a1 : ¬ (i : Int) < s.size := by omega
   rw [e]
   simp only [a1, decide_false, cond_false]
   rfl
theorem F53.sem (s : ByteArray) (c : Int) (hs : decide (s.size ≤ 100) = true) : callW F53.E false F53.fn 101 [.v .str s, .v (.int .u8) c] = some (.v (.int .i64) (hasB s c)) := by
 have hs' : s.size ≤ 100 := of_decide_eq_true hs
 rw [F53.start_eq]
 have := F53.loop (F53.kt 101 [1, 1, 0, 1, 0]) s c hs' 101 0 0 (by omega) (by omega) (by omega)
 refine (show _ = _ from this).trans ?_
 rw [F53.c0]
 unfold hasB
 rw [List.range_eq_range', Nat.sub_zero]
 rfl
theorem F100.sem (k : Nat) (n a b : Int) : callW F100.E false F100.fn k [.v (.int .i64) n, .v (.int .i64) a, .v (.int .i64) b] = some (.v .bool (listB1 n a b)) := by
 rw [F100.start_eq]
 unfold listB1
 cases decide (b > 0) <;> cases decide (n ≥ 1) <;> rfl
theorem F82.sem (xs : List Int) (lo hi : Int) (hl : xs.length ≤ maxLen) : callW F82.E false F82.fn (xs.length + 1) [.v (.sl (.int .i64)) xs, .v (.int .i64) lo, .v (.int .i64) hi] = some (.v .bool (inL xs lo hi)) := by
 rw [F82.start_eq, search_loop (fun n i => F82.l1_0_1_0 n _ xs lo hi i) xs 0 (fun v => decide (v < lo) || decide (v > hi)) (fun _ => (F82.kt (xs.length + 1) [1, 0, 1, 0]).ret ⟨slots 28 [(6, .v .bool false)], []⟩) _ hl (by
  intro n i
  refine (F82.l1_0_1_0_eq n _ xs lo hi i).trans ?_
  cases decide (i < (xs.length : Int)) with
  | false => rfl
  | true =>
   cases decide (0 ≤ i) with
   | false => rfl
   | true =>
    cases decide (xs.getD i.toNat 0 < lo) with
    | true => rfl
    | false => rfl) _ 0 (by omega) (by omega) (by omega)]
 simp only [F82.c0, F82.c1]
 unfold inL
 have e : (xs.drop (Int.toNat 0)) = xs := rfl
 rw [e]
 cases xs.any fun v => decide (v < lo) || decide (v > hi) <;> rfl
end Go.Proofs.YtlfdikofmfhefaaGreatDoor.Ev
