/-
Seat 'a': the functions as the evaluator runs them: printed by a program of mine, each equation by kernel_rfl.
Conditions: none.
-/
import Derived.Test.YthdpbmcidebagaaGreatDoorAa
set_option linter.unusedVariables false
set_option maxRecDepth 100000
namespace Go.Proofs.YthdpbmcidebagaaGreatDoor.Ev
open Go
/-! ### 99g78: slices.IndexFunc[[]int,int] -/
noncomputable def F99g78.fn : Func := Go.Proofs.Tryz.f99
noncomputable def F99g78.body : Code := bodyOf F99g78.fn
noncomputable def F99g78.E : Env := ⟨tt, [(78, h_outD)], [(1, [0, 1]), (2, [0, 1, 7, 8]), (3, [0, 1, 7, 8, 9]), (4, [0, 1, 5, 7, 8]), (5, [0, 1, 5, 7, 8, 16]), (6, [0, 1, 7, 8]), (7, [])], [(0, []), (1, [0, 1, 7, 8])], some [4], inv⟩
noncomputable def F99g78.K0 : Conts := { nrm := endW F99g78.E false F99g78.fn.results.toList, ret := endW F99g78.E false F99g78.fn.results.toList, ex := [] }
noncomputable def F99g78.kt (k : Nat) (q : List Nat) : Conts := contAt F99g78.E k F99g78.body F99g78.K0 q
noncomputable def F99g78.l1_0_1_0 (n : Nat) (K : Conts) (p0 : (List Int)) (p1 : Int) (p2 : Int) : Option AV := loopF F99g78.E n (inLoop (subC [1, 0, 1, 0] F99g78.body)) K ⟨slots 19 [(0, .v (.sl (.int .i64)) p0), (1, .fn 78 [] []), (7, .v (.int .i64) p1), (8, .v (.int .i64) p2)], []⟩
theorem F99g78.start_eq (k : Nat) (a0 : (List Int)) : callW F99g78.E false F99g78.fn k [.v (.sl (.int .i64)) a0, .fn 78 [] []] =
    F99g78.l1_0_1_0 k (F99g78.kt k [1, 0, 1, 0]) a0 (a0.length : Int) 0 := by kernel_rfl
theorem F99g78.l1_0_1_0_eq (n : Nat) (K : Conts) (p0 : (List Int)) (p1 : Int) (p2 : Int) : F99g78.l1_0_1_0 (n + 1) K p0 p1 p2 =
    bif decide (p2 < p1) then
      bif decide (0 ≤ p2) && decide (p2 < p0.length) then
        bif outD (p0.getD p2.toNat (0 : Int)) then K.ret ⟨slots 19 [(4, .v (.int .i64) p2)], []⟩ else F99g78.l1_0_1_0 n K p0 p1 (IntKind.i64.wrap (p2 + 1))
      else
        none
    else
      exitK K 0 ⟨slots 19 [], []⟩ := by kernel_rfl
theorem F99g78.c0 (k : Nat) (p0 : Int) : (F99g78.kt k [1, 0, 1, 0]).ret ⟨slots 19 [(4, .v (.int .i64) p0)], []⟩ =
    some (.v (.int .i64) p0) := by kernel_rfl
theorem F99g78.c1 (k : Nat) : exitK (F99g78.kt k [1, 0, 1, 0]) 0 ⟨slots 19 [], []⟩ =
    some (.v (.int .i64) (-1 : Int)) := by kernel_rfl

/-! ### 99g96: slices.IndexFunc[[]int,int] -/
noncomputable def F99g96.fn : Func := Go.Proofs.Tryz.f99
noncomputable def F99g96.body : Code := bodyOf F99g96.fn
noncomputable def F99g96.E : Env := ⟨tt, [(96, h_varB)], [(1, [0, 1]), (2, [0, 1, 7, 8]), (3, [0, 1, 7, 8, 9]), (4, [0, 1, 5, 7, 8]), (5, [0, 1, 5, 7, 8, 16]), (6, [0, 1, 7, 8]), (7, [])], [(0, []), (1, [0, 1, 7, 8])], some [4], inv⟩
noncomputable def F99g96.K0 : Conts := { nrm := endW F99g96.E false F99g96.fn.results.toList, ret := endW F99g96.E false F99g96.fn.results.toList, ex := [] }
noncomputable def F99g96.kt (k : Nat) (q : List Nat) : Conts := contAt F99g96.E k F99g96.body F99g96.K0 q
noncomputable def F99g96.l1_0_1_0 (n : Nat) (K : Conts) (p0 : (List Int)) (p1 : Int) (p2 : Int) (p3 : Int) : Option AV := loopF F99g96.E n (inLoop (subC [1, 0, 1, 0] F99g96.body)) K ⟨slots 19 [(0, .v (.sl (.int .i64)) p0), (1, .fn 96 [] [.rp [.v (.int .i64) p1]]), (7, .v (.int .i64) p2), (8, .v (.int .i64) p3)], []⟩
theorem F99g96.start_eq (k : Nat) (a0 : (List Int)) (z : Int) : callW F99g96.E false F99g96.fn k [.v (.sl (.int .i64)) a0, .fn 96 [] [.rp [.v (.int .i64) z]]] =
    F99g96.l1_0_1_0 k (F99g96.kt k [1, 0, 1, 0]) a0 z (a0.length : Int) 0 := by kernel_rfl
theorem F99g96.l1_0_1_0_eq (n : Nat) (K : Conts) (p0 : (List Int)) (p1 : Int) (p2 : Int) (p3 : Int) : F99g96.l1_0_1_0 (n + 1) K p0 p1 p2 p3 =
    bif decide (p3 < p2) then
      bif decide (0 ≤ p3) && decide (p3 < p0.length) then
        bif varB p1 (p0.getD p3.toNat (0 : Int)) then K.ret ⟨slots 19 [(4, .v (.int .i64) p3)], []⟩ else F99g96.l1_0_1_0 n K p0 p1 p2 (IntKind.i64.wrap (p3 + 1))
      else
        none
    else
      exitK K 0 ⟨slots 19 [], []⟩ := by kernel_rfl
theorem F99g96.c0 (k : Nat) (p0 : Int) : (F99g96.kt k [1, 0, 1, 0]).ret ⟨slots 19 [(4, .v (.int .i64) p0)], []⟩ =
    some (.v (.int .i64) p0) := by kernel_rfl
theorem F99g96.c1 (k : Nat) : exitK (F99g96.kt k [1, 0, 1, 0]) 0 ⟨slots 19 [], []⟩ =
    some (.v (.int .i64) (-1 : Int)) := by kernel_rfl

/-! ### 99g118: slices.IndexFunc[[]int,int] -/
noncomputable def F99g118.fn : Func := Go.Proofs.Tryz.f99
noncomputable def F99g118.body : Code := bodyOf F99g118.fn
noncomputable def F99g118.E : Env := ⟨tt, [(118, h_numB)], [(1, [0, 1]), (2, [0, 1, 7, 8]), (3, [0, 1, 7, 8, 9]), (4, [0, 1, 5, 7, 8]), (5, [0, 1, 5, 7, 8, 16]), (6, [0, 1, 7, 8]), (7, [])], [(0, []), (1, [0, 1, 7, 8])], some [4], inv⟩
noncomputable def F99g118.K0 : Conts := { nrm := endW F99g118.E false F99g118.fn.results.toList, ret := endW F99g118.E false F99g118.fn.results.toList, ex := [] }
noncomputable def F99g118.kt (k : Nat) (q : List Nat) : Conts := contAt F99g118.E k F99g118.body F99g118.K0 q
noncomputable def F99g118.l1_0_1_0 (n : Nat) (K : Conts) (p0 : (List Int)) (p1 : Int) (p2 : Int) (p3 : Int) : Option AV := loopF F99g118.E n (inLoop (subC [1, 0, 1, 0] F99g118.body)) K ⟨slots 19 [(0, .v (.sl (.int .i64)) p0), (1, .fn 118 [] [.rp [.v (.int .i64) p1]]), (7, .v (.int .i64) p2), (8, .v (.int .i64) p3)], []⟩
theorem F99g118.start_eq (k : Nat) (a0 : (List Int)) (z : Int) : callW F99g118.E false F99g118.fn k [.v (.sl (.int .i64)) a0, .fn 118 [] [.rp [.v (.int .i64) z]]] =
    F99g118.l1_0_1_0 k (F99g118.kt k [1, 0, 1, 0]) a0 z (a0.length : Int) 0 := by kernel_rfl
theorem F99g118.l1_0_1_0_eq (n : Nat) (K : Conts) (p0 : (List Int)) (p1 : Int) (p2 : Int) (p3 : Int) : F99g118.l1_0_1_0 (n + 1) K p0 p1 p2 p3 =
    bif decide (p3 < p2) then
      bif decide (0 ≤ p3) && decide (p3 < p0.length) then
        bif numB p1 (p0.getD p3.toNat (0 : Int)) then K.ret ⟨slots 19 [(4, .v (.int .i64) p3)], []⟩ else F99g118.l1_0_1_0 n K p0 p1 p2 (IntKind.i64.wrap (p3 + 1))
      else
        none
    else
      exitK K 0 ⟨slots 19 [], []⟩ := by kernel_rfl
theorem F99g118.c0 (k : Nat) (p0 : Int) : (F99g118.kt k [1, 0, 1, 0]).ret ⟨slots 19 [(4, .v (.int .i64) p0)], []⟩ =
    some (.v (.int .i64) p0) := by kernel_rfl
theorem F99g118.c1 (k : Nat) : exitK (F99g118.kt k [1, 0, 1, 0]) 0 ⟨slots 19 [], []⟩ =
    some (.v (.int .i64) (-1 : Int)) := by kernel_rfl

/-! ### 77g78: slices.ContainsFunc[[]int,int] -/
noncomputable def F77g78.fn : Func := Go.Proofs.Tryz.f77
noncomputable def F77g78.E : Env := ⟨tt, [(99, h_idxF)], [(1, [0, 1])], [], some [4], inv⟩
theorem F77g78.start_eq (k : Nat) (a0 : (List Int)) : callW F77g78.E false F77g78.fn k [.v (.sl (.int .i64)) a0, .fn 78 [] []] =
    some (.v .bool (decide ((idx outD a0 0) ≥ 0))) := by kernel_rfl

/-! ### 77g96: slices.ContainsFunc[[]int,int] -/
noncomputable def F77g96.fn : Func := Go.Proofs.Tryz.f77
noncomputable def F77g96.E : Env := ⟨tt, [(99, h_idxF)], [(1, [0, 1])], [], some [4], inv⟩
theorem F77g96.start_eq (k : Nat) (a0 : (List Int)) (z : Int) : callW F77g96.E false F77g96.fn k [.v (.sl (.int .i64)) a0, .fn 96 [] [.rp [.v (.int .i64) z]]] =
    some (.v .bool (decide ((idx (varB z) a0 0) ≥ 0))) := by kernel_rfl

/-! ### 77g118: slices.ContainsFunc[[]int,int] -/
noncomputable def F77g118.fn : Func := Go.Proofs.Tryz.f77
noncomputable def F77g118.E : Env := ⟨tt, [(99, h_idxF)], [(1, [0, 1])], [], some [4], inv⟩
theorem F77g118.start_eq (k : Nat) (a0 : (List Int)) (z : Int) : callW F77g118.E false F77g118.fn k [.v (.sl (.int .i64)) a0, .fn 118 [] [.rp [.v (.int .i64) z]]] =
    some (.v .bool (decide ((idx (numB z) a0 0) ≥ 0))) := by kernel_rfl

/-! ### 115g108: slices.IndexFunc[[][]int,[]int] -/
noncomputable def F115g108.fn : Func := Go.Proofs.Tryz.f115
noncomputable def F115g108.body : Code := bodyOf F115g108.fn
noncomputable def F115g108.E : Env := ⟨tt, [(108, h_rowN)], [(1, [0, 1]), (2, [0, 1, 7, 8]), (3, [0, 1, 7, 8, 9]), (4, [0, 1, 5, 7, 8]), (5, [0, 1, 5, 7, 8, 16]), (6, [0, 1, 7, 8]), (7, [])], [(0, []), (1, [0, 1, 7, 8])], some [4], inv⟩
noncomputable def F115g108.K0 : Conts := { nrm := endW F115g108.E false F115g108.fn.results.toList, ret := endW F115g108.E false F115g108.fn.results.toList, ex := [] }
noncomputable def F115g108.kt (k : Nat) (q : List Nat) : Conts := contAt F115g108.E k F115g108.body F115g108.K0 q
noncomputable def F115g108.l1_0_1_0 (n : Nat) (K : Conts) (p0 : (List (List Int))) (p1 : Int) (p2 : (List Int)) (p3 : (List Int)) (p4 : (List Int)) (p5 : (List Int)) (p6 : (List Int)) (p7 : Int) (p8 : (List (List Int))) (p9 : Int) (p10 : Int) : Option AV := loopF F115g108.E n (inLoop (subC [1, 0, 1, 0] F115g108.body)) K ⟨slots 19 [(0, .v (.sl (.sl (.int .i64))) p0), (1, .fn 108 [] [.rp [.v (.int .i64) p1, .v (.sl (.int .i64)) p2, .v (.sl (.int .i64)) p3, .v (.sl (.int .i64)) p4, .v (.sl (.int .i64)) p5, .v (.sl (.int .i64)) p6, .v (.int .i64) p7, .v (.sl (.sl (.int .i64))) p8]]), (7, .v (.int .i64) p9), (8, .v (.int .i64) p10)], []⟩
theorem F115g108.start_eq (k : Nat) (a0 : (List (List Int))) (z : (Int × ((List Int) × ((List Int) × ((List Int) × ((List Int) × ((List Int) × (Int × (List (List Int)))))))))) : callW F115g108.E false F115g108.fn k [.v (.sl (.sl (.int .i64))) a0, .fn 108 [] [.rp [.v (.int .i64) z.1, .v (.sl (.int .i64)) z.2.1, .v (.sl (.int .i64)) z.2.2.1, .v (.sl (.int .i64)) z.2.2.2.1, .v (.sl (.int .i64)) z.2.2.2.2.1, .v (.sl (.int .i64)) z.2.2.2.2.2.1, .v (.int .i64) z.2.2.2.2.2.2.1, .v (.sl (.sl (.int .i64))) z.2.2.2.2.2.2.2]]] =
    F115g108.l1_0_1_0 k (F115g108.kt k [1, 0, 1, 0]) a0 z.1 z.2.1 z.2.2.1 z.2.2.2.1 z.2.2.2.2.1 z.2.2.2.2.2.1 z.2.2.2.2.2.2.1 z.2.2.2.2.2.2.2 (a0.length : Int) 0 := by kernel_rfl
theorem F115g108.l1_0_1_0_eq (n : Nat) (K : Conts) (p0 : (List (List Int))) (p1 : Int) (p2 : (List Int)) (p3 : (List Int)) (p4 : (List Int)) (p5 : (List Int)) (p6 : (List Int)) (p7 : Int) (p8 : (List (List Int))) (p9 : Int) (p10 : Int) : F115g108.l1_0_1_0 (n + 1) K p0 p1 p2 p3 p4 p5 p6 p7 p8 p9 p10 =
    bif decide (p10 < p9) then
      bif decide (0 ≤ p10) && decide (p10 < p0.length) then
        bif rowN (p1, (p2, (p3, (p4, (p5, (p6, (p7, p8))))))) (p0.getD p10.toNat []) then
          K.ret ⟨slots 19 [(4, .v (.int .i64) p10)], []⟩
        else
          F115g108.l1_0_1_0 n K p0 p1 p2 p3 p4 p5 p6 p7 p8 p9 (IntKind.i64.wrap (p10 + 1))
      else
        none
    else
      exitK K 0 ⟨slots 19 [], []⟩ := by kernel_rfl
theorem F115g108.c0 (k : Nat) (p0 : Int) : (F115g108.kt k [1, 0, 1, 0]).ret ⟨slots 19 [(4, .v (.int .i64) p0)], []⟩ =
    some (.v (.int .i64) p0) := by kernel_rfl
theorem F115g108.c1 (k : Nat) : exitK (F115g108.kt k [1, 0, 1, 0]) 0 ⟨slots 19 [], []⟩ =
    some (.v (.int .i64) (-1 : Int)) := by kernel_rfl

/-! ### 107g108: slices.ContainsFunc[[][]int,[]int] -/
noncomputable def F107g108.fn : Func := Go.Proofs.Tryz.f107
noncomputable def F107g108.E : Env := ⟨tt, [(115, h_idxR)], [(1, [0, 1])], [], some [4], inv⟩
theorem F107g108.start_eq (k : Nat) (a0 : (List (List Int))) (z : (Int × ((List Int) × ((List Int) × ((List Int) × ((List Int) × ((List Int) × (Int × (List (List Int)))))))))) : callW F107g108.E false F107g108.fn k [.v (.sl (.sl (.int .i64))) a0, .fn 108 [] [.rp [.v (.int .i64) z.1, .v (.sl (.int .i64)) z.2.1, .v (.sl (.int .i64)) z.2.2.1, .v (.sl (.int .i64)) z.2.2.2.1, .v (.sl (.int .i64)) z.2.2.2.2.1, .v (.sl (.int .i64)) z.2.2.2.2.2.1, .v (.int .i64) z.2.2.2.2.2.2.1, .v (.sl (.sl (.int .i64))) z.2.2.2.2.2.2.2]]] =
    some (.v .bool (decide ((idx (rowN z) a0 0) ≥ 0))) := by kernel_rfl

/-! ### 90g74: slices.IndexFunc[[]jigsaw/dom.Dom,jigsaw/dom.Dom] -/
noncomputable def F90g74.fn : Func := Go.Proofs.Tryz.f90
noncomputable def F90g74.body : Code := bodyOf F90g74.fn
noncomputable def F90g74.E : Env := ⟨tt, [(74, h_emptyD)], [(1, [0, 1]), (2, [0, 1, 7, 8]), (3, [0, 1, 7, 8, 9]), (4, [0, 1, 5, 7, 8]), (5, [0, 1, 5, 7, 8, 16]), (6, [0, 1, 7, 8]), (7, [])], [(0, []), (1, [0, 1, 7, 8])], some [4], inv⟩
noncomputable def F90g74.K0 : Conts := { nrm := endW F90g74.E false F90g74.fn.results.toList, ret := endW F90g74.E false F90g74.fn.results.toList, ex := [] }
noncomputable def F90g74.kt (k : Nat) (q : List Nat) : Conts := contAt F90g74.E k F90g74.body F90g74.K0 q
noncomputable def F90g74.l1_0_1_0 (n : Nat) (K : Conts) (p0 : (List (Int × ((List Int) × (Int × (Int × Int)))))) (p1 : Int) (p2 : Int) : Option AV := loopF F90g74.E n (inLoop (subC [1, 0, 1, 0] F90g74.body)) K ⟨slots 19 [(0, .v (.sl (.pair (.int .i64) (.pair (.sl (.int .u64)) (.pair (.int .i64) (.pair (.int .i64) (.int .i64)))))) p0), (1, .fn 74 [] []), (7, .v (.int .i64) p1), (8, .v (.int .i64) p2)], []⟩
theorem F90g74.start_eq (k : Nat) (a0 : (List (Int × ((List Int) × (Int × (Int × Int)))))) : callW F90g74.E false F90g74.fn k [.v (.sl (.pair (.int .i64) (.pair (.sl (.int .u64)) (.pair (.int .i64) (.pair (.int .i64) (.int .i64)))))) a0, .fn 74 [] []] =
    F90g74.l1_0_1_0 k (F90g74.kt k [1, 0, 1, 0]) a0 (a0.length : Int) 0 := by kernel_rfl
theorem F90g74.l1_0_1_0_eq (n : Nat) (K : Conts) (p0 : (List (Int × ((List Int) × (Int × (Int × Int)))))) (p1 : Int) (p2 : Int) : F90g74.l1_0_1_0 (n + 1) K p0 p1 p2 =
    bif decide (p2 < p1) then
      bif decide (0 ≤ p2) && decide (p2 < p0.length) then
        bif emptyD (p0.getD p2.toNat ((0 : Int), ([], ((0 : Int), ((0 : Int), (0 : Int)))))) then
          K.ret ⟨slots 19 [(4, .v (.int .i64) p2)], []⟩
        else
          F90g74.l1_0_1_0 n K p0 p1 (IntKind.i64.wrap (p2 + 1))
      else
        none
    else
      exitK K 0 ⟨slots 19 [], []⟩ := by kernel_rfl
theorem F90g74.c0 (k : Nat) (p0 : Int) : (F90g74.kt k [1, 0, 1, 0]).ret ⟨slots 19 [(4, .v (.int .i64) p0)], []⟩ =
    some (.v (.int .i64) p0) := by kernel_rfl
theorem F90g74.c1 (k : Nat) : exitK (F90g74.kt k [1, 0, 1, 0]) 0 ⟨slots 19 [], []⟩ =
    some (.v (.int .i64) (-1 : Int)) := by kernel_rfl

/-! ### 73g74: slices.ContainsFunc[[]jigsaw/dom.Dom,jigsaw/dom.Dom] -/
noncomputable def F73g74.fn : Func := Go.Proofs.Tryz.f73
noncomputable def F73g74.E : Env := ⟨tt, [(90, h_idxE)], [(1, [0, 1])], [], some [4], inv⟩
theorem F73g74.start_eq (k : Nat) (a0 : (List (Int × ((List Int) × (Int × (Int × Int)))))) : callW F73g74.E false F73g74.fn k [.v (.sl (.pair (.int .i64) (.pair (.sl (.int .u64)) (.pair (.int .i64) (.pair (.int .i64) (.int .i64)))))) a0, .fn 74 [] []] =
    some (.v .bool (decide ((idx emptyD a0 0) ≥ 0))) := by kernel_rfl

/-! ### 74: jigsaw/prop.Fits$1 -/
noncomputable def F74.fn : Func := Go.Proofs.Tryz.f74
noncomputable def F74.E : Env := ⟨tt, [(75, h_sizeD)], [(1, [1])], [], some [2], inv⟩
theorem F74.start_eq (k : Nat) (a0 : (Int × ((List Int) × (Int × (Int × Int))))) : callW F74.E false F74.fn k [.agg [.v (.int .i64) a0.1, .v (.sl (.int .u64)) a0.2.1, .v (.int .i64) a0.2.2.1, .v (.int .i64) a0.2.2.2.1, .v (.int .i64) a0.2.2.2.2]] =
    some (.v .bool (decide ((sizeD a0) = 0))) := by kernel_rfl

/-! ### 96: jigsaw/model.Right$1 -/
noncomputable def F96.fn : Func := Go.Proofs.Tryz.f96
noncomputable def F96.E : Env := ⟨tt, [], [(1, [0, 1])], [], some [3], inv⟩
theorem F96.start_eq (k : Nat) (a0 : Int) (z : Int) : callW F96.E false F96.fn k [.v (.int .i64) a0, .rp [.v (.int .i64) z]] =
    bif decide (a0 < 0) then some (.v .bool true) else some (.v .bool (decide (a0 ≥ z))) := by kernel_rfl

/-! ### 118: jigsaw/model.bounded$1 -/
noncomputable def F118.fn : Func := Go.Proofs.Tryz.f118
noncomputable def F118.E : Env := ⟨tt, [], [(1, [0, 1])], [], some [3], inv⟩
theorem F118.start_eq (k : Nat) (a0 : Int) (z : Int) : callW F118.E false F118.fn k [.v (.int .i64) a0, .rp [.v (.int .i64) z]] =
    bif decide (a0 < z) then some (.v .bool true) else some (.v .bool (decide (a0 > 1000000))) := by kernel_rfl

/-! ### 108: jigsaw/model.alike$1 -/
noncomputable def F108.fn : Func := Go.Proofs.Tryz.f108
noncomputable def F108.E : Env := ⟨tt, [], [(1, [0, 1])], [], some [3], inv⟩
theorem F108.start_eq (k : Nat) (a0 : (List Int)) (z : (Int × ((List Int) × ((List Int) × ((List Int) × ((List Int) × ((List Int) × (Int × (List (List Int)))))))))) : callW F108.E false F108.fn k [.v (.sl (.int .i64)) a0, .rp [.v (.int .i64) z.1, .v (.sl (.int .i64)) z.2.1, .v (.sl (.int .i64)) z.2.2.1, .v (.sl (.int .i64)) z.2.2.2.1, .v (.sl (.int .i64)) z.2.2.2.2.1, .v (.sl (.int .i64)) z.2.2.2.2.2.1, .v (.int .i64) z.2.2.2.2.2.2.1, .v (.sl (.sl (.int .i64))) z.2.2.2.2.2.2.2]] =
    some (.v .bool (!(decide ((a0.length : Int) = (z.2.1.length : Int))))) := by kernel_rfl

end Go.Proofs.YthdpbmcidebagaaGreatDoor.Ev
