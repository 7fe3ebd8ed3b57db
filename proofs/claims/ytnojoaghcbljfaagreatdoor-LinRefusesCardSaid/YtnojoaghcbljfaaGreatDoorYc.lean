/-
Two pieces of code, one behind the other: each by itself.
Conditions: none.
The functions as the evaluator runs them: printed by a program of mine, each equation by kernel_rfl.
Conditions: none.
-/
import Derived.Test.YtnojoaghcbljfaaGreatDoorEvR
import Derived.Test.YtnojoaghcbljfaaGreatDoorCg
set_option linter.unusedVariables false
namespace Go.Proofs.YtnojoaghcbljfaaGreatDoor.Ev
open Go
theorem nrm_cut {E : Env} {lp : Code → Conts → St → Option AV} {b : Code} {Kb : Conts} {g : St → Option AV} {σ1 σ2 : St} (h1 : ∀ σ, g σ = (match tidyAt E b σ with
  | some σ'' => runC E lp b Kb σ''
  | none => none)) (h2 : tidyAt E b σ1 = some σ2) : g σ1 = runC E lp b Kb σ2 := by
 rw [h1, h2]
theorem seq_cut {E : Env} {n : Nat} {c a b : Code} {K : Conts} {σ : St} (hc : c = .seq a b) : runC E (loopF E n) c K σ = runC E (loopF E n) a (contAt E n c K [0]) σ := by
 subst hc
 have h : contAt E n (.seq a b) K [0] = { K with nrm := fun σ' => match tidyAt E b σ' with
  | some σ'' => runC E (loopF E n) b K σ''
  | none => none } := by
  cases a <;> rfl
 rw [h]
 rfl
end Go.Proofs.YtnojoaghcbljfaaGreatDoor.Ev
set_option linter.unusedVariables false
set_option linter.unusedSimpArgs false
set_option maxRecDepth 100000
namespace Go.Proofs.YtnojoaghcbljfaaGreatDoor.Ev
open Go
noncomputable def F310.fn : Func := Go.Proofs.Tryz.f10
noncomputable def F310.body : Code := bodyOf F310.fn
noncomputable def F310.E : Env := ⟨tt, [(14, h_makeA), (20, h_sameL), (39, h_linF), (40, h_doms340), (41, h_linR), (42, h_wakes342), (43, h_lists343)], [(1, [2, 3, 4]), (2, [2, 4, 7, 8]), (3, [4, 7, 8, 24]), (4, [4, 7, 8, 24, 25]), (6, [4, 7, 8, 24, 32]), (8, [4, 7, 8, 24, 36]), (10, [4, 7, 8, 42]), (11, [7, 8]), (12, [7, 8, 9, 10]), (13, [9, 10, 11, 12])], [(0, [7, 8])], some [6], inv⟩
noncomputable def F310.K0 : Conts := { nrm := endW F310.E false F310.fn.results.toList, ret := endW F310.E false F310.fn.results.toList, ex := [] }
noncomputable def F310.kt (k : Nat) (q : List Nat) : Conts := contAt F310.E k F310.body F310.K0 q
noncomputable def F310.n1_1 (n : Nat) (K : Conts) (p0 p1 : Int) (p2 p3 p4 p5 p6 : List Int) (p7 : Int) (p8 : List (List Int)) (p9 : Int) (p10 p11 p12 p13 p14 : List Int) (p15 : Int) (p16 p17 : List (List Int)) : Option AV := runC F310.E (loopF F310.E n) (subC [1,1] F310.body) K ⟨slots 95 [(2, .v (.int .u8) p0), (4, .pb 0 0), (7, .pb 1 0), (8, .own 2)], [.box (bC p1 p2 p3 p4 p5 p6 p7 p8), .box (bC p9 p10 p11 p12 p13 p14 p15 p16), .row 30 (.sl (.int .i64)) p17]⟩
noncomputable def F310.k_n1_1 (n : Nat) (K : Conts) (q : List Nat) : Conts := contAt F310.E n (subC [1, 1] F310.body) K q
noncomputable def F310.n1_1_0 (n : Nat) (K : Conts) (p0 p1 : Int) (p2 p3 p4 p5 p6 : List Int) (p7 : Int) (p8 : List (List Int)) (p9 : Int) (p10 p11 p12 p13 p14 : List Int) (p15 : Int) (p16 p17 : List (List Int)) : Option AV := runC F310.E (loopF F310.E n) (subC [1,1,0] F310.body) K ⟨slots 95 [(2, .v (.int .u8) p0), (4, .pb 0 0), (7, .pb 1 0), (8, .own 2)], [.box (bC p1 p2 p3 p4 p5 p6 p7 p8), .box (bC p9 p10 p11 p12 p13 p14 p15 p16), .row 30 (.sl (.int .i64)) p17]⟩
noncomputable def F310.n1_1_1 (n : Nat) (K : Conts) (p0 : List (List Int)) (p1 : Int) (p2 p3 p4 p5 p6 : List Int) (p7 : Int) (p8 : List (List Int)) : Option AV := runC F310.E (loopF F310.E n) (subC [1,1,1] F310.body) K ⟨slots 95 [(7, .pb 0 0), (8, .v (.sl (.sl (.int .i64))) p0)], [.box (bC p1 p2 p3 p4 p5 p6 p7 p8)]⟩
noncomputable def F310.n1_1_1b (n : Nat) (K : Conts) (p0 : Int) (p1 p2 p3 p4 p5 : List Int) (p6 : Int) (p7 p8 : List (List Int)) : Option AV := runC F310.E (loopF F310.E n) (subC [1,1,1] F310.body) K ⟨slots 95 [(7, .pb 0 0), (8, .own 1)], [.box (bC p0 p1 p2 p3 p4 p5 p6 p7), .row 30 (.sl (.int .i64)) p8]⟩
noncomputable def F310.n1_1_1c (n : Nat) (K : Conts) (p0 : Int) (p1 p2 p3 : List Int) (p4 : Int) (p5 : List (List Int)) : Option AV := runC F310.E (loopF F310.E n) (subC [1,1,1] F310.body) K ⟨slots 95 [(7, .pb 0 0), (8, .own 1)], [.box [.v (.int .i64) p0, .v (.sl (.int .i64)) p1, .v (.sl (.int .i64)) p2, .v (.sl (.int .i64)) p3, .nl, .nl, .v (.int .i64) p4, .nl], .row 30 (.sl (.int .i64)) p5]⟩
theorem F310.start_eq (k : Nat) (a0 : (Int × ((List Int) × ((List Int) × ((List Int) × (Int × Int))))) × (List (List Int))) (a1 : Con) (a2 : Int) : callW F310.E false F310.fn k [.agg [.v (.int .u8) a0.1.1, .v (.sl (.int .u8)) a0.1.2.1, .v (.sl (.int .u8)) a0.1.2.2.1, .v (.sl (.int .i8)) a0.1.2.2.2.1, .v (.int .i16) a0.1.2.2.2.2.1, .v (.int .u8) a0.1.2.2.2.2.2, .v (.sl (.sl (.int .i64))) a0.2], .agg (bC a1.1 a1.2.1 a1.2.2.1 a1.2.2.2.1 a1.2.2.2.2.1 a1.2.2.2.2.2.1 a1.2.2.2.2.2.2.1 a1.2.2.2.2.2.2.2), .v (.int .u8) a2] =
 bif makeAB a0 (IntKind.i64.wrap (1 + ((IntKind.i64.wrap (shrW .u8 a2 3)).tmod 23))) 12 then
 F310.n1_1 k (F310.kt k [1,1]) a2 a1.1 a1.2.1 a1.2.2.1 a1.2.2.2.1 a1.2.2.2.2.1 a1.2.2.2.2.2.1 a1.2.2.2.2.2.2.1 a1.2.2.2.2.2.2.2 ((makeAC a0 (IntKind.i64.wrap (1 + ((IntKind.i64.wrap (shrW .u8 a2 3)).tmod 23)))).1) (((makeAC a0 (IntKind.i64.wrap (1 + ((IntKind.i64.wrap (shrW .u8 a2 3)).tmod 23)))).2).1) ((((makeAC a0 (IntKind.i64.wrap (1 + ((IntKind.i64.wrap (shrW .u8 a2 3)).tmod 23)))).2).2).1) (((((makeAC a0 (IntKind.i64.wrap (1 + ((IntKind.i64.wrap (shrW .u8 a2 3)).tmod 23)))).2).2).2).1) ((((((makeAC a0 (IntKind.i64.wrap (1 + ((IntKind.i64.wrap (shrW .u8 a2 3)).tmod 23)))).2).2).2).2).1) (((((((makeAC a0 (IntKind.i64.wrap (1 + ((IntKind.i64.wrap (shrW .u8 a2 3)).tmod 23)))).2).2).2).2).2).1) ((((((((makeAC a0 (IntKind.i64.wrap (1 + ((IntKind.i64.wrap (shrW .u8 a2 3)).tmod 23)))).2).2).2).2).2).2).1) ((((((((makeAC a0 (IntKind.i64.wrap (1 + ((IntKind.i64.wrap (shrW .u8 a2 3)).tmod 23)))).2).2).2).2).2).2).2) (makeAL a0 (IntKind.i64.wrap (1 + ((IntKind.i64.wrap (shrW .u8 a2 3)).tmod 23))) 12)
 else
 none := by kernel_rfl
theorem F310.n1_1_eq (n : Nat) (K : Conts) (p0 p1 : Int) (p2 p3 p4 p5 p6 : List Int) (p7 : Int) (p8 : List (List Int)) (p9 : Int) (p10 p11 p12 p13 p14 : List Int) (p15 : Int) (p16 p17 : List (List Int)) : F310.n1_1 n K p0 p1 p2 p3 p4 p5 p6 p7 p8 p9 p10 p11 p12 p13 p14 p15 p16 p17 =
  F310.n1_1_0 n (F310.k_n1_1 n K [0]) p0 p1 p2 p3 p4 p5 p6 p7 p8 p9 p10 p11 p12 p13 p14 p15 p16 p17 :=
 seq_cut (E := F310.E) (n := n) (c := subC [1, 1] F310.body) (a := subC [1, 1, 0] F310.body) (b := subC [1, 1, 1] F310.body) (by kernel_rfl)
theorem F310.n1_1_0_eq (n : Nat) (K : Conts) (p0 p1 : Int) (p2 p3 p4 p5 p6 : List Int) (p7 : Int) (p8 : List (List Int)) (p9 : Int) (p10 p11 p12 p13 p14 : List Int) (p15 : Int) (p16 p17 : List (List Int)) : F310.n1_1_0 n K p0 p1 p2 p3 p4 p5 p6 p7 p8 p9 p10 p11 p12 p13 p14 p15 p16 p17 =
 bif decide ((p0.tmod 5) = 0) then
 bif decide (0 ≤ (IntKind.i64.wrap ((p17.length : Int) - 1))) && decide ((IntKind.i64.wrap ((p17.length : Int) - 1)) ≤ p17.length) then
 K.nrm ⟨slots 95 [(4, .pb 0 0), (7, .pb 1 0), (8, .v (.sl (.sl (.int .i64))) (p17.take ((IntKind.i64.wrap ((p17.length : Int) - 1)).toNat))), (24, .v (.int .u8) (p0.tmod 5)), (25, .v .bool true), (27, .own 2), (28, .own 2), (29, .v (.int .i64) (p17.length : Int)), (30, .v (.int .i64) (IntKind.i64.wrap ((p17.length : Int) - 1))), (31, .v (.sl (.sl (.int .i64))) (p17.take ((IntKind.i64.wrap ((p17.length : Int) - 1)).toNat)))], [.box (bC p1 p2 p3 p4 p5 p6 p7 p8), .box (bC p9 p10 p11 p12 p13 p14 p15 p16), .frz (.sl (.int .i64)) p17, .hole]⟩
 else
 none
 else
 bif decide ((p0.tmod 5) = 1) then
 bif decide ((0 : Int) < p17.length) then
 K.nrm ⟨slots 95 [(4, .pb 0 0), (7, .pb 1 0), (8, .own 2), (24, .v (.int .u8) (p0.tmod 5)), (32, .v .bool true), (34, .own 2), (35, .pe 2 0 0)], [.box (bC p1 p2 p3 p4 p5 p6 p7 p8), .box (bC p9 p10 p11 p12 p13 p14 p15 p16), .row 30 (.sl (.int .i64)) (p17.set 0 [])]⟩
 else
 none
 else
 bif decide ((p0.tmod 5) = 2) then
 bif decide ((p17.length + [[1]].length) * 24 ≤ LIM) then
 K.nrm ⟨slots 95 [(4, .pb 0 0), (7, .pb 1 0), (8, .own 5), (24, .v (.int .u8) (p0.tmod 5)), (36, .v .bool true), (38, .own 2), (39, .own 3), (40, .own 4), (41, .own 5)], [.box (bC p1 p2 p3 p4 p5 p6 p7 p8), .box (bC p9 p10 p11 p12 p13 p14 p15 p16), .dead, .frz (.int .i64) ([1] : (List Int)), .row 30 (.sl (.int .i64)) ([[1]] : (List (List Int))), .row 30 (.sl (.int .i64)) (p17 ++ [[1]] : (List (List Int)))]⟩
 else
 none
 else
 bif decide ((p0.tmod 5) = 3) then
 bif decide (0 ≤ (if 5 < (p2.length : Int) then 5 else (p2.length : Int))) && decide ((if 5 < (p2.length : Int) then 5 else (p2.length : Int)) ≤ p2.length) then
 bif decide (0 ≤ (if 5 < (p3.length : Int) then 5 else (p3.length : Int))) && decide ((if 5 < (p3.length : Int) then 5 else (p3.length : Int)) ≤ p3.length) then
 bif decide (0 ≤ (if 5 < (p4.length : Int) then 5 else (p4.length : Int))) && decide ((if 5 < (p4.length : Int) then 5 else (p4.length : Int)) ≤ p4.length) then
 K.nrm ⟨slots 95 [(4, .pb 0 0), (7, .pb 1 0), (8, .own 2), (42, .v .bool true), (44, .pb 0 0), (45, .v (.int .i64) p1), (46, .pb 0 1), (47, .v (.sl (.int .i64)) p2), (48, .pb 0 1), (49, .v (.sl (.int .i64)) p2), (50, .v (.int .i64) (p2.length : Int)), (51, .v (.int .i64) (if 5 < (p2.length : Int) then 5 else (p2.length : Int) : Int)), (52, .v (.sl (.int .i64)) (p2.take ((if 5 < (p2.length : Int) then 5 else (p2.length : Int)).toNat) : (List Int))), (53, .pb 0 2), (54, .v (.sl (.int .i64)) p3), (55, .pb 0 2), (56, .v (.sl (.int .i64)) p3), (57, .v (.int .i64) (p3.length : Int)), (58, .v (.int .i64) (if 5 < (p3.length : Int) then 5 else (p3.length : Int) : Int)), (59, .v (.sl (.int .i64)) (p3.take ((if 5 < (p3.length : Int) then 5 else (p3.length : Int)).toNat) : (List Int))), (60, .pb 0 3), (61, .v (.sl (.int .i64)) p4), (62, .pb 0 3), (63, .v (.sl (.int .i64)) p4), (64, .v (.int .i64) (p4.length : Int)), (65, .v (.int .i64) (if 5 < (p4.length : Int) then 5 else (p4.length : Int) : Int)), (66, .v (.sl (.int .i64)) (p4.take ((if 5 < (p4.length : Int) then 5 else (p4.length : Int)).toNat) : (List Int))), (67, .pb 0 6), (68, .v (.int .i64) p7), (69, .agg [.v (.int .i64) p1, .v (.sl (.int .i64)) (p2.take ((if 5 < (p2.length : Int) then 5 else (p2.length : Int)).toNat) : (List Int)), .v (.sl (.int .i64)) (p3.take ((if 5 < (p3.length : Int) then 5 else (p3.length : Int)).toNat) : (List Int)), .v (.sl (.int .i64)) (p4.take ((if 5 < (p4.length : Int) then 5 else (p4.length : Int)).toNat) : (List Int)), .nl, .nl, .v (.int .i64) p7, .nl])], [.box (bC p1 p2 p3 p4 p5 p6 p7 p8), .box [.v (.int .i64) p1, .v (.sl (.int .i64)) (p2.take ((if 5 < (p2.length : Int) then 5 else (p2.length : Int)).toNat) : (List Int)), .v (.sl (.int .i64)) (p3.take ((if 5 < (p3.length : Int) then 5 else (p3.length : Int)).toNat) : (List Int)), .v (.sl (.int .i64)) (p4.take ((if 5 < (p4.length : Int) then 5 else (p4.length : Int)).toNat) : (List Int)), .nl, .nl, .v (.int .i64) p7, .nl], .row 30 (.sl (.int .i64)) p17, .hole, .hole, .hole, .hole, .hole, .hole, .hole, .hole, .hole, .hole, .hole, .hole, .hole, .hole]⟩
 else
 none
 else
 none
 else
 none
 else
 K.nrm ⟨slots 95 [(4, .pb 0 0), (7, .pb 1 0), (8, .own 2), (42, .v .bool false)], [.box (bC p1 p2 p3 p4 p5 p6 p7 p8), .box (bC p9 p10 p11 p12 p13 p14 p15 p16), .row 30 (.sl (.int .i64)) p17]⟩ := by kernel_rfl
theorem F310.c0 (n : Nat) (K : Conts) (p0 : List (List Int)) (p1 p2 p3 : Int) (p4 : List (List Int)) (p5 : Int) (p6 p7 p8 p9 p10 : List Int) (p11 : Int) (p12 : List (List Int)) (p13 : Int) (p14 p15 p16 p17 p18 : List Int) (p19 : Int) (p20 p21 : List (List Int)) : (F310.k_n1_1 n K [0]).nrm ⟨slots 95 [(4, .pb 0 0), (7, .pb 1 0), (8, .v (.sl (.sl (.int .i64))) p0), (24, .v (.int .u8) p1), (25, .v .bool true), (27, .own 2), (28, .own 2), (29, .v (.int .i64) p2), (30, .v (.int .i64) p3), (31, .v (.sl (.sl (.int .i64))) p4)], [.box [.v (.int .i64) p5, .v (.sl (.int .i64)) p6, .v (.sl (.int .i64)) p7, .v (.sl (.int .i64)) p8, .v (.sl (.int .i64)) p9, .v (.sl (.int .i64)) p10, .v (.int .i64) p11, .v (.sl (.sl (.int .i64))) p12], .box [.v (.int .i64) p13, .v (.sl (.int .i64)) p14, .v (.sl (.int .i64)) p15, .v (.sl (.int .i64)) p16, .v (.sl (.int .i64)) p17, .v (.sl (.int .i64)) p18, .v (.int .i64) p19, .v (.sl (.sl (.int .i64))) p20], .frz (.sl (.int .i64)) p21, .hole]⟩ =
  F310.n1_1_1 n (F310.k_n1_1 n K [1]) p0 p13 p14 p15 p16 p17 p18 p19 p20 := 
 nrm_cut (E := F310.E) (lp := loopF F310.E n) (b := subC [1, 1, 1] F310.body) (Kb := (F310.k_n1_1 n K [1])) (g := (F310.k_n1_1 n K [0]).nrm) (σ2 := ⟨slots 95 [(7, .pb 0 0), (8, .v (.sl (.sl (.int .i64))) p0)], [.box [.v (.int .i64) p13, .v (.sl (.int .i64)) p14, .v (.sl (.int .i64)) p15, .v (.sl (.int .i64)) p16, .v (.sl (.int .i64)) p17, .v (.sl (.int .i64)) p18, .v (.int .i64) p19, .v (.sl (.sl (.int .i64))) p20]]⟩) (fun σ => by kernel_rfl) (by kernel_rfl)
theorem F310.c1 (n : Nat) (K : Conts) (p0 : Int) (p1 : Nat) (p2 : Int) (p3 p4 p5 p6 p7 : List Int) (p8 : Int) (p9 : List (List Int)) (p10 : Int) (p11 p12 p13 p14 p15 : List Int) (p16 : Int) (p17 p18 : List (List Int)) : (F310.k_n1_1 n K [0]).nrm ⟨slots 95 [(4, .pb 0 0), (7, .pb 1 0), (8, .own 2), (24, .v (.int .u8) p0), (32, .v .bool true), (34, .own 2), (35, .pe 2 p1 0)], [.box [.v (.int .i64) p2, .v (.sl (.int .i64)) p3, .v (.sl (.int .i64)) p4, .v (.sl (.int .i64)) p5, .v (.sl (.int .i64)) p6, .v (.sl (.int .i64)) p7, .v (.int .i64) p8, .v (.sl (.sl (.int .i64))) p9], .box [.v (.int .i64) p10, .v (.sl (.int .i64)) p11, .v (.sl (.int .i64)) p12, .v (.sl (.int .i64)) p13, .v (.sl (.int .i64)) p14, .v (.sl (.int .i64)) p15, .v (.int .i64) p16, .v (.sl (.sl (.int .i64))) p17], .row 30 (.sl (.int .i64)) p18]⟩ =
  F310.n1_1_1b n (F310.k_n1_1 n K [1]) p10 p11 p12 p13 p14 p15 p16 p17 p18 := 
 nrm_cut (E := F310.E) (lp := loopF F310.E n) (b := subC [1, 1, 1] F310.body) (Kb := (F310.k_n1_1 n K [1])) (g := (F310.k_n1_1 n K [0]).nrm) (σ2 := ⟨slots 95 [(7, .pb 0 0), (8, .own 1)], [.box [.v (.int .i64) p10, .v (.sl (.int .i64)) p11, .v (.sl (.int .i64)) p12, .v (.sl (.int .i64)) p13, .v (.sl (.int .i64)) p14, .v (.sl (.int .i64)) p15, .v (.int .i64) p16, .v (.sl (.sl (.int .i64))) p17], .row 30 (.sl (.int .i64)) p18]⟩) (fun σ => by kernel_rfl) (by kernel_rfl)
theorem F310.c2 (n : Nat) (K : Conts) (p0 p1 : Int) (p2 p3 p4 p5 p6 : List Int) (p7 : Int) (p8 : List (List Int)) (p9 : Int) (p10 p11 p12 p13 p14 : List Int) (p15 : Int) (p16 : List (List Int)) (p17 : List Int) (p18 p19 : List (List Int)) : (F310.k_n1_1 n K [0]).nrm ⟨slots 95 [(4, .pb 0 0), (7, .pb 1 0), (8, .own 5), (24, .v (.int .u8) p0), (36, .v .bool true), (38, .own 2), (39, .own 3), (40, .own 4), (41, .own 5)], [.box [.v (.int .i64) p1, .v (.sl (.int .i64)) p2, .v (.sl (.int .i64)) p3, .v (.sl (.int .i64)) p4, .v (.sl (.int .i64)) p5, .v (.sl (.int .i64)) p6, .v (.int .i64) p7, .v (.sl (.sl (.int .i64))) p8], .box [.v (.int .i64) p9, .v (.sl (.int .i64)) p10, .v (.sl (.int .i64)) p11, .v (.sl (.int .i64)) p12, .v (.sl (.int .i64)) p13, .v (.sl (.int .i64)) p14, .v (.int .i64) p15, .v (.sl (.sl (.int .i64))) p16], .dead, .frz (.int .i64) p17, .row 30 (.sl (.int .i64)) p18, .row 30 (.sl (.int .i64)) p19]⟩ =
  F310.n1_1_1b n (F310.k_n1_1 n K [1]) p9 p10 p11 p12 p13 p14 p15 p16 p19 := 
 nrm_cut (E := F310.E) (lp := loopF F310.E n) (b := subC [1, 1, 1] F310.body) (Kb := (F310.k_n1_1 n K [1])) (g := (F310.k_n1_1 n K [0]).nrm) (σ2 := ⟨slots 95 [(7, .pb 0 0), (8, .own 1)], [.box [.v (.int .i64) p9, .v (.sl (.int .i64)) p10, .v (.sl (.int .i64)) p11, .v (.sl (.int .i64)) p12, .v (.sl (.int .i64)) p13, .v (.sl (.int .i64)) p14, .v (.int .i64) p15, .v (.sl (.sl (.int .i64))) p16], .row 30 (.sl (.int .i64)) p19]⟩) (fun σ => by kernel_rfl) (by kernel_rfl)
theorem F310.c3 (n : Nat) (K : Conts) (p0 : Int) (p1 p2 : List Int) (p3 p4 : Int) (p5 p6 p7 : List Int) (p8 p9 : Int) (p10 p11 p12 : List Int) (p13 p14 : Int) (p15 : List Int) (p16 p17 : Int) (p18 p19 p20 : List Int) (p21 p22 : Int) (p23 p24 p25 p26 p27 : List Int) (p28 : Int) (p29 : List (List Int)) (p30 : Int) (p31 p32 p33 : List Int) (p34 : Int) (p35 : List (List Int)) : (F310.k_n1_1 n K [0]).nrm ⟨slots 95 [(4, .pb 0 0), (7, .pb 1 0), (8, .own 2), (42, .v .bool true), (44, .pb 0 0), (45, .v (.int .i64) p0), (46, .pb 0 1), (47, .v (.sl (.int .i64)) p1), (48, .pb 0 1), (49, .v (.sl (.int .i64)) p2), (50, .v (.int .i64) p3), (51, .v (.int .i64) p4), (52, .v (.sl (.int .i64)) p5), (53, .pb 0 2), (54, .v (.sl (.int .i64)) p6), (55, .pb 0 2), (56, .v (.sl (.int .i64)) p7), (57, .v (.int .i64) p8), (58, .v (.int .i64) p9), (59, .v (.sl (.int .i64)) p10), (60, .pb 0 3), (61, .v (.sl (.int .i64)) p11), (62, .pb 0 3), (63, .v (.sl (.int .i64)) p12), (64, .v (.int .i64) p13), (65, .v (.int .i64) p14), (66, .v (.sl (.int .i64)) p15), (67, .pb 0 6), (68, .v (.int .i64) p16), (69, .agg [.v (.int .i64) p17, .v (.sl (.int .i64)) p18, .v (.sl (.int .i64)) p19, .v (.sl (.int .i64)) p20, .nl, .nl, .v (.int .i64) p21, .nl])], [.box [.v (.int .i64) p22, .v (.sl (.int .i64)) p23, .v (.sl (.int .i64)) p24, .v (.sl (.int .i64)) p25, .v (.sl (.int .i64)) p26, .v (.sl (.int .i64)) p27, .v (.int .i64) p28, .v (.sl (.sl (.int .i64))) p29], .box [.v (.int .i64) p30, .v (.sl (.int .i64)) p31, .v (.sl (.int .i64)) p32, .v (.sl (.int .i64)) p33, .nl, .nl, .v (.int .i64) p34, .nl], .row 30 (.sl (.int .i64)) p35, .hole, .hole, .hole, .hole, .hole, .hole, .hole, .hole, .hole, .hole, .hole, .hole, .hole, .hole]⟩ =
  F310.n1_1_1c n (F310.k_n1_1 n K [1]) p30 p31 p32 p33 p34 p35 := 
 nrm_cut (E := F310.E) (lp := loopF F310.E n) (b := subC [1, 1, 1] F310.body) (Kb := (F310.k_n1_1 n K [1])) (g := (F310.k_n1_1 n K [0]).nrm) (σ2 := ⟨slots 95 [(7, .pb 0 0), (8, .own 1)], [.box [.v (.int .i64) p30, .v (.sl (.int .i64)) p31, .v (.sl (.int .i64)) p32, .v (.sl (.int .i64)) p33, .nl, .nl, .v (.int .i64) p34, .nl], .row 30 (.sl (.int .i64)) p35]⟩) (fun σ => by kernel_rfl) (by kernel_rfl)
theorem F310.c4 (n : Nat) (K : Conts) (p0 : Int) (p1 p2 p3 p4 p5 : List Int) (p6 : Int) (p7 : List (List Int)) (p8 : Int) (p9 p10 p11 p12 p13 : List Int) (p14 : Int) (p15 p16 : List (List Int)) : (F310.k_n1_1 n K [0]).nrm ⟨slots 95 [(4, .pb 0 0), (7, .pb 1 0), (8, .own 2), (42, .v .bool false)], [.box [.v (.int .i64) p0, .v (.sl (.int .i64)) p1, .v (.sl (.int .i64)) p2, .v (.sl (.int .i64)) p3, .v (.sl (.int .i64)) p4, .v (.sl (.int .i64)) p5, .v (.int .i64) p6, .v (.sl (.sl (.int .i64))) p7], .box [.v (.int .i64) p8, .v (.sl (.int .i64)) p9, .v (.sl (.int .i64)) p10, .v (.sl (.int .i64)) p11, .v (.sl (.int .i64)) p12, .v (.sl (.int .i64)) p13, .v (.int .i64) p14, .v (.sl (.sl (.int .i64))) p15], .row 30 (.sl (.int .i64)) p16]⟩ =
  F310.n1_1_1b n (F310.k_n1_1 n K [1]) p8 p9 p10 p11 p12 p13 p14 p15 p16 := 
 nrm_cut (E := F310.E) (lp := loopF F310.E n) (b := subC [1, 1, 1] F310.body) (Kb := (F310.k_n1_1 n K [1])) (g := (F310.k_n1_1 n K [0]).nrm) (σ2 := ⟨slots 95 [(7, .pb 0 0), (8, .own 1)], [.box [.v (.int .i64) p8, .v (.sl (.int .i64)) p9, .v (.sl (.int .i64)) p10, .v (.sl (.int .i64)) p11, .v (.sl (.int .i64)) p12, .v (.sl (.int .i64)) p13, .v (.int .i64) p14, .v (.sl (.sl (.int .i64))) p15], .row 30 (.sl (.int .i64)) p16]⟩) (fun σ => by kernel_rfl) (by kernel_rfl)
theorem F310.n1_1_1_eq (n : Nat) (K : Conts) (p0 : List (List Int)) (p1 : Int) (p2 p3 p4 p5 p6 : List Int) (p7 : Int) (p8 : List (List Int)) : F310.n1_1_1 n K p0 p1 p2 p3 p4 p5 p6 p7 p8 =
 bif Nat.ble p0.length 1000 then
 bif linFB (p1, (p2, (p3, (p4, (p5, (p6, (p7, p8))))))) (domsL p0) then
 bif linRB (p1, (p2, (p3, (p4, (p5, (p6, (p7, p8))))))) p0 then
 bif ((linF (p1, (p2, (p3, (p4, (p5, (p6, (p7, p8))))))) (domsL p0)).2) == ((linR (p1, (p2, (p3, (p4, (p5, (p6, (p7, p8))))))) p0).2) then
 bif Nat.ble ((linF (p1, (p2, (p3, (p4, (p5, (p6, (p7, p8))))))) (domsL p0)).1).length 1000 && ((linF (p1, (p2, (p3, (p4, (p5, (p6, (p7, p8))))))) (domsL p0)).1).all listB then
 bif Nat.ble (listsL ((linF (p1, (p2, (p3, (p4, (p5, (p6, (p7, p8))))))) (domsL p0)).1)).length 1000 && lensB (listsL ((linF (p1, (p2, (p3, (p4, (p5, (p6, (p7, p8))))))) (domsL p0)).1)) then
 K.ret ⟨slots 95 [(6, .v .bool (sameL (listsL ((linF (p1, (p2, (p3, (p4, (p5, (p6, (p7, p8))))))) (domsL p0)).1)) ((linR (p1, (p2, (p3, (p4, (p5, (p6, (p7, p8))))))) p0).1)))], []⟩
 else
 none
 else
 none
 else
 K.ret ⟨slots 95 [(6, .v .bool false)], []⟩
 else
 none
 else
 none
 else
 none := by kernel_rfl
theorem F310.n1_1_1b_eq (n : Nat) (K : Conts) (p0 : Int) (p1 p2 p3 p4 p5 : List Int) (p6 : Int) (p7 p8 : List (List Int)) : F310.n1_1_1b n K p0 p1 p2 p3 p4 p5 p6 p7 p8 =
 bif Nat.ble p8.length 1000 then
 bif linFB (p0, (p1, (p2, (p3, (p4, (p5, (p6, p7))))))) (domsL p8) then
 bif linRB (p0, (p1, (p2, (p3, (p4, (p5, (p6, p7))))))) p8 then
 bif ((linF (p0, (p1, (p2, (p3, (p4, (p5, (p6, p7))))))) (domsL p8)).2) == ((linR (p0, (p1, (p2, (p3, (p4, (p5, (p6, p7))))))) p8).2) then
 bif Nat.ble ((linF (p0, (p1, (p2, (p3, (p4, (p5, (p6, p7))))))) (domsL p8)).1).length 1000 && ((linF (p0, (p1, (p2, (p3, (p4, (p5, (p6, p7))))))) (domsL p8)).1).all listB then
 bif Nat.ble (listsL ((linF (p0, (p1, (p2, (p3, (p4, (p5, (p6, p7))))))) (domsL p8)).1)).length 1000 && lensB (listsL ((linF (p0, (p1, (p2, (p3, (p4, (p5, (p6, p7))))))) (domsL p8)).1)) then
 K.ret ⟨slots 95 [(6, .v .bool (sameL (listsL ((linF (p0, (p1, (p2, (p3, (p4, (p5, (p6, p7))))))) (domsL p8)).1)) ((linR (p0, (p1, (p2, (p3, (p4, (p5, (p6, p7))))))) p8).1)))], []⟩
 else
 none
 else
 none
 else
 K.ret ⟨slots 95 [(6, .v .bool false)], []⟩
 else
 none
 else
 none
 else
 none := by kernel_rfl
theorem F310.n1_1_1c_eq (n : Nat) (K : Conts) (p0 : Int) (p1 p2 p3 : List Int) (p4 : Int) (p5 : List (List Int)) : F310.n1_1_1c n K p0 p1 p2 p3 p4 p5 =
 bif Nat.ble p5.length 1000 then
 bif linFB (p0, (p1, (p2, (p3, ([], ([], (p4, []))))))) (domsL p5) then
 bif linRB (p0, (p1, (p2, (p3, ([], ([], (p4, []))))))) p5 then
 bif ((linF (p0, (p1, (p2, (p3, ([], ([], (p4, []))))))) (domsL p5)).2) == ((linR (p0, (p1, (p2, (p3, ([], ([], (p4, []))))))) p5).2) then
 bif Nat.ble ((linF (p0, (p1, (p2, (p3, ([], ([], (p4, []))))))) (domsL p5)).1).length 1000 && ((linF (p0, (p1, (p2, (p3, ([], ([], (p4, []))))))) (domsL p5)).1).all listB then
 bif Nat.ble (listsL ((linF (p0, (p1, (p2, (p3, ([], ([], (p4, []))))))) (domsL p5)).1)).length 1000 && lensB (listsL ((linF (p0, (p1, (p2, (p3, ([], ([], (p4, []))))))) (domsL p5)).1)) then
 K.ret ⟨slots 95 [(6, .v .bool (sameL (listsL ((linF (p0, (p1, (p2, (p3, ([], ([], (p4, []))))))) (domsL p5)).1)) ((linR (p0, (p1, (p2, (p3, ([], ([], (p4, []))))))) p5).1)))], []⟩
 else
 none
 else
 none
 else
 K.ret ⟨slots 95 [(6, .v .bool false)], []⟩
 else
 none
 else
 none
 else
 none := by kernel_rfl
theorem F310.c5 (n : Nat) (K : Conts) (p0 : Bool) : (F310.k_n1_1 n K [1]).ret ⟨slots 95 [(6, .v .bool p0)], []⟩ =
 K.ret ⟨slots 95 [(6, .v .bool p0)], []⟩ := by kernel_rfl
theorem F310.c11 (k : Nat) (p0 : Bool) : (F310.kt k [1,1]).ret ⟨slots 95 [(6, .v .bool p0)], []⟩ =
 some (.v .bool p0) := by kernel_rfl
end Go.Proofs.YtnojoaghcbljfaaGreatDoor.Ev
