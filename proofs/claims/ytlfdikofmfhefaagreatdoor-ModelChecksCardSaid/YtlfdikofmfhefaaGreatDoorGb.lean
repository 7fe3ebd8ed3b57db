/-
The functions as the evaluator runs them: printed by a program of mine, each equation by kernel_rfl.
Conditions: none.
-/
import Derived.Test.YtlfdikofmfhefaaGreatDoorGh
set_option linter.unusedVariables false
set_option linter.unusedSimpArgs false
set_option maxRecDepth 100000
namespace Go.Proofs.YtlfdikofmfhefaaGreatDoor.Ev
open Go
noncomputable def F92.fn : Func := Go.Proofs.Tryz.f52
noncomputable def F92.E : Env := ⟨tt, [(54, h_has1), (60, h_withinD), (102, h_namedD)], [(1, [1, 2]), (2, [1, 2, 8]), (3, [1, 2]), (4, [1, 2, 5]), (5, [1, 2, 5, 50]), (6, [1, 2, 5])], [], some [4], inv, []⟩
theorem F92.start_eq (k : Nat) (kk : Int) (c : (List Int) × ((List Int) × ((List Int) × ((List Int) × ((List Int) × (Int × (List (List Int)))))))) (a1 : ByteArray) : callW F92.E false F92.fn k [.agg (bC kk c.1 c.2.1 c.2.2.1 c.2.2.2.1 c.2.2.2.2.1 c.2.2.2.2.2.1 c.2.2.2.2.2.2), .v .str a1] =
 bif decide (kk = 12) then
 bif withinD (IntKind.i64.wrap ((c.1.length : Int) + (c.2.1.length : Int))) 1 128 then
 bif decide ((if (c.2.1.length : Int) > (c.1.length : Int) then (c.2.1.length : Int) else (c.1.length : Int)) ≤ 64) then
 some (.v .bool (decide ((IntKind.i64.wrap ((IntKind.i64.wrap ((IntKind.i64.wrap ((c.2.2.1.length : Int) + (c.2.2.2.1.length : Int))) + (c.2.2.2.2.1.length : Int))) + (c.2.2.2.2.2.2.length : Int))) = 0)))
 else
 some (.v .bool false)
 else
 some (.v .bool false)
 else
 bif has1 a1 ⟨#[114]⟩ then
 bif withinD (c.2.2.2.2.2.2.length : Int) 1 1024 then
 bif namedD (c.1.length : Int) a1 ⟨#[118]⟩ ⟨#[86]⟩ then
 bif namedD (c.2.1.length : Int) a1 ⟨#[119]⟩ ⟨#[87]⟩ then
 bif namedD (c.2.2.1.length : Int) a1 ⟨#[45]⟩ ⟨#[99]⟩ then
 bif namedD (c.2.2.2.1.length : Int) a1 ⟨#[45]⟩ ⟨#[100]⟩ then some (.v .bool (namedD (c.2.2.2.2.1.length : Int) a1 ⟨#[45]⟩ ⟨#[101]⟩)) else some (.v .bool false)
 else
 some (.v .bool false)
 else
 some (.v .bool false)
 else
 some (.v .bool false)
 else
 some (.v .bool false)
 else
 bif decide ((c.2.2.2.2.2.2.length : Int) = 0) then
 bif namedD (c.1.length : Int) a1 ⟨#[118]⟩ ⟨#[86]⟩ then
 bif namedD (c.2.1.length : Int) a1 ⟨#[119]⟩ ⟨#[87]⟩ then
 bif namedD (c.2.2.1.length : Int) a1 ⟨#[45]⟩ ⟨#[99]⟩ then
 bif namedD (c.2.2.2.1.length : Int) a1 ⟨#[45]⟩ ⟨#[100]⟩ then some (.v .bool (namedD (c.2.2.2.2.1.length : Int) a1 ⟨#[45]⟩ ⟨#[101]⟩)) else some (.v .bool false)
 else
 some (.v .bool false)
 else
 some (.v .bool false)
 else
 some (.v .bool false)
 else
 some (.v .bool false) := by kernel_rfl
noncomputable def F93.fn : Func := Go.Proofs.Tryz.f53
noncomputable def F93.E : Env := ⟨tt, [(88, h_anyR)], [(1, [1]), (2, [1, 4]), (3, [1, 4, 5]), (4, [1, 4, 5]), (5, [1, 4, 5]), (6, [1, 4, 5]), (8, [1, 4, 17]), (10, [1, 4, 35]), (12, [1, 4, 53]), (13, [1, 4, 53]), (15, [1, 63]), (16, [])], [(0, [])], some [2], inv, []⟩
theorem F93.start_eq (k : Nat) (kk : Int) (c : (List Int) × ((List Int) × ((List Int) × ((List Int) × ((List Int) × (Int × (List (List Int)))))))) : callW F93.E false F93.fn k [.agg (bC kk c.1 c.2.1 c.2.2.1 c.2.2.2.1 c.2.2.2.2.1 c.2.2.2.2.2.1 c.2.2.2.2.2.2)] =
 bif decide (kk = 1) then
 some (.v .bool (decide ((c.2.2.1.length : Int) = (c.1.length : Int))))
 else
 bif decide (kk = 2) then
 some (.v .bool (decide ((c.2.2.1.length : Int) = (c.1.length : Int))))
 else
 bif decide (kk = 3) then
 some (.v .bool (decide ((c.2.2.1.length : Int) = (c.1.length : Int))))
 else
 bif decide (kk = 4) then
 some (.v .bool (decide ((c.2.2.1.length : Int) = (c.1.length : Int))))
 else
 bif decide (kk = 19) then
 bif decide ((c.2.2.1.length : Int) = (c.1.length : Int)) then some (.v .bool (decide ((c.2.2.2.1.length : Int) = (c.1.length : Int)))) else some (.v .bool false)
 else
 bif decide (kk = 21) then
 bif decide ((c.2.2.2.1.length : Int) = (c.2.2.1.length : Int)) then
 some (.v .bool (decide ((c.2.2.2.2.1.length : Int) = (c.2.2.1.length : Int))))
 else
 some (.v .bool false)
 else
 bif decide (kk = 22) then
 some (.v .bool (decide ((c.2.1.length : Int) = (c.1.length : Int))))
 else
 bif decide (kk = 23) then
 some (.v .bool (decide ((c.2.1.length : Int) = (c.1.length : Int))))
 else
 bif decide (kk = 18) then some (.v .bool (!(List.any c.2.2.2.2.2.2 (rowN (kk, c))))) else some (.v .bool true) := by kernel_rfl
noncomputable def F97.fn : Func := Go.Proofs.Tryz.f58
noncomputable def F97.body : Code := bodyOf F97.fn
noncomputable def F97.E : Env := ⟨tt, [(107, h_boundedD)], [(1, [1]), (2, [1, 3, 4, 5]), (3, [1, 3, 4, 5, 9]), (4, [1, 3, 4, 5, 9, 10]), (6, [1, 3, 4, 5, 12]), (7, [1, 3, 4, 5]), (8, [1, 3, 4, 5, 15, 16, 17]), (9, [1, 3, 4, 5, 15, 16, 17, 18]), (10, [1, 3, 4, 5, 7, 15, 16, 17]), (11, [1, 3, 4, 5, 15, 16, 17, 24]), (12, [1, 3, 4, 5, 15, 16, 17]), (13, [1, 3, 4, 5])], [(0, [1, 3, 4, 5]), (1, [1, 3, 4, 5]), (2, [1, 3, 4, 5, 15, 16, 17])], some [2], inv, []⟩
noncomputable def F97.K0 : Conts := { nrm := endW F97.E false F97.fn.results.toList, ret := endW F97.E false F97.fn.results.toList, ex := [] }
noncomputable def F97.kt (k : Nat) (q : List Nat) : Conts := contAt F97.E k F97.body F97.K0 q
noncomputable def F97.l1_1_1_0_1_0 (n : Nat) (K : Conts) (p0 p1 p2 : Int) (p3 : List (List Int)) (p4 p5 p6 : Int) (p7 p8 p9 p10 p11 : List Int) (p12 : Int) (p13 : List (List Int)) : Option AV := loopF F97.E n (inLoop (subC [1,1,1,0,1,0] F97.body)) K ⟨slots 53 [(1, .pb 0 0), (3, .v (.int .i64) p0), (4, .v (.int .i64) p1), (5, .v (.int .i64) p2), (15, .v (.sl (.sl (.int .i64))) p3), (16, .v (.int .i64) p4), (17, .v (.int .i64) p5)], [.box (bC p6 p7 p8 p9 p10 p11 p12 p13)]⟩
theorem F97.start_eq (k : Nat) (kk : Int) (c : (List Int) × ((List Int) × ((List Int) × ((List Int) × ((List Int) × (Int × (List (List Int)))))))) : callW F97.E false F97.fn k [.agg (bC kk c.1 c.2.1 c.2.2.1 c.2.2.2.1 c.2.2.2.2.1 c.2.2.2.2.2.1 c.2.2.2.2.2.2)] =
 bif decide (kk = 19) then
 F97.l1_1_1_0_1_0 k (F97.kt k [1,1,1,0,1,0]) 0 0 0 c.2.2.2.2.2.2 (c.2.2.2.2.2.2.length : Int) 0 kk c.1 c.2.1 c.2.2.1 c.2.2.2.1 c.2.2.2.2.1 c.2.2.2.2.2.1 c.2.2.2.2.2.2
 else
 bif decide (kk = 21) then
 F97.l1_1_1_0_1_0 k (F97.kt k [1,1,1,0,1,0]) (-1000000 : Int) 0 (-9999999999 : Int) c.2.2.2.2.2.2 (c.2.2.2.2.2.2.length : Int) 0 kk c.1 c.2.1 c.2.2.1 c.2.2.2.1 c.2.2.2.2.1 c.2.2.2.2.2.1 c.2.2.2.2.2.2
 else
 F97.l1_1_1_0_1_0 k (F97.kt k [1,1,1,0,1,0]) (-1000000 : Int) (-1000000 : Int) (-9999999999 : Int) c.2.2.2.2.2.2 (c.2.2.2.2.2.2.length : Int) 0 kk c.1 c.2.1 c.2.2.1 c.2.2.2.1 c.2.2.2.2.1 c.2.2.2.2.2.1 c.2.2.2.2.2.2 := by kernel_rfl
theorem F97.l1_1_1_0_1_0_eq (n : Nat) (K : Conts) (p0 p1 p2 : Int) (p3 : List (List Int)) (p4 p5 p6 : Int) (p7 p8 p9 p10 p11 : List Int) (p12 : Int) (p13 : List (List Int)) : F97.l1_1_1_0_1_0 (n + 1) K p0 p1 p2 p3 p4 p5 p6 p7 p8 p9 p10 p11 p12 p13 =
 bif decide (p5 < p4) then
 bif decide (0 ≤ p5) && decide (p5 < p3.length) then
 bif !(boundedD (p3.getD p5.toNat []) p0) then
 K.ret ⟨slots 53 [(2, .v .bool false)], []⟩
 else
 F97.l1_1_1_0_1_0 n K p0 p1 p2 p3 p4 (IntKind.i64.wrap (p5 + 1)) p6 p7 p8 p9 p10 p11 p12 p13
 else
 none
 else
 exitK K 1 ⟨slots 53 [(1, .pb 0 0), (3, .v (.int .i64) p0), (4, .v (.int .i64) p1), (5, .v (.int .i64) p2)], [.box (bC p6 p7 p8 p9 p10 p11 p12 p13)]⟩ := by kernel_rfl
theorem F97.c0 (k : Nat) : (F97.kt k [1,1,1,0,1,0]).ret ⟨slots 53 [(2, .v .bool false)], []⟩ =
 some (.v .bool false) := by kernel_rfl
theorem F97.c1 (k : Nat) (p0 p1 p2 p3 : Int) (p4 p5 p6 p7 p8 : List Int) (p9 : Int) (p10 : List (List Int)) : exitK (F97.kt k [1,1,1,0,1,0]) 1 ⟨slots 53 [(1, .pb 0 0), (3, .v (.int .i64) p0), (4, .v (.int .i64) p1), (5, .v (.int .i64) p2)], [.box (bC p3 p4 p5 p6 p7 p8 p9 p10)]⟩ =
 bif boundedD p6 p0 then
 bif boundedD p7 p1 then
 bif boundedD p8 p1 then
 bif decide (p9 ≥ p2) then some (.v .bool (decide (p9 ≤ 9999999999))) else some (.v .bool false)
 else
 some (.v .bool false)
 else
 some (.v .bool false)
 else
 some (.v .bool false) := by kernel_rfl
noncomputable def F98.fn : Func := Go.Proofs.Tryz.f59
noncomputable def F98.body : Code := bodyOf F98.fn
noncomputable def F98.E : Env := ⟨tt, [(108, h_sorted), (109, h_values)], [(1, [1]), (2, [1, 7]), (3, [1]), (4, [1, 3]), (5, [1, 3, 14, 15]), (6, [1, 3, 14, 15, 16]), (7, [1, 3, 4, 14, 15]), (8, [1, 3, 14, 15, 44]), (9, [1, 3, 14, 15]), (10, [])], [(0, []), (1, [1, 3, 14, 15])], some [2], inv, []⟩
noncomputable def F98.K0 : Conts := { nrm := endW F98.E false F98.fn.results.toList, ret := endW F98.E false F98.fn.results.toList, ex := [] }
noncomputable def F98.kt (k : Nat) (q : List Nat) : Conts := contAt F98.E k F98.body F98.K0 q
noncomputable def F98.l1_1_1_0_1_0 (n : Nat) (K : Conts) (p0 p1 p2 : Int) (p3 p4 p5 p6 p7 : List Int) (p8 : Int) (p9 : List (List Int)) (p10 : List Int) : Option AV := loopF F98.E n (inLoop (subC [1,1,1,0,1,0] F98.body)) K ⟨slots 46 [(1, .pb 0 0), (3, .own 1), (14, .v (.int .i64) p0), (15, .v (.int .i64) p1)], [.box (bC p2 p3 p4 p5 p6 p7 p8 p9), .row 3 (.int .i64) p10]⟩
theorem F98.start_eq (k : Nat) (kk : Int) (c : (List Int) × ((List Int) × ((List Int) × ((List Int) × ((List Int) × (Int × (List (List Int)))))))) : callW F98.E false F98.fn k [.agg (bC kk c.1 c.2.1 c.2.2.1 c.2.2.2.1 c.2.2.2.2.1 c.2.2.2.2.2.1 c.2.2.2.2.2.2)] =
 bif !(decide (kk = 21)) then
 some (.v .bool true)
 else
 bif sortB c.2.2.1 then
 F98.l1_1_1_0_1_0 k (F98.kt k [1,1,1,0,1,0]) (c.2.2.1.length : Int) 0 kk c.1 c.2.1 c.2.2.1 c.2.2.2.1 c.2.2.2.2.1 c.2.2.2.2.2.1 c.2.2.2.2.2.2 (sortL c.2.2.1)
 else
 none := by kernel_rfl
theorem F98.l1_1_1_0_1_0_eq (n : Nat) (K : Conts) (p0 p1 p2 : Int) (p3 p4 p5 p6 p7 : List Int) (p8 : Int) (p9 : List (List Int)) (p10 : List Int) : F98.l1_1_1_0_1_0 (n + 1) K p0 p1 p2 p3 p4 p5 p6 p7 p8 p9 p10 =
 bif decide (p1 < p0) then
 bif decide (0 ≤ p1) && decide (p1 < p6.length) then
 bif decide (0 ≤ p1) && decide (p1 < p7.length) then
 bif decide ((p6.getD p1.toNat (0 : Int)) > (p7.getD p1.toNat (0 : Int))) then
 K.ret ⟨slots 46 [(2, .v .bool false)], []⟩
 else
 bif decide (p1 > 0) then
 bif decide (0 ≤ p1) && decide (p1 < p10.length) then
 bif decide (0 ≤ (IntKind.i64.wrap (p1 - 1))) && decide ((IntKind.i64.wrap (p1 - 1)) < p10.length) then
 bif decide ((p10.getD p1.toNat (0 : Int)) = (p10.getD ((IntKind.i64.wrap (p1 - 1)).toNat) (0 : Int))) then
 K.ret ⟨slots 46 [(2, .v .bool false)], []⟩
 else
 F98.l1_1_1_0_1_0 n K p0 (IntKind.i64.wrap (p1 + 1)) p2 p3 p4 p5 p6 p7 p8 p9 p10
 else
 none
 else
 none
 else
 F98.l1_1_1_0_1_0 n K p0 (IntKind.i64.wrap (p1 + 1)) p2 p3 p4 p5 p6 p7 p8 p9 p10
 else
 none
 else
 none
 else
 exitK K 0 ⟨slots 46 [], []⟩ := by kernel_rfl
theorem F98.c0 (k : Nat) : (F98.kt k [1,1,1,0,1,0]).ret ⟨slots 46 [(2, .v .bool false)], []⟩ =
 some (.v .bool false) := by kernel_rfl
theorem F98.c1 (k : Nat) : exitK (F98.kt k [1,1,1,0,1,0]) 0 ⟨slots 46 [], []⟩ =
 some (.v .bool true) := by kernel_rfl
noncomputable def F76.fn : Func := Go.Proofs.Tryz.f23
noncomputable def F76.E : Env := ⟨tt, [(31, h_shapeS), (52, h_countedG), (53, h_alikeG), (54, h_has1), (55, h_any), (56, h_varsD), (58, h_numbersG), (59, h_countsG)], [(1, [2, 3]), (2, [2, 3, 5]), (3, [2, 3, 5, 9]), (5, [2, 3, 12]), (7, [2, 32]), (9, [37]), (10, [])], [(0, [])], some [4], inv, []⟩
theorem F76.start_eq (k : Nat) (kk : Int) (c : (List Int) × ((List Int) × ((List Int) × ((List Int) × ((List Int) × (Int × (List (List Int)))))))) (a1 : Int) : callW F76.E false F76.fn k [.agg (bC kk c.1 c.2.1 c.2.2.1 c.2.2.2.1 c.2.2.2.2.1 c.2.2.2.2.2.1 c.2.2.2.2.2.2), .v (.int .i64) a1] =
 bif strEq (shapeS kk) ⟨#[]⟩ then
 some (.v (.int .i64) (9 : Int))
 else
 bif smallC (kk, c) then
 bif !(countedG (kk, c) (shapeS kk)) then
 some (.v (.int .i64) (10 : Int))
 else
 bif smallC (kk, c) then
 bif !(alikeG (kk, c)) then
 some (.v (.int .i64) (10 : Int))
 else
 bif !(decide (c.2.2.2.2.2.1 = 0)) then
 bif !(has1 (shapeS kk) ⟨#[107]⟩) then
 some (.v (.int .i64) (10 : Int))
 else
 bif varsB (kk, c) then
 bif List.any (varsD (kk, c)) (varB a1) then
 some (.v (.int .i64) (7 : Int))
 else
 bif smallC (kk, c) then
 bif !(numbersG (kk, c)) then
 some (.v (.int .i64) (11 : Int))
 else
 bif countsB (kk, c) then
 bif !(countsG (kk, c)) then some (.v (.int .i64) (11 : Int)) else some (.v (.int .i64) (0 : Int))
 else
 none
 else
 none
 else
 none
 else
 bif varsB (kk, c) then
 bif List.any (varsD (kk, c)) (varB a1) then
 some (.v (.int .i64) (7 : Int))
 else
 bif smallC (kk, c) then
 bif !(numbersG (kk, c)) then
 some (.v (.int .i64) (11 : Int))
 else
 bif countsB (kk, c) then
 bif !(countsG (kk, c)) then some (.v (.int .i64) (11 : Int)) else some (.v (.int .i64) (0 : Int))
 else
 none
 else
 none
 else
 none
 else
 none
 else
 none := by kernel_rfl
end Go.Proofs.YtlfdikofmfhefaaGreatDoor.Ev
