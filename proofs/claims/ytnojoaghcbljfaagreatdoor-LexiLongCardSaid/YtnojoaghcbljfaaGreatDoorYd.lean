/-
Sorting, and leaving out what is there twice: data and handlers.
Conditions: none.
The functions as the evaluator runs them: printed by a program of mine, each equation by kernel_rfl.
Conditions: none.
-/
import Derived.Test.YtnojoaghcbljfaaGreatDoorAa
import Derived.Test.YtnojoaghcbljfaaGreatDoorCg
set_option linter.unusedVariables false
namespace Go.Proofs.YtnojoaghcbljfaaGreatDoor.Ev
open Go
def h_sortF (args : List AV) (e : Nat) : (t : Ty) → List t.D → (Option AV → List t.D → Option AV) → Option AV
 | .int .i64, xs, κ => (match args with
  | [.un] => bif Nat.beq e 3 && (!(List.isEmpty xs) && Nat.ble (List.length xs) 1000) then κ (some (.tup [])) (sortL xs) else none
  | _ => none)
 | _, _, _ => none
def h_sort : MHand := (0, h_sortF)
def h_compF (args : List AV) (e : Nat) : (t : Ty) → List t.D → (Option AV → List t.D → Option AV) → Option AV
 | .int .i64, xs, κ => (match args with
  | [.un] => bif Nat.beq e 3 && (!(List.isEmpty xs) && Nat.ble (List.length xs) 1000) then κ none (compL xs) else none
  | _ => none)
 | _, _, _ => none
def h_comp : MHand := (0, h_compF)
end Go.Proofs.YtnojoaghcbljfaaGreatDoor.Ev
set_option linter.unusedVariables false
set_option linter.unusedSimpArgs false
set_option maxRecDepth 100000
namespace Go.Proofs.YtnojoaghcbljfaaGreatDoor.Ev
open Go
noncomputable def F47.fn : Func := Go.Proofs.Tryz.f38
noncomputable def F47.body : Code := bodyOf F47.fn
noncomputable def F47.E : Env := ⟨tt, [], [(1, [0, 1]), (2, [0, 1, 10]), (3, [0, 1]), (4, [0, 1, 12, 13]), (5, [0, 1, 12, 13, 14]), (6, [0, 1, 5, 12, 13]), (7, [0, 1, 12, 13, 24]), (8, [0, 1, 12, 13]), (9, [])], [(0, []), (1, [0, 1, 12, 13])], some [4], inv, []⟩
noncomputable def F47.K0 : Conts := { nrm := endW F47.E false F47.fn.results.toList, ret := endW F47.E false F47.fn.results.toList, ex := [] }
noncomputable def F47.kt (k : Nat) (q : List Nat) : Conts := contAt F47.E k F47.body F47.K0 q
noncomputable def F47.l1_1_0_1_0 (n : Nat) (K : Conts) (p0 p1 : List Int) (p2 p3 : Int) : Option AV := loopF F47.E n (inLoop (subC [1,1,0,1,0] F47.body)) K ⟨slots 26 [(0, .v (.sl (.int .i64)) p0), (1, .v (.sl (.int .i64)) p1), (12, .v (.int .i64) p2), (13, .v (.int .i64) p3)], []⟩
theorem F47.start_eq (k : Nat) (a0 a1 : List Int) : callW F47.E false F47.fn k [.v (.sl (.int .i64)) a0, .v (.sl (.int .i64)) a1] =
 bif !(decide ((a0.length : Int) = (a1.length : Int))) then some (.v .bool false) else F47.l1_1_0_1_0 k (F47.kt k [1,1,0,1,0]) a0 a1 (a0.length : Int) 0 := by kernel_rfl
theorem F47.l1_1_0_1_0_eq (n : Nat) (K : Conts) (p0 p1 : List Int) (p2 p3 : Int) : F47.l1_1_0_1_0 (n + 1) K p0 p1 p2 p3 =
 bif decide (p3 < p2) then
 bif decide (0 ≤ p3) && decide (p3 < p0.length) then
 bif decide (0 ≤ p3) && decide (p3 < p1.length) then
 bif !(decide ((p0.getD p3.toNat (0 : Int)) = (p1.getD p3.toNat (0 : Int)))) then
 K.ret ⟨slots 26 [(4, .v .bool false)], []⟩
 else
 F47.l1_1_0_1_0 n K p0 p1 p2 (IntKind.i64.wrap (p3 + 1))
 else
 none
 else
 none
 else
 exitK K 0 ⟨slots 26 [], []⟩ := by kernel_rfl
theorem F47.c0 (k : Nat) : (F47.kt k [1,1,0,1,0]).ret ⟨slots 26 [(4, .v .bool false)], []⟩ =
 some (.v .bool false) := by kernel_rfl
theorem F47.c1 (k : Nat) : exitK (F47.kt k [1,1,0,1,0]) 0 ⟨slots 26 [], []⟩ =
 some (.v .bool true) := by kernel_rfl
noncomputable def F337.fn : Func := Go.Proofs.Tryz.f37
noncomputable def F337.body : Code := bodyOf F337.fn
noncomputable def F337.E : Env := ⟨tt, [], [(1, [0]), (2, [0, 3]), (3, [0, 3, 9]), (4, [0, 3]), (5, [3, 14, 15, 16, 30003]), (6, [3, 14, 15, 16, 17]), (7, [3, 5, 14, 15, 16]), (8, [3, 14, 15, 16]), (9, [3]), (10, [3])], [(0, [3]), (1, [3, 14, 15, 16])], some [2], inv, [(44, h_sort), (45, h_comp)]⟩
noncomputable def F337.K0 : Conts := { nrm := endW F337.E false F337.fn.results.toList, ret := endW F337.E false F337.fn.results.toList, ex := [] }
noncomputable def F337.kt (k : Nat) (q : List Nat) : Conts := contAt F337.E k F337.body F337.K0 q
noncomputable def F337.l1_1_0_1_0_1_1_0 (n : Nat) (K : Conts) (p0 : List Int) (p1 p2 : Int) (p3 : List Int) : Option AV := loopF F337.E n (inLoop (subC [1,1,0,1,0,1,1,0] F337.body)) K ⟨slots 30 [(3, .own 0), (14, .v (.sl (.int .i8)) p0), (15, .v (.int .i64) p1), (16, .v (.int .i64) p2)], [.row 3 (.int .i64) p3]⟩
noncomputable def F337.n1_1_1 (n : Nat) (K : Conts) (p0 : List Int) : Option AV := runC F337.E (loopF F337.E n) (subC [1,1,1] F337.body) K ⟨slots 30 [(3, .own 0)], [.row 3 (.int .i64) p0]⟩
theorem F337.start_eq (k : Nat) (a0 : List Int) : callW F337.E false F337.fn k [.v (.sl (.int .i8)) a0] =
 bif decide ((a0.length : Int) > 0) then
 bif decide (0 ≤ (if 5 < (a0.length : Int) then 5 else (a0.length : Int))) && decide ((if 5 < (a0.length : Int) then 5 else (a0.length : Int)) ≤ a0.length) then
 F337.l1_1_0_1_0_1_1_0 k (F337.kt k [1,1,0,1,0,1,1,0]) (a0.take ((if 5 < (a0.length : Int) then 5 else (a0.length : Int)).toNat)) ((a0.take ((if 5 < (a0.length : Int) then 5 else (a0.length : Int)).toNat)).length : Int) 0 []
 else
 none
 else
 F337.n1_1_1 k (F337.kt k [1,1,1]) [3] := by kernel_rfl
theorem F337.l1_1_0_1_0_1_1_0_eq (n : Nat) (K : Conts) (p0 : List Int) (p1 p2 : Int) (p3 : List Int) : F337.l1_1_0_1_0_1_1_0 (n + 1) K p0 p1 p2 p3 =
 bif decide (p2 < p1) then
 bif decide (0 ≤ p2) && decide (p2 < p0.length) then
 bif decide ((p3.length + [IntKind.i64.wrap (p0.getD p2.toNat (0 : Int))].length) * 8 ≤ LIM) then
 F337.l1_1_0_1_0_1_1_0 n K p0 p1 (IntKind.i64.wrap (p2 + 1)) (p3 ++ [IntKind.i64.wrap (p0.getD p2.toNat (0 : Int))])
 else
 none
 else
 none
 else
 exitK K 0 ⟨slots 30 [(3, .own 0)], [.row 3 (.int .i64) p3]⟩ := by kernel_rfl
theorem F337.n1_1_1_eq (n : Nat) (K : Conts) (p0 : List Int) : F337.n1_1_1 n K p0 =
 bif !(List.isEmpty p0) && Nat.ble (List.length p0) 1000 then
 bif !(List.isEmpty (sortL p0)) && Nat.ble (List.length (sortL p0)) 1000 then K.ret ⟨slots 30 [(2, .own 0)], [.row 3 (.int .i64) (compL (sortL p0))]⟩ else none
 else
 none := by kernel_rfl
theorem F337.c0 (k : Nat) (p0 : List Int) : exitK (F337.kt k [1,1,0,1,0,1,1,0]) 0 ⟨slots 30 [(3, .own 0)], [.row 3 (.int .i64) p0]⟩ =
 F337.n1_1_1 k (F337.kt k [1,1,1]) p0 := by kernel_rfl
theorem F337.c1 (k : Nat) (p0 : List Int) : (F337.kt k [1,1,1]).ret ⟨slots 30 [(2, .own 0)], [.row 3 (.int .i64) p0]⟩ =
 some (.v (.sl (.int .i64)) p0) := by kernel_rfl
noncomputable def F308.fn : Func := Go.Proofs.Tryz.f8
noncomputable def F308.body : Code := bodyOf F308.fn
noncomputable def F308.E : Env := ⟨tt, [(15, h_containsL), (18, h_cloneR), (23, h_listD), (25, h_lexiF), (26, h_doms326), (28, h_wakes328), (37, h_risingL), (38, h_eqL)], [(1, [1]), (2, [1, 3]), (3, [1, 3, 4]), (4, [1, 3, 4, 5]), (5, [3, 4, 5, 6]), (6, [3, 4, 5, 6, 7]), (7, [3, 4, 5, 6, 7, 8, 9]), (8, [3, 4, 5, 6, 7, 8, 9, 38, 39, 200030007, 300030007, 300008, 300009]), (9, [3, 4, 5, 6, 7, 8, 9, 38, 39, 40]), (10, [3, 4, 5, 6, 7, 8, 9, 10, 38, 39]), (12, [3, 4, 5, 6, 7, 8, 9, 10, 38, 39]), (13, [3, 4, 5, 6, 7, 8, 9, 10, 38, 39, 64]), (15, [3, 4, 5, 6, 7, 8, 9, 38, 39, 78]), (16, [3, 4, 5, 6, 7, 8, 9, 38, 39]), (17, [3, 4, 5, 6, 7, 8, 9]), (18, [3, 4, 5, 6, 11, 12]), (19, [3, 4, 5, 6, 11, 12, 13, 14]), (20, [3, 4, 5, 6, 11, 12, 13, 14, 15, 16]), (21, [3, 4, 6, 11, 12, 13, 14, 15, 16, 110, 111, 112, 30015]), (22, [3, 4, 6, 11, 12, 13, 14, 15, 16, 110, 111, 112, 113]), (23, [3, 4, 6, 11, 12, 13, 14, 15, 16, 18, 110, 111, 112]), (24, [3, 4, 6, 11, 12, 13, 14, 15, 16, 18, 110, 111, 112, 128]), (25, [3, 4, 6, 11, 12, 13, 14, 15, 16, 110, 111, 112]), (26, [3, 4, 6, 11, 12, 14, 15, 16]), (27, [3, 4, 11, 12, 14, 15, 16, 134, 135, 136, 30016]), (28, [3, 4, 11, 12, 14, 15, 16, 134, 135, 136, 137]), (29, [3, 4, 11, 12, 14, 15, 16, 20, 134, 135, 136]), (30, [3, 4, 11, 12, 14, 15, 16, 20, 134, 135, 136, 147]), (31, [3, 4, 11, 12, 14, 15, 16, 134, 135, 136]), (32, [3, 4, 11, 12, 15, 16]), (33, [3, 4, 11, 12, 15, 16, 160]), (34, [3, 4, 11, 12, 15, 16])], [(0, [3, 4, 5, 6, 7, 8, 9]), (1, [3, 4, 5, 6, 7, 8, 9, 38, 39]), (2, [3, 4, 5, 6, 7, 8, 9, 38, 39]), (3, [3, 4, 6, 11, 12, 14, 15, 16]), (4, [3, 4, 6, 11, 12, 13, 14, 15, 16, 110, 111, 112]), (5, [3, 4, 11, 12, 15, 16]), (6, [3, 4, 11, 12, 14, 15, 16, 134, 135, 136])], some [2], inv, []⟩
noncomputable def F308.K0 : Conts := { nrm := endW F308.E false F308.fn.results.toList, ret := endW F308.E false F308.fn.results.toList, ex := [] }
noncomputable def F308.kt (k : Nat) (q : List Nat) : Conts := contAt F308.E k F308.body F308.K0 q
noncomputable def F308.l1_1_1_1_1_1_1_0_1_0 (n : Nat) (K : Conts) (p0 p1 : Int) (p2 p3 : List Int) (p4 p5 p6 p7 : Int) (p8 p9 : List (List Int)) (p10 p11 : List Int) : Option AV := loopF F308.E n (inLoop (subC [1,1,1,1,1,1,1,0,1,0] F308.body)) K ⟨slots 197 [(3, .v (.int .i64) p0), (4, .v (.int .i64) p1), (5, .v (.sl (.int .i64)) p2), (6, .v (.sl (.int .i64)) p3), (7, .pb 0 0), (8, .own 1), (9, .own 2), (38, .v (.int .i64) p4), (39, .v (.int .i64) p5)], [.box [.v (.int .i64) p6, .own 3, .own 4, .nl, .nl, .nl, .v (.int .i64) p7, .nl], .row 30 (.sl (.int .i64)) p8, .row 30 (.sl (.int .i64)) p9, .row 3 (.int .i64) p10, .row 3 (.int .i64) p11]⟩
noncomputable def F308.l1_1_1_1_1_1_1_1_1_1_1_0_1_0 (n : Nat) (K : Conts) (p0 p1 : Int) (p2 : List Int) (p3 : List Dom) (p4 : Bool) (p5 p6 : Int) (p7 : List Int) (p8 p9 : Int) (p10 : List Int) : Option AV := loopF F308.E n (inLoop (subC [1,1,1,1,1,1,1,1,1,1,1,0,1,0] F308.body)) K ⟨slots 197 [(3, .v (.int .i64) p0), (4, .v (.int .i64) p1), (6, .v (.sl (.int .i64)) p2), (11, .v (.sl DomT) p3), (12, .v .bool p4), (13, .v (.int .i64) p5), (14, .v (.int .i64) p6), (15, .own 0), (16, .nl), (110, .v (.sl (.int .i64)) p7), (111, .v (.int .i64) p8), (112, .v (.int .i64) p9)], [.row 3 (.int .i64) p10]⟩
noncomputable def F308.l1_1_1_1_1_1_1_1_1_1_1_1_0_1_0 (n : Nat) (K : Conts) (p0 p1 : Int) (p2 : List Dom) (p3 : Bool) (p4 : Int) (p5 : List Int) (p6 p7 : Int) (p8 p9 : List Int) : Option AV := loopF F308.E n (inLoop (subC [1,1,1,1,1,1,1,1,1,1,1,1,0,1,0] F308.body)) K ⟨slots 197 [(3, .v (.int .i64) p0), (4, .v (.int .i64) p1), (11, .v (.sl DomT) p2), (12, .v .bool p3), (14, .v (.int .i64) p4), (15, .own 0), (16, .own 1), (134, .v (.sl (.int .i64)) p5), (135, .v (.int .i64) p6), (136, .v (.int .i64) p7)], [.row 3 (.int .i64) p8, .row 3 (.int .i64) p9]⟩
theorem F308.start_eq (k : Nat) (a0 : Int × (Int × ((List Int) × (List Int)))) : callW F308.E false F308.fn k [.agg [.v (.int .u8) a0.1, .v (.int .u8) a0.2.1, .v (.sl (.int .i8)) a0.2.2.1, .v (.sl (.int .i8)) a0.2.2.2]] =
 bif !decide (IntKind.i64.wrap (1 + (IntKind.i64.wrap (a0.1.tmod 30))) = 0) then
 F308.l1_1_1_1_1_1_1_0_1_0 k (F308.kt k [1,1,1,1,1,1,1,0,1,0]) (IntKind.i64.wrap (1 + (IntKind.i64.wrap (a0.1.tmod 30)))) ((IntKind.i64.wrap a0.2.1).tmod (IntKind.i64.wrap (1 + (IntKind.i64.wrap (a0.1.tmod 30))))) (risingL a0.2.2.1) (risingL a0.2.2.2) (IntKind.i64.wrap (1 + (IntKind.i64.wrap (a0.1.tmod 30)))) 0 22 (0 : Int) [] [] [] []
 else
 none := by kernel_rfl
theorem F308.l1_1_1_1_1_1_1_0_1_0_eq (n : Nat) (K : Conts) (p0 p1 : Int) (p2 p3 : List Int) (p4 p5 p6 p7 : Int) (p8 p9 : List (List Int)) (p10 p11 : List Int) : F308.l1_1_1_1_1_1_1_0_1_0 (n + 1) K p0 p1 p2 p3 p4 p5 p6 p7 p8 p9 p10 p11 =
 bif decide (p5 < p4) then
 bif decide ((p10.length + [p5].length) * 8 ≤ LIM) then
 bif decide ((p11.length + [IntKind.i64.wrap (p0 + p5)].length) * 8 ≤ LIM) then
 bif decide (p5 < p1) then
 bif decide ((p8.length + [[p5]].length) * 24 ≤ LIM) then
 bif decide ((p9.length + [[p5]].length) * 24 ≤ LIM) then
 F308.l1_1_1_1_1_1_1_0_1_0 n K p0 p1 p2 p3 p4 (IntKind.i64.wrap (p5 + 1)) p6 p7 (p8 ++ [[p5]]) (p9 ++ [[p5]]) (p10 ++ [p5]) (p11 ++ [IntKind.i64.wrap (p0 + p5)])
 else
 none
 else
 none
 else
 bif decide (p5 = p1) then
 bif decide ((p8.length + [p2].length) * 24 ≤ LIM) then
 bif decide ((p9.length + [p3].length) * 24 ≤ LIM) then
 F308.l1_1_1_1_1_1_1_0_1_0 n K p0 p1 p2 p3 p4 (IntKind.i64.wrap (p5 + 1)) p6 p7 (p8 ++ [p2]) (p9 ++ [p3]) (p10 ++ [p5]) (p11 ++ [IntKind.i64.wrap (p0 + p5)])
 else
 none
 else
 none
 else
 bif decide ((p8.length + [[0,1]].length) * 24 ≤ LIM) then
 bif decide ((p9.length + [[0,1]].length) * 24 ≤ LIM) then
 F308.l1_1_1_1_1_1_1_0_1_0 n K p0 p1 p2 p3 p4 (IntKind.i64.wrap (p5 + 1)) p6 p7 (p8 ++ [[0,1]]) (p9 ++ [[0,1]]) (p10 ++ [p5]) (p11 ++ [IntKind.i64.wrap (p0 + p5)])
 else
 none
 else
 none
 else
 none
 else
 none
 else
 exitK K 0 ⟨slots 197 [(3, .v (.int .i64) p0), (4, .v (.int .i64) p1), (5, .v (.sl (.int .i64)) p2), (6, .v (.sl (.int .i64)) p3), (7, .pb 0 0), (8, .own 1), (9, .own 2)], [.box [.v (.int .i64) p6, .own 3, .own 4, .nl, .nl, .nl, .v (.int .i64) p7, .nl], .row 30 (.sl (.int .i64)) p8, .row 30 (.sl (.int .i64)) p9, .row 3 (.int .i64) p10, .row 3 (.int .i64) p11]⟩ := by kernel_rfl
theorem F308.c0 (k : Nat) (p0 p1 : Int) (p2 p3 : List Int) (p4 p5 : Int) (p6 p7 : List (List Int)) (p8 p9 : List Int) : exitK (F308.kt k [1,1,1,1,1,1,1,0,1,0]) 0 ⟨slots 197 [(3, .v (.int .i64) p0), (4, .v (.int .i64) p1), (5, .v (.sl (.int .i64)) p2), (6, .v (.sl (.int .i64)) p3), (7, .pb 0 0), (8, .own 1), (9, .own 2)], [.box [.v (.int .i64) p4, .own 3, .own 4, .nl, .nl, .nl, .v (.int .i64) p5, .nl], .row 30 (.sl (.int .i64)) p6, .row 30 (.sl (.int .i64)) p7, .row 3 (.int .i64) p8, .row 3 (.int .i64) p9]⟩ =
 bif cloneB p6 then
 bif decide ((p6.length + p7.length) * 24 ≤ LIM) then
 bif Nat.ble (p6 ++ p7).length 1000 then
 bif filtB 22 22 (p4, (p8, (p9, ([], ([], ([], (p5, []))))))) (domsL (p6 ++ p7)) then
 bif decide (0 ≤ (IntKind.i64.wrap ((p3.length : Int) - 1))) && decide ((IntKind.i64.wrap ((p3.length : Int) - 1)) < p3.length) then
 bif decide ((0 : Int) < p2.length) then
 F308.l1_1_1_1_1_1_1_1_1_1_1_0_1_0 k (F308.kt k [1,1,1,1,1,1,1,1,1,1,1,0,1,0]) p0 p1 p3 ((lexiF (p4, (p8, (p9, ([], ([], ([], (p5, []))))))) (domsL (p6 ++ p7))).1) ((lexiF (p4, (p8, (p9, ([], ([], ([], (p5, []))))))) (domsL (p6 ++ p7))).2) (p3.getD ((IntKind.i64.wrap ((p3.length : Int) - 1)).toNat) (0 : Int)) (p2.getD 0 (0 : Int)) p2 (p2.length : Int) 0 []
 else
 none
 else
 none
 else
 none
 else
 none
 else
 none
 else
 none := by kernel_rfl
theorem F308.l1_1_1_1_1_1_1_1_1_1_1_0_1_0_eq (n : Nat) (K : Conts) (p0 p1 : Int) (p2 : List Int) (p3 : List Dom) (p4 : Bool) (p5 p6 : Int) (p7 : List Int) (p8 p9 : Int) (p10 : List Int) : F308.l1_1_1_1_1_1_1_1_1_1_1_0_1_0 (n + 1) K p0 p1 p2 p3 p4 p5 p6 p7 p8 p9 p10 =
 bif decide (p9 < p8) then
 bif decide (0 ≤ p9) && decide (p9 < p7.length) then
 bif decide ((p7.getD p9.toNat (0 : Int)) ≤ p5) then
 bif decide ((p7.getD p9.toNat (0 : Int)) < p5) then
 bif decide ((p10.length + [p7.getD p9.toNat (0 : Int)].length) * 8 ≤ LIM) then
 F308.l1_1_1_1_1_1_1_1_1_1_1_0_1_0 n K p0 p1 p2 p3 p4 p5 p6 p7 p8 (IntKind.i64.wrap (p9 + 1)) (p10 ++ [p7.getD p9.toNat (0 : Int)])
 else
 none
 else
 bif containsL p2 (p7.getD p9.toNat (0 : Int)) then
 bif decide ((p10.length + [p7.getD p9.toNat (0 : Int)].length) * 8 ≤ LIM) then
 F308.l1_1_1_1_1_1_1_1_1_1_1_0_1_0 n K p0 p1 p2 p3 p4 p5 p6 p7 p8 (IntKind.i64.wrap (p9 + 1)) (p10 ++ [p7.getD p9.toNat (0 : Int)])
 else
 none
 else
 F308.l1_1_1_1_1_1_1_1_1_1_1_0_1_0 n K p0 p1 p2 p3 p4 p5 p6 p7 p8 (IntKind.i64.wrap (p9 + 1)) p10
 else
 F308.l1_1_1_1_1_1_1_1_1_1_1_0_1_0 n K p0 p1 p2 p3 p4 p5 p6 p7 p8 (IntKind.i64.wrap (p9 + 1)) p10
 else
 none
 else
 exitK K 3 ⟨slots 197 [(3, .v (.int .i64) p0), (4, .v (.int .i64) p1), (6, .v (.sl (.int .i64)) p2), (11, .v (.sl DomT) p3), (12, .v .bool p4), (14, .v (.int .i64) p6), (15, .own 0), (16, .nl)], [.row 3 (.int .i64) p10]⟩ := by kernel_rfl
theorem F308.c1 (k : Nat) (p0 p1 : Int) (p2 : List Int) (p3 : List Dom) (p4 : Bool) (p5 : Int) (p6 : List Int) : exitK (F308.kt k [1,1,1,1,1,1,1,1,1,1,1,0,1,0]) 3 ⟨slots 197 [(3, .v (.int .i64) p0), (4, .v (.int .i64) p1), (6, .v (.sl (.int .i64)) p2), (11, .v (.sl DomT) p3), (12, .v .bool p4), (14, .v (.int .i64) p5), (15, .own 0), (16, .nl)], [.row 3 (.int .i64) p6]⟩ =
 F308.l1_1_1_1_1_1_1_1_1_1_1_1_0_1_0 k (F308.kt k [1,1,1,1,1,1,1,1,1,1,1,1,0,1,0]) p0 p1 p3 p4 p5 p2 (p2.length : Int) 0 p6 [] := by kernel_rfl
theorem F308.l1_1_1_1_1_1_1_1_1_1_1_1_0_1_0_eq (n : Nat) (K : Conts) (p0 p1 : Int) (p2 : List Dom) (p3 : Bool) (p4 : Int) (p5 : List Int) (p6 p7 : Int) (p8 p9 : List Int) : F308.l1_1_1_1_1_1_1_1_1_1_1_1_0_1_0 (n + 1) K p0 p1 p2 p3 p4 p5 p6 p7 p8 p9 =
 bif decide (p7 < p6) then
 bif decide (0 ≤ p7) && decide (p7 < p5.length) then
 bif decide ((p5.getD p7.toNat (0 : Int)) > p4) then
 bif decide ((p9.length + [p5.getD p7.toNat (0 : Int)].length) * 8 ≤ LIM) then
 F308.l1_1_1_1_1_1_1_1_1_1_1_1_0_1_0 n K p0 p1 p2 p3 p4 p5 p6 (IntKind.i64.wrap (p7 + 1)) p8 (p9 ++ [p5.getD p7.toNat (0 : Int)])
 else
 none
 else
 bif decide ((p5.getD p7.toNat (0 : Int)) = p4) then
 bif decide ((p9.length + [p5.getD p7.toNat (0 : Int)].length) * 8 ≤ LIM) then
 F308.l1_1_1_1_1_1_1_1_1_1_1_1_0_1_0 n K p0 p1 p2 p3 p4 p5 p6 (IntKind.i64.wrap (p7 + 1)) p8 (p9 ++ [p5.getD p7.toNat (0 : Int)])
 else
 none
 else
 F308.l1_1_1_1_1_1_1_1_1_1_1_1_0_1_0 n K p0 p1 p2 p3 p4 p5 p6 (IntKind.i64.wrap (p7 + 1)) p8 p9
 else
 none
 else
 exitK K 5 ⟨slots 197 [(3, .v (.int .i64) p0), (4, .v (.int .i64) p1), (11, .v (.sl DomT) p2), (12, .v .bool p3), (15, .own 0), (16, .own 1)], [.row 3 (.int .i64) p8, .row 3 (.int .i64) p9]⟩ := by kernel_rfl
theorem F308.c2 (k : Nat) (p0 p1 : Int) (p2 : List Dom) (p3 : Bool) (p4 p5 : List Int) : exitK (F308.kt k [1,1,1,1,1,1,1,1,1,1,1,1,0,1,0]) 5 ⟨slots 197 [(3, .v (.int .i64) p0), (4, .v (.int .i64) p1), (11, .v (.sl DomT) p2), (12, .v .bool p3), (15, .own 0), (16, .own 1)], [.row 3 (.int .i64) p4, .row 3 (.int .i64) p5]⟩ =
 bif decide ((p4.length : Int) = 0) then
 some (.v .bool (!p3))
 else
 bif decide ((p5.length : Int) = 0) then
 some (.v .bool (!p3))
 else
 bif p3 then
 bif decide ((p2.length : Int) = (IntKind.i64.wrap (2 * p0))) then
 bif decide (0 ≤ p1) && decide (p1 < p2.length) then
 bif listB (p2.getD p1.toNat ((0 : Int), ([], ((0 : Int), ((0 : Int), (0 : Int)))))) then
 bif Nat.ble (listD (p2.getD p1.toNat ((0 : Int), ([], ((0 : Int), ((0 : Int), (0 : Int))))))).length 1000 then
 bif eqL (listD (p2.getD p1.toNat ((0 : Int), ([], ((0 : Int), ((0 : Int), (0 : Int))))))) p4 then
 bif decide (0 ≤ (IntKind.i64.wrap (p0 + p1))) && decide ((IntKind.i64.wrap (p0 + p1)) < p2.length) then
 bif listB (p2.getD ((IntKind.i64.wrap (p0 + p1)).toNat) ((0 : Int), ([], ((0 : Int), ((0 : Int), (0 : Int)))))) then
 bif Nat.ble (listD (p2.getD ((IntKind.i64.wrap (p0 + p1)).toNat) ((0 : Int), ([], ((0 : Int), ((0 : Int), (0 : Int))))))).length 1000 then
 some (.v .bool (eqL (listD (p2.getD ((IntKind.i64.wrap (p0 + p1)).toNat) ((0 : Int), ([], ((0 : Int), ((0 : Int), (0 : Int))))))) p5))
 else
 none
 else
 none
 else
 none
 else
 some (.v .bool false)
 else
 none
 else
 none
 else
 none
 else
 some (.v .bool false)
 else
 some (.v .bool false) := by kernel_rfl
end Go.Proofs.YtnojoaghcbljfaaGreatDoor.Ev
