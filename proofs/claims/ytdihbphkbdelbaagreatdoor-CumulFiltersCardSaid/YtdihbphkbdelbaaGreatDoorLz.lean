/-
The functions as the evaluator runs them: printed by a program of mine, each equation by kernel_rfl.
Conditions: none.
-/
import Derived.Test.YtdihbphkbdelbaaGreatDoorCg
set_option linter.unusedVariables false
set_option linter.unusedSimpArgs false
set_option maxRecDepth 100000
namespace Go.Proofs.YtdihbphkbdelbaaGreatDoor.Ev
open Go
noncomputable def F507.fn : Func := Go.Proofs.Tryz.f7
noncomputable def F507.E : Env := ⟨tt, [(27, h_makeA), (28, h_kindC), (29, h_cumF), (30, h_doms530), (31, h_cumR), (32, h_wakes532), (33, h_sameL), (34, h_lists534)], [(1, [1, 2]), (2, [5, 6]), (3, [5, 6, 7, 8]), (4, [7, 8, 9, 10])], [], some [4], inv, []⟩
theorem F507.start_eq (k : Nat) (a0 : (Int × ((List Int) × ((List Int) × ((List Int) × (Int × Int))))) × (List (List Int))) (a1 : Int) : callW F507.E false F507.fn k [.agg [.v (.int .u8) a0.1.1, .v (.sl (.int .u8)) a0.1.2.1, .v (.sl (.int .u8)) a0.1.2.2.1, .v (.sl (.int .i8)) a0.1.2.2.2.1, .v (.int .i16) a0.1.2.2.2.2.1, .v (.int .u8) a0.1.2.2.2.2.2, .v (.sl (.sl (.int .i64))) a0.2], .v (.int .u8) a1] =
 bif makeAB a0 (kindC a1) 9 then
 bif Nat.ble (makeAL a0 (kindC a1) 9).length 1000 then
 bif cumFB (makeAC a0 (kindC a1)) (domsL (makeAL a0 (kindC a1) 9)) then
 bif cumRB (makeAC a0 (kindC a1)) (makeAL a0 (kindC a1) 9) then
 bif ((cumF (makeAC a0 (kindC a1)) (domsL (makeAL a0 (kindC a1) 9))).2) == ((cumR (makeAC a0 (kindC a1)) (makeAL a0 (kindC a1) 9)).2) then
 bif Nat.ble ((cumF (makeAC a0 (kindC a1)) (domsL (makeAL a0 (kindC a1) 9))).1).length 1000 && ((cumF (makeAC a0 (kindC a1)) (domsL (makeAL a0 (kindC a1) 9))).1).all listB then
 bif Nat.ble (listsL ((cumF (makeAC a0 (kindC a1)) (domsL (makeAL a0 (kindC a1) 9))).1)).length 1000 && lensB (listsL ((cumF (makeAC a0 (kindC a1)) (domsL (makeAL a0 (kindC a1) 9))).1)) then
 some (.v .bool (sameL (listsL ((cumF (makeAC a0 (kindC a1)) (domsL (makeAL a0 (kindC a1) 9))).1)) ((cumR (makeAC a0 (kindC a1)) (makeAL a0 (kindC a1) 9)).1)))
 else
 none
 else
 none
 else
 some (.v .bool false)
 else
 none
 else
 none
 else
 none
 else
 none := by kernel_rfl
noncomputable def F508.fn : Func := Go.Proofs.Tryz.f8
noncomputable def F508.body : Code := bodyOf F508.fn
noncomputable def F508.E : Env := ⟨tt, [(27, h_makeA), (29, h_cumF), (30, h_doms530), (32, h_wakes532), (35, h_short535), (36, h_fitsR)], [(1, [2, 3, 4]), (2, [2, 4, 7, 8]), (3, [4, 7, 8, 23]), (4, [4, 7, 8, 23, 24]), (6, [4, 7, 8, 23, 31]), (8, [4, 7, 8, 23, 35]), (10, [4, 7, 8, 41]), (11, [4, 7, 8, 9]), (12, [7, 8]), (13, [7, 8, 10, 11]), (14, [8, 10, 11, 77]), (15, [10, 11])], [(0, [7, 8])], some [6], inv, []⟩
noncomputable def F508.K0 : Conts := { nrm := endW F508.E false F508.fn.results.toList, ret := endW F508.E false F508.fn.results.toList, ex := [] }
noncomputable def F508.kt (k : Nat) (q : List Nat) : Conts := contAt F508.E k F508.body F508.K0 q
noncomputable def F508.n1_1_1 (n : Nat) (K : Conts) (p0 : List (List Int)) (p1 : Int) (p2 p3 p4 p5 p6 : List Int) (p7 : Int) (p8 : List (List Int)) : Option AV := runC F508.E (loopF F508.E n) (subC [1,1,1] F508.body) K ⟨slots 100 [(7, .pb 0 0), (8, .v (.sl (.sl (.int .i64))) p0)], [.box (bC p1 p2 p3 p4 p5 p6 p7 p8)]⟩
noncomputable def F508.n1_1_1b (n : Nat) (K : Conts) (p0 : Int) (p1 p2 p3 p4 p5 : List Int) (p6 : Int) (p7 p8 : List (List Int)) : Option AV := runC F508.E (loopF F508.E n) (subC [1,1,1] F508.body) K ⟨slots 100 [(7, .pb 0 0), (8, .own 1)], [.box (bC p0 p1 p2 p3 p4 p5 p6 p7), .row 29 (.sl (.int .i64)) p8]⟩
noncomputable def F508.n1_1_1c (n : Nat) (K : Conts) (p0 : Int) (p1 p2 p3 p4 p5 : List Int) (p6 : Int) (p7 : List (List Int)) : Option AV := runC F508.E (loopF F508.E n) (subC [1,1,1] F508.body) K ⟨slots 100 [(7, .pb 0 0), (8, .own 1)], [.box [.v (.int .i64) p0, .v (.sl (.int .i64)) p1, .v (.sl (.int .i64)) p2, .v (.sl (.int .i64)) p3, .v (.sl (.int .i64)) p4, .v (.sl (.int .i64)) p5, .v (.int .i64) p6, .nl], .row 29 (.sl (.int .i64)) p7]⟩
theorem F508.start_eq (k : Nat) (a0 : (Int × ((List Int) × ((List Int) × ((List Int) × (Int × Int))))) × (List (List Int))) (a1 : Con) (a2 : Int) : callW F508.E false F508.fn k [.agg [.v (.int .u8) a0.1.1, .v (.sl (.int .u8)) a0.1.2.1, .v (.sl (.int .u8)) a0.1.2.2.1, .v (.sl (.int .i8)) a0.1.2.2.2.1, .v (.int .i16) a0.1.2.2.2.2.1, .v (.int .u8) a0.1.2.2.2.2.2, .v (.sl (.sl (.int .i64))) a0.2], .agg (bC a1.1 a1.2.1 a1.2.2.1 a1.2.2.2.1 a1.2.2.2.2.1 a1.2.2.2.2.2.1 a1.2.2.2.2.2.2.1 a1.2.2.2.2.2.2.2), .v (.int .u8) a2] =
 bif makeAB a0 (IntKind.i64.wrap (1 + ((IntKind.i64.wrap (shrW .u8 a2 3)).tmod 23))) 6 then
 bif decide ((a2.tmod 5) = 0) then
 bif decide (0 ≤ (IntKind.i64.wrap (((makeAL a0 (IntKind.i64.wrap (1 + ((IntKind.i64.wrap (shrW .u8 a2 3)).tmod 23))) 6).length : Int) - 1))) && decide ((IntKind.i64.wrap (((makeAL a0 (IntKind.i64.wrap (1 + ((IntKind.i64.wrap (shrW .u8 a2 3)).tmod 23))) 6).length : Int) - 1)) ≤ (makeAL a0 (IntKind.i64.wrap (1 + ((IntKind.i64.wrap (shrW .u8 a2 3)).tmod 23))) 6).length) then
 F508.n1_1_1 k (F508.kt k [1,1,1]) ((makeAL a0 (IntKind.i64.wrap (1 + ((IntKind.i64.wrap (shrW .u8 a2 3)).tmod 23))) 6).take ((IntKind.i64.wrap (((makeAL a0 (IntKind.i64.wrap (1 + ((IntKind.i64.wrap (shrW .u8 a2 3)).tmod 23))) 6).length : Int) - 1)).toNat)) ((makeAC a0 (IntKind.i64.wrap (1 + ((IntKind.i64.wrap (shrW .u8 a2 3)).tmod 23)))).1) (((makeAC a0 (IntKind.i64.wrap (1 + ((IntKind.i64.wrap (shrW .u8 a2 3)).tmod 23)))).2).1) ((((makeAC a0 (IntKind.i64.wrap (1 + ((IntKind.i64.wrap (shrW .u8 a2 3)).tmod 23)))).2).2).1) (((((makeAC a0 (IntKind.i64.wrap (1 + ((IntKind.i64.wrap (shrW .u8 a2 3)).tmod 23)))).2).2).2).1) ((((((makeAC a0 (IntKind.i64.wrap (1 + ((IntKind.i64.wrap (shrW .u8 a2 3)).tmod 23)))).2).2).2).2).1) (((((((makeAC a0 (IntKind.i64.wrap (1 + ((IntKind.i64.wrap (shrW .u8 a2 3)).tmod 23)))).2).2).2).2).2).1) ((((((((makeAC a0 (IntKind.i64.wrap (1 + ((IntKind.i64.wrap (shrW .u8 a2 3)).tmod 23)))).2).2).2).2).2).2).1) ((((((((makeAC a0 (IntKind.i64.wrap (1 + ((IntKind.i64.wrap (shrW .u8 a2 3)).tmod 23)))).2).2).2).2).2).2).2)
 else
 none
 else
 bif decide ((a2.tmod 5) = 1) then
 bif decide ((0 : Int) < (makeAL a0 (IntKind.i64.wrap (1 + ((IntKind.i64.wrap (shrW .u8 a2 3)).tmod 23))) 6).length) then
 F508.n1_1_1b k (F508.kt k [1,1,1]) ((makeAC a0 (IntKind.i64.wrap (1 + ((IntKind.i64.wrap (shrW .u8 a2 3)).tmod 23)))).1) (((makeAC a0 (IntKind.i64.wrap (1 + ((IntKind.i64.wrap (shrW .u8 a2 3)).tmod 23)))).2).1) ((((makeAC a0 (IntKind.i64.wrap (1 + ((IntKind.i64.wrap (shrW .u8 a2 3)).tmod 23)))).2).2).1) (((((makeAC a0 (IntKind.i64.wrap (1 + ((IntKind.i64.wrap (shrW .u8 a2 3)).tmod 23)))).2).2).2).1) ((((((makeAC a0 (IntKind.i64.wrap (1 + ((IntKind.i64.wrap (shrW .u8 a2 3)).tmod 23)))).2).2).2).2).1) (((((((makeAC a0 (IntKind.i64.wrap (1 + ((IntKind.i64.wrap (shrW .u8 a2 3)).tmod 23)))).2).2).2).2).2).1) ((((((((makeAC a0 (IntKind.i64.wrap (1 + ((IntKind.i64.wrap (shrW .u8 a2 3)).tmod 23)))).2).2).2).2).2).2).1) ((((((((makeAC a0 (IntKind.i64.wrap (1 + ((IntKind.i64.wrap (shrW .u8 a2 3)).tmod 23)))).2).2).2).2).2).2).2) ((makeAL a0 (IntKind.i64.wrap (1 + ((IntKind.i64.wrap (shrW .u8 a2 3)).tmod 23))) 6).set 0 [])
 else
 none
 else
 bif decide ((a2.tmod 5) = 2) then
 bif decide (((makeAL a0 (IntKind.i64.wrap (1 + ((IntKind.i64.wrap (shrW .u8 a2 3)).tmod 23))) 6).length + [[1]].length) * 24 ≤ LIM) then
 F508.n1_1_1b k (F508.kt k [1,1,1]) ((makeAC a0 (IntKind.i64.wrap (1 + ((IntKind.i64.wrap (shrW .u8 a2 3)).tmod 23)))).1) (((makeAC a0 (IntKind.i64.wrap (1 + ((IntKind.i64.wrap (shrW .u8 a2 3)).tmod 23)))).2).1) ((((makeAC a0 (IntKind.i64.wrap (1 + ((IntKind.i64.wrap (shrW .u8 a2 3)).tmod 23)))).2).2).1) (((((makeAC a0 (IntKind.i64.wrap (1 + ((IntKind.i64.wrap (shrW .u8 a2 3)).tmod 23)))).2).2).2).1) ((((((makeAC a0 (IntKind.i64.wrap (1 + ((IntKind.i64.wrap (shrW .u8 a2 3)).tmod 23)))).2).2).2).2).1) (((((((makeAC a0 (IntKind.i64.wrap (1 + ((IntKind.i64.wrap (shrW .u8 a2 3)).tmod 23)))).2).2).2).2).2).1) ((((((((makeAC a0 (IntKind.i64.wrap (1 + ((IntKind.i64.wrap (shrW .u8 a2 3)).tmod 23)))).2).2).2).2).2).2).1) ((((((((makeAC a0 (IntKind.i64.wrap (1 + ((IntKind.i64.wrap (shrW .u8 a2 3)).tmod 23)))).2).2).2).2).2).2).2) ((makeAL a0 (IntKind.i64.wrap (1 + ((IntKind.i64.wrap (shrW .u8 a2 3)).tmod 23))) 6) ++ [[1]])
 else
 none
 else
 bif decide ((a2.tmod 5) = 3) then
 F508.n1_1_1c k (F508.kt k [1,1,1]) a1.1 (a1.2.1.take 5) (a1.2.2.1.take 5) (a1.2.2.2.1.take 5) (a1.2.2.2.2.1.take 5) (a1.2.2.2.2.2.1.take 5) a1.2.2.2.2.2.2.1 (makeAL a0 (IntKind.i64.wrap (1 + ((IntKind.i64.wrap (shrW .u8 a2 3)).tmod 23))) 6)
 else
 F508.n1_1_1b k (F508.kt k [1,1,1]) ((makeAC a0 (IntKind.i64.wrap (1 + ((IntKind.i64.wrap (shrW .u8 a2 3)).tmod 23)))).1) (((makeAC a0 (IntKind.i64.wrap (1 + ((IntKind.i64.wrap (shrW .u8 a2 3)).tmod 23)))).2).1) ((((makeAC a0 (IntKind.i64.wrap (1 + ((IntKind.i64.wrap (shrW .u8 a2 3)).tmod 23)))).2).2).1) (((((makeAC a0 (IntKind.i64.wrap (1 + ((IntKind.i64.wrap (shrW .u8 a2 3)).tmod 23)))).2).2).2).1) ((((((makeAC a0 (IntKind.i64.wrap (1 + ((IntKind.i64.wrap (shrW .u8 a2 3)).tmod 23)))).2).2).2).2).1) (((((((makeAC a0 (IntKind.i64.wrap (1 + ((IntKind.i64.wrap (shrW .u8 a2 3)).tmod 23)))).2).2).2).2).2).1) ((((((((makeAC a0 (IntKind.i64.wrap (1 + ((IntKind.i64.wrap (shrW .u8 a2 3)).tmod 23)))).2).2).2).2).2).2).1) ((((((((makeAC a0 (IntKind.i64.wrap (1 + ((IntKind.i64.wrap (shrW .u8 a2 3)).tmod 23)))).2).2).2).2).2).2).2) (makeAL a0 (IntKind.i64.wrap (1 + ((IntKind.i64.wrap (shrW .u8 a2 3)).tmod 23))) 6)
 else
 none := by kernel_rfl
theorem F508.n1_1_1_eq (n : Nat) (K : Conts) (p0 : List (List Int)) (p1 : Int) (p2 p3 p4 p5 p6 : List Int) (p7 : Int) (p8 : List (List Int)) : F508.n1_1_1 n K p0 p1 p2 p3 p4 p5 p6 p7 p8 =
 bif Nat.ble p0.length 1000 then
 bif cumFB (p1, (p2, (p3, (p4, (p5, (p6, (p7, p8))))))) (domsL p0) then
 bif fitsB (p1, (p2, (p3, (p4, (p5, (p6, (p7, p8))))))) 19 19 then
 bif fitsR (p1, (p2, (p3, (p4, (p5, (p6, (p7, p8))))))) p0 19 19 then
 bif !((cumF (p1, (p2, (p3, (p4, (p5, (p6, (p7, p8))))))) (domsL p0)).2) then
 K.ret ⟨slots 100 [(6, .v .bool true)], []⟩
 else
 K.ret ⟨slots 100 [(6, .v .bool (decide ((((cumF (p1, (p2, (p3, (p4, (p5, (p6, (p7, p8))))))) (domsL p0)).1).length : Int) = (p0.length : Int))))], []⟩
 else
 bif !((cumF (p1, (p2, (p3, (p4, (p5, (p6, (p7, p8))))))) (domsL p0)).2) then
 K.ret ⟨slots 100 [(6, .v .bool (decide ((((cumF (p1, (p2, (p3, (p4, (p5, (p6, (p7, p8))))))) (domsL p0)).1).length : Int) = 0)))], []⟩
 else
 K.ret ⟨slots 100 [(6, .v .bool false)], []⟩
 else
 none
 else
 none
 else
 none := by kernel_rfl
theorem F508.n1_1_1b_eq (n : Nat) (K : Conts) (p0 : Int) (p1 p2 p3 p4 p5 : List Int) (p6 : Int) (p7 p8 : List (List Int)) : F508.n1_1_1b n K p0 p1 p2 p3 p4 p5 p6 p7 p8 =
 bif Nat.ble p8.length 1000 then
 bif cumFB (p0, (p1, (p2, (p3, (p4, (p5, (p6, p7))))))) (domsL p8) then
 bif fitsB (p0, (p1, (p2, (p3, (p4, (p5, (p6, p7))))))) 19 19 then
 bif fitsR (p0, (p1, (p2, (p3, (p4, (p5, (p6, p7))))))) p8 19 19 then
 bif !((cumF (p0, (p1, (p2, (p3, (p4, (p5, (p6, p7))))))) (domsL p8)).2) then
 K.ret ⟨slots 100 [(6, .v .bool true)], []⟩
 else
 K.ret ⟨slots 100 [(6, .v .bool (decide ((((cumF (p0, (p1, (p2, (p3, (p4, (p5, (p6, p7))))))) (domsL p8)).1).length : Int) = (p8.length : Int))))], []⟩
 else
 bif !((cumF (p0, (p1, (p2, (p3, (p4, (p5, (p6, p7))))))) (domsL p8)).2) then
 K.ret ⟨slots 100 [(6, .v .bool (decide ((((cumF (p0, (p1, (p2, (p3, (p4, (p5, (p6, p7))))))) (domsL p8)).1).length : Int) = 0)))], []⟩
 else
 K.ret ⟨slots 100 [(6, .v .bool false)], []⟩
 else
 none
 else
 none
 else
 none := by kernel_rfl
theorem F508.n1_1_1c_eq (n : Nat) (K : Conts) (p0 : Int) (p1 p2 p3 p4 p5 : List Int) (p6 : Int) (p7 : List (List Int)) : F508.n1_1_1c n K p0 p1 p2 p3 p4 p5 p6 p7 =
 bif Nat.ble p7.length 1000 then
 bif cumFB (p0, (p1, (p2, (p3, (p4, (p5, (p6, []))))))) (domsL p7) then
 bif fitsB (p0, (p1, (p2, (p3, (p4, (p5, (p6, []))))))) 19 19 then
 bif fitsR (p0, (p1, (p2, (p3, (p4, (p5, (p6, []))))))) p7 19 19 then
 bif !((cumF (p0, (p1, (p2, (p3, (p4, (p5, (p6, []))))))) (domsL p7)).2) then
 K.ret ⟨slots 100 [(6, .v .bool true)], []⟩
 else
 K.ret ⟨slots 100 [(6, .v .bool (decide ((((cumF (p0, (p1, (p2, (p3, (p4, (p5, (p6, []))))))) (domsL p7)).1).length : Int) = (p7.length : Int))))], []⟩
 else
 bif !((cumF (p0, (p1, (p2, (p3, (p4, (p5, (p6, []))))))) (domsL p7)).2) then
 K.ret ⟨slots 100 [(6, .v .bool (decide ((((cumF (p0, (p1, (p2, (p3, (p4, (p5, (p6, []))))))) (domsL p7)).1).length : Int) = 0)))], []⟩
 else
 K.ret ⟨slots 100 [(6, .v .bool false)], []⟩
 else
 none
 else
 none
 else
 none := by kernel_rfl
theorem F508.c0 (k : Nat) : (F508.kt k [1,1,1]).ret ⟨slots 100 [(6, .v .bool true)], []⟩ =
 some (.v .bool true) := by kernel_rfl
noncomputable def F509.fn : Func := Go.Proofs.Tryz.f9
noncomputable def F509.body : Code := bodyOf F509.fn
noncomputable def F509.E : Env := ⟨tt, [(28, h_kindC), (29, h_cumF), (30, h_doms530), (32, h_wakes532), (33, h_sameL), (34, h_lists534), (37, h_conA), (38, h_localC), (39, h_holdsC)], [(1, [1, 2, 3]), (2, [2, 3]), (3, [2, 7]), (4, [2, 7, 8]), (5, [2, 7, 8, 9]), (6, [2, 7, 8, 9, 10]), (7, [2, 7, 8, 9, 10, 30, 31, 290009, 30010]), (8, [2, 7, 8, 9, 10, 30, 31, 32]), (9, [2, 7, 8, 9, 10, 11, 30, 31]), (10, [2, 7, 8, 9, 10, 11, 12, 30, 31]), (11, [2, 7, 8, 9, 10, 11, 12, 30, 31, 39]), (12, [2, 7, 8, 9, 10, 12, 30, 31]), (13, [2, 7, 8, 9, 10, 30, 31]), (14, [7, 8, 9, 10]), (15, [8, 9, 10, 13, 14])], [(0, [7, 8, 9, 10]), (1, [2, 7, 8, 9, 10, 30, 31])], some [6], inv, []⟩
noncomputable def F509.K0 : Conts := { nrm := endW F509.E false F509.fn.results.toList, ret := endW F509.E false F509.fn.results.toList, ex := [] }
noncomputable def F509.kt (k : Nat) (q : List Nat) : Conts := contAt F509.E k F509.body F509.K0 q
noncomputable def F509.l1_1_1_1_1_1_0_1_0 (n : Nat) (K : Conts) (p0 : List Int) (p1 p2 p3 : Int) (p4 p5 p6 p7 p8 : List Int) (p9 : Int) (p10 : List (List Int)) (p11 : Int) (p12 p13 p14 p15 p16 : List Int) (p17 : Int) (p18 p19 : List (List Int)) (p20 : List Int) : Option AV := loopF F509.E n (inLoop (subC [1,1,1,1,1,1,0,1,0] F509.body)) K ⟨slots 80 [(2, .v (.sl (.int .i8)) p0), (7, .pb 0 0), (8, .pb 1 0), (9, .own 2), (10, .own 3), (30, .v (.int .i64) p1), (31, .v (.int .i64) p2)], [.box (bC p3 p4 p5 p6 p7 p8 p9 p10), .box (bC p11 p12 p13 p14 p15 p16 p17 p18), .row 29 (.sl (.int .i64)) p19, .row 3 (.int .i64) p20]⟩
theorem F509.start_eq (k : Nat) (a0 : Int × ((List Int) × ((List Int) × ((List Int) × (Int × Int))))) (a1 : Int) (a2 : List Int) : callW F509.E false F509.fn k [.agg [.v (.int .u8) a0.1, .v (.sl (.int .u8)) a0.2.1, .v (.sl (.int .u8)) a0.2.2.1, .v (.sl (.int .i8)) a0.2.2.2.1, .v (.int .i16) a0.2.2.2.2.1, .v (.int .u8) a0.2.2.2.2.2], .v (.int .u8) a1, .v (.sl (.int .i8)) a2] =
 bif conAB (IntKind.u8.wrap (IntKind.i64.wrap ((kindC a1) - 1)), a0.2) 4 then
 bif localB (conA (IntKind.u8.wrap (IntKind.i64.wrap ((kindC a1) - 1)), a0.2) 4) then
 F509.l1_1_1_1_1_1_0_1_0 k (F509.kt k [1,1,1,1,1,1,0,1,0]) a2 (IntKind.i64.wrap (((((conA (IntKind.u8.wrap (IntKind.i64.wrap ((kindC a1) - 1)), a0.2) 4).2).1).length : Int) + (((((conA (IntKind.u8.wrap (IntKind.i64.wrap ((kindC a1) - 1)), a0.2) 4).2).2).1).length : Int))) 0 ((conA (IntKind.u8.wrap (IntKind.i64.wrap ((kindC a1) - 1)), a0.2) 4).1) (((conA (IntKind.u8.wrap (IntKind.i64.wrap ((kindC a1) - 1)), a0.2) 4).2).1) ((((conA (IntKind.u8.wrap (IntKind.i64.wrap ((kindC a1) - 1)), a0.2) 4).2).2).1) (((((conA (IntKind.u8.wrap (IntKind.i64.wrap ((kindC a1) - 1)), a0.2) 4).2).2).2).1) ((((((conA (IntKind.u8.wrap (IntKind.i64.wrap ((kindC a1) - 1)), a0.2) 4).2).2).2).2).1) (((((((conA (IntKind.u8.wrap (IntKind.i64.wrap ((kindC a1) - 1)), a0.2) 4).2).2).2).2).2).1) ((((((((conA (IntKind.u8.wrap (IntKind.i64.wrap ((kindC a1) - 1)), a0.2) 4).2).2).2).2).2).2).1) ((((((((conA (IntKind.u8.wrap (IntKind.i64.wrap ((kindC a1) - 1)), a0.2) 4).2).2).2).2).2).2).2) ((localC (conA (IntKind.u8.wrap (IntKind.i64.wrap ((kindC a1) - 1)), a0.2) 4)).1) (((localC (conA (IntKind.u8.wrap (IntKind.i64.wrap ((kindC a1) - 1)), a0.2) 4)).2).1) ((((localC (conA (IntKind.u8.wrap (IntKind.i64.wrap ((kindC a1) - 1)), a0.2) 4)).2).2).1) (((((localC (conA (IntKind.u8.wrap (IntKind.i64.wrap ((kindC a1) - 1)), a0.2) 4)).2).2).2).1) ((((((localC (conA (IntKind.u8.wrap (IntKind.i64.wrap ((kindC a1) - 1)), a0.2) 4)).2).2).2).2).1) (((((((localC (conA (IntKind.u8.wrap (IntKind.i64.wrap ((kindC a1) - 1)), a0.2) 4)).2).2).2).2).2).1) ((((((((localC (conA (IntKind.u8.wrap (IntKind.i64.wrap ((kindC a1) - 1)), a0.2) 4)).2).2).2).2).2).2).1) ((((((((localC (conA (IntKind.u8.wrap (IntKind.i64.wrap ((kindC a1) - 1)), a0.2) 4)).2).2).2).2).2).2).2) [] []
 else
 none
 else
 none := by kernel_rfl
theorem F509.l1_1_1_1_1_1_0_1_0_eq (n : Nat) (K : Conts) (p0 : List Int) (p1 p2 p3 : Int) (p4 p5 p6 p7 p8 : List Int) (p9 : Int) (p10 : List (List Int)) (p11 : Int) (p12 p13 p14 p15 p16 : List Int) (p17 : Int) (p18 p19 : List (List Int)) (p20 : List Int) : F509.l1_1_1_1_1_1_0_1_0 (n + 1) K p0 p1 p2 p3 p4 p5 p6 p7 p8 p9 p10 p11 p12 p13 p14 p15 p16 p17 p18 p19 p20 =
 bif decide (p2 < p1) then
 bif decide (p2 < (p0.length : Int)) then
 bif decide (0 ≤ p2) && decide (p2 < p0.length) then
 bif decide ((p19.length + [[IntKind.i64.wrap (p0.getD p2.toNat (0 : Int))]].length) * 24 ≤ LIM) then
 bif decide ((p20.length + [IntKind.i64.wrap (p0.getD p2.toNat (0 : Int))].length) * 8 ≤ LIM) then
 F509.l1_1_1_1_1_1_0_1_0 n K p0 p1 (IntKind.i64.wrap (p2 + 1)) p3 p4 p5 p6 p7 p8 p9 p10 p11 p12 p13 p14 p15 p16 p17 p18 (p19 ++ [[IntKind.i64.wrap (p0.getD p2.toNat (0 : Int))]]) (p20 ++ [IntKind.i64.wrap (p0.getD p2.toNat (0 : Int))])
 else
 none
 else
 none
 else
 none
 else
 bif decide ((p19.length + [[IntKind.i64.wrap (1 + p2)]].length) * 24 ≤ LIM) then
 bif decide ((p20.length + [IntKind.i64.wrap (1 + p2)].length) * 8 ≤ LIM) then
 F509.l1_1_1_1_1_1_0_1_0 n K p0 p1 (IntKind.i64.wrap (p2 + 1)) p3 p4 p5 p6 p7 p8 p9 p10 p11 p12 p13 p14 p15 p16 p17 p18 (p19 ++ [[IntKind.i64.wrap (1 + p2)]]) (p20 ++ [IntKind.i64.wrap (1 + p2)])
 else
 none
 else
 none
 else
 exitK K 0 ⟨slots 80 [(7, .pb 0 0), (8, .pb 1 0), (9, .own 2), (10, .own 3)], [.box (bC p3 p4 p5 p6 p7 p8 p9 p10), .box (bC p11 p12 p13 p14 p15 p16 p17 p18), .row 29 (.sl (.int .i64)) p19, .row 3 (.int .i64) p20]⟩ := by kernel_rfl
theorem F509.c0 (k : Nat) (p0 : Int) (p1 p2 p3 p4 p5 : List Int) (p6 : Int) (p7 : List (List Int)) (p8 : Int) (p9 p10 p11 p12 p13 : List Int) (p14 : Int) (p15 p16 : List (List Int)) (p17 : List Int) : exitK (F509.kt k [1,1,1,1,1,1,0,1,0]) 0 ⟨slots 80 [(7, .pb 0 0), (8, .pb 1 0), (9, .own 2), (10, .own 3)], [.box (bC p0 p1 p2 p3 p4 p5 p6 p7), .box (bC p8 p9 p10 p11 p12 p13 p14 p15), .row 29 (.sl (.int .i64)) p16, .row 3 (.int .i64) p17]⟩ =
 bif Nat.ble p16.length 1000 then
 bif cumFB (p0, (p1, (p2, (p3, (p4, (p5, (p6, p7))))))) (domsL p16) then
 bif holdsB (p8, (p9, (p10, (p11, (p12, (p13, (p14, p15))))))) p17 then
 bif ((cumF (p0, (p1, (p2, (p3, (p4, (p5, (p6, p7))))))) (domsL p16)).2) == (holdsC (p8, (p9, (p10, (p11, (p12, (p13, (p14, p15))))))) p17) then
 bif !((cumF (p0, (p1, (p2, (p3, (p4, (p5, (p6, p7))))))) (domsL p16)).2) then
 some (.v .bool true)
 else
 bif Nat.ble ((cumF (p0, (p1, (p2, (p3, (p4, (p5, (p6, p7))))))) (domsL p16)).1).length 1000 && ((cumF (p0, (p1, (p2, (p3, (p4, (p5, (p6, p7))))))) (domsL p16)).1).all listB then
 bif Nat.ble (listsL ((cumF (p0, (p1, (p2, (p3, (p4, (p5, (p6, p7))))))) (domsL p16)).1)).length 1000 && lensB (listsL ((cumF (p0, (p1, (p2, (p3, (p4, (p5, (p6, p7))))))) (domsL p16)).1)) then
 some (.v .bool (sameL (listsL ((cumF (p0, (p1, (p2, (p3, (p4, (p5, (p6, p7))))))) (domsL p16)).1)) p16))
 else
 none
 else
 none
 else
 some (.v .bool false)
 else
 none
 else
 none
 else
 none := by kernel_rfl
noncomputable def F510.fn : Func := Go.Proofs.Tryz.f10
noncomputable def F510.body : Code := bodyOf F510.fn
noncomputable def F510.E : Env := ⟨tt, [(27, h_makeA), (28, h_kindC), (29, h_cumF), (30, h_doms530), (32, h_wakes532), (33, h_sameL), (34, h_lists534), (40, h_sol), (41, h_listD), (42, h_containsL), (43, h_hasD)], [(1, [1, 2]), (2, [5, 6]), (3, [5, 6, 7, 8]), (4, [5, 6, 7, 8, 9, 10]), (5, [5, 6, 7, 9, 10, 42]), (6, [5, 6, 7, 9, 10]), (7, [5, 6, 7, 9, 45]), (8, [5, 6, 7, 9]), (9, [5, 6, 7, 9, 56]), (10, [5, 6, 7, 9]), (11, [5, 7, 9, 57, 58, 59]), (12, [5, 7, 9, 57, 58, 59, 60]), (13, [5, 7, 9, 11, 12, 57, 58, 59]), (14, [5, 7, 9, 12, 57, 58, 59, 68, 69, 70]), (15, [5, 7, 9, 12, 57, 58, 59, 68, 69, 70, 71]), (16, [5, 7, 9, 12, 14, 57, 58, 59, 68, 69, 70]), (17, [5, 7, 9, 12, 57, 58, 59, 68, 69, 70, 77]), (18, [5, 7, 9, 12, 57, 58, 59, 68, 69, 70]), (19, [5, 7, 9, 57, 58, 59]), (20, [5, 7, 9]), (21, [5, 9, 80, 81, 82]), (22, [5, 9, 80, 81, 82, 83]), (23, [5, 9, 16, 80, 81, 82]), (24, [5, 9, 80, 81, 82, 86, 87, 88]), (25, [5, 9, 80, 81, 82, 86, 87, 88, 89]), (26, [5, 9, 17, 18, 80, 81, 82, 86, 87, 88]), (27, [5, 9, 80, 81, 82, 86, 87, 88, 99]), (28, [5, 9, 80, 81, 82, 86, 87, 88]), (29, [5, 9, 80, 81, 82]), (30, [5, 9]), (31, [9, 19, 20])], [(0, [5, 7, 9]), (1, [5, 7, 9, 57, 58, 59]), (2, [5, 7, 9, 57, 58, 59]), (3, [5, 7, 9, 12, 57, 58, 59, 68, 69, 70]), (4, [5, 9]), (5, [5, 9, 80, 81, 82]), (6, [5, 9, 80, 81, 82]), (7, [5, 9, 80, 81, 82, 86, 87, 88])], some [4], inv, []⟩
noncomputable def F510.K0 : Conts := { nrm := endW F510.E false F510.fn.results.toList, ret := endW F510.E false F510.fn.results.toList, ex := [] }
noncomputable def F510.kt (k : Nat) (q : List Nat) : Conts := contAt F510.E k F510.body F510.K0 q
noncomputable def F510.l1_1_1_1_1_1_1_0_1_0 (n : Nat) (K : Conts) (p0 : List (List Int)) (p1 : List Dom) (p2 p3 p4 : Int) (p5 p6 p7 p8 p9 : List Int) (p10 : Int) (p11 p12 : List (List Int)) : Option AV := loopF F510.E n (inLoop (subC [1,1,1,1,1,1,1,0,1,0] F510.body)) K ⟨slots 119 [(5, .pb 0 0), (7, .v (.sl (.sl (.int .i64))) p0), (9, .v (.sl DomT) p1), (57, .own 1), (58, .v (.int .i64) p2), (59, .v (.int .i64) p3)], [.box (bC p4 p5 p6 p7 p8 p9 p10 p11), .frz (.sl (.int .i64)) p12]⟩
noncomputable def F510.k_l1_1_1_1_1_1_1_0_1_0 (n : Nat) (K : Conts) (q : List Nat) : Conts := contAt F510.E n (inLoop (subC [1, 1, 1, 1, 1, 1, 1, 0, 1, 0] F510.body)) (loopK F510.E n (inLoop (subC [1, 1, 1, 1, 1, 1, 1, 0, 1, 0] F510.body)) K) q
noncomputable def F510.l1_1_1_1_1_1_1_0_1_0_0_1_1_0_0_1_1_0 (n : Nat) (K : Conts) (p0 : List (List Int)) (p1 : List Dom) (p2 : List Int) (p3 p4 : Int) (p5 : List Int) (p6 p7 p8 : Int) (p9 p10 p11 p12 p13 : List Int) (p14 : Int) (p15 p16 : List (List Int)) : Option AV := loopF F510.E n (inLoop (subC [1,1,1,1,1,1,1,0,1,0,0,1,1,0,0,1,1,0] F510.body)) K ⟨slots 119 [(5, .pb 0 0), (7, .v (.sl (.sl (.int .i64))) p0), (9, .v (.sl DomT) p1), (12, .v (.sl (.int .i64)) p2), (57, .own 1), (58, .v (.int .i64) p3), (59, .v (.int .i64) p4), (68, .v (.sl (.int .i64)) p5), (69, .v (.int .i64) p6), (70, .v (.int .i64) p7)], [.box (bC p8 p9 p10 p11 p12 p13 p14 p15), .frz (.sl (.int .i64)) p16]⟩
noncomputable def F510.l1_1_1_1_1_1_1_1_0_1_0 (n : Nat) (K : Conts) (p0 : List Dom) (p1 : List (List Int)) (p2 p3 p4 : Int) (p5 p6 p7 p8 p9 : List Int) (p10 : Int) (p11 : List (List Int)) : Option AV := loopF F510.E n (inLoop (subC [1,1,1,1,1,1,1,1,0,1,0] F510.body)) K ⟨slots 119 [(5, .pb 0 0), (9, .v (.sl DomT) p0), (80, .v (.sl (.sl (.int .i64))) p1), (81, .v (.int .i64) p2), (82, .v (.int .i64) p3)], [.box (bC p4 p5 p6 p7 p8 p9 p10 p11)]⟩
noncomputable def F510.k_l1_1_1_1_1_1_1_1_0_1_0 (n : Nat) (K : Conts) (q : List Nat) : Conts := contAt F510.E n (inLoop (subC [1, 1, 1, 1, 1, 1, 1, 1, 0, 1, 0] F510.body)) (loopK F510.E n (inLoop (subC [1, 1, 1, 1, 1, 1, 1, 1, 0, 1, 0] F510.body)) K) q
noncomputable def F510.l1_1_1_1_1_1_1_1_0_1_0_0_1_1_0_0_1_1_0 (n : Nat) (K : Conts) (p0 : List Dom) (p1 : List (List Int)) (p2 p3 : Int) (p4 : List Int) (p5 p6 p7 : Int) (p8 p9 p10 p11 p12 : List Int) (p13 : Int) (p14 : List (List Int)) : Option AV := loopF F510.E n (inLoop (subC [1,1,1,1,1,1,1,1,0,1,0,0,1,1,0,0,1,1,0] F510.body)) K ⟨slots 119 [(5, .pb 0 0), (9, .v (.sl DomT) p0), (80, .v (.sl (.sl (.int .i64))) p1), (81, .v (.int .i64) p2), (82, .v (.int .i64) p3), (86, .v (.sl (.int .i64)) p4), (87, .v (.int .i64) p5), (88, .v (.int .i64) p6)], [.box (bC p7 p8 p9 p10 p11 p12 p13 p14)]⟩
theorem F510.start_eq (k : Nat) (a0 : (Int × ((List Int) × ((List Int) × ((List Int) × (Int × Int))))) × (List (List Int))) (a1 : Int) : callW F510.E false F510.fn k [.agg [.v (.int .u8) a0.1.1, .v (.sl (.int .u8)) a0.1.2.1, .v (.sl (.int .u8)) a0.1.2.2.1, .v (.sl (.int .i8)) a0.1.2.2.2.1, .v (.int .i16) a0.1.2.2.2.2.1, .v (.int .u8) a0.1.2.2.2.2.2, .v (.sl (.sl (.int .i64))) a0.2], .v (.int .u8) a1] =
 bif makeAB a0 (kindC a1) 9 then
 bif solB (makeAC a0 (kindC a1)) (makeAL a0 (kindC a1) 9) 4000 then
 bif Nat.ble (makeAL a0 (kindC a1) 9).length 1000 then
 bif cumFB (makeAC a0 (kindC a1)) (domsL (makeAL a0 (kindC a1) 9)) then
 bif !((solL (makeAC a0 (kindC a1)) (makeAL a0 (kindC a1) 9) 4000).2) then
 some (.v .bool true)
 else
 bif !((cumF (makeAC a0 (kindC a1)) (domsL (makeAL a0 (kindC a1) 9))).2) then
 some (.v .bool (decide ((((solL (makeAC a0 (kindC a1)) (makeAL a0 (kindC a1) 9) 4000).1).length : Int) = 0)))
 else
 bif !(decide ((((cumF (makeAC a0 (kindC a1)) (domsL (makeAL a0 (kindC a1) 9))).1).length : Int) = ((makeAL a0 (kindC a1) 9).length : Int))) then
 some (.v .bool false)
 else
 F510.l1_1_1_1_1_1_1_0_1_0 k (F510.kt k [1,1,1,1,1,1,1,0,1,0]) ((solL (makeAC a0 (kindC a1)) (makeAL a0 (kindC a1) 9) 4000).1) ((cumF (makeAC a0 (kindC a1)) (domsL (makeAL a0 (kindC a1) 9))).1) ((makeAL a0 (kindC a1) 9).length : Int) 0 ((makeAC a0 (kindC a1)).1) (((makeAC a0 (kindC a1)).2).1) ((((makeAC a0 (kindC a1)).2).2).1) (((((makeAC a0 (kindC a1)).2).2).2).1) ((((((makeAC a0 (kindC a1)).2).2).2).2).1) (((((((makeAC a0 (kindC a1)).2).2).2).2).2).1) ((((((((makeAC a0 (kindC a1)).2).2).2).2).2).2).1) ((((((((makeAC a0 (kindC a1)).2).2).2).2).2).2).2) (makeAL a0 (kindC a1) 9)
 else
 none
 else
 none
 else
 none
 else
 none := by kernel_rfl
theorem F510.l1_1_1_1_1_1_1_0_1_0_eq (n : Nat) (K : Conts) (p0 : List (List Int)) (p1 : List Dom) (p2 p3 p4 : Int) (p5 p6 p7 p8 p9 : List Int) (p10 : Int) (p11 p12 : List (List Int)) : F510.l1_1_1_1_1_1_1_0_1_0 (n + 1) K p0 p1 p2 p3 p4 p5 p6 p7 p8 p9 p10 p11 p12 =
 bif decide (p3 < p2) then
 bif decide (0 ≤ p3) && decide (p3 < p12.length) then
 bif decide (0 ≤ p3) && decide (p3 < p1.length) then
 bif listB (p1.getD p3.toNat ((0 : Int), ([], ((0 : Int), ((0 : Int), (0 : Int)))))) then
 F510.l1_1_1_1_1_1_1_0_1_0_0_1_1_0_0_1_1_0 n (F510.k_l1_1_1_1_1_1_1_0_1_0 n K [1,1,0,0,1,1,0]) p0 p1 (p12.getD p3.toNat []) p2 p3 (listD (p1.getD p3.toNat ((0 : Int), ([], ((0 : Int), ((0 : Int), (0 : Int))))))) ((listD (p1.getD p3.toNat ((0 : Int), ([], ((0 : Int), ((0 : Int), (0 : Int))))))).length : Int) 0 p4 p5 p6 p7 p8 p9 p10 p11 p12
 else
 none
 else
 none
 else
 none
 else
 exitK K 0 ⟨slots 119 [(5, .pb 0 0), (7, .v (.sl (.sl (.int .i64))) p0), (9, .v (.sl DomT) p1)], [.box (bC p4 p5 p6 p7 p8 p9 p10 p11)]⟩ := by kernel_rfl
theorem F510.l1_1_1_1_1_1_1_0_1_0_0_1_1_0_0_1_1_0_eq (n : Nat) (K : Conts) (p0 : List (List Int)) (p1 : List Dom) (p2 : List Int) (p3 p4 : Int) (p5 : List Int) (p6 p7 p8 : Int) (p9 p10 p11 p12 p13 : List Int) (p14 : Int) (p15 p16 : List (List Int)) : F510.l1_1_1_1_1_1_1_0_1_0_0_1_1_0_0_1_1_0 (n + 1) K p0 p1 p2 p3 p4 p5 p6 p7 p8 p9 p10 p11 p12 p13 p14 p15 p16 =
 bif decide (p7 < p6) then
 bif decide (0 ≤ p7) && decide (p7 < p5.length) then
 bif !(containsL p2 (p5.getD p7.toNat (0 : Int))) then
 K.ret ⟨slots 119 [(4, .v .bool false)], []⟩
 else
 F510.l1_1_1_1_1_1_1_0_1_0_0_1_1_0_0_1_1_0 n K p0 p1 p2 p3 p4 p5 p6 (IntKind.i64.wrap (p7 + 1)) p8 p9 p10 p11 p12 p13 p14 p15 p16
 else
 none
 else
 exitK K 2 ⟨slots 119 [(5, .pb 0 0), (7, .v (.sl (.sl (.int .i64))) p0), (9, .v (.sl DomT) p1), (57, .own 1), (58, .v (.int .i64) p3), (59, .v (.int .i64) p4)], [.box (bC p8 p9 p10 p11 p12 p13 p14 p15), .frz (.sl (.int .i64)) p16]⟩ := by kernel_rfl
theorem F510.c0 (k : Nat) (p0 : List (List Int)) (p1 : List Dom) (p2 : Int) (p3 p4 p5 p6 p7 : List Int) (p8 : Int) (p9 : List (List Int)) : exitK (F510.kt k [1,1,1,1,1,1,1,0,1,0]) 0 ⟨slots 119 [(5, .pb 0 0), (7, .v (.sl (.sl (.int .i64))) p0), (9, .v (.sl DomT) p1)], [.box (bC p2 p3 p4 p5 p6 p7 p8 p9)]⟩ =
 F510.l1_1_1_1_1_1_1_1_0_1_0 k (F510.kt k [1,1,1,1,1,1,1,1,0,1,0]) p1 p0 (p0.length : Int) 0 p2 p3 p4 p5 p6 p7 p8 p9 := by kernel_rfl
theorem F510.c2 (n : Nat) (K : Conts) (p0 : List (List Int)) (p1 : List Dom) (p2 p3 p4 : Int) (p5 p6 p7 p8 p9 : List Int) (p10 : Int) (p11 p12 : List (List Int)) : exitK (F510.k_l1_1_1_1_1_1_1_0_1_0 n K [1,1,0,0,1,1,0]) 2 ⟨slots 119 [(5, .pb 0 0), (7, .v (.sl (.sl (.int .i64))) p0), (9, .v (.sl DomT) p1), (57, .own 1), (58, .v (.int .i64) p2), (59, .v (.int .i64) p3)], [.box (bC p4 p5 p6 p7 p8 p9 p10 p11), .frz (.sl (.int .i64)) p12]⟩ =
 F510.l1_1_1_1_1_1_1_0_1_0 n K p0 p1 p2 (IntKind.i64.wrap (p3 + 1)) p4 p5 p6 p7 p8 p9 p10 p11 p12 := by kernel_rfl
theorem F510.l1_1_1_1_1_1_1_1_0_1_0_eq (n : Nat) (K : Conts) (p0 : List Dom) (p1 : List (List Int)) (p2 p3 p4 : Int) (p5 p6 p7 p8 p9 : List Int) (p10 : Int) (p11 : List (List Int)) : F510.l1_1_1_1_1_1_1_1_0_1_0 (n + 1) K p0 p1 p2 p3 p4 p5 p6 p7 p8 p9 p10 p11 =
 bif decide (p3 < p2) then
 bif decide (0 ≤ p3) && decide (p3 < p1.length) then
 F510.l1_1_1_1_1_1_1_1_0_1_0_0_1_1_0_0_1_1_0 n (F510.k_l1_1_1_1_1_1_1_1_0_1_0 n K [1,1,0,0,1,1,0]) p0 p1 p2 p3 (p1.getD p3.toNat []) ((p1.getD p3.toNat []).length : Int) 0 p4 p5 p6 p7 p8 p9 p10 p11
 else
 none
 else
 exitK K 4 ⟨slots 119 [(5, .pb 0 0), (9, .v (.sl DomT) p0)], [.box (bC p4 p5 p6 p7 p8 p9 p10 p11)]⟩ := by kernel_rfl
theorem F510.l1_1_1_1_1_1_1_1_0_1_0_0_1_1_0_0_1_1_0_eq (n : Nat) (K : Conts) (p0 : List Dom) (p1 : List (List Int)) (p2 p3 : Int) (p4 : List Int) (p5 p6 p7 : Int) (p8 p9 p10 p11 p12 : List Int) (p13 : Int) (p14 : List (List Int)) : F510.l1_1_1_1_1_1_1_1_0_1_0_0_1_1_0_0_1_1_0 (n + 1) K p0 p1 p2 p3 p4 p5 p6 p7 p8 p9 p10 p11 p12 p13 p14 =
 bif decide (p6 < p5) then
 bif decide (0 ≤ p6) && decide (p6 < p4.length) then
 bif decide (0 ≤ p6) && decide (p6 < p0.length) then
 bif nearB ((p0.getD p6.toNat ((0 : Int), ([], ((0 : Int), ((0 : Int), (0 : Int)))))).1) then
 bif !(hasD (p0.getD p6.toNat ((0 : Int), ([], ((0 : Int), ((0 : Int), (0 : Int)))))) (p4.getD p6.toNat (0 : Int))) then
 K.ret ⟨slots 119 [(4, .v .bool false)], []⟩
 else
 F510.l1_1_1_1_1_1_1_1_0_1_0_0_1_1_0_0_1_1_0 n K p0 p1 p2 p3 p4 p5 (IntKind.i64.wrap (p6 + 1)) p7 p8 p9 p10 p11 p12 p13 p14
 else
 none
 else
 none
 else
 none
 else
 exitK K 6 ⟨slots 119 [(5, .pb 0 0), (9, .v (.sl DomT) p0), (80, .v (.sl (.sl (.int .i64))) p1), (81, .v (.int .i64) p2), (82, .v (.int .i64) p3)], [.box (bC p7 p8 p9 p10 p11 p12 p13 p14)]⟩ := by kernel_rfl
theorem F510.c4 (k : Nat) (p0 : List Dom) (p1 : Int) (p2 p3 p4 p5 p6 : List Int) (p7 : Int) (p8 : List (List Int)) : exitK (F510.kt k [1,1,1,1,1,1,1,1,0,1,0]) 4 ⟨slots 119 [(5, .pb 0 0), (9, .v (.sl DomT) p0)], [.box (bC p1 p2 p3 p4 p5 p6 p7 p8)]⟩ =
 bif cumFB (p1, (p2, (p3, (p4, (p5, (p6, (p7, p8))))))) p0 then
 bif (cumF (p1, (p2, (p3, (p4, (p5, (p6, (p7, p8))))))) p0).2 then
 bif Nat.ble ((cumF (p1, (p2, (p3, (p4, (p5, (p6, (p7, p8))))))) p0).1).length 1000 && ((cumF (p1, (p2, (p3, (p4, (p5, (p6, (p7, p8))))))) p0).1).all listB then
 bif Nat.ble p0.length 1000 && p0.all listB then
 bif Nat.ble (listsL ((cumF (p1, (p2, (p3, (p4, (p5, (p6, (p7, p8))))))) p0).1)).length 1000 && lensB (listsL ((cumF (p1, (p2, (p3, (p4, (p5, (p6, (p7, p8))))))) p0).1)) then
 some (.v .bool (sameL (listsL ((cumF (p1, (p2, (p3, (p4, (p5, (p6, (p7, p8))))))) p0).1)) (listsL p0)))
 else
 none
 else
 none
 else
 none
 else
 some (.v .bool false)
 else
 none := by kernel_rfl
theorem F510.c6 (n : Nat) (K : Conts) (p0 : List Dom) (p1 : List (List Int)) (p2 p3 p4 : Int) (p5 p6 p7 p8 p9 : List Int) (p10 : Int) (p11 : List (List Int)) : exitK (F510.k_l1_1_1_1_1_1_1_1_0_1_0 n K [1,1,0,0,1,1,0]) 6 ⟨slots 119 [(5, .pb 0 0), (9, .v (.sl DomT) p0), (80, .v (.sl (.sl (.int .i64))) p1), (81, .v (.int .i64) p2), (82, .v (.int .i64) p3)], [.box (bC p4 p5 p6 p7 p8 p9 p10 p11)]⟩ =
 F510.l1_1_1_1_1_1_1_1_0_1_0 n K p0 p1 p2 (IntKind.i64.wrap (p3 + 1)) p4 p5 p6 p7 p8 p9 p10 p11 := by kernel_rfl
end Go.Proofs.YtdihbphkbdelbaaGreatDoor.Ev
