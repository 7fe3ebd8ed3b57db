/-
The functions as the evaluator runs them: printed by a program of mine, each equation by kernel_rfl.
Conditions: none.
The functions as the evaluator runs them: printed by a program of mine, each equation by kernel_rfl.
Conditions: none.
The functions as the evaluator runs them: printed by a program of mine, each equation by kernel_rfl.
Conditions: none.
-/
import Derived.Test.YtnojoaghcbljfaaGreatDoorAa
set_option linter.unusedVariables false
set_option linter.unusedSimpArgs false
set_option maxRecDepth 100000
namespace Go.Proofs.YtnojoaghcbljfaaGreatDoor.Ev
open Go
/-! ### 66: jigsaw/dom.in -/
noncomputable def F66.fn : Func := Go.Proofs.Tryz.f52
noncomputable def F66.E : Env := ⟨tt, [], [(1, [0])], [], some [2], inv⟩
theorem F66.start_eq (k : Nat) (a0 : Int) : callW F66.E false F66.fn k [.v (.int .i64) a0] =
    bif decide (a0 ≥ (-1000000 : Int)) then some (.v .bool (decide (a0 ≤ 1000000))) else some (.v .bool false) := by kernel_rfl

/-! ### 68: jigsaw/dom.place -/
noncomputable def F68.fn : Func := Go.Proofs.Tryz.f54
noncomputable def F68.E : Env := ⟨tt, [], [(1, [0])], [], some [2], inv⟩
theorem F68.start_eq (k : Nat) (a0 : Int) : callW F68.E false F68.fn k [.v (.int .i64) a0] =
    some (.v (.int .i64) (bitsW .andNot .i64 a0 63)) := by kernel_rfl

/-! ### 67: (jigsaw/dom.Dom).word -/
noncomputable def F67.fn : Func := Go.Proofs.Tryz.f53
noncomputable def F67.E : Env := ⟨tt, [], [(1, [1, 2]), (2, [1, 2, 5]), (3, [2, 5, 21]), (4, [2, 5])], [], some [4], inv⟩
theorem F67.start_eq (k : Nat) (a0 : (Int × ((List Int) × (Int × (Int × Int))))) (a1 : Int) : callW F67.E false F67.fn k [.agg [.v (.int .i64) a0.1, .v (.sl (.int .u64)) a0.2.1, .v (.int .i64) a0.2.2.1, .v (.int .i64) a0.2.2.2.1, .v (.int .i64) a0.2.2.2.2], .v (.int .i64) a1] =
    bif decide (a1 < a0.1) then
      some (.v (.int .u64) (0 : Int))
    else
      bif decide ((IntKind.i64.wrap ((IntKind.i64.wrap (a1 - a0.1)).tdiv 64)) ≥ (a0.2.1.length : Int)) then
        some (.v (.int .u64) (0 : Int))
      else
        bif decide (0 ≤ (IntKind.i64.wrap ((IntKind.i64.wrap (a1 - a0.1)).tdiv 64))) && decide ((IntKind.i64.wrap ((IntKind.i64.wrap (a1 - a0.1)).tdiv 64)) < a0.2.1.length) then
          some (.v (.int .u64) (a0.2.1.getD ((IntKind.i64.wrap ((IntKind.i64.wrap (a1 - a0.1)).tdiv 64)).toNat) (0 : Int)))
        else
          none := by kernel_rfl

/-! ### 31: (jigsaw/dom.Dom).Has -/
noncomputable def F31.fn : Func := Go.Proofs.Tryz.f22
noncomputable def F31.E : Env := ⟨tt, [(52, h_inD), (53, h_wordD), (54, h_placeD)], [(1, [1, 2])], [], some [4], inv⟩
theorem F31.start_eq (k : Nat) (a0 : (Int × ((List Int) × (Int × (Int × Int))))) (a1 : Int) : callW F31.E false F31.fn k [.agg [.v (.int .i64) a0.1, .v (.sl (.int .u64)) a0.2.1, .v (.int .i64) a0.2.2.1, .v (.int .i64) a0.2.2.2.1, .v (.int .i64) a0.2.2.2.2], .v (.int .i64) a1] =
    bif inD a1 then
      bif wordB a0 (placeD a1) then
        bif decide (0 ≤ (IntKind.i64.wrap (a1 - (placeD a1)))) then
          some (.v .bool (decide ((bitsW .and .u64 (shrW .u64 (wordD a0 (placeD a1)) (IntKind.i64.wrap (a1 - (placeD a1)))) 1) = 1)))
        else
          none
      else
        none
    else
      some (.v .bool false) := by kernel_rfl

/-! ### 71: jigsaw/dom.room -/
noncomputable def F71.fn : Func := Go.Proofs.Tryz.f98
noncomputable def F71.E : Env := ⟨tt, [(54, h_placeD)], [(1, [0, 1, 4])], [], some [4], inv⟩
theorem F71.start_eq (k : Nat) (a0 : Int) (a1 : Int) : callW F71.E true F71.fn k [.v (.int .i64) a0, .v (.int .i64) a1] =
    bif decide (0 ≤ (IntKind.i64.wrap ((IntKind.i64.wrap ((IntKind.i64.wrap ((placeD a1) - (placeD a0))).tdiv 64)) + 1))) && decide ((IntKind.i64.wrap ((IntKind.i64.wrap ((IntKind.i64.wrap ((placeD a1) - (placeD a0))).tdiv 64)) + 1)).toNat * 8 ≤ LIM) then
      some (.agg [.v (.int .i64) (placeD a0), .nw 81 (.int .u64) (List.replicate ((IntKind.i64.wrap ((IntKind.i64.wrap ((IntKind.i64.wrap ((placeD a1) - (placeD a0))).tdiv 64)) + 1)).toNat) (0 : Int)), .v (.int .i64) (0 : Int), .v (.int .i64) (0 : Int), .v (.int .i64) (0 : Int)])
    else
      none := by kernel_rfl

/-! ### 89: math/bits.OnesCount64 -/
noncomputable def F89.fn : Func := Go.Proofs.Tryz.f138
noncomputable def F89.E : Env := ⟨tt, [], [(1, [0]), (2, [0]), (3, [0]), (4, [0]), (5, [0]), (6, [0]), (7, [0])], [], some [2], inv⟩
/-! ### 102: math/bits.Len64 -/
noncomputable def F102.fn : Func := Go.Proofs.Tryz.f126
noncomputable def F102.body : Code := bodyOf F102.fn
noncomputable def F102.E : Env := ⟨tt, [], [(1, [0, 2]), (2, [0, 2, 4]), (3, [0]), (4, [0, 2]), (5, [0, 2, 8]), (6, [0, 2]), (7, [0, 2]), (8, [0, 2, 14]), (9, [0, 2]), (10, [0, 2])], [], some [2], inv⟩
noncomputable def F102.K0 : Conts := { nrm := endW F102.E false F102.fn.results.toList, ret := endW F102.E false F102.fn.results.toList, ex := [] }
noncomputable def F102.kt (k : Nat) (q : List Nat) : Conts := contAt F102.E k F102.body F102.K0 q
noncomputable def F102.n1_1 (n : Nat) (K : Conts) (p0 : Int) (p1 : Int) : Option AV := runC F102.E (loopF F102.E n) (subC [1, 1] F102.body) K ⟨slots 25 [(0, .v (.int .u64) p0), (2, .v (.int .i64) p1)], []⟩
noncomputable def F102.k_n1_1 (n : Nat) (K : Conts) (q : List Nat) : Conts := contAt F102.E n (subC [1, 1] F102.body) K q
noncomputable def F102.n1_1_1 (n : Nat) (K : Conts) (p0 : Int) (p1 : Int) : Option AV := runC F102.E (loopF F102.E n) (subC [1, 1, 1] F102.body) K ⟨slots 25 [(0, .v (.int .u64) p0), (2, .v (.int .i64) p1)], []⟩
noncomputable def F102.k_n1_1_1 (n : Nat) (K : Conts) (q : List Nat) : Conts := contAt F102.E n (subC [1, 1, 1] F102.body) K q
noncomputable def F102.n1_1_1_1 (n : Nat) (K : Conts) (p0 : Int) (p1 : Int) : Option AV := runC F102.E (loopF F102.E n) (subC [1, 1, 1, 1] F102.body) K ⟨slots 25 [(0, .v (.int .u64) p0), (2, .v (.int .i64) p1)], []⟩
theorem F102.start_eq (k : Nat) (a0 : Int) : callW F102.E false F102.fn k [.v (.int .u64) a0] =
    bif decide (a0 ≥ 4294967296) then F102.n1_1 k (F102.kt k [1, 1]) (shrW .u64 a0 32) 32 else F102.n1_1 k (F102.kt k [1, 1]) a0 0 := by kernel_rfl
theorem F102.n1_1_eq (n : Nat) (K : Conts) (p0 : Int) (p1 : Int) : F102.n1_1 n K p0 p1 =
    bif decide (p0 ≥ 65536) then F102.n1_1_1 n (F102.k_n1_1 n K [1]) (shrW .u64 p0 16) (IntKind.i64.wrap (p1 + 16)) else F102.n1_1_1 n (F102.k_n1_1 n K [1]) p0 p1 := by kernel_rfl
theorem F102.n1_1_1_eq (n : Nat) (K : Conts) (p0 : Int) (p1 : Int) : F102.n1_1_1 n K p0 p1 =
    bif decide (p0 ≥ 256) then F102.n1_1_1_1 n (F102.k_n1_1_1 n K [1]) (shrW .u64 p0 8) (IntKind.i64.wrap (p1 + 8)) else F102.n1_1_1_1 n (F102.k_n1_1_1 n K [1]) p0 p1 := by kernel_rfl
theorem F102.n1_1_1_1_eq (n : Nat) (K : Conts) (p0 : Int) (p1 : Int) : F102.n1_1_1_1 n K p0 p1 =
    bif decide (0 ≤ (IntKind.u8.wrap p0)) && decide ((IntKind.u8.wrap p0) < len8tab.size) then
      K.ret ⟨slots 25 [(2, .v (.int .i64) (IntKind.i64.wrap (p1 + (IntKind.i64.wrap (byteW len8tab ((IntKind.u8.wrap p0).toNat))))))], []⟩
    else
      none := by kernel_rfl
theorem F102.c0 (n : Nat) (K : Conts) (p0 : Int) : (F102.k_n1_1_1 n K [1]).ret ⟨slots 25 [(2, .v (.int .i64) p0)], []⟩ =
    K.ret ⟨slots 25 [(2, .v (.int .i64) p0)], []⟩ := by kernel_rfl
theorem F102.c1 (n : Nat) (K : Conts) (p0 : Int) : (F102.k_n1_1 n K [1]).ret ⟨slots 25 [(2, .v (.int .i64) p0)], []⟩ =
    K.ret ⟨slots 25 [(2, .v (.int .i64) p0)], []⟩ := by kernel_rfl
theorem F102.c2 (k : Nat) (p0 : Int) : (F102.kt k [1, 1]).ret ⟨slots 25 [(2, .v (.int .i64) p0)], []⟩ =
    some (.v (.int .i64) p0) := by kernel_rfl

/-! ### 88: math/bits.LeadingZeros64 -/
noncomputable def F88.fn : Func := Go.Proofs.Tryz.f137
noncomputable def F88.E : Env := ⟨tt, [(126, h_len64D)], [(1, [0])], [], some [2], inv⟩
theorem F88.start_eq (k : Nat) (a0 : Int) : callW F88.E false F88.fn k [.v (.int .u64) a0] =
    bif uB a0 then some (.v (.int .i64) (IntKind.i64.wrap (64 - (len64D a0)))) else none := by kernel_rfl

/-! ### 72: jigsaw/dom.made -/
noncomputable def F72.fn : Func := Go.Proofs.Tryz.f99
noncomputable def F72.body : Code := bodyOf F72.fn
noncomputable def F72.E : Env := ⟨tt, [(55, h_tzD), (137, h_lzD), (138, h_onesD)], [(1, [0, 1, 4]), (2, [0, 1, 4, 5]), (3, [0, 4, 5, 11, 12, 13]), (4, [0, 4, 5, 11, 12, 13, 14]), (5, [0, 4, 5, 6, 7, 11, 12, 13]), (6, [0, 4, 5, 6, 7, 11, 12, 13]), (7, [0, 4, 5, 6, 7, 11, 12, 13, 22]), (8, [0, 4, 5, 6, 7, 11, 12, 13]), (9, [0, 4, 5, 7, 11, 12, 13]), (10, [0, 4, 5, 11, 12, 13]), (11, [4, 5])], [(0, [4, 5]), (1, [0, 4, 5, 11, 12, 13])], some [4], inv⟩
noncomputable def F72.K0 : Conts := { nrm := endW F72.E false F72.fn.results.toList, ret := endW F72.E false F72.fn.results.toList, ex := [] }
noncomputable def F72.kt (k : Nat) (q : List Nat) : Conts := contAt F72.E k F72.body F72.K0 q
noncomputable def F72.l1_1_0_1_0 (n : Nat) (K : Conts) (p0 : Int) (p1 : (List Int)) (p2 : Int) (p3 : Int) (p4 : Int) (p5 : Int) (p6 : Int) (p7 : Int) (p8 : Int) (p9 : (List Int)) (p10 : Int) (p11 : Int) (p12 : Int) : Option AV := loopF F72.E n (inLoop (subC [1, 1, 0, 1, 0] F72.body)) K ⟨slots 49 [(0, .v (.int .i64) p0), (4, .pb 0 0), (5, .pb 1 0), (11, .v (.sl (.int .u64)) p1), (12, .v (.int .i64) p2), (13, .v (.int .i64) p3)], [.box [.v (.int .i64) p4, .nl, .v (.int .i64) p5, .v (.int .i64) p6, .v (.int .i64) p7], .box [.v (.int .i64) p8, .v (.sl (.int .u64)) p9, .v (.int .i64) p10, .v (.int .i64) p11, .v (.int .i64) p12]]⟩
theorem F72.start_eq (k : Nat) (a0 : Int) (a1 : (List Int)) : callW F72.E false F72.fn k [.v (.int .i64) a0, .v (.sl (.int .u64)) a1] =
    F72.l1_1_0_1_0 k (F72.kt k [1, 1, 0, 1, 0]) a0 a1 (a1.length : Int) 0 (0 : Int) (0 : Int) (0 : Int) (0 : Int) a0 a1 (0 : Int) (0 : Int) (0 : Int) := by kernel_rfl
theorem F72.l1_1_0_1_0_eq (n : Nat) (K : Conts) (p0 : Int) (p1 : (List Int)) (p2 : Int) (p3 : Int) (p4 : Int) (p5 : Int) (p6 : Int) (p7 : Int) (p8 : Int) (p9 : (List Int)) (p10 : Int) (p11 : Int) (p12 : Int) : F72.l1_1_0_1_0 (n + 1) K p0 p1 p2 p3 p4 p5 p6 p7 p8 p9 p10 p11 p12 =
    bif decide (p3 < p2) then
      bif decide (0 ≤ p3) && decide (p3 < p1.length) then
        bif decide ((p1.getD p3.toNat (0 : Int)) = 0) then
          F72.l1_1_0_1_0 n K p0 p1 p2 (IntKind.i64.wrap (p3 + 1)) p4 p5 p6 p7 p8 p9 p10 p11 p12
        else
          bif decide (p12 = 0) then
            bif uB (p1.getD p3.toNat (0 : Int)) then
              bif uB (p1.getD p3.toNat (0 : Int)) then
                bif uB (p1.getD p3.toNat (0 : Int)) then
                  F72.l1_1_0_1_0 n K p0 p1 p2 (IntKind.i64.wrap (p3 + 1)) p4 p5 p6 p7 p8 p9 (IntKind.i64.wrap ((IntKind.i64.wrap (p0 + (IntKind.i64.wrap (64 * p3)))) + (tzD (p1.getD p3.toNat (0 : Int))))) (IntKind.i64.wrap ((IntKind.i64.wrap ((IntKind.i64.wrap ((IntKind.i64.wrap (p0 + (IntKind.i64.wrap (64 * p3)))) + 64)) - 1)) - (lzD (p1.getD p3.toNat (0 : Int))))) (IntKind.i64.wrap (p12 + (onesD (p1.getD p3.toNat (0 : Int)))))
                else
                  none
              else
                none
            else
              none
          else
            bif uB (p1.getD p3.toNat (0 : Int)) then
              bif uB (p1.getD p3.toNat (0 : Int)) then
                F72.l1_1_0_1_0 n K p0 p1 p2 (IntKind.i64.wrap (p3 + 1)) p4 p5 p6 p7 p8 p9 p10 (IntKind.i64.wrap ((IntKind.i64.wrap ((IntKind.i64.wrap ((IntKind.i64.wrap (p0 + (IntKind.i64.wrap (64 * p3)))) + 64)) - 1)) - (lzD (p1.getD p3.toNat (0 : Int))))) (IntKind.i64.wrap (p12 + (onesD (p1.getD p3.toNat (0 : Int)))))
              else
                none
            else
              none
      else
        none
    else
      exitK K 0 ⟨slots 49 [(4, .pb 0 0), (5, .pb 1 0)], [.box [.v (.int .i64) p4, .nl, .v (.int .i64) p5, .v (.int .i64) p6, .v (.int .i64) p7], .box [.v (.int .i64) p8, .v (.sl (.int .u64)) p9, .v (.int .i64) p10, .v (.int .i64) p11, .v (.int .i64) p12]]⟩ := by kernel_rfl
theorem F72.c0 (k : Nat) (p0 : Int) (p1 : Int) (p2 : Int) (p3 : Int) (p4 : Int) (p5 : (List Int)) (p6 : Int) (p7 : Int) (p8 : Int) : exitK (F72.kt k [1, 1, 0, 1, 0]) 0 ⟨slots 49 [(4, .pb 0 0), (5, .pb 1 0)], [.box [.v (.int .i64) p0, .nl, .v (.int .i64) p1, .v (.int .i64) p2, .v (.int .i64) p3], .box [.v (.int .i64) p4, .v (.sl (.int .u64)) p5, .v (.int .i64) p6, .v (.int .i64) p7, .v (.int .i64) p8]]⟩ =
    some (.agg [.v (.int .i64) p4, .v (.sl (.int .u64)) p5, .v (.int .i64) p6, .v (.int .i64) p7, .v (.int .i64) p8]) := by kernel_rfl

/-! ### 29: (jigsaw/dom.Dom).List -/
noncomputable def F29.fn : Func := Go.Proofs.Tryz.f23
noncomputable def F29.body : Code := bodyOf F29.fn
noncomputable def F29.E : Env := ⟨tt, [(55, h_tzD)], [(1, [1]), (2, [1, 3]), (3, [1, 3, 7, 8, 9, 30003]), (4, [1, 3, 7, 8, 9, 10]), (5, [1, 3, 4, 5, 7, 8, 9, 30003]), (6, [1, 3, 4, 5, 7, 8, 9]), (7, [1, 3, 4, 5, 7, 8, 9]), (8, [1, 3, 7, 8, 9]), (9, [3])], [(0, [3]), (1, [1, 3, 7, 8, 9]), (2, [1, 3, 7, 8, 9]), (3, [1, 3, 4, 5, 7, 8, 9])], some [2], inv⟩
noncomputable def F29.K0 : Conts := { nrm := endW F29.E false F29.fn.results.toList, ret := endW F29.E false F29.fn.results.toList, ex := [] }
noncomputable def F29.kt (k : Nat) (q : List Nat) : Conts := contAt F29.E k F29.body F29.K0 q
noncomputable def F29.l1_1_0_1_0 (n : Nat) (K : Conts) (p0 : (List Int)) (p1 : Int) (p2 : Int) (p3 : Int) (p4 : (List Int)) (p5 : Int) (p6 : Int) (p7 : Int) (p8 : (List Int)) : Option AV := loopF F29.E n (inLoop (subC [1, 1, 0, 1, 0] F29.body)) K ⟨slots 33 [(1, .pb 0 0), (3, .own 1), (7, .v (.sl (.int .u64)) p0), (8, .v (.int .i64) p1), (9, .v (.int .i64) p2)], [.box [.v (.int .i64) p3, .v (.sl (.int .u64)) p4, .v (.int .i64) p5, .v (.int .i64) p6, .v (.int .i64) p7], .row 3 (.int .i64) p8]⟩
noncomputable def F29.k_l1_1_0_1_0 (n : Nat) (K : Conts) (q : List Nat) : Conts := contAt F29.E n (inLoop (subC [1, 1, 0, 1, 0] F29.body)) (loopK F29.E n (inLoop (subC [1, 1, 0, 1, 0] F29.body)) K) q
noncomputable def F29.l1_1_0_1_0_0_1_1_0_0_1_0 (n : Nat) (K : Conts) (p0 : Int) (p1 : Int) (p2 : (List Int)) (p3 : Int) (p4 : Int) (p5 : Int) (p6 : (List Int)) (p7 : Int) (p8 : Int) (p9 : Int) (p10 : (List Int)) : Option AV := loopF F29.E n (inLoop (subC [1, 1, 0, 1, 0, 0, 1, 1, 0, 0, 1, 0] F29.body)) K ⟨slots 33 [(1, .pb 0 0), (3, .own 1), (4, .v (.int .i64) p0), (5, .v (.int .u64) p1), (7, .v (.sl (.int .u64)) p2), (8, .v (.int .i64) p3), (9, .v (.int .i64) p4)], [.box [.v (.int .i64) p5, .v (.sl (.int .u64)) p6, .v (.int .i64) p7, .v (.int .i64) p8, .v (.int .i64) p9], .row 3 (.int .i64) p10]⟩
theorem F29.start_eq (k : Nat) (a0 : (Int × ((List Int) × (Int × (Int × Int))))) : callW F29.E false F29.fn k [.agg [.v (.int .i64) a0.1, .v (.sl (.int .u64)) a0.2.1, .v (.int .i64) a0.2.2.1, .v (.int .i64) a0.2.2.2.1, .v (.int .i64) a0.2.2.2.2]] =
    F29.l1_1_0_1_0 k (F29.kt k [1, 1, 0, 1, 0]) a0.2.1 (a0.2.1.length : Int) 0 a0.1 a0.2.1 a0.2.2.1 a0.2.2.2.1 a0.2.2.2.2 [] := by kernel_rfl
theorem F29.l1_1_0_1_0_eq (n : Nat) (K : Conts) (p0 : (List Int)) (p1 : Int) (p2 : Int) (p3 : Int) (p4 : (List Int)) (p5 : Int) (p6 : Int) (p7 : Int) (p8 : (List Int)) : F29.l1_1_0_1_0 (n + 1) K p0 p1 p2 p3 p4 p5 p6 p7 p8 =
    bif decide (p2 < p1) then
      bif decide (0 ≤ p2) && decide (p2 < p0.length) then
        F29.l1_1_0_1_0_0_1_1_0_0_1_0 n (F29.k_l1_1_0_1_0 n K [1, 1, 0, 0, 1, 0]) p2 (p0.getD p2.toNat (0 : Int)) p0 p1 p2 p3 p4 p5 p6 p7 p8
      else
        none
    else
      exitK K 0 ⟨slots 33 [(3, .own 0)], [.row 3 (.int .i64) p8]⟩ := by kernel_rfl
theorem F29.l1_1_0_1_0_0_1_1_0_0_1_0_eq (n : Nat) (K : Conts) (p0 : Int) (p1 : Int) (p2 : (List Int)) (p3 : Int) (p4 : Int) (p5 : Int) (p6 : (List Int)) (p7 : Int) (p8 : Int) (p9 : Int) (p10 : (List Int)) : F29.l1_1_0_1_0_0_1_1_0_0_1_0 (n + 1) K p0 p1 p2 p3 p4 p5 p6 p7 p8 p9 p10 =
    bif !(decide (p1 = 0)) then
      bif uB p1 then
        bif decide ((p10.length + [IntKind.i64.wrap ((IntKind.i64.wrap (p5 + (IntKind.i64.wrap (64 * p0)))) + (tzD p1))].length) * 8 ≤ LIM) then
          F29.l1_1_0_1_0_0_1_1_0_0_1_0 n K p0 (bitsW .and .u64 p1 (IntKind.u64.wrap (p1 - 1))) p2 p3 p4 p5 p6 p7 p8 p9 (p10 ++ [IntKind.i64.wrap ((IntKind.i64.wrap (p5 + (IntKind.i64.wrap (64 * p0)))) + (tzD p1))])
        else
          none
      else
        none
    else
      exitK K 2 ⟨slots 33 [(1, .pb 0 0), (3, .own 1), (7, .v (.sl (.int .u64)) p2), (8, .v (.int .i64) p3), (9, .v (.int .i64) p4)], [.box [.v (.int .i64) p5, .v (.sl (.int .u64)) p6, .v (.int .i64) p7, .v (.int .i64) p8, .v (.int .i64) p9], .row 3 (.int .i64) p10]⟩ := by kernel_rfl
theorem F29.c0 (k : Nat) (p0 : (List Int)) : exitK (F29.kt k [1, 1, 0, 1, 0]) 0 ⟨slots 33 [(3, .own 0)], [.row 3 (.int .i64) p0]⟩ =
    some (.v (.sl (.int .i64)) p0) := by kernel_rfl
theorem F29.c1 (n : Nat) (K : Conts) (p0 : (List Int)) (p1 : Int) (p2 : Int) (p3 : Int) (p4 : (List Int)) (p5 : Int) (p6 : Int) (p7 : Int) (p8 : (List Int)) : exitK (F29.k_l1_1_0_1_0 n K [1, 1, 0, 0, 1, 0]) 2 ⟨slots 33 [(1, .pb 0 0), (3, .own 1), (7, .v (.sl (.int .u64)) p0), (8, .v (.int .i64) p1), (9, .v (.int .i64) p2)], [.box [.v (.int .i64) p3, .v (.sl (.int .u64)) p4, .v (.int .i64) p5, .v (.int .i64) p6, .v (.int .i64) p7], .row 3 (.int .i64) p8]⟩ =
    F29.l1_1_0_1_0 n K p0 p1 (IntKind.i64.wrap (p2 + 1)) p3 p4 p5 p6 p7 p8 := by kernel_rfl

/-! ### 75: (jigsaw/dom.Dom).Size -/
noncomputable def F75.fn : Func := Go.Proofs.Tryz.f92
noncomputable def F75.E : Env := ⟨tt, [], [(1, [1])], [], some [2], inv⟩
theorem F75.start_eq (k : Nat) (a0 : (Int × ((List Int) × (Int × (Int × Int))))) : callW F75.E false F75.fn k [.agg [.v (.int .i64) a0.1, .v (.sl (.int .u64)) a0.2.1, .v (.int .i64) a0.2.2.1, .v (.int .i64) a0.2.2.2.1, .v (.int .i64) a0.2.2.2.2]] =
    some (.v (.int .i64) a0.2.2.2.2) := by kernel_rfl

/-! ### 78: jigsaw/dom.Of$1 -/
noncomputable def F78.fn : Func := Go.Proofs.Tryz.f95
noncomputable def F78.E : Env := ⟨tt, [(52, h_inD)], [(1, [0])], [], some [2], inv⟩
theorem F78.start_eq (k : Nat) (a0 : Int) : callW F78.E false F78.fn k [.v (.int .i64) a0] =
    some (.v .bool (!(inD a0))) := by kernel_rfl

/-! ### 79: slices.Max[[]int,int] -/
noncomputable def F79.fn : Func := Go.Proofs.Tryz.f96
noncomputable def F79.body : Code := bodyOf F79.fn
noncomputable def F79.E : Env := ⟨tt, [], [(1, [0]), (2, [0, 7]), (3, [0]), (4, [0, 3]), (5, [0, 3, 4]), (6, [0, 3, 4]), (7, [0, 3, 4]), (8, [3])], [(0, [3]), (1, [0, 3, 4])], some [2], inv⟩
noncomputable def F79.K0 : Conts := { nrm := endW F79.E false F79.fn.results.toList, ret := endW F79.E false F79.fn.results.toList, ex := [] }
noncomputable def F79.kt (k : Nat) (q : List Nat) : Conts := contAt F79.E k F79.body F79.K0 q
noncomputable def F79.n1_1 (n : Nat) (K : Conts) (p0 : (List Int)) : Option AV := runC F79.E (loopF F79.E n) (subC [1, 1] F79.body) K ⟨slots 25 [(0, .v (.sl (.int .i64)) p0)], []⟩
noncomputable def F79.k_n1_1 (n : Nat) (K : Conts) (q : List Nat) : Conts := contAt F79.E n (subC [1, 1] F79.body) K q
noncomputable def F79.l1_1_1_0_1_0 (n : Nat) (K : Conts) (p0 : (List Int)) (p1 : Int) (p2 : Int) : Option AV := loopF F79.E n (inLoop (subC [1, 1, 1, 0, 1, 0] F79.body)) K ⟨slots 25 [(0, .v (.sl (.int .i64)) p0), (3, .v (.int .i64) p1), (4, .v (.int .i64) p2)], []⟩
theorem F79.start_eq (k : Nat) (a0 : (List Int)) : callW F79.E false F79.fn k [.v (.sl (.int .i64)) a0] =
    bif decide ((a0.length : Int) < 1) then none else F79.n1_1 k (F79.kt k [1, 1]) a0 := by kernel_rfl
theorem F79.n1_1_eq (n : Nat) (K : Conts) (p0 : (List Int)) : F79.n1_1 n K p0 =
    bif decide ((0 : Int) < p0.length) then F79.l1_1_1_0_1_0 n (F79.k_n1_1 n K [1, 0, 1, 0]) p0 (p0.getD 0 (0 : Int)) 1 else none := by kernel_rfl
theorem F79.l1_1_1_0_1_0_eq (n : Nat) (K : Conts) (p0 : (List Int)) (p1 : Int) (p2 : Int) : F79.l1_1_1_0_1_0 (n + 1) K p0 p1 p2 =
    bif decide (p2 < (p0.length : Int)) then
      bif decide (0 ≤ p2) && decide (p2 < p0.length) then
        F79.l1_1_1_0_1_0 n K p0 (if p0.getD p2.toNat (0 : Int) > p1 then p0.getD p2.toNat (0 : Int) else p1) (IntKind.i64.wrap (p2 + 1))
      else
        none
    else
      exitK K 0 ⟨slots 25 [(3, .v (.int .i64) p1)], []⟩ := by kernel_rfl
theorem F79.c0 (n : Nat) (K : Conts) (p0 : Int) : exitK (F79.k_n1_1 n K [1, 0, 1, 0]) 0 ⟨slots 25 [(3, .v (.int .i64) p0)], []⟩ =
    K.ret ⟨slots 25 [(2, .v (.int .i64) p0)], []⟩ := by kernel_rfl
theorem F79.c1 (k : Nat) (p0 : Int) : (F79.kt k [1, 1]).ret ⟨slots 25 [(2, .v (.int .i64) p0)], []⟩ =
    some (.v (.int .i64) p0) := by kernel_rfl

/-! ### 80: slices.Min[[]int,int] -/
noncomputable def F80.fn : Func := Go.Proofs.Tryz.f97
noncomputable def F80.body : Code := bodyOf F80.fn
noncomputable def F80.E : Env := ⟨tt, [], [(1, [0]), (2, [0, 7]), (3, [0]), (4, [0, 3]), (5, [0, 3, 4]), (6, [0, 3, 4]), (7, [0, 3, 4]), (8, [3])], [(0, [3]), (1, [0, 3, 4])], some [2], inv⟩
noncomputable def F80.K0 : Conts := { nrm := endW F80.E false F80.fn.results.toList, ret := endW F80.E false F80.fn.results.toList, ex := [] }
noncomputable def F80.kt (k : Nat) (q : List Nat) : Conts := contAt F80.E k F80.body F80.K0 q
noncomputable def F80.n1_1 (n : Nat) (K : Conts) (p0 : (List Int)) : Option AV := runC F80.E (loopF F80.E n) (subC [1, 1] F80.body) K ⟨slots 25 [(0, .v (.sl (.int .i64)) p0)], []⟩
noncomputable def F80.k_n1_1 (n : Nat) (K : Conts) (q : List Nat) : Conts := contAt F80.E n (subC [1, 1] F80.body) K q
noncomputable def F80.l1_1_1_0_1_0 (n : Nat) (K : Conts) (p0 : (List Int)) (p1 : Int) (p2 : Int) : Option AV := loopF F80.E n (inLoop (subC [1, 1, 1, 0, 1, 0] F80.body)) K ⟨slots 25 [(0, .v (.sl (.int .i64)) p0), (3, .v (.int .i64) p1), (4, .v (.int .i64) p2)], []⟩
theorem F80.start_eq (k : Nat) (a0 : (List Int)) : callW F80.E false F80.fn k [.v (.sl (.int .i64)) a0] =
    bif decide ((a0.length : Int) < 1) then none else F80.n1_1 k (F80.kt k [1, 1]) a0 := by kernel_rfl
theorem F80.n1_1_eq (n : Nat) (K : Conts) (p0 : (List Int)) : F80.n1_1 n K p0 =
    bif decide ((0 : Int) < p0.length) then F80.l1_1_1_0_1_0 n (F80.k_n1_1 n K [1, 0, 1, 0]) p0 (p0.getD 0 (0 : Int)) 1 else none := by kernel_rfl
theorem F80.l1_1_1_0_1_0_eq (n : Nat) (K : Conts) (p0 : (List Int)) (p1 : Int) (p2 : Int) : F80.l1_1_1_0_1_0 (n + 1) K p0 p1 p2 =
    bif decide (p2 < (p0.length : Int)) then
      bif decide (0 ≤ p2) && decide (p2 < p0.length) then
        F80.l1_1_1_0_1_0 n K p0 (if p0.getD p2.toNat (0 : Int) < p1 then p0.getD p2.toNat (0 : Int) else p1) (IntKind.i64.wrap (p2 + 1))
      else
        none
    else
      exitK K 0 ⟨slots 25 [(3, .v (.int .i64) p1)], []⟩ := by kernel_rfl
theorem F80.c0 (n : Nat) (K : Conts) (p0 : Int) : exitK (F80.k_n1_1 n K [1, 0, 1, 0]) 0 ⟨slots 25 [(3, .v (.int .i64) p0)], []⟩ =
    K.ret ⟨slots 25 [(2, .v (.int .i64) p0)], []⟩ := by kernel_rfl
theorem F80.c1 (k : Nat) (p0 : Int) : (F80.kt k [1, 1]).ret ⟨slots 25 [(2, .v (.int .i64) p0)], []⟩ =
    some (.v (.int .i64) p0) := by kernel_rfl

/-! ### 50: jigsaw/dom.Of -/
noncomputable def F50.fn : Func := Go.Proofs.Tryz.f50
noncomputable def F50.body : Code := bodyOf F50.fn
noncomputable def F50.E : Env := ⟨tt, [(94, h_any), (96, h_maxL), (97, h_minL), (98, h_room), (99, h_madeD)], [(1, [0, 2]), (2, [0, 2, 7]), (4, [0, 2, 12]), (6, [0, 2, 16]), (7, [0, 2]), (8, [0, 2, 4]), (9, [2, 4, 29, 30, 31]), (10, [2, 4, 29, 30, 31, 32]), (11, [2, 4, 6, 29, 30, 31]), (12, [2, 4, 29, 30, 31]), (13, [2, 4])], [(0, [0, 2]), (1, [2, 4]), (2, [2, 4, 29, 30, 31])], some [2, 3], inv⟩
noncomputable def F50.K0 : Conts := { nrm := endW F50.E false F50.fn.results.toList, ret := endW F50.E false F50.fn.results.toList, ex := [] }
noncomputable def F50.kt (k : Nat) (q : List Nat) : Conts := contAt F50.E k F50.body F50.K0 q
noncomputable def F50.l1_1_1_0_1_0 (n : Nat) (K : Conts) (p0 : (List Int)) (p1 : Int) (p2 : Int) (p3 : Int) (p4 : Int) (p5 : Int) (p6 : Int) (p7 : Int) (p8 : Int) (p9 : Int) (p10 : Int) (p11 : (List Int)) : Option AV := loopF F50.E n (inLoop (subC [1, 1, 1, 0, 1, 0] F50.body)) K ⟨slots 58 [(2, .pb 0 0), (4, .pb 1 0), (29, .v (.sl (.int .i64)) p0), (30, .v (.int .i64) p1), (31, .v (.int .i64) p2)], [.box [.v (.int .i64) p3, .nl, .v (.int .i64) p4, .v (.int .i64) p5, .v (.int .i64) p6], .box [.v (.int .i64) p7, .own 2, .v (.int .i64) p8, .v (.int .i64) p9, .v (.int .i64) p10], .row 81 (.int .u64) p11]⟩
theorem F50.start_eq (k : Nat) (a0 : (List Int)) : callW F50.E false F50.fn k [.v (.sl (.int .i64)) a0] =
    bif decide ((a0.length : Int) = 0) then
      some (.tup [.agg [.v (.int .i64) (0 : Int), .nl, .v (.int .i64) (0 : Int), .v (.int .i64) (0 : Int), .v (.int .i64) (0 : Int)], .v (.int .i64) (4 : Int)])
    else
      bif List.any a0 outD then
        some (.tup [.agg [.v (.int .i64) (0 : Int), .nl, .v (.int .i64) (0 : Int), .v (.int .i64) (0 : Int), .v (.int .i64) (0 : Int)], .v (.int .i64) (3 : Int)])
      else
        bif !a0.isEmpty then
          bif !a0.isEmpty then
            bif decide ((IntKind.i64.wrap ((maxL a0) - (minL a0))) ≥ 65536) then
              some (.tup [.agg [.v (.int .i64) (0 : Int), .nl, .v (.int .i64) (0 : Int), .v (.int .i64) (0 : Int), .v (.int .i64) (0 : Int)], .v (.int .i64) (5 : Int)])
            else
              bif !a0.isEmpty then
                bif !a0.isEmpty then
                  bif roomB (minL a0) (maxL a0) then
                    F50.l1_1_1_0_1_0 k (F50.kt k [1, 1, 1, 0, 1, 0]) a0 (a0.length : Int) 0 (0 : Int) (0 : Int) (0 : Int) (0 : Int) (placeD (minL a0)) 0 0 0 (zerosD (minL a0) (maxL a0))
                  else
                    none
                else
                  none
              else
                none
          else
            none
        else
          none := by kernel_rfl
theorem F50.l1_1_1_0_1_0_eq (n : Nat) (K : Conts) (p0 : (List Int)) (p1 : Int) (p2 : Int) (p3 : Int) (p4 : Int) (p5 : Int) (p6 : Int) (p7 : Int) (p8 : Int) (p9 : Int) (p10 : Int) (p11 : (List Int)) : F50.l1_1_1_0_1_0 (n + 1) K p0 p1 p2 p3 p4 p5 p6 p7 p8 p9 p10 p11 =
    bif decide (p2 < p1) then
      bif decide (0 ≤ p2) && decide (p2 < p0.length) then
        bif decide (0 ≤ (IntKind.i64.wrap ((IntKind.i64.wrap ((p0.getD p2.toNat (0 : Int)) - p7)).tdiv 64))) && decide ((IntKind.i64.wrap ((IntKind.i64.wrap ((p0.getD p2.toNat (0 : Int)) - p7)).tdiv 64)) < p11.length) then
          bif decide (0 ≤ ((IntKind.i64.wrap ((p0.getD p2.toNat (0 : Int)) - p7)).tmod 64)) then
            bif decide (0 ≤ (IntKind.i64.wrap ((IntKind.i64.wrap ((p0.getD p2.toNat (0 : Int)) - p7)).tdiv 64))) && decide ((IntKind.i64.wrap ((IntKind.i64.wrap ((p0.getD p2.toNat (0 : Int)) - p7)).tdiv 64)) < p11.length) then
              F50.l1_1_1_0_1_0 n K p0 p1 (IntKind.i64.wrap (p2 + 1)) p3 p4 p5 p6 p7 p8 p9 p10 (p11.set ((IntKind.i64.wrap ((IntKind.i64.wrap ((p0.getD p2.toNat (0 : Int)) - p7)).tdiv 64)).toNat) (bitsW .or .u64 (p11.getD ((IntKind.i64.wrap ((IntKind.i64.wrap ((p0.getD p2.toNat (0 : Int)) - p7)).tdiv 64)).toNat) (0 : Int)) (shlW .u64 1 ((IntKind.i64.wrap ((p0.getD p2.toNat (0 : Int)) - p7)).tmod 64))))
            else
              none
          else
            none
        else
          none
      else
        none
    else
      exitK K 1 ⟨slots 58 [(2, .pb 0 0), (4, .pb 1 0)], [.box [.v (.int .i64) p3, .nl, .v (.int .i64) p4, .v (.int .i64) p5, .v (.int .i64) p6], .box [.v (.int .i64) p7, .own 2, .v (.int .i64) p8, .v (.int .i64) p9, .v (.int .i64) p10], .row 81 (.int .u64) p11]⟩ := by kernel_rfl
theorem F50.c0 (k : Nat) (p0 : Int) (p1 : Int) (p2 : Int) (p3 : Int) (p4 : Int) (p5 : Int) (p6 : Int) (p7 : Int) (p8 : (List Int)) : exitK (F50.kt k [1, 1, 1, 0, 1, 0]) 1 ⟨slots 58 [(2, .pb 0 0), (4, .pb 1 0)], [.box [.v (.int .i64) p0, .nl, .v (.int .i64) p1, .v (.int .i64) p2, .v (.int .i64) p3], .box [.v (.int .i64) p4, .own 2, .v (.int .i64) p5, .v (.int .i64) p6, .v (.int .i64) p7], .row 81 (.int .u64) p8]⟩ =
    bif p8.all uB then
      some (.tup [.agg [.v (.int .i64) ((madeD p4 p8).1), .v (.sl (.int .u64)) (((madeD p4 p8).2).1), .v (.int .i64) ((((madeD p4 p8).2).2).1), .v (.int .i64) (((((madeD p4 p8).2).2).2).1), .v (.int .i64) (((((madeD p4 p8).2).2).2).2)], .v (.int .i64) (0 : Int)])
    else
      none := by kernel_rfl

end Go.Proofs.YtnojoaghcbljfaaGreatDoor.Ev

set_option linter.unusedVariables false
set_option linter.unusedSimpArgs false
set_option maxRecDepth 100000
namespace Go.Proofs.YtnojoaghcbljfaaGreatDoor.Ev
open Go
/-! ### 99g78: slices.IndexFunc[[]int,int] -/
noncomputable def F99g78.fn : Func := Go.Proofs.Tryz.f136
noncomputable def F99g78.body : Code := bodyOf F99g78.fn
noncomputable def F99g78.E : Env := ⟨tt, [(95, h_outD)], [(1, [0, 1]), (2, [0, 1, 7, 8]), (3, [0, 1, 7, 8, 9]), (4, [0, 1, 5, 7, 8]), (5, [0, 1, 5, 7, 8, 16]), (6, [0, 1, 7, 8]), (7, [])], [(0, []), (1, [0, 1, 7, 8])], some [4], inv⟩
noncomputable def F99g78.K0 : Conts := { nrm := endW F99g78.E false F99g78.fn.results.toList, ret := endW F99g78.E false F99g78.fn.results.toList, ex := [] }
noncomputable def F99g78.kt (k : Nat) (q : List Nat) : Conts := contAt F99g78.E k F99g78.body F99g78.K0 q
noncomputable def F99g78.l1_0_1_0 (n : Nat) (K : Conts) (p0 : (List Int)) (p1 : Int) (p2 : Int) : Option AV := loopF F99g78.E n (inLoop (subC [1, 0, 1, 0] F99g78.body)) K ⟨slots 19 [(0, .v (.sl (.int .i64)) p0), (1, .fn 95 [] []), (7, .v (.int .i64) p1), (8, .v (.int .i64) p2)], []⟩
theorem F99g78.start_eq (k : Nat) (a0 : (List Int)) : callW F99g78.E false F99g78.fn k [.v (.sl (.int .i64)) a0, .fn 95 [] []] =
    F99g78.l1_0_1_0 k (F99g78.kt k [1, 0, 1, 0]) a0 (a0.length : Int) 0 := by kernel_rfl
theorem F99g78.l1_0_1_0_eq (n : Nat) (K : Conts) (p0 : (List Int)) (p1 : Int) (p2 : Int) : F99g78.l1_0_1_0 (n + 1) K p0 p1 p2 =
    bif decide (p2 < p1) then
      bif decide (0 ≤ p2) && decide (p2 < p0.length) then
        bif outD (p0.getD p2.toNat (0 : Int)) then K.ret ⟨slots 19 [(4, .v (.int .i64) p2)], []⟩ else F99g78.l1_0_1_0 n K p0 p1 (IntKind.i64.wrap (p2 + 1))
      else
        none
    else
      exitK K 0 ⟨slots 19 [], []⟩ := by kernel_rfl
theorem F99g78.c0 (k : Nat) (p0 : Int) : (F99g78.kt k [1, 0, 1, 0]).ret ⟨slots 19 [(4, .v (.int .i64) p0)], []⟩ =
    some (.v (.int .i64) p0) := by kernel_rfl
theorem F99g78.c1 (k : Nat) : exitK (F99g78.kt k [1, 0, 1, 0]) 0 ⟨slots 19 [], []⟩ =
    some (.v (.int .i64) (-1 : Int)) := by kernel_rfl

/-! ### 99g96: slices.IndexFunc[[]int,int] -/
noncomputable def F99g96.fn : Func := Go.Proofs.Tryz.f136
noncomputable def F99g96.body : Code := bodyOf F99g96.fn
noncomputable def F99g96.E : Env := ⟨tt, [(133, h_varB)], [(1, [0, 1]), (2, [0, 1, 7, 8]), (3, [0, 1, 7, 8, 9]), (4, [0, 1, 5, 7, 8]), (5, [0, 1, 5, 7, 8, 16]), (6, [0, 1, 7, 8]), (7, [])], [(0, []), (1, [0, 1, 7, 8])], some [4], inv⟩
noncomputable def F99g96.K0 : Conts := { nrm := endW F99g96.E false F99g96.fn.results.toList, ret := endW F99g96.E false F99g96.fn.results.toList, ex := [] }
noncomputable def F99g96.kt (k : Nat) (q : List Nat) : Conts := contAt F99g96.E k F99g96.body F99g96.K0 q
noncomputable def F99g96.l1_0_1_0 (n : Nat) (K : Conts) (p0 : (List Int)) (p1 : Int) (p2 : Int) (p3 : Int) : Option AV := loopF F99g96.E n (inLoop (subC [1, 0, 1, 0] F99g96.body)) K ⟨slots 19 [(0, .v (.sl (.int .i64)) p0), (1, .fn 133 [] [.rp [.v (.int .i64) p1]]), (7, .v (.int .i64) p2), (8, .v (.int .i64) p3)], []⟩
theorem F99g96.start_eq (k : Nat) (a0 : (List Int)) (z : Int) : callW F99g96.E false F99g96.fn k [.v (.sl (.int .i64)) a0, .fn 133 [] [.rp [.v (.int .i64) z]]] =
    F99g96.l1_0_1_0 k (F99g96.kt k [1, 0, 1, 0]) a0 z (a0.length : Int) 0 := by kernel_rfl
theorem F99g96.l1_0_1_0_eq (n : Nat) (K : Conts) (p0 : (List Int)) (p1 : Int) (p2 : Int) (p3 : Int) : F99g96.l1_0_1_0 (n + 1) K p0 p1 p2 p3 =
    bif decide (p3 < p2) then
      bif decide (0 ≤ p3) && decide (p3 < p0.length) then
        bif varB p1 (p0.getD p3.toNat (0 : Int)) then K.ret ⟨slots 19 [(4, .v (.int .i64) p3)], []⟩ else F99g96.l1_0_1_0 n K p0 p1 p2 (IntKind.i64.wrap (p3 + 1))
      else
        none
    else
      exitK K 0 ⟨slots 19 [], []⟩ := by kernel_rfl
theorem F99g96.c0 (k : Nat) (p0 : Int) : (F99g96.kt k [1, 0, 1, 0]).ret ⟨slots 19 [(4, .v (.int .i64) p0)], []⟩ =
    some (.v (.int .i64) p0) := by kernel_rfl
theorem F99g96.c1 (k : Nat) : exitK (F99g96.kt k [1, 0, 1, 0]) 0 ⟨slots 19 [], []⟩ =
    some (.v (.int .i64) (-1 : Int)) := by kernel_rfl

/-! ### 99g118: slices.IndexFunc[[]int,int] -/
noncomputable def F99g118.fn : Func := Go.Proofs.Tryz.f136
noncomputable def F99g118.body : Code := bodyOf F99g118.fn
noncomputable def F99g118.E : Env := ⟨tt, [(175, h_numB)], [(1, [0, 1]), (2, [0, 1, 7, 8]), (3, [0, 1, 7, 8, 9]), (4, [0, 1, 5, 7, 8]), (5, [0, 1, 5, 7, 8, 16]), (6, [0, 1, 7, 8]), (7, [])], [(0, []), (1, [0, 1, 7, 8])], some [4], inv⟩
noncomputable def F99g118.K0 : Conts := { nrm := endW F99g118.E false F99g118.fn.results.toList, ret := endW F99g118.E false F99g118.fn.results.toList, ex := [] }
noncomputable def F99g118.kt (k : Nat) (q : List Nat) : Conts := contAt F99g118.E k F99g118.body F99g118.K0 q
noncomputable def F99g118.l1_0_1_0 (n : Nat) (K : Conts) (p0 : (List Int)) (p1 : Int) (p2 : Int) (p3 : Int) : Option AV := loopF F99g118.E n (inLoop (subC [1, 0, 1, 0] F99g118.body)) K ⟨slots 19 [(0, .v (.sl (.int .i64)) p0), (1, .fn 175 [] [.rp [.v (.int .i64) p1]]), (7, .v (.int .i64) p2), (8, .v (.int .i64) p3)], []⟩
theorem F99g118.start_eq (k : Nat) (a0 : (List Int)) (z : Int) : callW F99g118.E false F99g118.fn k [.v (.sl (.int .i64)) a0, .fn 175 [] [.rp [.v (.int .i64) z]]] =
    F99g118.l1_0_1_0 k (F99g118.kt k [1, 0, 1, 0]) a0 z (a0.length : Int) 0 := by kernel_rfl
theorem F99g118.l1_0_1_0_eq (n : Nat) (K : Conts) (p0 : (List Int)) (p1 : Int) (p2 : Int) (p3 : Int) : F99g118.l1_0_1_0 (n + 1) K p0 p1 p2 p3 =
    bif decide (p3 < p2) then
      bif decide (0 ≤ p3) && decide (p3 < p0.length) then
        bif numB p1 (p0.getD p3.toNat (0 : Int)) then K.ret ⟨slots 19 [(4, .v (.int .i64) p3)], []⟩ else F99g118.l1_0_1_0 n K p0 p1 p2 (IntKind.i64.wrap (p3 + 1))
      else
        none
    else
      exitK K 0 ⟨slots 19 [], []⟩ := by kernel_rfl
theorem F99g118.c0 (k : Nat) (p0 : Int) : (F99g118.kt k [1, 0, 1, 0]).ret ⟨slots 19 [(4, .v (.int .i64) p0)], []⟩ =
    some (.v (.int .i64) p0) := by kernel_rfl
theorem F99g118.c1 (k : Nat) : exitK (F99g118.kt k [1, 0, 1, 0]) 0 ⟨slots 19 [], []⟩ =
    some (.v (.int .i64) (-1 : Int)) := by kernel_rfl

/-! ### 77g78: slices.ContainsFunc[[]int,int] -/
noncomputable def F77g78.fn : Func := Go.Proofs.Tryz.f94
noncomputable def F77g78.E : Env := ⟨tt, [(136, h_idxF)], [(1, [0, 1])], [], some [4], inv⟩
theorem F77g78.start_eq (k : Nat) (a0 : (List Int)) : callW F77g78.E false F77g78.fn k [.v (.sl (.int .i64)) a0, .fn 95 [] []] =
    some (.v .bool (decide ((idx outD a0 0) ≥ 0))) := by kernel_rfl

/-! ### 77g96: slices.ContainsFunc[[]int,int] -/
noncomputable def F77g96.fn : Func := Go.Proofs.Tryz.f94
noncomputable def F77g96.E : Env := ⟨tt, [(136, h_idxF)], [(1, [0, 1])], [], some [4], inv⟩
theorem F77g96.start_eq (k : Nat) (a0 : (List Int)) (z : Int) : callW F77g96.E false F77g96.fn k [.v (.sl (.int .i64)) a0, .fn 133 [] [.rp [.v (.int .i64) z]]] =
    some (.v .bool (decide ((idx (varB z) a0 0) ≥ 0))) := by kernel_rfl

/-! ### 77g118: slices.ContainsFunc[[]int,int] -/
noncomputable def F77g118.fn : Func := Go.Proofs.Tryz.f94
noncomputable def F77g118.E : Env := ⟨tt, [(136, h_idxF)], [(1, [0, 1])], [], some [4], inv⟩
theorem F77g118.start_eq (k : Nat) (a0 : (List Int)) (z : Int) : callW F77g118.E false F77g118.fn k [.v (.sl (.int .i64)) a0, .fn 175 [] [.rp [.v (.int .i64) z]]] =
    some (.v .bool (decide ((idx (numB z) a0 0) ≥ 0))) := by kernel_rfl

/-! ### 115g108: slices.IndexFunc[[][]int,[]int] -/
noncomputable def F115g108.fn : Func := Go.Proofs.Tryz.f172
noncomputable def F115g108.body : Code := bodyOf F115g108.fn
noncomputable def F115g108.E : Env := ⟨tt, [(159, h_rowN)], [(1, [0, 1]), (2, [0, 1, 7, 8]), (3, [0, 1, 7, 8, 9]), (4, [0, 1, 5, 7, 8]), (5, [0, 1, 5, 7, 8, 16]), (6, [0, 1, 7, 8]), (7, [])], [(0, []), (1, [0, 1, 7, 8])], some [4], inv⟩
noncomputable def F115g108.K0 : Conts := { nrm := endW F115g108.E false F115g108.fn.results.toList, ret := endW F115g108.E false F115g108.fn.results.toList, ex := [] }
noncomputable def F115g108.kt (k : Nat) (q : List Nat) : Conts := contAt F115g108.E k F115g108.body F115g108.K0 q
noncomputable def F115g108.l1_0_1_0 (n : Nat) (K : Conts) (p0 : (List (List Int))) (p1 : Int) (p2 : (List Int)) (p3 : (List Int)) (p4 : (List Int)) (p5 : (List Int)) (p6 : (List Int)) (p7 : Int) (p8 : (List (List Int))) (p9 : Int) (p10 : Int) : Option AV := loopF F115g108.E n (inLoop (subC [1, 0, 1, 0] F115g108.body)) K ⟨slots 19 [(0, .v (.sl (.sl (.int .i64))) p0), (1, .fn 159 [] [.rp [.v (.int .i64) p1, .v (.sl (.int .i64)) p2, .v (.sl (.int .i64)) p3, .v (.sl (.int .i64)) p4, .v (.sl (.int .i64)) p5, .v (.sl (.int .i64)) p6, .v (.int .i64) p7, .v (.sl (.sl (.int .i64))) p8]]), (7, .v (.int .i64) p9), (8, .v (.int .i64) p10)], []⟩
theorem F115g108.start_eq (k : Nat) (a0 : (List (List Int))) (z : (Int × ((List Int) × ((List Int) × ((List Int) × ((List Int) × ((List Int) × (Int × (List (List Int)))))))))) : callW F115g108.E false F115g108.fn k [.v (.sl (.sl (.int .i64))) a0, .fn 159 [] [.rp [.v (.int .i64) z.1, .v (.sl (.int .i64)) z.2.1, .v (.sl (.int .i64)) z.2.2.1, .v (.sl (.int .i64)) z.2.2.2.1, .v (.sl (.int .i64)) z.2.2.2.2.1, .v (.sl (.int .i64)) z.2.2.2.2.2.1, .v (.int .i64) z.2.2.2.2.2.2.1, .v (.sl (.sl (.int .i64))) z.2.2.2.2.2.2.2]]] =
    F115g108.l1_0_1_0 k (F115g108.kt k [1, 0, 1, 0]) a0 z.1 z.2.1 z.2.2.1 z.2.2.2.1 z.2.2.2.2.1 z.2.2.2.2.2.1 z.2.2.2.2.2.2.1 z.2.2.2.2.2.2.2 (a0.length : Int) 0 := by kernel_rfl
theorem F115g108.l1_0_1_0_eq (n : Nat) (K : Conts) (p0 : (List (List Int))) (p1 : Int) (p2 : (List Int)) (p3 : (List Int)) (p4 : (List Int)) (p5 : (List Int)) (p6 : (List Int)) (p7 : Int) (p8 : (List (List Int))) (p9 : Int) (p10 : Int) : F115g108.l1_0_1_0 (n + 1) K p0 p1 p2 p3 p4 p5 p6 p7 p8 p9 p10 =
    bif decide (p10 < p9) then
      bif decide (0 ≤ p10) && decide (p10 < p0.length) then
        bif rowN (p1, (p2, (p3, (p4, (p5, (p6, (p7, p8))))))) (p0.getD p10.toNat []) then
          K.ret ⟨slots 19 [(4, .v (.int .i64) p10)], []⟩
        else
          F115g108.l1_0_1_0 n K p0 p1 p2 p3 p4 p5 p6 p7 p8 p9 (IntKind.i64.wrap (p10 + 1))
      else
        none
    else
      exitK K 0 ⟨slots 19 [], []⟩ := by kernel_rfl
theorem F115g108.c0 (k : Nat) (p0 : Int) : (F115g108.kt k [1, 0, 1, 0]).ret ⟨slots 19 [(4, .v (.int .i64) p0)], []⟩ =
    some (.v (.int .i64) p0) := by kernel_rfl
theorem F115g108.c1 (k : Nat) : exitK (F115g108.kt k [1, 0, 1, 0]) 0 ⟨slots 19 [], []⟩ =
    some (.v (.int .i64) (-1 : Int)) := by kernel_rfl

/-! ### 107g108: slices.ContainsFunc[[][]int,[]int] -/
noncomputable def F107g108.fn : Func := Go.Proofs.Tryz.f158
noncomputable def F107g108.E : Env := ⟨tt, [(172, h_idxR)], [(1, [0, 1])], [], some [4], inv⟩
theorem F107g108.start_eq (k : Nat) (a0 : (List (List Int))) (z : (Int × ((List Int) × ((List Int) × ((List Int) × ((List Int) × ((List Int) × (Int × (List (List Int)))))))))) : callW F107g108.E false F107g108.fn k [.v (.sl (.sl (.int .i64))) a0, .fn 159 [] [.rp [.v (.int .i64) z.1, .v (.sl (.int .i64)) z.2.1, .v (.sl (.int .i64)) z.2.2.1, .v (.sl (.int .i64)) z.2.2.2.1, .v (.sl (.int .i64)) z.2.2.2.2.1, .v (.sl (.int .i64)) z.2.2.2.2.2.1, .v (.int .i64) z.2.2.2.2.2.2.1, .v (.sl (.sl (.int .i64))) z.2.2.2.2.2.2.2]]] =
    some (.v .bool (decide ((idx (rowN z) a0 0) ≥ 0))) := by kernel_rfl

/-! ### 90g74: slices.IndexFunc[[]jigsaw/dom.Dom,jigsaw/dom.Dom] -/
noncomputable def F90g74.fn : Func := Go.Proofs.Tryz.f127
noncomputable def F90g74.body : Code := bodyOf F90g74.fn
noncomputable def F90g74.E : Env := ⟨tt, [(91, h_emptyD)], [(1, [0, 1]), (2, [0, 1, 7, 8]), (3, [0, 1, 7, 8, 9]), (4, [0, 1, 5, 7, 8]), (5, [0, 1, 5, 7, 8, 16]), (6, [0, 1, 7, 8]), (7, [])], [(0, []), (1, [0, 1, 7, 8])], some [4], inv⟩
noncomputable def F90g74.K0 : Conts := { nrm := endW F90g74.E false F90g74.fn.results.toList, ret := endW F90g74.E false F90g74.fn.results.toList, ex := [] }
noncomputable def F90g74.kt (k : Nat) (q : List Nat) : Conts := contAt F90g74.E k F90g74.body F90g74.K0 q
noncomputable def F90g74.l1_0_1_0 (n : Nat) (K : Conts) (p0 : (List (Int × ((List Int) × (Int × (Int × Int)))))) (p1 : Int) (p2 : Int) : Option AV := loopF F90g74.E n (inLoop (subC [1, 0, 1, 0] F90g74.body)) K ⟨slots 19 [(0, .v (.sl (.pair (.int .i64) (.pair (.sl (.int .u64)) (.pair (.int .i64) (.pair (.int .i64) (.int .i64)))))) p0), (1, .fn 91 [] []), (7, .v (.int .i64) p1), (8, .v (.int .i64) p2)], []⟩
theorem F90g74.start_eq (k : Nat) (a0 : (List (Int × ((List Int) × (Int × (Int × Int)))))) : callW F90g74.E false F90g74.fn k [.v (.sl (.pair (.int .i64) (.pair (.sl (.int .u64)) (.pair (.int .i64) (.pair (.int .i64) (.int .i64)))))) a0, .fn 91 [] []] =
    F90g74.l1_0_1_0 k (F90g74.kt k [1, 0, 1, 0]) a0 (a0.length : Int) 0 := by kernel_rfl
theorem F90g74.l1_0_1_0_eq (n : Nat) (K : Conts) (p0 : (List (Int × ((List Int) × (Int × (Int × Int)))))) (p1 : Int) (p2 : Int) : F90g74.l1_0_1_0 (n + 1) K p0 p1 p2 =
    bif decide (p2 < p1) then
      bif decide (0 ≤ p2) && decide (p2 < p0.length) then
        bif emptyD (p0.getD p2.toNat ((0 : Int), ([], ((0 : Int), ((0 : Int), (0 : Int)))))) then
          K.ret ⟨slots 19 [(4, .v (.int .i64) p2)], []⟩
        else
          F90g74.l1_0_1_0 n K p0 p1 (IntKind.i64.wrap (p2 + 1))
      else
        none
    else
      exitK K 0 ⟨slots 19 [], []⟩ := by kernel_rfl
theorem F90g74.c0 (k : Nat) (p0 : Int) : (F90g74.kt k [1, 0, 1, 0]).ret ⟨slots 19 [(4, .v (.int .i64) p0)], []⟩ =
    some (.v (.int .i64) p0) := by kernel_rfl
theorem F90g74.c1 (k : Nat) : exitK (F90g74.kt k [1, 0, 1, 0]) 0 ⟨slots 19 [], []⟩ =
    some (.v (.int .i64) (-1 : Int)) := by kernel_rfl

/-! ### 73g74: slices.ContainsFunc[[]jigsaw/dom.Dom,jigsaw/dom.Dom] -/
noncomputable def F73g74.fn : Func := Go.Proofs.Tryz.f90
noncomputable def F73g74.E : Env := ⟨tt, [(127, h_idxE)], [(1, [0, 1])], [], some [4], inv⟩
theorem F73g74.start_eq (k : Nat) (a0 : (List (Int × ((List Int) × (Int × (Int × Int)))))) : callW F73g74.E false F73g74.fn k [.v (.sl (.pair (.int .i64) (.pair (.sl (.int .u64)) (.pair (.int .i64) (.pair (.int .i64) (.int .i64)))))) a0, .fn 91 [] []] =
    some (.v .bool (decide ((idx emptyD a0 0) ≥ 0))) := by kernel_rfl

/-! ### 74: jigsaw/prop.Fits$1 -/
noncomputable def F74.fn : Func := Go.Proofs.Tryz.f91
noncomputable def F74.E : Env := ⟨tt, [(92, h_sizeD)], [(1, [1])], [], some [2], inv⟩
theorem F74.start_eq (k : Nat) (a0 : (Int × ((List Int) × (Int × (Int × Int))))) : callW F74.E false F74.fn k [.agg [.v (.int .i64) a0.1, .v (.sl (.int .u64)) a0.2.1, .v (.int .i64) a0.2.2.1, .v (.int .i64) a0.2.2.2.1, .v (.int .i64) a0.2.2.2.2]] =
    some (.v .bool (decide ((sizeD a0) = 0))) := by kernel_rfl

/-! ### 96: jigsaw/model.Right$1 -/
noncomputable def F96.fn : Func := Go.Proofs.Tryz.f133
noncomputable def F96.E : Env := ⟨tt, [], [(1, [0, 1])], [], some [3], inv⟩
theorem F96.start_eq (k : Nat) (a0 : Int) (z : Int) : callW F96.E false F96.fn k [.v (.int .i64) a0, .rp [.v (.int .i64) z]] =
    bif decide (a0 < 0) then some (.v .bool true) else some (.v .bool (decide (a0 ≥ z))) := by kernel_rfl

/-! ### 118: jigsaw/model.bounded$1 -/
noncomputable def F118.fn : Func := Go.Proofs.Tryz.f175
noncomputable def F118.E : Env := ⟨tt, [], [(1, [0, 1])], [], some [3], inv⟩
theorem F118.start_eq (k : Nat) (a0 : Int) (z : Int) : callW F118.E false F118.fn k [.v (.int .i64) a0, .rp [.v (.int .i64) z]] =
    bif decide (a0 < z) then some (.v .bool true) else some (.v .bool (decide (a0 > 1000000))) := by kernel_rfl

/-! ### 108: jigsaw/model.alike$1 -/
noncomputable def F108.fn : Func := Go.Proofs.Tryz.f159
noncomputable def F108.E : Env := ⟨tt, [], [(1, [0, 1])], [], some [3], inv⟩
theorem F108.start_eq (k : Nat) (a0 : (List Int)) (z : (Int × ((List Int) × ((List Int) × ((List Int) × ((List Int) × ((List Int) × (Int × (List (List Int)))))))))) : callW F108.E false F108.fn k [.v (.sl (.int .i64)) a0, .rp [.v (.int .i64) z.1, .v (.sl (.int .i64)) z.2.1, .v (.sl (.int .i64)) z.2.2.1, .v (.sl (.int .i64)) z.2.2.2.1, .v (.sl (.int .i64)) z.2.2.2.2.1, .v (.sl (.int .i64)) z.2.2.2.2.2.1, .v (.int .i64) z.2.2.2.2.2.2.1, .v (.sl (.sl (.int .i64))) z.2.2.2.2.2.2.2]] =
    some (.v .bool (!(decide ((a0.length : Int) = (z.2.1.length : Int))))) := by kernel_rfl

end Go.Proofs.YtnojoaghcbljfaaGreatDoor.Ev

set_option linter.unusedVariables false
set_option linter.unusedSimpArgs false
set_option maxRecDepth 100000
namespace Go.Proofs.YtnojoaghcbljfaaGreatDoor.Ev
open Go
/-! ### 124: internal/stringslite.IndexByte -/
noncomputable def F124.fn : Func := Go.Proofs.Tryz.f180
noncomputable def F124.E : Env := ⟨tt, [(185, h_idxI)], [(1, [0, 1])], [], some [4], inv⟩
theorem F124.start_eq (k : Nat) (a0 : ByteArray) (a1 : Int) : callW F124.E false F124.fn k [.v .str a0, .v (.int .u8) a1] =
    some (.v (.int .i64) (idxI a0 a1)) := by kernel_rfl

/-! ### 116: internal/stringslite.Index -/
noncomputable def F116.fn : Func := Go.Proofs.Tryz.f173
noncomputable def F116.E : Env := ⟨tt, [(180, h_idxJ)], [(1, [0, 1]), (2, [0, 1, 5]), (3, [0, 1, 5, 16]), (5, [0, 1, 5, 24]), (7, [0, 1, 5, 31]), (9, [0, 1, 5, 36]), (10, [0, 1, 5]), (11, [0, 1, 5, 6]), (12, [0, 1, 5, 6, 7]), (13, [0, 1, 5, 6, 7, 8]), (14, [0, 1, 5, 6, 7, 8, 9]), (15, [0, 1, 5, 6, 7, 8, 9, 10]), (16, [0, 1, 5, 6, 7, 8, 9, 10]), (17, [0, 1, 5, 6, 7, 8, 9, 10, 64]), (18, [0, 1, 5, 6, 7, 8, 9, 10, 11]), (19, [0, 1, 5, 6, 7, 8, 9, 10, 11, 73]), (20, [0, 1, 5, 6, 7, 8, 9, 10, 11]), (21, [0, 1, 5, 6, 7, 8, 9, 10]), (22, [0, 1, 5, 6, 7, 8, 9, 10, 93]), (23, [0, 1, 5, 6, 7, 8, 9, 10]), (24, [0, 1, 5, 6, 7, 8, 9, 10]), (25, [0, 1, 5, 6, 7, 8, 9, 10]), (26, [0, 1, 5, 6, 7, 8, 9, 10, 107]), (27, [8, 12]), (28, [8, 12, 114]), (29, []), (31, [0, 1, 5, 6, 7, 8, 9, 10, 132]), (32, [8, 13]), (33, [8, 13, 139]), (34, [8, 13]), (35, [])], [(0, [0, 1, 5]), (1, []), (2, [0, 1, 5, 6, 7, 8, 9, 10])], some [4], inv⟩
theorem F116.start_eq (k : Nat) (a0 : ByteArray) (b : UInt8) : callW F116.E false F116.fn k [.v .str a0, .v .str ⟨#[b]⟩] =
    bif strEq ⟨#[b]⟩ a0 then some (.v (.int .i64) (0 : Int)) else some (.v (.int .i64) (idxJ a0 (byteW ⟨#[b]⟩ 0))) := by kernel_rfl

/-! ### 109: strings.Index -/
noncomputable def F109.fn : Func := Go.Proofs.Tryz.f160
noncomputable def F109.E : Env := ⟨tt, [(173, h_idx1)], [(1, [0, 1])], [], some [4], inv⟩
theorem F109.start_eq (k : Nat) (a0 : ByteArray) (b : UInt8) : callW F109.E false F109.fn k [.v .str a0, .v .str ⟨#[b]⟩] =
    some (.v (.int .i64) (idx1 a0 ⟨#[b]⟩)) := by kernel_rfl

/-! ### 94: strings.Contains -/
noncomputable def F94.fn : Func := Go.Proofs.Tryz.f131
noncomputable def F94.E : Env := ⟨tt, [(160, h_idx2)], [(1, [0, 1])], [], some [4], inv⟩
theorem F94.start_eq (k : Nat) (a0 : ByteArray) (b : UInt8) : callW F94.E false F94.fn k [.v .str a0, .v .str ⟨#[b]⟩] =
    some (.v .bool (decide ((idx2 a0 ⟨#[b]⟩) ≥ 0))) := by kernel_rfl

/-! ### 114: strings.Count -/
noncomputable def F114.fn : Func := Go.Proofs.Tryz.f171
noncomputable def F114.E : Env := ⟨tt, [(179, h_cntI)], [(1, [0, 1]), (2, [0, 1, 9]), (3, [0, 1]), (4, [0, 1, 15]), (5, [0, 1]), (6, [0, 1, 5]), (7, [0, 1, 5, 6]), (8, [0, 1, 5, 6, 24]), (9, [0, 1, 5, 6]), (10, [0, 1, 5, 6])], [(0, [4]), (1, [0, 1, 5])], some [4], inv⟩
theorem F114.start_eq (k : Nat) (a0 : ByteArray) (b : UInt8) : callW F114.E false F114.fn k [.v .str a0, .v .str ⟨#[b]⟩] =
    some (.v (.int .i64) (cntI a0 (byteW ⟨#[b]⟩ 0))) := by kernel_rfl

/-! ### 105: jigsaw/model.within -/
noncomputable def F105.fn : Func := Go.Proofs.Tryz.f156
noncomputable def F105.E : Env := ⟨tt, [], [(1, [0, 1, 2])], [], some [6], inv⟩
theorem F105.start_eq (k : Nat) (a0 : Int) (a1 : Int) (a2 : Int) : callW F105.E false F105.fn k [.v (.int .i64) a0, .v (.int .i64) a1, .v (.int .i64) a2] =
    bif decide (a0 ≥ a1) then some (.v .bool (decide (a0 ≤ a2))) else some (.v .bool false) := by kernel_rfl

/-! ### 106: jigsaw/model.named -/
noncomputable def F106.fn : Func := Go.Proofs.Tryz.f157
noncomputable def F106.E : Env := ⟨tt, [(131, h_has1), (156, h_withinD), (171, h_cnt1)], [(1, [0, 1, 2, 3]), (2, [0, 1, 2, 11]), (3, [0, 1, 2])], [], some [8], inv⟩
theorem F106.start_eq (k : Nat) (a0 : Int) (a1 : ByteArray) (a2 : ByteArray) (a3 : ByteArray) : callW F106.E false F106.fn k [.v (.int .i64) a0, .v .str a1, .v .str a2, .v .str a3] =
    bif decide (a3.size = 1) then
      bif has1 a1 a3 then
        some (.v .bool (withinD a0 1 64))
      else
        bif decide (a2.size = 1) then some (.v .bool (decide (a0 = (cnt1 a1 a2)))) else none
    else
      none := by kernel_rfl

/-! ### 53: jigsaw/jigsawref06.has -/
noncomputable def F53.fn : Func := Go.Proofs.Tryz.f66
noncomputable def F53.body : Code := bodyOf F53.fn
noncomputable def F53.E : Env := ⟨tt, [], [(1, [0, 1]), (2, [0, 1, 5]), (3, [0, 1, 5, 6]), (4, [0, 1, 5, 6]), (5, [0, 1, 5, 6]), (6, [0, 1, 5, 6, 17]), (7, [5])], [(0, [5]), (1, [0, 1, 5, 6])], some [4], inv⟩
noncomputable def F53.K0 : Conts := { nrm := endW F53.E false F53.fn.results.toList, ret := endW F53.E false F53.fn.results.toList, ex := [] }
noncomputable def F53.kt (k : Nat) (q : List Nat) : Conts := contAt F53.E k F53.body F53.K0 q
noncomputable def F53.l1_1_0_1_0 (n : Nat) (K : Conts) (p0 : ByteArray) (p1 : Int) (p2 : Int) (p3 : Int) : Option AV := loopF F53.E n (inLoop (subC [1, 1, 0, 1, 0] F53.body)) K ⟨slots 21 [(0, .v .str p0), (1, .v (.int .u8) p1), (5, .v (.int .i64) p2), (6, .v (.int .i64) p3)], []⟩
theorem F53.start_eq (k : Nat) (a0 : ByteArray) (a1 : Int) : callW F53.E false F53.fn k [.v .str a0, .v (.int .u8) a1] =
    F53.l1_1_0_1_0 k (F53.kt k [1, 1, 0, 1, 0]) a0 a1 0 0 := by kernel_rfl
theorem F53.l1_1_0_1_0_eq (n : Nat) (K : Conts) (p0 : ByteArray) (p1 : Int) (p2 : Int) (p3 : Int) : F53.l1_1_0_1_0 (n + 1) K p0 p1 p2 p3 =
    bif decide (p3 < (p0.size : Int)) then
      bif decide (0 ≤ p3) && decide (p3 < p0.size) then
        bif decide ((byteW p0 p3.toNat) = p1) then
          F53.l1_1_0_1_0 n K p0 p1 (IntKind.i64.wrap (p2 + 1)) (IntKind.i64.wrap (p3 + 1))
        else
          F53.l1_1_0_1_0 n K p0 p1 p2 (IntKind.i64.wrap (p3 + 1))
      else
        none
    else
      exitK K 0 ⟨slots 21 [(5, .v (.int .i64) p2)], []⟩ := by kernel_rfl
theorem F53.c0 (k : Nat) (p0 : Int) : exitK (F53.kt k [1, 1, 0, 1, 0]) 0 ⟨slots 21 [(5, .v (.int .i64) p0)], []⟩ =
    some (.v (.int .i64) p0) := by kernel_rfl

/-! ### 100: jigsaw/jigsawref06.list -/
/-! ### 82: jigsaw/jigsawref06.in -/
end Go.Proofs.YtnojoaghcbljfaaGreatDoor.Ev
