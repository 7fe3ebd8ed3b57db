/-
Seat 'a': the functions as the evaluator runs them: printed by a program of mine, each equation by kernel_rfl.
Conditions: none.
-/
import Derived.Test.YthdpbmcidebagaaGreatDoorAa
set_option linter.unusedVariables false
set_option maxRecDepth 100000
namespace Go.Proofs.YthdpbmcidebagaaGreatDoor.Ev
open Go
/-! ### 124: internal/stringslite.IndexByte -/
noncomputable def F124.fn : Func := Go.Proofs.Tryz.f124
noncomputable def F124.E : Env := ⟨tt, [(131, h_idxI)], [(1, [0, 1])], [], some [4], inv⟩
theorem F124.start_eq (k : Nat) (a0 : ByteArray) (a1 : Int) : callW F124.E false F124.fn k [.v .str a0, .v (.int .u8) a1] =
    some (.v (.int .i64) (idxI a0 a1)) := by kernel_rfl

/-! ### 116: internal/stringslite.Index -/
noncomputable def F116.fn : Func := Go.Proofs.Tryz.f116
noncomputable def F116.E : Env := ⟨tt, [(124, h_idxJ)], [(1, [0, 1]), (2, [0, 1, 5]), (3, [0, 1, 5, 16]), (5, [0, 1, 5, 24]), (7, [0, 1, 5, 31]), (9, [0, 1, 5, 36]), (10, [0, 1, 5]), (11, [0, 1, 5, 6]), (12, [0, 1, 5, 6, 7]), (13, [0, 1, 5, 6, 7, 8]), (14, [0, 1, 5, 6, 7, 8, 9]), (15, [0, 1, 5, 6, 7, 8, 9, 10]), (16, [0, 1, 5, 6, 7, 8, 9, 10]), (17, [0, 1, 5, 6, 7, 8, 9, 10, 64]), (18, [0, 1, 5, 6, 7, 8, 9, 10, 11]), (19, [0, 1, 5, 6, 7, 8, 9, 10, 11, 73]), (20, [0, 1, 5, 6, 7, 8, 9, 10, 11]), (21, [0, 1, 5, 6, 7, 8, 9, 10]), (22, [0, 1, 5, 6, 7, 8, 9, 10, 93]), (23, [0, 1, 5, 6, 7, 8, 9, 10]), (24, [0, 1, 5, 6, 7, 8, 9, 10]), (25, [0, 1, 5, 6, 7, 8, 9, 10]), (26, [0, 1, 5, 6, 7, 8, 9, 10, 107]), (27, [8, 12]), (28, [8, 12, 114]), (29, []), (31, [0, 1, 5, 6, 7, 8, 9, 10, 132]), (32, [8, 13]), (33, [8, 13, 139]), (34, [8, 13]), (35, [])], [(0, [0, 1, 5]), (1, []), (2, [0, 1, 5, 6, 7, 8, 9, 10])], some [4], inv⟩
theorem F116.start_eq (k : Nat) (a0 : ByteArray) (b : UInt8) : callW F116.E false F116.fn k [.v .str a0, .v .str ⟨#[b]⟩] =
    bif strEq ⟨#[b]⟩ a0 then some (.v (.int .i64) (0 : Int)) else some (.v (.int .i64) (idxJ a0 (byteW ⟨#[b]⟩ 0))) := by kernel_rfl

/-! ### 109: strings.Index -/
noncomputable def F109.fn : Func := Go.Proofs.Tryz.f109
noncomputable def F109.E : Env := ⟨tt, [(116, h_idx1)], [(1, [0, 1])], [], some [4], inv⟩
theorem F109.start_eq (k : Nat) (a0 : ByteArray) (b : UInt8) : callW F109.E false F109.fn k [.v .str a0, .v .str ⟨#[b]⟩] =
    some (.v (.int .i64) (idx1 a0 ⟨#[b]⟩)) := by kernel_rfl

/-! ### 94: strings.Contains -/
noncomputable def F94.fn : Func := Go.Proofs.Tryz.f94
noncomputable def F94.E : Env := ⟨tt, [(109, h_idx2)], [(1, [0, 1])], [], some [4], inv⟩
theorem F94.start_eq (k : Nat) (a0 : ByteArray) (b : UInt8) : callW F94.E false F94.fn k [.v .str a0, .v .str ⟨#[b]⟩] =
    some (.v .bool (decide ((idx2 a0 ⟨#[b]⟩) ≥ 0))) := by kernel_rfl

/-! ### 114: strings.Count -/
noncomputable def F114.fn : Func := Go.Proofs.Tryz.f114
noncomputable def F114.E : Env := ⟨tt, [(123, h_cntI)], [(1, [0, 1]), (2, [0, 1, 9]), (3, [0, 1]), (4, [0, 1, 15]), (5, [0, 1]), (6, [0, 1, 5]), (7, [0, 1, 5, 6]), (8, [0, 1, 5, 6, 24]), (9, [0, 1, 5, 6]), (10, [0, 1, 5, 6])], [(0, [4]), (1, [0, 1, 5])], some [4], inv⟩
theorem F114.start_eq (k : Nat) (a0 : ByteArray) (b : UInt8) : callW F114.E false F114.fn k [.v .str a0, .v .str ⟨#[b]⟩] =
    some (.v (.int .i64) (cntI a0 (byteW ⟨#[b]⟩ 0))) := by kernel_rfl

/-! ### 105: jigsaw/model.within -/
noncomputable def F105.fn : Func := Go.Proofs.Tryz.f105
noncomputable def F105.E : Env := ⟨tt, [], [(1, [0, 1, 2])], [], some [6], inv⟩
theorem F105.start_eq (k : Nat) (a0 : Int) (a1 : Int) (a2 : Int) : callW F105.E false F105.fn k [.v (.int .i64) a0, .v (.int .i64) a1, .v (.int .i64) a2] =
    bif decide (a0 ≥ a1) then some (.v .bool (decide (a0 ≤ a2))) else some (.v .bool false) := by kernel_rfl

/-! ### 106: jigsaw/model.named -/
noncomputable def F106.fn : Func := Go.Proofs.Tryz.f106
noncomputable def F106.E : Env := ⟨tt, [(94, h_has1), (105, h_withinD), (114, h_cnt1)], [(1, [0, 1, 2, 3]), (2, [0, 1, 2, 11]), (3, [0, 1, 2])], [], some [8], inv⟩
theorem F106.start_eq (k : Nat) (a0 : Int) (a1 : ByteArray) (a2 : ByteArray) (a3 : ByteArray) : callW F106.E false F106.fn k [.v (.int .i64) a0, .v .str a1, .v .str a2, .v .str a3] =
    bif decide (a3.size = 1) then
      bif has1 a1 a3 then
        some (.v .bool (withinD a0 1 64))
      else
        bif decide (a2.size = 1) then some (.v .bool (decide (a0 = (cnt1 a1 a2)))) else none
    else
      none := by kernel_rfl

/-! ### 53: jigsaw/jigsawref06.has -/
noncomputable def F53.fn : Func := Go.Proofs.Tryz.f53
noncomputable def F53.body : Code := bodyOf F53.fn
noncomputable def F53.E : Env := ⟨tt, [], [(1, [0, 1]), (2, [0, 1, 5]), (3, [0, 1, 5, 6]), (4, [0, 1, 5, 6]), (5, [0, 1, 5, 6]), (6, [0, 1, 5, 6, 17]), (7, [5])], [(0, [5]), (1, [0, 1, 5, 6])], some [4], inv⟩
noncomputable def F53.K0 : Conts := { nrm := endW F53.E false F53.fn.results.toList, ret := endW F53.E false F53.fn.results.toList, ex := [] }
noncomputable def F53.kt (k : Nat) (q : List Nat) : Conts := contAt F53.E k F53.body F53.K0 q
noncomputable def F53.l1_1_0_1_0 (n : Nat) (K : Conts) (p0 : ByteArray) (p1 : Int) (p2 : Int) (p3 : Int) : Option AV := loopF F53.E n (inLoop (subC [1, 1, 0, 1, 0] F53.body)) K ⟨slots 21 [(0, .v .str p0), (1, .v (.int .u8) p1), (5, .v (.int .i64) p2), (6, .v (.int .i64) p3)], []⟩
theorem F53.start_eq (k : Nat) (a0 : ByteArray) (a1 : Int) : callW F53.E false F53.fn k [.v .str a0, .v (.int .u8) a1] =
    F53.l1_1_0_1_0 k (F53.kt k [1, 1, 0, 1, 0]) a0 a1 0 0 := by kernel_rfl
theorem F53.l1_1_0_1_0_eq (n : Nat) (K : Conts) (p0 : ByteArray) (p1 : Int) (p2 : Int) (p3 : Int) : F53.l1_1_0_1_0 (n + 1) K p0 p1 p2 p3 =
    bif decide (p3 < (p0.size : Int)) then
      bif decide (0 ≤ p3) && decide (p3 < p0.size) then
        bif decide ((byteW p0 p3.toNat) = p1) then
          F53.l1_1_0_1_0 n K p0 p1 (IntKind.i64.wrap (p2 + 1)) (IntKind.i64.wrap (p3 + 1))
        else
          F53.l1_1_0_1_0 n K p0 p1 p2 (IntKind.i64.wrap (p3 + 1))
      else
        none
    else
      exitK K 0 ⟨slots 21 [(5, .v (.int .i64) p2)], []⟩ := by kernel_rfl
theorem F53.c0 (k : Nat) (p0 : Int) : exitK (F53.kt k [1, 1, 0, 1, 0]) 0 ⟨slots 21 [(5, .v (.int .i64) p0)], []⟩ =
    some (.v (.int .i64) p0) := by kernel_rfl

/-! ### 100: jigsaw/jigsawref06.list -/
noncomputable def F100.fn : Func := Go.Proofs.Tryz.f100
noncomputable def F100.E : Env := ⟨tt, [], [(1, [0, 1, 2]), (2, [0, 1, 8]), (3, [0, 1])], [], some [6], inv⟩
theorem F100.start_eq (k : Nat) (a0 : Int) (a1 : Int) (a2 : Int) : callW F100.E false F100.fn k [.v (.int .i64) a0, .v (.int .i64) a1, .v (.int .i64) a2] =
    bif decide (a2 > 0) then
      bif decide (a0 ≥ 1) then some (.v .bool (decide (a0 ≤ 64))) else some (.v .bool false)
    else
      some (.v .bool (decide (a0 = a1))) := by kernel_rfl

/-! ### 82: jigsaw/jigsawref06.in -/
noncomputable def F82.fn : Func := Go.Proofs.Tryz.f82
noncomputable def F82.body : Code := bodyOf F82.fn
noncomputable def F82.E : Env := ⟨tt, [], [(1, [0, 1, 2]), (2, [0, 1, 2, 7]), (3, [0, 1, 2, 7]), (4, [0, 1, 2, 7]), (5, [0, 1, 2, 7, 27]), (6, [])], [(0, []), (1, [0, 1, 2, 7])], some [6], inv⟩
noncomputable def F82.K0 : Conts := { nrm := endW F82.E false F82.fn.results.toList, ret := endW F82.E false F82.fn.results.toList, ex := [] }
noncomputable def F82.kt (k : Nat) (q : List Nat) : Conts := contAt F82.E k F82.body F82.K0 q
noncomputable def F82.l1_0_1_0 (n : Nat) (K : Conts) (p0 : (List Int)) (p1 : Int) (p2 : Int) (p3 : Int) : Option AV := loopF F82.E n (inLoop (subC [1, 0, 1, 0] F82.body)) K ⟨slots 28 [(0, .v (.sl (.int .i64)) p0), (1, .v (.int .i64) p1), (2, .v (.int .i64) p2), (7, .v (.int .i64) p3)], []⟩
theorem F82.start_eq (k : Nat) (a0 : (List Int)) (a1 : Int) (a2 : Int) : callW F82.E false F82.fn k [.v (.sl (.int .i64)) a0, .v (.int .i64) a1, .v (.int .i64) a2] =
    F82.l1_0_1_0 k (F82.kt k [1, 0, 1, 0]) a0 a1 a2 0 := by kernel_rfl
theorem F82.l1_0_1_0_eq (n : Nat) (K : Conts) (p0 : (List Int)) (p1 : Int) (p2 : Int) (p3 : Int) : F82.l1_0_1_0 (n + 1) K p0 p1 p2 p3 =
    bif decide (p3 < (p0.length : Int)) then
      bif decide (0 ≤ p3) && decide (p3 < p0.length) then
        bif decide ((p0.getD p3.toNat (0 : Int)) < p1) then
          K.ret ⟨slots 28 [(6, .v .bool false)], []⟩
        else
          bif decide (0 ≤ p3) && decide (p3 < p0.length) then
            bif decide ((p0.getD p3.toNat (0 : Int)) > p2) then K.ret ⟨slots 28 [(6, .v .bool false)], []⟩ else F82.l1_0_1_0 n K p0 p1 p2 (IntKind.i64.wrap (p3 + 1))
          else
            none
      else
        none
    else
      exitK K 0 ⟨slots 28 [], []⟩ := by kernel_rfl
theorem F82.c0 (k : Nat) : (F82.kt k [1, 0, 1, 0]).ret ⟨slots 28 [(6, .v .bool false)], []⟩ =
    some (.v .bool false) := by kernel_rfl
theorem F82.c1 (k : Nat) : exitK (F82.kt k [1, 0, 1, 0]) 0 ⟨slots 28 [], []⟩ =
    some (.v .bool true) := by kernel_rfl

end Go.Proofs.YthdpbmcidebagaaGreatDoor.Ev
