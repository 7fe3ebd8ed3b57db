/-
The functions that ModelKinds calls, as the evaluator runs them: printed by a program of mine, each equation by 'kernel_rfl'.
Conditions: none.
-/
import Derived.Test.YtoplphfgbfcagaaKa
set_option linter.unusedVariables false
set_option maxRecDepth 100000
namespace Go.Proofs.Ytoplphfgbfcagaa.Ev
open Go
/-- The first place at which it holds, from 'i' on; or -1. -/
def idx {α : Type} (p : α → Bool) : List α → Int → Int
  | [], _ => -1
  | x :: xs, i => bif p x then i else idx p xs (i + 1)
def indexS (xs : List ByteArray) (w : ByteArray) : Int := idx (fun x => strEq w x) xs 0
def indexForm (xs : List (ByteArray × ByteArray)) (w : ByteArray) : Int := idx (fun x => strEq x.1 w) xs 0
def containsS (xs : List ByteArray) (w : ByteArray) : Bool := decide (indexS xs w ≥ 0)
def inS (k : Int) : Bool := decide (1 ≤ k) && decide (k ≤ 23)
def wordS (k : Int) : ByteArray := bif inS k then (formsL.getD (k - 1).toNat (ByteArray.empty, ByteArray.empty)).1 else ⟨#[]⟩
def shapeS (k : Int) : ByteArray := bif inS k then (formsL.getD (k - 1).toNat (ByteArray.empty, ByteArray.empty)).2 else ⟨#[]⟩
def kindS (w : ByteArray) : Int := indexForm formsL w + 1
def isS (w : ByteArray) : Bool := decide (indexForm formsL w ≥ 0)
def hForms : Hand := fun args κ => match args with
  | [] => κ (.v (.sl (.pair .str .str)) formsL)
  | _ => none
def hWords : Hand := fun args κ => match args with
  | [] => κ (.v (.sl .str) wordsL)
  | _ => none
def hShapes : Hand := fun args κ => match args with
  | [] => κ (.v (.sl .str) shapesL)
  | _ => none
def hWakes : Hand := fun args κ => match args with
  | [] => κ (.v .bool true)
  | _ => none
def hWord : Hand := fun args κ => match args with
  | [.v (.int .i64) k] => κ (.tup [.v .str (wordS k), .v .bool (inS k)])
  | _ => none
def hShape : Hand := fun args κ => match args with
  | [.v (.int .i64) k] => κ (.v .str (shapeS k))
  | _ => none
def hKind : Hand := fun args κ => match args with
  | [.v .str w] => κ (.tup [.v (.int .i64) (kindS w), .v .bool (isS w)])
  | _ => none
def hContainsS : Hand := fun args κ => match args with
  | [.v (.sl .str) xs, .v .str w] => bif Nat.ble (len2 xs) 1000 then κ (.v .bool (containsS xs w)) else none
  | _ => none
def hIndexS : Hand := fun args κ => match args with
  | [.v (.sl .str) xs, .v .str w] => bif Nat.ble (len2 xs) 1000 then κ (.v (.int .i64) (indexS xs w)) else none
  | _ => none
def hIndexForm : Hand := fun args κ => match args with
  | [.v (.sl (.pair .str .str)) xs, .fn 13 [] [.rp [.v .str w]]] => bif Nat.ble (len2 xs) 1000 then κ (.v (.int .i64) (indexForm xs w)) else none
  | _ => none
def hKind1 : Hand := fun args κ => match args with
  | [.agg [.v .str a, .v .str b], .rp [.v .str w]] => κ (.v .bool (strEq a w))
  | _ => none
/-! ### 13: jigsaw/model.Kind$1 -/
noncomputable def F13.fn : Func := Go.Proofs.Try.f13
noncomputable def F13.body : Code := bodyOf F13.fn
noncomputable def F13.E : Env := ⟨tt, [], [(1, [1, 2])], [], some [3]⟩
noncomputable def F13.K0 : Conts := { nrm := endW F13.E false F13.fn.results.toList, ret := endW F13.E false F13.fn.results.toList, ex := [] }
noncomputable def F13.kt (k : Nat) (q : List Nat) : Conts := contAt F13.E k F13.body F13.K0 q
theorem F13.start_eq (k : Nat) (a0 : (ByteArray × ByteArray)) (w : ByteArray) : callW F13.E false F13.fn k [.agg [.v .str a0.1, .v .str a0.2], .rp [.v .str w]] =
    some (.v .bool (strEq a0.1 w)) := by kernel_rfl

/-! ### 12: slices.IndexFunc[[]jigsaw/model.form,jigsaw/model.form] -/
noncomputable def F12.fn : Func := Go.Proofs.Try.f12
noncomputable def F12.body : Code := bodyOf F12.fn
noncomputable def F12.E : Env := ⟨tt, [(13, hKind1)], [(1, [0, 1]), (2, [0, 1, 7, 8]), (3, [0, 1, 7, 8, 9]), (4, [0, 1, 5, 7, 8]), (5, [0, 1, 5, 7, 8, 16]), (6, [0, 1, 7, 8]), (7, [])], [(0, []), (1, [0, 1, 7, 8])], some [4]⟩
noncomputable def F12.K0 : Conts := { nrm := endW F12.E false F12.fn.results.toList, ret := endW F12.E false F12.fn.results.toList, ex := [] }
noncomputable def F12.kt (k : Nat) (q : List Nat) : Conts := contAt F12.E k F12.body F12.K0 q
noncomputable def F12.l1_0_1_0 (n : Nat) (K : Conts) (p0 : (List (ByteArray × ByteArray))) (p1 : ByteArray) (p2 : Int) (p3 : Int) : Option AV := loopF F12.E n (inLoop (subC [1, 0, 1, 0] F12.body)) K ⟨slots 19 [(0, .v (.sl (.pair .str .str)) p0), (1, .fn 13 [] [.rp [.v .str p1]]), (7, .v (.int .i64) p2), (8, .v (.int .i64) p3)], []⟩
noncomputable def F12.k_l1_0_1_0 (n : Nat) (K : Conts) (q : List Nat) : Conts := contAt F12.E n (inLoop (subC [1, 0, 1, 0] F12.body)) (loopK F12.E n (inLoop (subC [1, 0, 1, 0] F12.body)) K) q
theorem F12.start_eq (k : Nat) (a0 : (List (ByteArray × ByteArray))) (w : ByteArray) : callW F12.E false F12.fn k [.v (.sl (.pair .str .str)) a0, .fn 13 [] [.rp [.v .str w]]] =
    F12.l1_0_1_0 k (F12.kt k [1, 0, 1, 0]) a0 w (a0.length : Int) 0 := by kernel_rfl
theorem F12.l1_0_1_0_eq (n : Nat) (K : Conts) (p0 : (List (ByteArray × ByteArray))) (p1 : ByteArray) (p2 : Int) (p3 : Int) : F12.l1_0_1_0 (n + 1) K p0 p1 p2 p3 =
    bif decide (p3 < p2) then
      bif decide (0 ≤ p3) && decide (p3 < p0.length) then
        bif strEq ((p0.getD p3.toNat (ByteArray.empty, ByteArray.empty)).1) p1 then
          K.ret ⟨slots 19 [(4, .v (.int .i64) p3)], []⟩
        else
          F12.l1_0_1_0 n K p0 p1 p2 (IntKind.i64.wrap (p3 + 1))
      else
        none
    else
      exitK K 0 ⟨slots 19 [], []⟩ := by kernel_rfl
theorem F12.c0 (k : Nat) (p0 : Int) : (F12.kt k [1, 0, 1, 0]).ret ⟨slots 19 [(4, .v (.int .i64) p0)], []⟩ =
    some (.v (.int .i64) p0) := by kernel_rfl
theorem F12.c1 (k : Nat) : exitK (F12.kt k [1, 0, 1, 0]) 0 ⟨slots 19 [], []⟩ =
    some (.v (.int .i64) (-1 : Int)) := by kernel_rfl

/-! ### 5: jigsaw/model.Word -/
noncomputable def F5.fn : Func := Go.Proofs.Try.f5
noncomputable def F5.body : Code := bodyOf F5.fn
noncomputable def F5.E : Env := ⟨tt, [(11, hForms)], [(1, [0]), (2, [0, 11]), (3, [0])], [], some [2, 3]⟩
noncomputable def F5.K0 : Conts := { nrm := endW F5.E false F5.fn.results.toList, ret := endW F5.E false F5.fn.results.toList, ex := [] }
noncomputable def F5.kt (k : Nat) (q : List Nat) : Conts := contAt F5.E k F5.body F5.K0 q
theorem F5.start_eq (k : Nat) (a0 : Int) : callW F5.E false F5.fn k [.v (.int .i64) a0] =
    bif decide (a0 < 1) then
      some (.tup [.v .str ⟨#[]⟩, .v .bool false])
    else
      bif decide (a0 > (formsL.length : Int)) then
        some (.tup [.v .str ⟨#[]⟩, .v .bool false])
      else
        bif decide (0 ≤ (IntKind.i64.wrap (a0 - 1))) && decide ((IntKind.i64.wrap (a0 - 1)) < formsL.length) then
          some (.tup [.v .str ((formsL.getD ((IntKind.i64.wrap (a0 - 1)).toNat) (ByteArray.empty, ByteArray.empty)).1), .v .bool true])
        else
          none := by kernel_rfl

/-! ### 7: jigsaw/model.Shape -/
noncomputable def F7.fn : Func := Go.Proofs.Try.f7
noncomputable def F7.body : Code := bodyOf F7.fn
noncomputable def F7.E : Env := ⟨tt, [(5, hWord), (11, hForms)], [(1, [0]), (2, [0, 4]), (3, [0, 11]), (4, [0])], [], some [2]⟩
noncomputable def F7.K0 : Conts := { nrm := endW F7.E false F7.fn.results.toList, ret := endW F7.E false F7.fn.results.toList, ex := [] }
noncomputable def F7.kt (k : Nat) (q : List Nat) : Conts := contAt F7.E k F7.body F7.K0 q
theorem F7.start_eq (k : Nat) (a0 : Int) : callW F7.E false F7.fn k [.v (.int .i64) a0] =
    bif !(inS a0) then
      some (.v .str ⟨#[]⟩)
    else
      bif decide (0 ≤ (IntKind.i64.wrap (a0 - 1))) && decide ((IntKind.i64.wrap (a0 - 1)) < formsL.length) then
        some (.v .str ((formsL.getD ((IntKind.i64.wrap (a0 - 1)).toNat) (ByteArray.empty, ByteArray.empty)).2))
      else
        none := by kernel_rfl

/-! ### 14: slices.Index[[]string,string] -/
noncomputable def F14.fn : Func := Go.Proofs.Try.f14
noncomputable def F14.body : Code := bodyOf F14.fn
noncomputable def F14.E : Env := ⟨tt, [], [(1, [0, 1]), (2, [0, 1, 7, 8]), (3, [0, 1, 7, 8, 9]), (4, [0, 1, 5, 7, 8]), (5, [0, 1, 5, 7, 8, 16]), (6, [0, 1, 7, 8]), (7, [])], [(0, []), (1, [0, 1, 7, 8])], some [4]⟩
noncomputable def F14.K0 : Conts := { nrm := endW F14.E false F14.fn.results.toList, ret := endW F14.E false F14.fn.results.toList, ex := [] }
noncomputable def F14.kt (k : Nat) (q : List Nat) : Conts := contAt F14.E k F14.body F14.K0 q
noncomputable def F14.l1_0_1_0 (n : Nat) (K : Conts) (p0 : (List ByteArray)) (p1 : ByteArray) (p2 : Int) (p3 : Int) : Option AV := loopF F14.E n (inLoop (subC [1, 0, 1, 0] F14.body)) K ⟨slots 19 [(0, .v (.sl .str) p0), (1, .v .str p1), (7, .v (.int .i64) p2), (8, .v (.int .i64) p3)], []⟩
noncomputable def F14.k_l1_0_1_0 (n : Nat) (K : Conts) (q : List Nat) : Conts := contAt F14.E n (inLoop (subC [1, 0, 1, 0] F14.body)) (loopK F14.E n (inLoop (subC [1, 0, 1, 0] F14.body)) K) q
theorem F14.start_eq (k : Nat) (a0 : (List ByteArray)) (a1 : ByteArray) : callW F14.E false F14.fn k [.v (.sl .str) a0, .v .str a1] =
    F14.l1_0_1_0 k (F14.kt k [1, 0, 1, 0]) a0 a1 (a0.length : Int) 0 := by kernel_rfl
theorem F14.l1_0_1_0_eq (n : Nat) (K : Conts) (p0 : (List ByteArray)) (p1 : ByteArray) (p2 : Int) (p3 : Int) : F14.l1_0_1_0 (n + 1) K p0 p1 p2 p3 =
    bif decide (p3 < p2) then
      bif decide (0 ≤ p3) && decide (p3 < p0.length) then
        bif strEq p1 (p0.getD p3.toNat ByteArray.empty) then K.ret ⟨slots 19 [(4, .v (.int .i64) p3)], []⟩ else F14.l1_0_1_0 n K p0 p1 p2 (IntKind.i64.wrap (p3 + 1))
      else
        none
    else
      exitK K 0 ⟨slots 19 [], []⟩ := by kernel_rfl
theorem F14.c0 (k : Nat) (p0 : Int) : (F14.kt k [1, 0, 1, 0]).ret ⟨slots 19 [(4, .v (.int .i64) p0)], []⟩ =
    some (.v (.int .i64) p0) := by kernel_rfl
theorem F14.c1 (k : Nat) : exitK (F14.kt k [1, 0, 1, 0]) 0 ⟨slots 19 [], []⟩ =
    some (.v (.int .i64) (-1 : Int)) := by kernel_rfl

/-! ### 9: slices.Contains[[]string,string] -/
noncomputable def F9.fn : Func := Go.Proofs.Try.f9
noncomputable def F9.body : Code := bodyOf F9.fn
noncomputable def F9.E : Env := ⟨tt, [(14, hIndexS)], [(1, [0, 1])], [], some [4]⟩
noncomputable def F9.K0 : Conts := { nrm := endW F9.E false F9.fn.results.toList, ret := endW F9.E false F9.fn.results.toList, ex := [] }
noncomputable def F9.kt (k : Nat) (q : List Nat) : Conts := contAt F9.E k F9.body F9.K0 q
theorem F9.start_eq (k : Nat) (a0 : (List ByteArray)) (a1 : ByteArray) : callW F9.E false F9.fn k [.v (.sl .str) a0, .v .str a1] =
    bif Nat.ble a0.length 1000 then some (.v .bool (decide ((indexS a0 a1) ≥ 0))) else none := by kernel_rfl

/-! ### 6: jigsaw/model.Kind -/
noncomputable def F6.fn : Func := Go.Proofs.Try.f6
noncomputable def F6.body : Code := bodyOf F6.fn
noncomputable def F6.E : Env := ⟨tt, [(11, hForms), (12, hIndexForm)], [(1, [1]), (2, [4])], [], some [2, 3]⟩
noncomputable def F6.K0 : Conts := { nrm := endW F6.E false F6.fn.results.toList, ret := endW F6.E false F6.fn.results.toList, ex := [] }
noncomputable def F6.kt (k : Nat) (q : List Nat) : Conts := contAt F6.E k F6.body F6.K0 q
theorem F6.start_eq (k : Nat) (a0 : ByteArray) : callW F6.E false F6.fn k [.v .str a0] =
    bif Nat.ble formsL.length 1000 then
      some (.tup [.v (.int .i64) (IntKind.i64.wrap ((indexForm formsL a0) + 1)), .v .bool (decide ((indexForm formsL a0) ≥ 0))])
    else
      none := by kernel_rfl

/-! ### 3: jigsaw/jigsawlaw06.ModelKinds -/
noncomputable def F3.fn : Func := Go.Proofs.Try.f3
noncomputable def F3.body : Code := bodyOf F3.fn
noncomputable def F3.E : Env := ⟨tt, [(4, hWords), (5, hWord), (6, hKind), (7, hShape), (8, hShapes), (9, hContainsS), (10, hWakes)], [(1, [0, 1]), (2, [0, 1, 17, 18, 19]), (3, [0, 1, 17, 18, 19, 20]), (4, [0, 1, 5, 6, 17, 18, 19]), (5, [0, 1, 5, 6, 7, 8, 17, 18, 19]), (6, [0, 1, 5, 6, 7, 8, 9, 10, 17, 18, 19]), (7, [0, 1, 17, 18, 19, 64]), (8, [0, 1, 17, 18, 19]), (9, [0, 1]), (10, [0, 1, 11, 12]), (11, [0, 1, 11, 12, 13]), (12, [0, 1, 11, 12, 13, 14, 15]), (13, [0, 11, 12, 13, 14, 15, 16])], [(0, [0, 1]), (1, [0, 1, 17, 18, 19])], some [4]⟩
noncomputable def F3.K0 : Conts := { nrm := endW F3.E false F3.fn.results.toList, ret := endW F3.E false F3.fn.results.toList, ex := [] }
noncomputable def F3.kt (k : Nat) (q : List Nat) : Conts := contAt F3.E k F3.body F3.K0 q
noncomputable def F3.l1_0_1_0 (n : Nat) (K : Conts) (p0 : Int) (p1 : ByteArray) (p2 : (List ByteArray)) (p3 : Int) (p4 : Int) : Option AV := loopF F3.E n (inLoop (subC [1, 0, 1, 0] F3.body)) K ⟨slots 116 [(0, .v (.int .i64) p0), (1, .v .str p1), (17, .v (.sl .str) p2), (18, .v (.int .i64) p3), (19, .v (.int .i64) p4)], []⟩
noncomputable def F3.k_l1_0_1_0 (n : Nat) (K : Conts) (q : List Nat) : Conts := contAt F3.E n (inLoop (subC [1, 0, 1, 0] F3.body)) (loopK F3.E n (inLoop (subC [1, 0, 1, 0] F3.body)) K) q
theorem F3.start_eq (k : Nat) (a0 : Int) (a1 : ByteArray) : callW F3.E false F3.fn k [.v (.int .i64) a0, .v .str a1] =
    F3.l1_0_1_0 k (F3.kt k [1, 0, 1, 0]) a0 a1 wordsL (wordsL.length : Int) 0 := by kernel_rfl
theorem F3.l1_0_1_0_eq (n : Nat) (K : Conts) (p0 : Int) (p1 : ByteArray) (p2 : (List ByteArray)) (p3 : Int) (p4 : Int) : F3.l1_0_1_0 (n + 1) K p0 p1 p2 p3 p4 =
    bif decide (p4 < p3) then
      bif decide (0 ≤ p4) && decide (p4 < p2.length) then
        bif !strEq (wordS p4) (p2.getD p4.toNat ByteArray.empty) then
          K.ret ⟨slots 116 [(4, .v .bool false)], []⟩
        else
          bif !((inS p4) == (decide (p4 > 0))) then
            K.ret ⟨slots 116 [(4, .v .bool false)], []⟩
          else
            bif decide (p4 > 0) then
              bif !(isS (p2.getD p4.toNat ByteArray.empty)) then
                K.ret ⟨slots 116 [(4, .v .bool false)], []⟩
              else
                bif !(decide ((kindS (p2.getD p4.toNat ByteArray.empty)) = p4)) then
                  K.ret ⟨slots 116 [(4, .v .bool false)], []⟩
                else
                  bif decide (0 ≤ p4) && decide (p4 < shapesL.length) then
                    bif !strEq (shapeS p4) (shapesL.getD p4.toNat ByteArray.empty) then
                      K.ret ⟨slots 116 [(4, .v .bool false)], []⟩
                    else
                      F3.l1_0_1_0 n K p0 p1 p2 p3 (IntKind.i64.wrap (p4 + 1))
                  else
                    none
            else
              bif decide (0 ≤ p4) && decide (p4 < shapesL.length) then
                bif !strEq (shapeS p4) (shapesL.getD p4.toNat ByteArray.empty) then
                  K.ret ⟨slots 116 [(4, .v .bool false)], []⟩
                else
                  F3.l1_0_1_0 n K p0 p1 p2 p3 (IntKind.i64.wrap (p4 + 1))
              else
                none
      else
        none
    else
      exitK K 0 ⟨slots 116 [(0, .v (.int .i64) p0), (1, .v .str p1)], []⟩ := by kernel_rfl
theorem F3.c0 (k : Nat) : (F3.kt k [1, 0, 1, 0]).ret ⟨slots 116 [(4, .v .bool false)], []⟩ =
    some (.v .bool false) := by kernel_rfl
theorem F3.c1 (k : Nat) (p0 : Int) (p1 : ByteArray) : exitK (F3.kt k [1, 0, 1, 0]) 0 ⟨slots 116 [(0, .v (.int .i64) p0), (1, .v .str p1)], []⟩ =
    bif decide (p0 ≥ 1) then
      bif decide ((1 : Int) ≤ wordsL.length) then
        bif Nat.ble (wordsL.drop 1).length 1000 then
          bif (inS p0) == (decide (p0 ≤ 23)) then
            bif decide (p0 ≤ 23) then
              bif (isS p1) == (containsS (wordsL.drop 1) p1) then
                bif containsS (wordsL.drop 1) p1 then some (.v .bool true) else some (.v .bool (decide ((kindS p1) = 0)))
              else
                some (.v .bool false)
            else
              bif strEq (wordS p0) ⟨#[]⟩ then
                bif strEq (shapeS p0) ⟨#[]⟩ then
                  bif (isS p1) == (containsS (wordsL.drop 1) p1) then
                    bif containsS (wordsL.drop 1) p1 then some (.v .bool true) else some (.v .bool (decide ((kindS p1) = 0)))
                  else
                    some (.v .bool false)
                else
                  some (.v .bool false)
              else
                some (.v .bool false)
          else
            some (.v .bool false)
        else
          none
      else
        none
    else
      bif decide ((1 : Int) ≤ wordsL.length) then
        bif Nat.ble (wordsL.drop 1).length 1000 then
          bif (inS p0) == false then
            bif strEq (wordS p0) ⟨#[]⟩ then
              bif strEq (shapeS p0) ⟨#[]⟩ then
                bif (isS p1) == (containsS (wordsL.drop 1) p1) then
                  bif containsS (wordsL.drop 1) p1 then some (.v .bool true) else some (.v .bool (decide ((kindS p1) = 0)))
                else
                  some (.v .bool false)
              else
                some (.v .bool false)
            else
              some (.v .bool false)
          else
            some (.v .bool false)
        else
          none
      else
        none := by kernel_rfl
end Go.Proofs.Ytoplphfgbfcagaa.Ev
