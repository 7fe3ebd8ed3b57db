/-
The table of types; the handlers.
Conditions: none.
-/
import Derived.Test.YtnojoaghcbljfaaGreatDoorAp
import Derived.Test.YtnojoaghcbljfaaGreatDoorLb
import Derived.Test.YtnojoaghcbljfaaGreatDoorProg
import Derived.KernelRfl
import Derived.Shelf.Spec.TrailingZeros
set_option linter.unusedVariables false
set_option linter.unusedSimpArgs false
set_option maxRecDepth 100000
namespace Go.Proofs.YtnojoaghcbljfaaGreatDoor.Ev
open Go
def tt : List (Nat × TInfo) := [(2, ⟨(.int .i64), false, 8, none, [], some .i64, false⟩),
 (3, ⟨(.int .i64), false, 8, none, [], some .i64, false⟩),
 (4, ⟨.bool, false, 1, none, [], none, false⟩),
 (5, ⟨(.int .u8), false, 1, none, [], some .u8, false⟩),
 (6, ⟨(.int .u8), false, 1, none, [], some .u8, false⟩),
 (7, ⟨(.pair (.int .i64) (.pair (.int .i64) (.pair .bool (.int .u8)))), true, 24, none, [(0, 2), (1, 3), (2, 4), (3, 6)], none, false⟩),
 (8, ⟨(.pair (.int .i64) (.pair (.int .i64) (.pair .bool (.int .u8)))), true, 24, none, [(0, 2), (1, 3), (2, 4), (3, 6)], none, false⟩),
 (9, ⟨.str, false, 16, none, [], none, true⟩),
 (10, ⟨.str, false, 16, none, [], none, true⟩),
 (11, ⟨.str, false, 16, none, [], none, true⟩),
 (12, ⟨(.int .u64), false, 8, none, [], some .u64, false⟩),
 (13, ⟨(.pair .str (.int .u64)), true, 24, none, [(0, 9), (1, 12)], none, false⟩),
 (14, ⟨(.pair .str (.int .u64)), true, 24, none, [(0, 9), (1, 12)], none, false⟩),
 (21, ⟨(.int .i32), false, 4, none, [], some .i32, false⟩),
 (22, ⟨(.sl (.int .u8)), false, 24, some 5, [], none, false⟩),
 (23, ⟨(.sl (.int .i8)), false, 24, some 35, [], none, false⟩),
 (24, ⟨(.int .i16), false, 2, none, [], some .i16, false⟩),
 (25, ⟨(.pair (.int .u8) (.pair (.sl (.int .u8)) (.pair (.sl (.int .u8)) (.pair (.sl (.int .i8)) (.pair (.int .i16) (.int .u8)))))), true, 88, none, [(0, 5), (1, 22), (2, 22), (3, 23), (4, 24), (5, 5)], none, false⟩),
 (26, ⟨(.pair (.int .u8) (.pair (.sl (.int .u8)) (.pair (.sl (.int .u8)) (.pair (.sl (.int .i8)) (.pair (.int .i16) (.int .u8)))))), true, 88, none, [(0, 5), (1, 22), (2, 22), (3, 23), (4, 24), (5, 5)], none, false⟩),
 (27, ⟨(.sl (.sl (.int .i64))), false, 24, some 30, [], none, false⟩),
 (28, ⟨(.pair (.pair (.int .u8) (.pair (.sl (.int .u8)) (.pair (.sl (.int .u8)) (.pair (.sl (.int .i8)) (.pair (.int .i16) (.int .u8)))))) (.sl (.sl (.int .i64)))), true, 112, none, [(0, 26), (6, 27)], none, false⟩),
 (29, ⟨(.pair (.pair (.int .u8) (.pair (.sl (.int .u8)) (.pair (.sl (.int .u8)) (.pair (.sl (.int .i8)) (.pair (.int .i16) (.int .u8)))))) (.sl (.sl (.int .i64)))), true, 112, none, [(0, 26), (6, 27)], none, false⟩),
 (30, ⟨(.sl (.int .i64)), false, 24, some 3, [], none, false⟩),
 (31, ⟨(.pair (.int .i64) (.pair (.sl (.int .i64)) (.pair (.sl (.int .i64)) (.pair (.sl (.int .i64)) (.pair (.sl (.int .i64)) (.pair (.sl (.int .i64)) (.pair (.int .i64) (.sl (.sl (.int .i64)))))))))), true, 160, none, [(0, 3), (1, 30), (2, 30), (3, 30), (4, 30), (5, 30), (6, 3), (7, 27)], none, false⟩),
 (32, ⟨(.pair (.int .i64) (.pair (.sl (.int .i64)) (.pair (.sl (.int .i64)) (.pair (.sl (.int .i64)) (.pair (.sl (.int .i64)) (.pair (.sl (.int .i64)) (.pair (.int .i64) (.sl (.sl (.int .i64)))))))))), true, 160, none, [(0, 3), (1, 30), (2, 30), (3, 30), (4, 30), (5, 30), (6, 3), (7, 27)], none, false⟩),
 (35, ⟨(.int .i8), false, 1, none, [], some .i8, false⟩),
 (37, ⟨(.sl (.pair (.int .i64) (.pair (.sl (.int .u64)) (.pair (.int .i64) (.pair (.int .i64) (.int .i64)))))), false, 24, some 47, [], none, false⟩),
 (45, ⟨(.sl (.int .u64)), false, 24, some 81, [], none, false⟩),
 (46, ⟨(.pair (.int .i64) (.pair (.sl (.int .u64)) (.pair (.int .i64) (.pair (.int .i64) (.int .i64))))), true, 56, none, [(0, 3), (1, 45), (2, 3), (3, 3), (4, 3)], none, false⟩),
 (47, ⟨(.pair (.int .i64) (.pair (.sl (.int .u64)) (.pair (.int .i64) (.pair (.int .i64) (.int .i64))))), true, 56, none, [(0, 3), (1, 45), (2, 3), (3, 3), (4, 3)], none, false⟩),
 (56, ⟨(.int .u64), false, 8, none, [], some .u64, false⟩),
 (64, ⟨(.pair (.int .u8) (.pair (.int .u8) (.pair (.sl (.int .i8)) (.sl (.int .i8))))), true, 56, none, [(0, 5), (1, 5), (2, 23), (3, 23)], none, false⟩),
 (65, ⟨(.pair (.int .u8) (.pair (.int .u8) (.pair (.sl (.int .i8)) (.sl (.int .i8))))), true, 56, none, [(0, 5), (1, 5), (2, 23), (3, 23)], none, false⟩),
 (69, ⟨(.pair (.int .u8) (.pair (.sl (.int .i64)) (.pair (.sl (.sl (.int .i64))) (.int .i64)))), true, 64, none, [(0, 5), (1, 30), (2, 27), (3, 3)], none, false⟩),
 (70, ⟨(.pair (.int .u8) (.pair (.sl (.int .i64)) (.pair (.sl (.sl (.int .i64))) (.int .i64)))), true, 64, none, [(0, 5), (1, 30), (2, 27), (3, 3)], none, false⟩),
 (77, ⟨(.int .i64), false, 8, none, [], some .i64, false⟩),
 (81, ⟨(.int .u64), false, 8, none, [], some .u64, false⟩),
 (85, ⟨(.sl .bool), false, 24, some 4, [], none, false⟩),
 (86, ⟨(.pair (.sl (.pair (.int .i64) (.pair (.sl (.int .u64)) (.pair (.int .i64) (.pair (.int .i64) (.int .i64)))))) (.pair (.sl (.pair (.int .i64) (.pair (.sl (.int .u64)) (.pair (.int .i64) (.pair (.int .i64) (.int .i64)))))) (.pair (.sl .bool) (.pair (.sl .bool) (.sl .bool))))), true, 120, none, [(0, 37), (1, 37), (2, 85), (3, 85), (4, 85)], none, false⟩),
 (87, ⟨(.pair (.sl (.pair (.int .i64) (.pair (.sl (.int .u64)) (.pair (.int .i64) (.pair (.int .i64) (.int .i64)))))) (.pair (.sl (.pair (.int .i64) (.pair (.sl (.int .u64)) (.pair (.int .i64) (.pair (.int .i64) (.int .i64)))))) (.pair (.sl .bool) (.pair (.sl .bool) (.sl .bool))))), true, 120, none, [(0, 37), (1, 37), (2, 85), (3, 85), (4, 85)], none, false⟩),
 (95, ⟨(.sl .str), false, 24, some 9, [], none, false⟩),
 (125, ⟨(.int .i64), false, 8, none, [], some .i64, false⟩),
 (134, ⟨(.int .i64), false, 8, none, [], some .i64, false⟩),
 (140, ⟨(.int .u32), false, 4, none, [], some .u32, false⟩),
 (149, ⟨(.int .u64), false, 8, none, [], some .u64, false⟩),
 (157, ⟨(.pair .str .str), true, 32, none, [(0, 9), (1, 9)], none, false⟩),
 (158, ⟨(.pair .str .str), true, 32, none, [(0, 9), (1, 9)], none, false⟩),
 (159, ⟨(.sl (.pair .str .str)), false, 24, some 158, [], none, false⟩),
 (187, ⟨(.int .u8), false, 1, none, [], some .u8, false⟩),
 (188, ⟨(.int .u8), false, 1, none, [], some .u8, false⟩),
 (191, ⟨(.int .i32), false, 4, none, [], some .i32, false⟩),
 (192, ⟨(.int .i32), false, 4, none, [], some .i32, false⟩)]
def inv : World → Prop := Go.Proofs.TabAt 0 Lib.deBruijn64tab
def pullC : (t : Ty) → List AV → Option t.D
 | .pair a b, cs => (match implode no (.pair a b) cs with
  | some (y, []) => some y
  | _ => none)
 | t, [c] => pullA t c
 | _, _ => none
def h_inD : Hand := handN [(.int .i64)] fun xs κ => κ (argA .bool (inD xs.1))
def h_placeD : Hand := handN [(.int .i64)] fun xs κ => κ (argA (.int .i64) (placeD xs.1))
def h_wordD : Hand := handN [(.pair (.int .i64) (.pair (.sl (.int .u64)) (.pair (.int .i64) (.pair (.int .i64) (.int .i64))))), (.int .i64)] fun xs κ => bif wordB xs.1 xs.2.1 then κ (argA (.int .u64) (wordD xs.1 xs.2.1)) else none
def h_hasD : Hand := handN [(.pair (.int .i64) (.pair (.sl (.int .u64)) (.pair (.int .i64) (.pair (.int .i64) (.int .i64))))), (.int .i64)] fun xs κ => bif nearB xs.1.1 then κ (argA .bool (hasD xs.1 xs.2.1)) else none
def h_sizeD : Hand := handN [(.pair (.int .i64) (.pair (.sl (.int .u64)) (.pair (.int .i64) (.pair (.int .i64) (.int .i64)))))] fun xs κ => κ (argA (.int .i64) (sizeD xs.1))
def h_tzD : Hand := handN [(.int .u64)] fun xs κ => bif uB xs.1 then κ (argA (.int .i64) (tzD xs.1)) else none
def h_len64D : Hand := handN [(.int .u64)] fun xs κ => bif uB xs.1 then κ (argA (.int .i64) (len64D xs.1)) else none
def h_lzD : Hand := handN [(.int .u64)] fun xs κ => bif uB xs.1 then κ (argA (.int .i64) (lzD xs.1)) else none
def h_onesD : Hand := handN [(.int .u64)] fun xs κ => bif uB xs.1 then κ (argA (.int .i64) (onesD xs.1)) else none
def h_madeD : Hand := handN [(.int .i64), (.sl (.int .u64))] fun xs κ => bif xs.2.1.all uB then κ (argA (.pair (.int .i64) (.pair (.sl (.int .u64)) (.pair (.int .i64) (.pair (.int .i64) (.int .i64))))) (madeD xs.1 xs.2.1)) else none
def h_listD : Hand := handN [(.pair (.int .i64) (.pair (.sl (.int .u64)) (.pair (.int .i64) (.pair (.int .i64) (.int .i64)))))] fun xs κ => bif listB xs.1 then κ (argA (.sl (.int .i64)) (listD xs.1)) else none
def h_maxL : Hand := handN [(.sl (.int .i64))] fun xs κ => bif !xs.1.isEmpty then κ (argA (.int .i64) (maxL xs.1)) else none
def h_minL : Hand := handN [(.sl (.int .i64))] fun xs κ => bif !xs.1.isEmpty then κ (argA (.int .i64) (minL xs.1)) else none
def h_room : Hand := handN [(.int .i64), (.int .i64)] fun xs κ => bif roomB xs.1 xs.2.1 then κ (.agg [.v (.int .i64) (placeD xs.1), .nw 81 (.int .u64) (zerosD xs.1 xs.2.1), .v (.int .i64) (0 : Int), .v (.int .i64) (0 : Int), .v (.int .i64) (0 : Int)]) else none
def h_any : Hand := fun args κ => match args with
 | [x0, .fn 95 [] []] => (match pullA (.sl (.int .i64)) x0 with
  | some y0 => κ (.v .bool (List.any y0 outD))
  | none => none)
 | [x0, .fn 133 [] [.rp cs]] => (match pullA (.sl (.int .i64)) x0, pullC (.int .i64) cs with
  | some y0, some z => κ (.v .bool (List.any y0 (varB z)))
  | _, _ => none)
 | [x0, .fn 175 [] [.rp cs]] => (match pullA (.sl (.int .i64)) x0, pullC (.int .i64) cs with
  | some y0, some z => κ (.v .bool (List.any y0 (numB z)))
  | _, _ => none)
 | _ => none
def h_idxF : Hand := fun args κ => match args with
 | [x0, .fn 95 [] []] => (match pullA (.sl (.int .i64)) x0 with
  | some y0 => κ (.v (.int .i64) (idx outD y0 (0 : Int)))
  | none => none)
 | [x0, .fn 133 [] [.rp cs]] => (match pullA (.sl (.int .i64)) x0, pullC (.int .i64) cs with
  | some y0, some z => κ (.v (.int .i64) (idx (varB z) y0 (0 : Int)))
  | _, _ => none)
 | [x0, .fn 175 [] [.rp cs]] => (match pullA (.sl (.int .i64)) x0, pullC (.int .i64) cs with
  | some y0, some z => κ (.v (.int .i64) (idx (numB z) y0 (0 : Int)))
  | _, _ => none)
 | _ => none
def h_anyE : Hand := fun args κ => match args with
 | [x0, .fn 91 [] []] => (match pullA (.sl (.pair (.int .i64) (.pair (.sl (.int .u64)) (.pair (.int .i64) (.pair (.int .i64) (.int .i64)))))) x0 with
  | some y0 => κ (.v .bool (List.any y0 emptyD))
  | none => none)
 | _ => none
def h_idxE : Hand := fun args κ => match args with
 | [x0, .fn 91 [] []] => (match pullA (.sl (.pair (.int .i64) (.pair (.sl (.int .u64)) (.pair (.int .i64) (.pair (.int .i64) (.int .i64)))))) x0 with
  | some y0 => κ (.v (.int .i64) (idx emptyD y0 (0 : Int)))
  | none => none)
 | _ => none
def h_outD : Hand := handN [(.int .i64)] fun xs κ => κ (argA .bool (outD xs.1))
def h_emptyD : Hand := handN [(.pair (.int .i64) (.pair (.sl (.int .u64)) (.pair (.int .i64) (.pair (.int .i64) (.int .i64)))))] fun xs κ => κ (argA .bool (emptyD xs.1))
def h_varB : Hand := fun args κ => match args with
 | [x0, .rp cs] => (match pullA (.int .i64) x0, pullC (.int .i64) cs with
  | some y0, some z => κ (.v .bool (varB z y0))
  | _, _ => none)
 | _ => none
def h_numB : Hand := fun args κ => match args with
 | [x0, .rp cs] => (match pullA (.int .i64) x0, pullC (.int .i64) cs with
  | some y0, some z => κ (.v .bool (numB z y0))
  | _, _ => none)
 | _ => none
def h_ofD : Hand := handN [(.sl (.int .i64))] fun xs κ => κ (.tup [argA (.pair (.int .i64) (.pair (.sl (.int .u64)) (.pair (.int .i64) (.pair (.int .i64) (.int .i64))))) ((ofD xs.1).1), argA (.int .i64) ((ofD xs.1).2)])
def h_indexL : Hand := handN [(.sl (.int .i64)), (.int .i64)] fun xs κ => κ (argA (.int .i64) (indexL xs.1 xs.2.1))
def h_containsL : Hand := handN [(.sl (.int .i64)), (.int .i64)] fun xs κ => κ (argA .bool (containsL xs.1 xs.2.1))
def h_idxI : Hand := handN [.str, (.int .u8)] fun xs κ => κ (argA (.int .i64) (idxI xs.1 xs.2.1))
def h_cntI : Hand := handN [.str, (.int .u8)] fun xs κ => κ (argA (.int .i64) (cntI xs.1 xs.2.1))
def h_idxJ : Hand := handN [.str, (.int .u8)] fun xs κ => κ (argA (.int .i64) (idxJ xs.1 xs.2.1))
def h_idx1 : Hand := handN [.str, .str] fun xs κ => bif decide (xs.2.1.size = 1) then κ (argA (.int .i64) (idx1 xs.1 xs.2.1)) else none
def h_idx2 : Hand := handN [.str, .str] fun xs κ => bif decide (xs.2.1.size = 1) then κ (argA (.int .i64) (idx2 xs.1 xs.2.1)) else none
def h_has1 : Hand := handN [.str, .str] fun xs κ => bif decide (xs.2.1.size = 1) then κ (argA .bool (has1 xs.1 xs.2.1)) else none
def h_cnt1 : Hand := handN [.str, .str] fun xs κ => bif decide (xs.2.1.size = 1) then κ (argA (.int .i64) (cnt1 xs.1 xs.2.1)) else none
def h_forms : Hand := handN [] fun xs κ => κ (argA (.sl (.pair .str .str)) formsL)
def h_word : Hand := handN [(.int .i64)] fun xs κ => κ (.tup [argA .str (wordS xs.1), argA .bool (inS xs.1)])
def h_shapeS : Hand := handN [(.int .i64)] fun xs κ => κ (argA .str (shapeS xs.1))
def h_withinD : Hand := handN [(.int .i64), (.int .i64), (.int .i64)] fun xs κ => κ (argA .bool (withinD xs.1 xs.2.1 xs.2.2.1))
def h_namedD : Hand := handN [(.int .i64), .str, .str, .str] fun xs κ => bif decide (xs.2.2.1.size = 1) && decide (xs.2.2.2.1.size = 1) then κ (argA .bool (namedD xs.1 xs.2.1 xs.2.2.1 xs.2.2.2.1)) else none
def h_countedD : Hand := handN [(.pair (.int .i64) (.pair (.sl (.int .i64)) (.pair (.sl (.int .i64)) (.pair (.sl (.int .i64)) (.pair (.sl (.int .i64)) (.pair (.sl (.int .i64)) (.pair (.int .i64) (.sl (.sl (.int .i64)))))))))), .str] fun xs κ => bif shapeB xs.1 xs.2.1 then κ (argA .bool (countedD xs.1 xs.2.1)) else none
def h_alikeD : Hand := handN [(.pair (.int .i64) (.pair (.sl (.int .i64)) (.pair (.sl (.int .i64)) (.pair (.sl (.int .i64)) (.pair (.sl (.int .i64)) (.pair (.sl (.int .i64)) (.pair (.int .i64) (.sl (.sl (.int .i64))))))))))] fun xs κ => bif kindB xs.1 then κ (argA .bool (alikeD xs.1)) else none
def h_numbersD : Hand := handN [(.pair (.int .i64) (.pair (.sl (.int .i64)) (.pair (.sl (.int .i64)) (.pair (.sl (.int .i64)) (.pair (.sl (.int .i64)) (.pair (.sl (.int .i64)) (.pair (.int .i64) (.sl (.sl (.int .i64))))))))))] fun xs κ => bif kindB xs.1 then κ (argA .bool (numbersD xs.1)) else none
def h_countsD : Hand := handN [(.pair (.int .i64) (.pair (.sl (.int .i64)) (.pair (.sl (.int .i64)) (.pair (.sl (.int .i64)) (.pair (.sl (.int .i64)) (.pair (.sl (.int .i64)) (.pair (.int .i64) (.sl (.sl (.int .i64))))))))))] fun xs κ => bif kindB xs.1 then κ (argA .bool (countsD xs.1)) else none
def h_concatL : Hand := handN [(.sl (.sl (.int .i64)))] fun xs κ => bif concatB xs.1 then κ (argA (.sl (.int .i64)) (concatL xs.1)) else none
def h_varsD : Hand := handN [(.pair (.int .i64) (.pair (.sl (.int .i64)) (.pair (.sl (.int .i64)) (.pair (.sl (.int .i64)) (.pair (.sl (.int .i64)) (.pair (.sl (.int .i64)) (.pair (.int .i64) (.sl (.sl (.int .i64))))))))))] fun xs κ => bif varsB xs.1 then κ (argA (.sl (.int .i64)) (varsD xs.1)) else none
def h_boundedD : Hand := handN [(.sl (.int .i64)), (.int .i64)] fun xs κ => κ (argA .bool (boundedD xs.1 xs.2.1))
def h_rightM : Hand := handN [(.pair (.int .i64) (.pair (.sl (.int .i64)) (.pair (.sl (.int .i64)) (.pair (.sl (.int .i64)) (.pair (.sl (.int .i64)) (.pair (.sl (.int .i64)) (.pair (.int .i64) (.sl (.sl (.int .i64)))))))))), (.int .i64)] fun xs κ => bif kindB xs.1 then κ (argA (.int .i64) (rightM xs.1 xs.2.1)) else none
def h_grow : Hand := fun args κ => match args with
 | [.nl, .v (.int .i64) n] => bif growB n then κ (.nw 3 (.int .i64) []) else none
 | _ => none
def h_fitsD : Hand := handN [(.pair (.int .i64) (.pair (.sl (.int .i64)) (.pair (.sl (.int .i64)) (.pair (.sl (.int .i64)) (.pair (.sl (.int .i64)) (.pair (.sl (.int .i64)) (.pair (.int .i64) (.sl (.sl (.int .i64)))))))))), (.sl (.pair (.int .i64) (.pair (.sl (.int .u64)) (.pair (.int .i64) (.pair (.int .i64) (.int .i64)))))), (.int .i64), (.int .i64)] fun xs κ => bif fitsB xs.1 xs.2.2.1 xs.2.2.2.1 then κ (argA .bool (fitsD xs.1 xs.2.1 xs.2.2.1 xs.2.2.2.1)) else none
def h_made : Hand := handN [(.sl (.sl (.int .i64)))] fun xs κ => bif Nat.ble xs.1.length 1000 then κ (.tup [argA (.sl (.pair (.int .i64) (.pair (.sl (.int .u64)) (.pair (.int .i64) (.pair (.int .i64) (.int .i64)))))) ((madeAll xs.1).1), argA .bool ((madeAll xs.1).2)]) else none
def h_cloneU : Hand := handN [(.sl (.int .u64))] fun xs κ => bif cloneB xs.1 then κ (.nw 81 (.int .u64) xs.1) else none
def h_cloneR : Hand := handN [(.sl (.sl (.int .i64)))] fun xs κ => bif cloneB xs.1 then κ (.nw 30 (.sl (.int .i64)) xs.1) else none
def h_minD : Hand := handN [(.pair (.int .i64) (.pair (.sl (.int .u64)) (.pair (.int .i64) (.pair (.int .i64) (.int .i64)))))] fun xs κ => κ (argA (.int .i64) (minD xs.1))
def h_maxD : Hand := handN [(.pair (.int .i64) (.pair (.sl (.int .u64)) (.pair (.int .i64) (.pair (.int .i64) (.int .i64)))))] fun xs κ => κ (argA (.int .i64) (maxD xs.1))
def h_less : Hand := fun args κ => match args with
 | [x0, .fn 147 [] [.rp cs]] => (match pullA DomT x0, pullC (.pair (.int .i64) (.pair (.sl (.int .u64)) (.pair (.int .i64) (.pair (.int .i64) (.int .i64))))) cs with
  | some d, some e => bif cutB d (andKB e) then κ (.tup [.agg (explode DomT (cutD d (andK e)).1), .v (.int .i64) (cutD d (andK e)).2]) else none
  | _, _ => none)
 | _ => none
def h_andK : Hand := fun args κ => match args with
 | [x0, x1, .rp cs] => (match pullA (.int .i64) x0, pullA (.int .u64) x1, pullC (.pair (.int .i64) (.pair (.sl (.int .u64)) (.pair (.int .i64) (.pair (.int .i64) (.int .i64))))) cs with
  | some a, some w, some e => bif andKB e a then κ (.v (.int .u64) (andK e a w)) else none
  | _, _, _ => none)
 | _ => none
def h_andD : Hand := handN [(.pair (.int .i64) (.pair (.sl (.int .u64)) (.pair (.int .i64) (.pair (.int .i64) (.int .i64))))), (.pair (.int .i64) (.pair (.sl (.int .u64)) (.pair (.int .i64) (.pair (.int .i64) (.int .i64)))))] fun xs κ => bif cutB xs.1 (andKB xs.2.1) then κ (.tup [argA (.pair (.int .i64) (.pair (.sl (.int .u64)) (.pair (.int .i64) (.pair (.int .i64) (.int .i64))))) ((cutD xs.1 (andK xs.2.1)).1), argA (.int .i64) ((cutD xs.1 (andK xs.2.1)).2)]) else none
def h_meetD : Hand := handN [(.pair (.int .i64) (.pair (.sl (.int .u64)) (.pair (.int .i64) (.pair (.int .i64) (.int .i64))))), (.pair (.int .i64) (.pair (.sl (.int .u64)) (.pair (.int .i64) (.pair (.int .i64) (.int .i64)))))] fun xs κ => bif cutB xs.1 (andKB xs.2.1) then κ (argA .bool (meetD xs.1 xs.2.1)) else none
def h_knownR : Hand := handN [(.sl (.pair (.int .i64) (.pair (.sl (.int .u64)) (.pair (.int .i64) (.pair (.int .i64) (.int .i64)))))), (.sl (.pair (.int .i64) (.pair (.sl (.int .u64)) (.pair (.int .i64) (.pair (.int .i64) (.int .i64))))))] fun xs κ => bif knownB xs.1 xs.2.1 then κ (argA (.pair (.sl (.pair (.int .i64) (.pair (.sl (.int .u64)) (.pair (.int .i64) (.pair (.int .i64) (.int .i64)))))) (.pair (.sl (.pair (.int .i64) (.pair (.sl (.int .u64)) (.pair (.int .i64) (.pair (.int .i64) (.int .i64)))))) (.pair (.sl .bool) (.pair (.sl .bool) (.sl .bool))))) (knownR xs.1 xs.2.1)) else none
def h_leftR : Hand := handN [(.pair (.sl (.pair (.int .i64) (.pair (.sl (.int .u64)) (.pair (.int .i64) (.pair (.int .i64) (.int .i64)))))) (.pair (.sl (.pair (.int .i64) (.pair (.sl (.int .u64)) (.pair (.int .i64) (.pair (.int .i64) (.int .i64)))))) (.pair (.sl .bool) (.pair (.sl .bool) (.sl .bool))))), (.int .i64), (.int .i64)] fun xs κ => bif leftB xs.1 xs.2.1 then κ (argA .bool (leftR xs.1 xs.2.1 xs.2.2.1)) else none
def h_rightR2 : Hand := handN [(.pair (.sl (.pair (.int .i64) (.pair (.sl (.int .u64)) (.pair (.int .i64) (.pair (.int .i64) (.int .i64)))))) (.pair (.sl (.pair (.int .i64) (.pair (.sl (.int .u64)) (.pair (.int .i64) (.pair (.int .i64) (.int .i64)))))) (.pair (.sl .bool) (.pair (.sl .bool) (.sl .bool))))), (.int .i64), (.int .i64)] fun xs κ => bif rightB xs.1 xs.2.1 then κ (argA .bool (rightR2 xs.1 xs.2.1 xs.2.2.1)) else none
def h_kept : Hand := fun args κ => match args with
 | [x0, x1, .fn 58 [x2] []] => (match pullA DomT x0, pullA (.int .i64) x1, pullA RowsT x2 with
  | some d, some i, some r => bif listB d && leftB r i then κ (.v LI (keptL d (leftR r i))) else none
  | _, _, _ => none)
 | [x0, x1, .fn 59 [x2] []] => (match pullA DomT x0, pullA (.int .i64) x1, pullA RowsT x2 with
  | some d, some i, some r => bif listB d && rightB r i then κ (.v LI (keptL d (rightR2 r i))) else none
  | _, _, _ => none)
 | _ => none
def h_lexiF : Hand := handN [(.pair (.int .i64) (.pair (.sl (.int .i64)) (.pair (.sl (.int .i64)) (.pair (.sl (.int .i64)) (.pair (.sl (.int .i64)) (.pair (.sl (.int .i64)) (.pair (.int .i64) (.sl (.sl (.int .i64)))))))))), (.sl (.pair (.int .i64) (.pair (.sl (.int .u64)) (.pair (.int .i64) (.pair (.int .i64) (.int .i64))))))] fun xs κ => bif filtB 22 22 xs.1 xs.2.1 then κ (.tup [argA (.sl (.pair (.int .i64) (.pair (.sl (.int .u64)) (.pair (.int .i64) (.pair (.int .i64) (.int .i64)))))) ((lexiF xs.1 xs.2.1).1), argA .bool ((lexiF xs.1 xs.2.1).2)]) else none
def h_doms326 : Hand := handN [(.sl (.sl (.int .i64)))] fun xs κ => bif Nat.ble xs.1.length 1000 then κ (argA (.sl (.pair (.int .i64) (.pair (.sl (.int .u64)) (.pair (.int .i64) (.pair (.int .i64) (.int .i64)))))) (domsL xs.1)) else none
def h_wakes328 : Hand := handN [] fun xs κ => κ (argA .bool true)
def h_risingL : Hand := handN [(.sl (.int .i8))] fun xs κ => κ (argA (.sl (.int .i64)) (risingL xs.1))
def h_eqL : Hand := handN [(.sl (.int .i64)), (.sl (.int .i64))] fun xs κ => bif Nat.ble xs.1.length 1000 then κ (argA .bool (eqL xs.1 xs.2.1)) else none
end Go.Proofs.YtnojoaghcbljfaaGreatDoor.Ev
