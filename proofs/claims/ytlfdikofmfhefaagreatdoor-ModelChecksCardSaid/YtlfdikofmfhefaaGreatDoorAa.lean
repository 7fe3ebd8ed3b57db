/-
The table of types; the handlers.
Conditions: none.
-/
import Derived.Test.YtlfdikofmfhefaaGreatDoorAp
import Derived.Test.YtlfdikofmfhefaaGreatDoorProg
import Derived.KernelRfl
import Derived.Shelf.Spec.TrailingZeros
set_option linter.unusedVariables false
set_option linter.unusedSimpArgs false
set_option maxRecDepth 100000
namespace Go.Proofs.YtlfdikofmfhefaaGreatDoor.Ev
open Go
def tt : List (Nat × TInfo) := [(2, ⟨(.int .i64), false, 8, none, [], some .i64, false⟩),
 (3, ⟨(.int .i64), false, 8, none, [], some .i64, false⟩),
 (4, ⟨.bool, false, 1, none, [], none, false⟩),
 (5, ⟨(.int .u8), false, 1, none, [], some .u8, false⟩),
 (6, ⟨(.int .u8), false, 1, none, [], some .u8, false⟩),
 (7, ⟨(.pair (.int .i64) (.pair (.int .i64) (.pair .bool (.int .u8)))), true, 24, none, [(0, 2), (1, 3), (2, 4), (3, 6)], none, false⟩),
 (8, ⟨(.pair (.int .i64) (.pair (.int .i64) (.pair .bool (.int .u8)))), true, 24, none, [(0, 2), (1, 3), (2, 4), (3, 6)], none, false⟩),
 (9, ⟨.str, false, 16, none, [], none, true⟩),
 (10, ⟨.str, false, 16, none, [], none, true⟩),
 (11, ⟨.str, false, 16, none, [], none, true⟩),
 (12, ⟨(.int .u64), false, 8, none, [], some .u64, false⟩),
 (13, ⟨(.pair .str (.int .u64)), true, 24, none, [(0, 9), (1, 12)], none, false⟩),
 (14, ⟨(.pair .str (.int .u64)), true, 24, none, [(0, 9), (1, 12)], none, false⟩),
 (21, ⟨(.int .i32), false, 4, none, [], some .i32, false⟩),
 (22, ⟨(.int .u16), false, 2, none, [], some .u16, false⟩),
 (23, ⟨(.sl .str), false, 24, some 9, [], none, false⟩),
 (24, ⟨(.sl (.sl (.int .i64))), false, 24, some 29, [], none, false⟩),
 (25, ⟨(.sl (.pair (.int .i64) (.pair (.sl (.int .i64)) (.pair (.sl (.int .i64)) (.pair (.sl (.int .i64)) (.pair (.sl (.int .i64)) (.pair (.sl (.int .i64)) (.pair (.int .i64) (.sl (.sl (.int .i64))))))))))), false, 24, some 31, [], none, false⟩),
 (26, ⟨(.pair (.sl .str) (.pair (.sl (.sl (.int .i64))) (.pair (.sl (.pair (.int .i64) (.pair (.sl (.int .i64)) (.pair (.sl (.int .i64)) (.pair (.sl (.int .i64)) (.pair (.sl (.int .i64)) (.pair (.sl (.int .i64)) (.pair (.int .i64) (.sl (.sl (.int .i64))))))))))) (.pair (.int .i64) (.int .i64))))), true, 88, none, [(0, 23), (1, 24), (2, 25), (3, 3), (4, 3)], none, false⟩),
 (27, ⟨(.pair (.sl .str) (.pair (.sl (.sl (.int .i64))) (.pair (.sl (.pair (.int .i64) (.pair (.sl (.int .i64)) (.pair (.sl (.int .i64)) (.pair (.sl (.int .i64)) (.pair (.sl (.int .i64)) (.pair (.sl (.int .i64)) (.pair (.int .i64) (.sl (.sl (.int .i64))))))))))) (.pair (.int .i64) (.int .i64))))), true, 88, none, [(0, 23), (1, 24), (2, 25), (3, 3), (4, 3)], none, false⟩),
 (28, ⟨(.sl (.int .u8)), false, 24, some 5, [], none, false⟩),
 (29, ⟨(.sl (.int .i64)), false, 24, some 3, [], none, false⟩),
 (30, ⟨(.pair (.int .i64) (.pair (.sl (.int .i64)) (.pair (.sl (.int .i64)) (.pair (.sl (.int .i64)) (.pair (.sl (.int .i64)) (.pair (.sl (.int .i64)) (.pair (.int .i64) (.sl (.sl (.int .i64)))))))))), true, 160, none, [(0, 3), (1, 29), (2, 29), (3, 29), (4, 29), (5, 29), (6, 3), (7, 24)], none, false⟩),
 (31, ⟨(.pair (.int .i64) (.pair (.sl (.int .i64)) (.pair (.sl (.int .i64)) (.pair (.sl (.int .i64)) (.pair (.sl (.int .i64)) (.pair (.sl (.int .i64)) (.pair (.int .i64) (.sl (.sl (.int .i64)))))))))), true, 160, none, [(0, 3), (1, 29), (2, 29), (3, 29), (4, 29), (5, 29), (6, 3), (7, 24)], none, false⟩),
 (32, ⟨(.int .i64), false, 8, none, [], some .i64, false⟩),
 (39, ⟨(.sl (.sl (.int .i8))), false, 24, some 73, [], none, false⟩),
 (40, ⟨(.sl (.pair (.int .u8) (.pair (.sl (.int .u8)) (.pair (.sl (.int .u8)) (.pair (.sl (.int .i8)) (.pair (.int .i16) (.int .u8))))))), false, 24, some 78, [], none, false⟩),
 (41, ⟨(.pair (.sl .str) (.pair (.sl (.sl (.int .i8))) (.pair (.sl (.pair (.int .u8) (.pair (.sl (.int .u8)) (.pair (.sl (.int .u8)) (.pair (.sl (.int .i8)) (.pair (.int .i16) (.int .u8))))))) (.pair (.int .i64) (.pair (.int .i64) (.pair (.int .u8) (.pair (.pair (.int .i64) (.pair (.sl (.int .i64)) (.pair (.sl (.int .i64)) (.pair (.sl (.int .i64)) (.pair (.sl (.int .i64)) (.pair (.sl (.int .i64)) (.pair (.int .i64) (.sl (.sl (.int .i64)))))))))) (.sl (.int .i64))))))))), true, 280, none, [(0, 23), (1, 39), (2, 40), (3, 3), (4, 3), (5, 5), (6, 31), (14, 29)], none, false⟩),
 (42, ⟨(.pair (.sl .str) (.pair (.sl (.sl (.int .i8))) (.pair (.sl (.pair (.int .u8) (.pair (.sl (.int .u8)) (.pair (.sl (.int .u8)) (.pair (.sl (.int .i8)) (.pair (.int .i16) (.int .u8))))))) (.pair (.int .i64) (.pair (.int .i64) (.pair (.int .u8) (.pair (.pair (.int .i64) (.pair (.sl (.int .i64)) (.pair (.sl (.int .i64)) (.pair (.sl (.int .i64)) (.pair (.sl (.int .i64)) (.pair (.sl (.int .i64)) (.pair (.int .i64) (.sl (.sl (.int .i64)))))))))) (.sl (.int .i64))))))))), true, 280, none, [(0, 23), (1, 39), (2, 40), (3, 3), (4, 3), (5, 5), (6, 31), (14, 29)], none, false⟩),
 (45, ⟨(.pair (.pair (.sl .str) (.pair (.sl (.sl (.int .i8))) (.pair (.sl (.pair (.int .u8) (.pair (.sl (.int .u8)) (.pair (.sl (.int .u8)) (.pair (.sl (.int .i8)) (.pair (.int .i16) (.int .u8))))))) (.pair (.int .i64) (.pair (.int .i64) (.pair (.int .u8) (.pair (.pair (.int .i64) (.pair (.sl (.int .i64)) (.pair (.sl (.int .i64)) (.pair (.sl (.int .i64)) (.pair (.sl (.int .i64)) (.pair (.sl (.int .i64)) (.pair (.int .i64) (.sl (.sl (.int .i64)))))))))) (.sl (.int .i64))))))))) (.pair (.pair (.sl .str) (.pair (.sl (.sl (.int .i8))) (.pair (.sl (.pair (.int .u8) (.pair (.sl (.int .u8)) (.pair (.sl (.int .u8)) (.pair (.sl (.int .i8)) (.pair (.int .i16) (.int .u8))))))) (.pair (.int .i64) (.pair (.int .i64) (.pair (.int .u8) (.pair (.pair (.int .i64) (.pair (.sl (.int .i64)) (.pair (.sl (.int .i64)) (.pair (.sl (.int .i64)) (.pair (.sl (.int .i64)) (.pair (.sl (.int .i64)) (.pair (.int .i64) (.sl (.sl (.int .i64)))))))))) (.sl (.int .i64))))))))) (.pair (.int .u8) (.int .i64)))), true, 576, none, [(0, 42), (15, 42), (30, 5), (31, 3)], none, false⟩),
 (46, ⟨(.pair (.pair (.sl .str) (.pair (.sl (.sl (.int .i8))) (.pair (.sl (.pair (.int .u8) (.pair (.sl (.int .u8)) (.pair (.sl (.int .u8)) (.pair (.sl (.int .i8)) (.pair (.int .i16) (.int .u8))))))) (.pair (.int .i64) (.pair (.int .i64) (.pair (.int .u8) (.pair (.pair (.int .i64) (.pair (.sl (.int .i64)) (.pair (.sl (.int .i64)) (.pair (.sl (.int .i64)) (.pair (.sl (.int .i64)) (.pair (.sl (.int .i64)) (.pair (.int .i64) (.sl (.sl (.int .i64)))))))))) (.sl (.int .i64))))))))) (.pair (.pair (.sl .str) (.pair (.sl (.sl (.int .i8))) (.pair (.sl (.pair (.int .u8) (.pair (.sl (.int .u8)) (.pair (.sl (.int .u8)) (.pair (.sl (.int .i8)) (.pair (.int .i16) (.int .u8))))))) (.pair (.int .i64) (.pair (.int .i64) (.pair (.int .u8) (.pair (.pair (.int .i64) (.pair (.sl (.int .i64)) (.pair (.sl (.int .i64)) (.pair (.sl (.int .i64)) (.pair (.sl (.int .i64)) (.pair (.sl (.int .i64)) (.pair (.int .i64) (.sl (.sl (.int .i64)))))))))) (.sl (.int .i64))))))))) (.pair (.int .u8) (.int .i64)))), true, 576, none, [(0, 42), (15, 42), (30, 5), (31, 3)], none, false⟩),
 (48, ⟨(.int .u64), false, 8, none, [], some .u64, false⟩),
 (52, ⟨(.pair (.sl (.sl (.int .i8))) (.pair (.sl (.pair (.int .u8) (.pair (.sl (.int .u8)) (.pair (.sl (.int .u8)) (.pair (.sl (.int .i8)) (.pair (.int .i16) (.int .u8))))))) (.pair (.int .u8) (.int .u8)))), true, 56, none, [(0, 39), (1, 40), (2, 5), (3, 5)], none, false⟩),
 (53, ⟨(.pair (.sl (.sl (.int .i8))) (.pair (.sl (.pair (.int .u8) (.pair (.sl (.int .u8)) (.pair (.sl (.int .u8)) (.pair (.sl (.int .i8)) (.pair (.int .i16) (.int .u8))))))) (.pair (.int .u8) (.int .u8)))), true, 56, none, [(0, 39), (1, 40), (2, 5), (3, 5)], none, false⟩),
 (73, ⟨(.sl (.int .i8)), false, 24, some 74, [], none, false⟩),
 (74, ⟨(.int .i8), false, 1, none, [], some .i8, false⟩),
 (76, ⟨(.int .i16), false, 2, none, [], some .i16, false⟩),
 (77, ⟨(.pair (.int .u8) (.pair (.sl (.int .u8)) (.pair (.sl (.int .u8)) (.pair (.sl (.int .i8)) (.pair (.int .i16) (.int .u8)))))), true, 88, none, [(0, 5), (1, 28), (2, 28), (3, 73), (4, 76), (5, 5)], none, false⟩),
 (78, ⟨(.pair (.int .u8) (.pair (.sl (.int .u8)) (.pair (.sl (.int .u8)) (.pair (.sl (.int .i8)) (.pair (.int .i16) (.int .u8)))))), true, 88, none, [(0, 5), (1, 28), (2, 28), (3, 73), (4, 76), (5, 5)], none, false⟩),
 (86, ⟨(.sl .bool), false, 24, some 4, [], none, false⟩),
 (101, ⟨(.sl (.pair .str .str)), false, 24, some 104, [], none, false⟩),
 (103, ⟨(.pair .str .str), true, 32, none, [(0, 9), (1, 9)], none, false⟩),
 (104, ⟨(.pair .str .str), true, 32, none, [(0, 9), (1, 9)], none, false⟩),
 (120, ⟨(.sl (.int .u64)), false, 24, some 145, [], none, false⟩),
 (121, ⟨(.pair (.int .i64) (.pair (.sl (.int .u64)) (.pair (.int .i64) (.pair (.int .i64) (.int .i64))))), true, 56, none, [(0, 3), (1, 120), (2, 3), (3, 3), (4, 3)], none, false⟩),
 (122, ⟨(.pair (.int .i64) (.pair (.sl (.int .u64)) (.pair (.int .i64) (.pair (.int .i64) (.int .i64))))), true, 56, none, [(0, 3), (1, 120), (2, 3), (3, 3), (4, 3)], none, false⟩),
 (136, ⟨(.int .i64), false, 8, none, [], some .i64, false⟩),
 (143, ⟨(.int .u32), false, 4, none, [], some .u32, false⟩),
 (145, ⟨(.int .u64), false, 8, none, [], some .u64, false⟩),
 (154, ⟨(.int .u64), false, 8, none, [], some .u64, false⟩),
 (176, ⟨(.int .u8), false, 1, none, [], some .u8, false⟩),
 (177, ⟨(.int .u8), false, 1, none, [], some .u8, false⟩),
 (180, ⟨(.int .i32), false, 4, none, [], some .i32, false⟩),
 (181, ⟨(.int .i32), false, 4, none, [], some .i32, false⟩)]
def inv : World → Prop := Go.Proofs.TabAt 0 Lib.deBruijn64tab
def pullC : (t : Ty) → List AV → Option t.D
 | .pair a b, cs => (match implode no (.pair a b) cs with
  | some (y, []) => some y
  | _ => none)
 | t, [c] => pullA t c
 | _, _ => none
def h_inD : Hand := handN [(.int .i64)] fun xs κ => κ (argA .bool (inD xs.1))
def h_placeD : Hand := handN [(.int .i64)] fun xs κ => κ (argA (.int .i64) (placeD xs.1))
def h_tzD : Hand := handN [(.int .u64)] fun xs κ => bif uB xs.1 then κ (argA (.int .i64) (tzD xs.1)) else none
def h_len64D : Hand := handN [(.int .u64)] fun xs κ => bif uB xs.1 then κ (argA (.int .i64) (len64D xs.1)) else none
def h_lzD : Hand := handN [(.int .u64)] fun xs κ => bif uB xs.1 then κ (argA (.int .i64) (lzD xs.1)) else none
def h_onesD : Hand := handN [(.int .u64)] fun xs κ => bif uB xs.1 then κ (argA (.int .i64) (onesD xs.1)) else none
def h_madeD : Hand := handN [(.int .i64), (.sl (.int .u64))] fun xs κ => bif xs.2.1.all uB then κ (argA (.pair (.int .i64) (.pair (.sl (.int .u64)) (.pair (.int .i64) (.pair (.int .i64) (.int .i64))))) (madeD xs.1 xs.2.1)) else none
def h_listD : Hand := handN [(.pair (.int .i64) (.pair (.sl (.int .u64)) (.pair (.int .i64) (.pair (.int .i64) (.int .i64)))))] fun xs κ => bif listB xs.1 then κ (argA (.sl (.int .i64)) (listD xs.1)) else none
def h_maxL : Hand := handN [(.sl (.int .i64))] fun xs κ => bif !xs.1.isEmpty then κ (argA (.int .i64) (maxL xs.1)) else none
def h_minL : Hand := handN [(.sl (.int .i64))] fun xs κ => bif !xs.1.isEmpty then κ (argA (.int .i64) (minL xs.1)) else none
def h_room : Hand := handN [(.int .i64), (.int .i64)] fun xs κ => bif roomB xs.1 xs.2.1 then κ (.agg [.v (.int .i64) (placeD xs.1), .nw 145 (.int .u64) (zerosD xs.1 xs.2.1), .v (.int .i64) (0 : Int), .v (.int .i64) (0 : Int), .v (.int .i64) (0 : Int)]) else none
def h_any : Hand := fun args κ => match args with
 | [x0, .fn 132 [] []] => (match pullA (.sl (.int .i64)) x0 with
  | some y0 => κ (.v .bool (List.any y0 outD))
  | none => none)
 | [x0, .fn 57 [] [.rp cs]] => (match pullA (.sl (.int .i64)) x0, pullC (.int .i64) cs with
  | some y0, some z => κ (.v .bool (List.any y0 (varB z)))
  | _, _ => none)
 | [x0, .fn 142 [] [.rp cs]] => (match pullA (.sl (.int .i64)) x0, pullC (.int .i64) cs with
  | some y0, some z => κ (.v .bool (List.any y0 (numB z)))
  | _, _ => none)
 | [x0, .fn 83 [] []] => (match pullA (.sl (.int .i64)) x0 with
  | some y0 => κ (.v .bool (List.any y0 farB))
  | none => none)
 | _ => none
def h_idxF : Hand := fun args κ => match args with
 | [x0, .fn 132 [] []] => (match pullA (.sl (.int .i64)) x0 with
  | some y0 => κ (.v (.int .i64) (idx outD y0 (0 : Int)))
  | none => none)
 | [x0, .fn 57 [] [.rp cs]] => (match pullA (.sl (.int .i64)) x0, pullC (.int .i64) cs with
  | some y0, some z => κ (.v (.int .i64) (idx (varB z) y0 (0 : Int)))
  | _, _ => none)
 | [x0, .fn 142 [] [.rp cs]] => (match pullA (.sl (.int .i64)) x0, pullC (.int .i64) cs with
  | some y0, some z => κ (.v (.int .i64) (idx (numB z) y0 (0 : Int)))
  | _, _ => none)
 | [x0, .fn 83 [] []] => (match pullA (.sl (.int .i64)) x0 with
  | some y0 => κ (.v (.int .i64) (idx farB y0 (0 : Int)))
  | none => none)
 | _ => none
def h_anyR : Hand := fun args κ => match args with
 | [x0, .fn 103 [] [.rp cs]] => (match pullA (.sl (.sl (.int .i64))) x0, pullC (.pair (.int .i64) (.pair (.sl (.int .i64)) (.pair (.sl (.int .i64)) (.pair (.sl (.int .i64)) (.pair (.sl (.int .i64)) (.pair (.sl (.int .i64)) (.pair (.int .i64) (.sl (.sl (.int .i64)))))))))) cs with
  | some y0, some z => κ (.v .bool (List.any y0 (rowN z)))
  | _, _ => none)
 | [x0, .fn 89 [] [.rp cs]] => (match pullA (.sl (.sl (.int .i64))) x0, pullC (.sl (.int .i64)) cs with
  | some y0, some z => κ (.v .bool (List.any y0 (rowEqB z)))
  | _, _ => none)
 | _ => none
def h_idxR : Hand := fun args κ => match args with
 | [x0, .fn 103 [] [.rp cs]] => (match pullA (.sl (.sl (.int .i64))) x0, pullC (.pair (.int .i64) (.pair (.sl (.int .i64)) (.pair (.sl (.int .i64)) (.pair (.sl (.int .i64)) (.pair (.sl (.int .i64)) (.pair (.sl (.int .i64)) (.pair (.int .i64) (.sl (.sl (.int .i64)))))))))) cs with
  | some y0, some z => κ (.v (.int .i64) (idx (rowN z) y0 (0 : Int)))
  | _, _ => none)
 | [x0, .fn 89 [] [.rp cs]] => (match pullA (.sl (.sl (.int .i64))) x0, pullC (.sl (.int .i64)) cs with
  | some y0, some z => κ (.v (.int .i64) (idx (rowEqB z) y0 (0 : Int)))
  | _, _ => none)
 | _ => none
def h_outD : Hand := handN [(.int .i64)] fun xs κ => κ (argA .bool (outD xs.1))
def h_varB : Hand := fun args κ => match args with
 | [x0, .rp cs] => (match pullA (.int .i64) x0, pullC (.int .i64) cs with
  | some y0, some z => κ (.v .bool (varB z y0))
  | _, _ => none)
 | _ => none
def h_numB : Hand := fun args κ => match args with
 | [x0, .rp cs] => (match pullA (.int .i64) x0, pullC (.int .i64) cs with
  | some y0, some z => κ (.v .bool (numB z y0))
  | _, _ => none)
 | _ => none
def h_rowN : Hand := fun args κ => match args with
 | [x0, .rp cs] => (match pullA (.sl (.int .i64)) x0, pullC (.pair (.int .i64) (.pair (.sl (.int .i64)) (.pair (.sl (.int .i64)) (.pair (.sl (.int .i64)) (.pair (.sl (.int .i64)) (.pair (.sl (.int .i64)) (.pair (.int .i64) (.sl (.sl (.int .i64)))))))))) cs with
  | some y0, some z => κ (.v .bool (rowN z y0))
  | _, _ => none)
 | _ => none
def h_rowEqB : Hand := fun args κ => match args with
 | [x0, .rp cs] => (match pullA (.sl (.int .i64)) x0, pullC (.sl (.int .i64)) cs with
  | some y0, some z => κ (.v .bool (rowEqB z y0))
  | _, _ => none)
 | _ => none
def h_farB : Hand := handN [(.int .i64)] fun xs κ => κ (argA .bool (farB xs.1))
def h_ofD : Hand := handN [(.sl (.int .i64))] fun xs κ => κ (.tup [argA (.pair (.int .i64) (.pair (.sl (.int .u64)) (.pair (.int .i64) (.pair (.int .i64) (.int .i64))))) ((ofD xs.1).1), argA (.int .i64) ((ofD xs.1).2)])
def h_hasL : Hand := handN [(.sl (.int .i64)), (.int .i64)] fun xs κ => κ (argA .bool (hasL xs.1 xs.2.1))
def h_placesL : Hand := handN [(.sl (.int .u8)), (.int .i64), (.int .i64)] fun xs κ => bif placesB xs.1 xs.2.1 xs.2.2.1 then κ (argA (.sl (.int .i64)) (placesL xs.1 xs.2.1 xs.2.2.1)) else none
def h_numbersL : Hand := handN [(.sl (.int .i8)), (.int .i64), (.int .i64), (.int .i64), (.int .i64)] fun xs κ => bif numbersB xs.1 xs.2.1 xs.2.2.1 xs.2.2.2.1 xs.2.2.2.2.1 then κ (argA (.sl (.int .i64)) (numbersL xs.1 xs.2.1 xs.2.2.1 xs.2.2.2.1 xs.2.2.2.2.1)) else none
def h_idxI : Hand := handN [.str, (.int .u8)] fun xs κ => κ (argA (.int .i64) (idxI xs.1 xs.2.1))
def h_cntI : Hand := handN [.str, (.int .u8)] fun xs κ => κ (argA (.int .i64) (cntI xs.1 xs.2.1))
def h_idxJ : Hand := handN [.str, (.int .u8)] fun xs κ => κ (argA (.int .i64) (idxJ xs.1 xs.2.1))
def h_idx1 : Hand := handN [.str, .str] fun xs κ => bif decide (xs.2.1.size = 1) then κ (argA (.int .i64) (idx1 xs.1 xs.2.1)) else none
def h_idx2 : Hand := handN [.str, .str] fun xs κ => bif decide (xs.2.1.size = 1) then κ (argA (.int .i64) (idx2 xs.1 xs.2.1)) else none
def h_has1 : Hand := handN [.str, .str] fun xs κ => bif decide (xs.2.1.size = 1) then κ (argA .bool (has1 xs.1 xs.2.1)) else none
def h_cnt1 : Hand := handN [.str, .str] fun xs κ => bif decide (xs.2.1.size = 1) then κ (argA (.int .i64) (cnt1 xs.1 xs.2.1)) else none
def h_forms : Hand := handN [] fun xs κ => κ (argA (.sl (.pair .str .str)) formsL)
def h_word : Hand := handN [(.int .i64)] fun xs κ => κ (.tup [argA .str (wordS xs.1), argA .bool (inS xs.1)])
def h_shapeS : Hand := handN [(.int .i64)] fun xs κ => κ (argA .str (shapeS xs.1))
def h_shapes : Hand := handN [] fun xs κ => κ (argA (.sl .str) shapesL)
def h_withinD : Hand := handN [(.int .i64), (.int .i64), (.int .i64)] fun xs κ => κ (argA .bool (withinD xs.1 xs.2.1 xs.2.2.1))
def h_namedD : Hand := handN [(.int .i64), .str, .str, .str] fun xs κ => bif decide (xs.2.2.1.size = 1) && decide (xs.2.2.2.1.size = 1) then κ (argA .bool (namedD xs.1 xs.2.1 xs.2.2.1 xs.2.2.2.1)) else none
def h_concatL : Hand := handN [(.sl (.sl (.int .i64)))] fun xs κ => bif concatB xs.1 then κ (argA (.sl (.int .i64)) (concatL xs.1)) else none
def h_varsD : Hand := handN [(.pair (.int .i64) (.pair (.sl (.int .i64)) (.pair (.sl (.int .i64)) (.pair (.sl (.int .i64)) (.pair (.sl (.int .i64)) (.pair (.sl (.int .i64)) (.pair (.int .i64) (.sl (.sl (.int .i64))))))))))] fun xs κ => bif varsB xs.1 then κ (argA (.sl (.int .i64)) (varsD xs.1)) else none
def h_boundedD : Hand := handN [(.sl (.int .i64)), (.int .i64)] fun xs κ => κ (argA .bool (boundedD xs.1 xs.2.1))
def h_hasB : Hand := handN [.str, (.int .u8)] fun xs κ => bif decide (xs.1.size ≤ 100) then κ (argA (.int .i64) (hasB xs.1 xs.2.1)) else none
def h_listB1 : Hand := handN [(.int .i64), (.int .i64), (.int .i64)] fun xs κ => κ (argA .bool (listB1 xs.1 xs.2.1 xs.2.2.1))
def h_inL : Hand := handN [(.sl (.int .i64)), (.int .i64), (.int .i64)] fun xs κ => κ (argA .bool (inL xs.1 xs.2.1 xs.2.2.1))
def h_grow : Hand := fun args κ => match args with
 | [.nl, .v (.int .i64) n] => bif growB n then κ (.nw 3 (.int .i64) []) else none
 | _ => none
end Go.Proofs.YtlfdikofmfhefaaGreatDoor.Ev
