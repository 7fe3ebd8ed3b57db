/-
The table of types; the handlers.
Conditions: none.
-/
import Derived.Test.YtdihbphkbdelbaaGreatDoorAp
import Derived.Test.YtdihbphkbdelbaaGreatDoorLb
import Derived.Test.YtdihbphkbdelbaaGreatDoorProg
import Derived.KernelRfl
import Derived.Shelf.Spec.TrailingZeros
set_option linter.unusedVariables false
set_option linter.unusedSimpArgs false
set_option maxRecDepth 100000
namespace Go.Proofs.YtdihbphkbdelbaaGreatDoor.Ev
open Go
def tt : List (Nat × TInfo) := [(2, ⟨(.int .i64), false, 8, none, [], some .i64, false⟩),
 (3, ⟨(.int .i64), false, 8, none, [], some .i64, false⟩),
 (4, ⟨.bool, false, 1, none, [], none, false⟩),
 (5, ⟨(.int .u8), false, 1, none, [], some .u8, false⟩),
 (6, ⟨(.int .u8), false, 1, none, [], some .u8, false⟩),
 (7, ⟨(.pair (.int .i64) (.pair (.int .i64) (.pair .bool (.int .u8)))), true, 24, none, [(0, 2), (1, 3), (2, 4), (3, 6)], none, false⟩),
 (8, ⟨(.pair (.int .i64) (.pair (.int .i64) (.pair .bool (.int .u8)))), true, 24, none, [(0, 2), (1, 3), (2, 4), (3, 6)], none, false⟩),
 (9, ⟨.str, false, 16, none, [], none, true⟩),
 (10, ⟨.str, false, 16, none, [], none, true⟩),
 (11, ⟨.str, false, 16, none, [], none, true⟩),
 (12, ⟨(.int .u64), false, 8, none, [], some .u64, false⟩),
 (13, ⟨(.pair .str (.int .u64)), true, 24, none, [(0, 9), (1, 12)], none, false⟩),
 (14, ⟨(.pair .str (.int .u64)), true, 24, none, [(0, 9), (1, 12)], none, false⟩),
 (21, ⟨(.int .i32), false, 4, none, [], some .i32, false⟩),
 (22, ⟨(.int .u16), false, 2, none, [], some .u16, false⟩),
 (23, ⟨(.sl .str), false, 24, some 9, [], none, false⟩),
 (24, ⟨(.sl (.sl (.int .i64))), false, 24, some 29, [], none, false⟩),
 (25, ⟨(.sl (.pair (.int .i64) (.pair (.sl (.int .i64)) (.pair (.sl (.int .i64)) (.pair (.sl (.int .i64)) (.pair (.sl (.int .i64)) (.pair (.sl (.int .i64)) (.pair (.int .i64) (.sl (.sl (.int .i64))))))))))), false, 24, some 31, [], none, false⟩),
 (26, ⟨(.pair (.sl .str) (.pair (.sl (.sl (.int .i64))) (.pair (.sl (.pair (.int .i64) (.pair (.sl (.int .i64)) (.pair (.sl (.int .i64)) (.pair (.sl (.int .i64)) (.pair (.sl (.int .i64)) (.pair (.sl (.int .i64)) (.pair (.int .i64) (.sl (.sl (.int .i64))))))))))) (.pair (.int .i64) (.int .i64))))), true, 88, none, [(0, 23), (1, 24), (2, 25), (3, 3), (4, 3)], none, false⟩),
 (27, ⟨(.pair (.sl .str) (.pair (.sl (.sl (.int .i64))) (.pair (.sl (.pair (.int .i64) (.pair (.sl (.int .i64)) (.pair (.sl (.int .i64)) (.pair (.sl (.int .i64)) (.pair (.sl (.int .i64)) (.pair (.sl (.int .i64)) (.pair (.int .i64) (.sl (.sl (.int .i64))))))))))) (.pair (.int .i64) (.int .i64))))), true, 88, none, [(0, 23), (1, 24), (2, 25), (3, 3), (4, 3)], none, false⟩),
 (28, ⟨(.sl (.int .u8)), false, 24, some 5, [], none, false⟩),
 (29, ⟨(.sl (.int .i64)), false, 24, some 3, [], none, false⟩),
 (30, ⟨(.pair (.int .i64) (.pair (.sl (.int .i64)) (.pair (.sl (.int .i64)) (.pair (.sl (.int .i64)) (.pair (.sl (.int .i64)) (.pair (.sl (.int .i64)) (.pair (.int .i64) (.sl (.sl (.int .i64)))))))))), true, 160, none, [(0, 3), (1, 29), (2, 29), (3, 29), (4, 29), (5, 29), (6, 3), (7, 24)], none, false⟩),
 (31, ⟨(.pair (.int .i64) (.pair (.sl (.int .i64)) (.pair (.sl (.int .i64)) (.pair (.sl (.int .i64)) (.pair (.sl (.int .i64)) (.pair (.sl (.int .i64)) (.pair (.int .i64) (.sl (.sl (.int .i64)))))))))), true, 160, none, [(0, 3), (1, 29), (2, 29), (3, 29), (4, 29), (5, 29), (6, 3), (7, 24)], none, false⟩),
 (32, ⟨(.int .i64), false, 8, none, [], some .i64, false⟩),
 (39, ⟨(.sl (.sl (.int .i8))), false, 24, some 61, [], none, false⟩),
 (40, ⟨(.sl (.pair (.int .u8) (.pair (.sl (.int .u8)) (.pair (.sl (.int .u8)) (.pair (.sl (.int .i8)) (.pair (.int .i16) (.int .u8))))))), false, 24, some 64, [], none, false⟩),
 (41, ⟨(.pair (.sl .str) (.pair (.sl (.sl (.int .i8))) (.pair (.sl (.pair (.int .u8) (.pair (.sl (.int .u8)) (.pair (.sl (.int .u8)) (.pair (.sl (.int .i8)) (.pair (.int .i16) (.int .u8))))))) (.pair (.int .i64) (.pair (.int .i64) (.pair (.int .u8) (.pair (.pair (.int .i64) (.pair (.sl (.int .i64)) (.pair (.sl (.int .i64)) (.pair (.sl (.int .i64)) (.pair (.sl (.int .i64)) (.pair (.sl (.int .i64)) (.pair (.int .i64) (.sl (.sl (.int .i64)))))))))) (.sl (.int .i64))))))))), true, 280, none, [(0, 23), (1, 39), (2, 40), (3, 3), (4, 3), (5, 5), (6, 31), (14, 29)], none, false⟩),
 (42, ⟨(.pair (.sl .str) (.pair (.sl (.sl (.int .i8))) (.pair (.sl (.pair (.int .u8) (.pair (.sl (.int .u8)) (.pair (.sl (.int .u8)) (.pair (.sl (.int .i8)) (.pair (.int .i16) (.int .u8))))))) (.pair (.int .i64) (.pair (.int .i64) (.pair (.int .u8) (.pair (.pair (.int .i64) (.pair (.sl (.int .i64)) (.pair (.sl (.int .i64)) (.pair (.sl (.int .i64)) (.pair (.sl (.int .i64)) (.pair (.sl (.int .i64)) (.pair (.int .i64) (.sl (.sl (.int .i64)))))))))) (.sl (.int .i64))))))))), true, 280, none, [(0, 23), (1, 39), (2, 40), (3, 3), (4, 3), (5, 5), (6, 31), (14, 29)], none, false⟩),
 (45, ⟨(.pair (.pair (.sl .str) (.pair (.sl (.sl (.int .i8))) (.pair (.sl (.pair (.int .u8) (.pair (.sl (.int .u8)) (.pair (.sl (.int .u8)) (.pair (.sl (.int .i8)) (.pair (.int .i16) (.int .u8))))))) (.pair (.int .i64) (.pair (.int .i64) (.pair (.int .u8) (.pair (.pair (.int .i64) (.pair (.sl (.int .i64)) (.pair (.sl (.int .i64)) (.pair (.sl (.int .i64)) (.pair (.sl (.int .i64)) (.pair (.sl (.int .i64)) (.pair (.int .i64) (.sl (.sl (.int .i64)))))))))) (.sl (.int .i64))))))))) (.pair (.pair (.sl .str) (.pair (.sl (.sl (.int .i8))) (.pair (.sl (.pair (.int .u8) (.pair (.sl (.int .u8)) (.pair (.sl (.int .u8)) (.pair (.sl (.int .i8)) (.pair (.int .i16) (.int .u8))))))) (.pair (.int .i64) (.pair (.int .i64) (.pair (.int .u8) (.pair (.pair (.int .i64) (.pair (.sl (.int .i64)) (.pair (.sl (.int .i64)) (.pair (.sl (.int .i64)) (.pair (.sl (.int .i64)) (.pair (.sl (.int .i64)) (.pair (.int .i64) (.sl (.sl (.int .i64)))))))))) (.sl (.int .i64))))))))) (.pair (.int .u8) (.int .i64)))), true, 576, none, [(0, 42), (15, 42), (30, 5), (31, 3)], none, false⟩),
 (46, ⟨(.pair (.pair (.sl .str) (.pair (.sl (.sl (.int .i8))) (.pair (.sl (.pair (.int .u8) (.pair (.sl (.int .u8)) (.pair (.sl (.int .u8)) (.pair (.sl (.int .i8)) (.pair (.int .i16) (.int .u8))))))) (.pair (.int .i64) (.pair (.int .i64) (.pair (.int .u8) (.pair (.pair (.int .i64) (.pair (.sl (.int .i64)) (.pair (.sl (.int .i64)) (.pair (.sl (.int .i64)) (.pair (.sl (.int .i64)) (.pair (.sl (.int .i64)) (.pair (.int .i64) (.sl (.sl (.int .i64)))))))))) (.sl (.int .i64))))))))) (.pair (.pair (.sl .str) (.pair (.sl (.sl (.int .i8))) (.pair (.sl (.pair (.int .u8) (.pair (.sl (.int .u8)) (.pair (.sl (.int .u8)) (.pair (.sl (.int .i8)) (.pair (.int .i16) (.int .u8))))))) (.pair (.int .i64) (.pair (.int .i64) (.pair (.int .u8) (.pair (.pair (.int .i64) (.pair (.sl (.int .i64)) (.pair (.sl (.int .i64)) (.pair (.sl (.int .i64)) (.pair (.sl (.int .i64)) (.pair (.sl (.int .i64)) (.pair (.int .i64) (.sl (.sl (.int .i64)))))))))) (.sl (.int .i64))))))))) (.pair (.int .u8) (.int .i64)))), true, 576, none, [(0, 42), (15, 42), (30, 5), (31, 3)], none, false⟩),
 (48, ⟨(.int .u64), false, 8, none, [], some .u64, false⟩),
 (52, ⟨(.pair (.sl (.sl (.int .i8))) (.pair (.sl (.pair (.int .u8) (.pair (.sl (.int .u8)) (.pair (.sl (.int .u8)) (.pair (.sl (.int .i8)) (.pair (.int .i16) (.int .u8))))))) (.pair (.int .u8) (.int .u8)))), true, 56, none, [(0, 39), (1, 40), (2, 5), (3, 5)], none, false⟩),
 (53, ⟨(.pair (.sl (.sl (.int .i8))) (.pair (.sl (.pair (.int .u8) (.pair (.sl (.int .u8)) (.pair (.sl (.int .u8)) (.pair (.sl (.int .i8)) (.pair (.int .i16) (.int .u8))))))) (.pair (.int .u8) (.int .u8)))), true, 56, none, [(0, 39), (1, 40), (2, 5), (3, 5)], none, false⟩),
 (61, ⟨(.sl (.int .i8)), false, 24, some 83, [], none, false⟩),
 (62, ⟨(.int .i16), false, 2, none, [], some .i16, false⟩),
 (63, ⟨(.pair (.int .u8) (.pair (.sl (.int .u8)) (.pair (.sl (.int .u8)) (.pair (.sl (.int .i8)) (.pair (.int .i16) (.int .u8)))))), true, 88, none, [(0, 5), (1, 28), (2, 28), (3, 61), (4, 62), (5, 5)], none, false⟩),
 (64, ⟨(.pair (.int .u8) (.pair (.sl (.int .u8)) (.pair (.sl (.int .u8)) (.pair (.sl (.int .i8)) (.pair (.int .i16) (.int .u8)))))), true, 88, none, [(0, 5), (1, 28), (2, 28), (3, 61), (4, 62), (5, 5)], none, false⟩),
 (65, ⟨(.pair (.pair (.int .u8) (.pair (.sl (.int .u8)) (.pair (.sl (.int .u8)) (.pair (.sl (.int .i8)) (.pair (.int .i16) (.int .u8)))))) (.sl (.sl (.int .i64)))), true, 112, none, [(0, 64), (6, 24)], none, false⟩),
 (66, ⟨(.pair (.pair (.int .u8) (.pair (.sl (.int .u8)) (.pair (.sl (.int .u8)) (.pair (.sl (.int .i8)) (.pair (.int .i16) (.int .u8)))))) (.sl (.sl (.int .i64)))), true, 112, none, [(0, 64), (6, 24)], none, false⟩),
 (70, ⟨(.sl (.pair (.int .i64) (.pair (.sl (.int .u64)) (.pair (.int .i64) (.pair (.int .i64) (.int .i64)))))), false, 24, some 88, [], none, false⟩),
 (83, ⟨(.int .i8), false, 1, none, [], some .i8, false⟩),
 (86, ⟨(.sl (.int .u64)), false, 24, some 130, [], none, false⟩),
 (87, ⟨(.pair (.int .i64) (.pair (.sl (.int .u64)) (.pair (.int .i64) (.pair (.int .i64) (.int .i64))))), true, 56, none, [(0, 3), (1, 86), (2, 3), (3, 3), (4, 3)], none, false⟩),
 (88, ⟨(.pair (.int .i64) (.pair (.sl (.int .u64)) (.pair (.int .i64) (.pair (.int .i64) (.int .i64))))), true, 56, none, [(0, 3), (1, 86), (2, 3), (3, 3), (4, 3)], none, false⟩),
 (92, ⟨(.pair (.sl (.sl (.int .i64))) (.pair (.sl (.int .u8)) (.pair (.sl (.int .u8)) (.int .u8)))), true, 80, none, [(0, 24), (1, 28), (2, 28), (3, 5)], none, false⟩),
 (93, ⟨(.pair (.sl (.sl (.int .i64))) (.pair (.sl (.int .u8)) (.pair (.sl (.int .u8)) (.int .u8)))), true, 80, none, [(0, 24), (1, 28), (2, 28), (3, 5)], none, false⟩),
 (114, ⟨(.sl .bool), false, 24, some 4, [], none, false⟩),
 (130, ⟨(.int .u64), false, 8, none, [], some .u64, false⟩),
 (146, ⟨(.sl (.pair .str .str)), false, 24, some 149, [], none, false⟩),
 (148, ⟨(.pair .str .str), true, 32, none, [(0, 9), (1, 9)], none, false⟩),
 (149, ⟨(.pair .str .str), true, 32, none, [(0, 9), (1, 9)], none, false⟩),
 (167, ⟨(.int .i64), false, 8, none, [], some .i64, false⟩),
 (174, ⟨(.int .u32), false, 4, none, [], some .u32, false⟩),
 (192, ⟨(.int .u64), false, 8, none, [], some .u64, false⟩),
 (211, ⟨(.int .u8), false, 1, none, [], some .u8, false⟩),
 (212, ⟨(.int .u8), false, 1, none, [], some .u8, false⟩),
 (215, ⟨(.int .i32), false, 4, none, [], some .i32, false⟩),
 (216, ⟨(.int .i32), false, 4, none, [], some .i32, false⟩)]
def inv : World → Prop := Go.Proofs.TabAt 0 Lib.deBruijn64tab
def pullC : (t : Ty) → List AV → Option t.D
 | .pair a b, cs => (match implode no (.pair a b) cs with
  | some (y, []) => some y
  | _ => none)
 | t, [c] => pullA t c
 | _, _ => none
def h_inD : Hand := handN [(.int .i64)] fun xs κ => κ (argA .bool (inD xs.1))
def h_placeD : Hand := handN [(.int .i64)] fun xs κ => κ (argA (.int .i64) (placeD xs.1))
def h_sizeD : Hand := handN [(.pair (.int .i64) (.pair (.sl (.int .u64)) (.pair (.int .i64) (.pair (.int .i64) (.int .i64)))))] fun xs κ => κ (argA (.int .i64) (sizeD xs.1))
def h_tzD : Hand := handN [(.int .u64)] fun xs κ => bif uB xs.1 then κ (argA (.int .i64) (tzD xs.1)) else none
def h_len64D : Hand := handN [(.int .u64)] fun xs κ => bif uB xs.1 then κ (argA (.int .i64) (len64D xs.1)) else none
def h_lzD : Hand := handN [(.int .u64)] fun xs κ => bif uB xs.1 then κ (argA (.int .i64) (lzD xs.1)) else none
def h_onesD : Hand := handN [(.int .u64)] fun xs κ => bif uB xs.1 then κ (argA (.int .i64) (onesD xs.1)) else none
def h_madeD : Hand := handN [(.int .i64), (.sl (.int .u64))] fun xs κ => bif xs.2.1.all uB then κ (argA (.pair (.int .i64) (.pair (.sl (.int .u64)) (.pair (.int .i64) (.pair (.int .i64) (.int .i64))))) (madeD xs.1 xs.2.1)) else none
def h_listD : Hand := handN [(.pair (.int .i64) (.pair (.sl (.int .u64)) (.pair (.int .i64) (.pair (.int .i64) (.int .i64)))))] fun xs κ => bif listB xs.1 then κ (argA (.sl (.int .i64)) (listD xs.1)) else none
def h_maxL : Hand := handN [(.sl (.int .i64))] fun xs κ => bif !xs.1.isEmpty then κ (argA (.int .i64) (maxL xs.1)) else none
def h_minL : Hand := handN [(.sl (.int .i64))] fun xs κ => bif !xs.1.isEmpty then κ (argA (.int .i64) (minL xs.1)) else none
def h_room : Hand := handN [(.int .i64), (.int .i64)] fun xs κ => bif roomB xs.1 xs.2.1 then κ (.agg [.v (.int .i64) (placeD xs.1), .nw 130 (.int .u64) (zerosD xs.1 xs.2.1), .v (.int .i64) (0 : Int), .v (.int .i64) (0 : Int), .v (.int .i64) (0 : Int)]) else none
def h_any : Hand := fun args κ => match args with
 | [x0, .fn 132 [] []] => (match pullA (.sl (.int .i64)) x0 with
  | some y0 => κ (.v .bool (List.any y0 outD))
  | none => none)
 | [x0, .fn 103 [] [.rp cs]] => (match pullA (.sl (.int .i64)) x0, pullC (.int .i64) cs with
  | some y0, some z => κ (.v .bool (List.any y0 (varB z)))
  | _, _ => none)
 | [x0, .fn 187 [] [.rp cs]] => (match pullA (.sl (.int .i64)) x0, pullC (.int .i64) cs with
  | some y0, some z => κ (.v .bool (List.any y0 (numB z)))
  | _, _ => none)
 | _ => none
def h_idxF : Hand := fun args κ => match args with
 | [x0, .fn 132 [] []] => (match pullA (.sl (.int .i64)) x0 with
  | some y0 => κ (.v (.int .i64) (idx outD y0 (0 : Int)))
  | none => none)
 | [x0, .fn 103 [] [.rp cs]] => (match pullA (.sl (.int .i64)) x0, pullC (.int .i64) cs with
  | some y0, some z => κ (.v (.int .i64) (idx (varB z) y0 (0 : Int)))
  | _, _ => none)
 | [x0, .fn 187 [] [.rp cs]] => (match pullA (.sl (.int .i64)) x0, pullC (.int .i64) cs with
  | some y0, some z => κ (.v (.int .i64) (idx (numB z) y0 (0 : Int)))
  | _, _ => none)
 | _ => none
def h_anyE : Hand := fun args κ => match args with
 | [x0, .fn 129 [] []] => (match pullA (.sl (.pair (.int .i64) (.pair (.sl (.int .u64)) (.pair (.int .i64) (.pair (.int .i64) (.int .i64)))))) x0 with
  | some y0 => κ (.v .bool (List.any y0 emptyD))
  | none => none)
 | _ => none
def h_idxE : Hand := fun args κ => match args with
 | [x0, .fn 129 [] []] => (match pullA (.sl (.pair (.int .i64) (.pair (.sl (.int .u64)) (.pair (.int .i64) (.pair (.int .i64) (.int .i64)))))) x0 with
  | some y0 => κ (.v (.int .i64) (idx emptyD y0 (0 : Int)))
  | none => none)
 | _ => none
def h_outD : Hand := handN [(.int .i64)] fun xs κ => κ (argA .bool (outD xs.1))
def h_emptyD : Hand := handN [(.pair (.int .i64) (.pair (.sl (.int .u64)) (.pair (.int .i64) (.pair (.int .i64) (.int .i64)))))] fun xs κ => κ (argA .bool (emptyD xs.1))
def h_varB : Hand := fun args κ => match args with
 | [x0, .rp cs] => (match pullA (.int .i64) x0, pullC (.int .i64) cs with
  | some y0, some z => κ (.v .bool (varB z y0))
  | _, _ => none)
 | _ => none
def h_numB : Hand := fun args κ => match args with
 | [x0, .rp cs] => (match pullA (.int .i64) x0, pullC (.int .i64) cs with
  | some y0, some z => κ (.v .bool (numB z y0))
  | _, _ => none)
 | _ => none
def h_ofD : Hand := handN [(.sl (.int .i64))] fun xs κ => κ (.tup [argA (.pair (.int .i64) (.pair (.sl (.int .u64)) (.pair (.int .i64) (.pair (.int .i64) (.int .i64))))) ((ofD xs.1).1), argA (.int .i64) ((ofD xs.1).2)])
def h_sameL : Hand := handN [(.sl (.sl (.int .i64))), (.sl (.sl (.int .i64)))] fun xs κ => bif Nat.ble xs.1.length 1000 && lensB xs.1 then κ (argA .bool (sameL xs.1 xs.2.1)) else none
def h_idxI : Hand := handN [.str, (.int .u8)] fun xs κ => κ (argA (.int .i64) (idxI xs.1 xs.2.1))
def h_cntI : Hand := handN [.str, (.int .u8)] fun xs κ => κ (argA (.int .i64) (cntI xs.1 xs.2.1))
def h_idxJ : Hand := handN [.str, (.int .u8)] fun xs κ => κ (argA (.int .i64) (idxJ xs.1 xs.2.1))
def h_idx1 : Hand := handN [.str, .str] fun xs κ => bif decide (xs.2.1.size = 1) then κ (argA (.int .i64) (idx1 xs.1 xs.2.1)) else none
def h_idx2 : Hand := handN [.str, .str] fun xs κ => bif decide (xs.2.1.size = 1) then κ (argA (.int .i64) (idx2 xs.1 xs.2.1)) else none
def h_has1 : Hand := handN [.str, .str] fun xs κ => bif decide (xs.2.1.size = 1) then κ (argA .bool (has1 xs.1 xs.2.1)) else none
def h_cnt1 : Hand := handN [.str, .str] fun xs κ => bif decide (xs.2.1.size = 1) then κ (argA (.int .i64) (cnt1 xs.1 xs.2.1)) else none
def h_forms : Hand := handN [] fun xs κ => κ (argA (.sl (.pair .str .str)) formsL)
def h_word : Hand := handN [(.int .i64)] fun xs κ => κ (.tup [argA .str (wordS xs.1), argA .bool (inS xs.1)])
def h_shapeS : Hand := handN [(.int .i64)] fun xs κ => κ (argA .str (shapeS xs.1))
def h_shapes : Hand := handN [] fun xs κ => κ (argA (.sl .str) shapesL)
def h_withinD : Hand := handN [(.int .i64), (.int .i64), (.int .i64)] fun xs κ => κ (argA .bool (withinD xs.1 xs.2.1 xs.2.2.1))
def h_namedD : Hand := handN [(.int .i64), .str, .str, .str] fun xs κ => bif decide (xs.2.2.1.size = 1) && decide (xs.2.2.2.1.size = 1) then κ (argA .bool (namedD xs.1 xs.2.1 xs.2.2.1 xs.2.2.2.1)) else none
def h_countedD : Hand := handN [(.pair (.int .i64) (.pair (.sl (.int .i64)) (.pair (.sl (.int .i64)) (.pair (.sl (.int .i64)) (.pair (.sl (.int .i64)) (.pair (.sl (.int .i64)) (.pair (.int .i64) (.sl (.sl (.int .i64)))))))))), .str] fun xs κ => bif shapeB xs.1 xs.2.1 then κ (argA .bool (countedD xs.1 xs.2.1)) else none
def h_alikeD : Hand := handN [(.pair (.int .i64) (.pair (.sl (.int .i64)) (.pair (.sl (.int .i64)) (.pair (.sl (.int .i64)) (.pair (.sl (.int .i64)) (.pair (.sl (.int .i64)) (.pair (.int .i64) (.sl (.sl (.int .i64))))))))))] fun xs κ => bif kindB xs.1 then κ (argA .bool (alikeD xs.1)) else none
def h_numbersD : Hand := handN [(.pair (.int .i64) (.pair (.sl (.int .i64)) (.pair (.sl (.int .i64)) (.pair (.sl (.int .i64)) (.pair (.sl (.int .i64)) (.pair (.sl (.int .i64)) (.pair (.int .i64) (.sl (.sl (.int .i64))))))))))] fun xs κ => bif kindB xs.1 then κ (argA .bool (numbersD xs.1)) else none
def h_countsD : Hand := handN [(.pair (.int .i64) (.pair (.sl (.int .i64)) (.pair (.sl (.int .i64)) (.pair (.sl (.int .i64)) (.pair (.sl (.int .i64)) (.pair (.sl (.int .i64)) (.pair (.int .i64) (.sl (.sl (.int .i64))))))))))] fun xs κ => bif kindB xs.1 then κ (argA .bool (countsD xs.1)) else none
def h_concatL : Hand := handN [(.sl (.sl (.int .i64)))] fun xs κ => bif concatB xs.1 then κ (argA (.sl (.int .i64)) (concatL xs.1)) else none
def h_varsD : Hand := handN [(.pair (.int .i64) (.pair (.sl (.int .i64)) (.pair (.sl (.int .i64)) (.pair (.sl (.int .i64)) (.pair (.sl (.int .i64)) (.pair (.sl (.int .i64)) (.pair (.int .i64) (.sl (.sl (.int .i64))))))))))] fun xs κ => bif varsB xs.1 then κ (argA (.sl (.int .i64)) (varsD xs.1)) else none
def h_boundedD : Hand := handN [(.sl (.int .i64)), (.int .i64)] fun xs κ => κ (argA .bool (boundedD xs.1 xs.2.1))
def h_rightM : Hand := handN [(.pair (.int .i64) (.pair (.sl (.int .i64)) (.pair (.sl (.int .i64)) (.pair (.sl (.int .i64)) (.pair (.sl (.int .i64)) (.pair (.sl (.int .i64)) (.pair (.int .i64) (.sl (.sl (.int .i64)))))))))), (.int .i64)] fun xs κ => bif kindB xs.1 then κ (argA (.int .i64) (rightM xs.1 xs.2.1)) else none
def h_hasB : Hand := handN [.str, (.int .u8)] fun xs κ => bif decide (xs.1.size ≤ 100) then κ (argA (.int .i64) (hasB xs.1 xs.2.1)) else none
def h_listB1 : Hand := handN [(.int .i64), (.int .i64), (.int .i64)] fun xs κ => κ (argA .bool (listB1 xs.1 xs.2.1 xs.2.2.1))
def h_arityD : Hand := handN [(.pair (.int .i64) (.pair (.sl (.int .i64)) (.pair (.sl (.int .i64)) (.pair (.sl (.int .i64)) (.pair (.sl (.int .i64)) (.pair (.sl (.int .i64)) (.pair (.int .i64) (.sl (.sl (.int .i64)))))))))), .str] fun xs κ => bif shapeB xs.1 xs.2.1 then κ (argA .bool (arityD xs.1 xs.2.1)) else none
def h_inL : Hand := handN [(.sl (.int .i64)), (.int .i64), (.int .i64)] fun xs κ => κ (argA .bool (inL xs.1 xs.2.1 xs.2.2.1))
def h_coefsD : Hand := handN [(.pair (.int .i64) (.pair (.sl (.int .i64)) (.pair (.sl (.int .i64)) (.pair (.sl (.int .i64)) (.pair (.sl (.int .i64)) (.pair (.sl (.int .i64)) (.pair (.int .i64) (.sl (.sl (.int .i64))))))))))] fun xs κ => bif kindB xs.1 then κ (argA .bool (coefsD xs.1)) else none
def h_rightR : Hand := handN [(.pair (.int .i64) (.pair (.sl (.int .i64)) (.pair (.sl (.int .i64)) (.pair (.sl (.int .i64)) (.pair (.sl (.int .i64)) (.pair (.sl (.int .i64)) (.pair (.int .i64) (.sl (.sl (.int .i64)))))))))), (.int .i64)] fun xs κ => bif smallN xs.2.1 && kindB xs.1 then κ (argA (.int .i64) (rightR xs.1 xs.2.1)) else none
def h_grow : Hand := fun args κ => match args with
 | [.nl, .v (.int .i64) n] => bif growB n then κ (.nw 3 (.int .i64) []) else none
 | _ => none
def h_fitsD : Hand := handN [(.pair (.int .i64) (.pair (.sl (.int .i64)) (.pair (.sl (.int .i64)) (.pair (.sl (.int .i64)) (.pair (.sl (.int .i64)) (.pair (.sl (.int .i64)) (.pair (.int .i64) (.sl (.sl (.int .i64)))))))))), (.sl (.pair (.int .i64) (.pair (.sl (.int .u64)) (.pair (.int .i64) (.pair (.int .i64) (.int .i64)))))), (.int .i64), (.int .i64)] fun xs κ => bif fitsB xs.1 xs.2.2.1 xs.2.2.2.1 then κ (argA .bool (fitsD xs.1 xs.2.1 xs.2.2.1 xs.2.2.2.1)) else none
def h_fitsR : Hand := handN [(.pair (.int .i64) (.pair (.sl (.int .i64)) (.pair (.sl (.int .i64)) (.pair (.sl (.int .i64)) (.pair (.sl (.int .i64)) (.pair (.sl (.int .i64)) (.pair (.int .i64) (.sl (.sl (.int .i64)))))))))), (.sl (.sl (.int .i64))), (.int .i64), (.int .i64)] fun xs κ => bif fitsB xs.1 xs.2.2.1 xs.2.2.2.1 then κ (argA .bool (fitsR xs.1 xs.2.1 xs.2.2.1 xs.2.2.2.1)) else none
def h_cloneD : Hand := handN [(.sl (.pair (.int .i64) (.pair (.sl (.int .u64)) (.pair (.int .i64) (.pair (.int .i64) (.int .i64))))))] fun xs κ => bif cloneB xs.1 then κ (.nw 88 (.pair (.int .i64) (.pair (.sl (.int .u64)) (.pair (.int .i64) (.pair (.int .i64) (.int .i64))))) xs.1) else none
def h_minD : Hand := handN [(.pair (.int .i64) (.pair (.sl (.int .u64)) (.pair (.int .i64) (.pair (.int .i64) (.int .i64)))))] fun xs κ => κ (argA (.int .i64) (minD xs.1))
def h_maxD : Hand := handN [(.pair (.int .i64) (.pair (.sl (.int .u64)) (.pair (.int .i64) (.pair (.int .i64) (.int .i64)))))] fun xs κ => κ (argA (.int .i64) (maxD xs.1))
def h_sureD : Hand := handN [(.pair (.int .i64) (.pair (.sl (.int .i64)) (.pair (.sl (.int .i64)) (.pair (.sl (.int .i64)) (.pair (.sl (.int .i64)) (.pair (.sl (.int .i64)) (.pair (.int .i64) (.sl (.sl (.int .i64)))))))))), (.sl (.pair (.int .i64) (.pair (.sl (.int .u64)) (.pair (.int .i64) (.pair (.int .i64) (.int .i64)))))), (.int .i64)] fun xs κ => bif cumB xs.1 xs.2.1 && inI xs.2.1 xs.2.2.1 then κ (.tup [argA (.int .i64) (maxD (xs.2.1.getD xs.2.2.1.toNat dom0)), argA (.int .i64) (sureE xs.1 xs.2.1 xs.2.2.1)]) else none
def h_loadD : Hand := handN [(.pair (.int .i64) (.pair (.sl (.int .i64)) (.pair (.sl (.int .i64)) (.pair (.sl (.int .i64)) (.pair (.sl (.int .i64)) (.pair (.sl (.int .i64)) (.pair (.int .i64) (.sl (.sl (.int .i64)))))))))), (.sl (.pair (.int .i64) (.pair (.sl (.int .u64)) (.pair (.int .i64) (.pair (.int .i64) (.int .i64)))))), (.int .i64), (.int .i64)] fun xs κ => bif cumB xs.1 xs.2.1 then κ (argA (.int .i64) (loadD xs.1 xs.2.1 xs.2.2.1 xs.2.2.2.1)) else none
def h_timesD : Hand := handN [(.pair (.int .i64) (.pair (.sl (.int .i64)) (.pair (.sl (.int .i64)) (.pair (.sl (.int .i64)) (.pair (.sl (.int .i64)) (.pair (.sl (.int .i64)) (.pair (.int .i64) (.sl (.sl (.int .i64)))))))))), (.sl (.pair (.int .i64) (.pair (.sl (.int .u64)) (.pair (.int .i64) (.pair (.int .i64) (.int .i64)))))), (.int .i64), (.int .i64)] fun xs κ => bif mayB xs.1 xs.2.1 xs.2.2.1 xs.2.2.2.1 then κ (argA (.sl (.int .i64)) (timesD xs.1 xs.2.1 xs.2.2.1 xs.2.2.2.1)) else none
def h_mayD : Hand := handN [(.pair (.int .i64) (.pair (.sl (.int .i64)) (.pair (.sl (.int .i64)) (.pair (.sl (.int .i64)) (.pair (.sl (.int .i64)) (.pair (.sl (.int .i64)) (.pair (.int .i64) (.sl (.sl (.int .i64)))))))))), (.sl (.pair (.int .i64) (.pair (.sl (.int .u64)) (.pair (.int .i64) (.pair (.int .i64) (.int .i64)))))), (.int .i64), (.int .i64)] fun xs κ => bif mayB xs.1 xs.2.1 xs.2.2.1 xs.2.2.2.1 then κ (argA .bool (mayD xs.1 xs.2.1 xs.2.2.1 xs.2.2.2.1)) else none
def h_anyM : Hand := fun args κ => match args with
 | [x0, .fn 172 [] [.rp ca, .rp cb, .rp ci]] => (match pullA LI x0, pullC ConT ca, pullC (.sl DomT) cb, pullC (.int .i64) ci with
  | some y0, some a, some b, some i => bif cumB a b && inI b i then κ (.v .bool (List.any y0 (overD a b i))) else none
  | _, _, _, _ => none)
 | _ => none
def h_idxM : Hand := fun args κ => match args with
 | [x0, .fn 172 [] [.rp ca, .rp cb, .rp ci]] => (match pullA LI x0, pullC ConT ca, pullC (.sl DomT) cb, pullC (.int .i64) ci with
  | some y0, some a, some b, some i => bif cumB a b && inI b i then κ (.v (.int .i64) (idx (overD a b i) y0 (0 : Int))) else none
  | _, _, _, _ => none)
 | _ => none
def h_overD : Hand := fun args κ => match args with
 | [x0, .rp ca, .rp cb, .rp ci] => (match pullA (.int .i64) x0, pullC ConT ca, pullC (.sl DomT) cb, pullC (.int .i64) ci with
  | some t, some a, some b, some i => bif cumB a b && inI b i then κ (.v .bool (overD a b i t)) else none
  | _, _, _, _ => none)
 | _ => none
def h_passF (args : List AV) (e : Nat) : (t : Ty) → List t.D → (Option AV → List t.D → Option AV) → Option AV
 | .pair (.int .i64) (.pair (.sl (.int .u64)) (.pair (.int .i64) (.pair (.int .i64) (.int .i64)))), xs, κ => (match args with
  | [x0, .un] => (match pullA ConT x0 with
   | some c => bif Nat.beq e 88 && passB c xs then κ (some (.tup [.v .bool (passD c xs).2.1, .v .bool (passD c xs).2.2])) (passD c xs).1 else none
   | none => none)
  | _ => none)
 | _, _, _ => none
def h_pass : MHand := (1, h_passF)
def h_cumF : Hand := handN [(.pair (.int .i64) (.pair (.sl (.int .i64)) (.pair (.sl (.int .i64)) (.pair (.sl (.int .i64)) (.pair (.sl (.int .i64)) (.pair (.sl (.int .i64)) (.pair (.int .i64) (.sl (.sl (.int .i64)))))))))), (.sl (.pair (.int .i64) (.pair (.sl (.int .u64)) (.pair (.int .i64) (.pair (.int .i64) (.int .i64))))))] fun xs κ => bif cumFB xs.1 xs.2.1 then κ (.tup [argA (.sl (.pair (.int .i64) (.pair (.sl (.int .u64)) (.pair (.int .i64) (.pair (.int .i64) (.int .i64)))))) ((cumF xs.1 xs.2.1).1), argA .bool ((cumF xs.1 xs.2.1).2)]) else none
def h_sureR : Hand := handN [(.pair (.int .i64) (.pair (.sl (.int .i64)) (.pair (.sl (.int .i64)) (.pair (.sl (.int .i64)) (.pair (.sl (.int .i64)) (.pair (.sl (.int .i64)) (.pair (.int .i64) (.sl (.sl (.int .i64)))))))))), (.sl (.sl (.int .i64))), (.int .i64), (.int .i64)] fun xs κ => bif listsB xs.1 xs.2.1 && inL2 xs.2.1 xs.2.2.1 && tM xs.2.2.2.1 then κ (argA .bool (sureR xs.1 xs.2.1 xs.2.2.1 xs.2.2.2.1)) else none
def h_mayR : Hand := handN [(.pair (.int .i64) (.pair (.sl (.int .i64)) (.pair (.sl (.int .i64)) (.pair (.sl (.int .i64)) (.pair (.sl (.int .i64)) (.pair (.sl (.int .i64)) (.pair (.int .i64) (.sl (.sl (.int .i64)))))))))), (.sl (.sl (.int .i64))), (.int .i64), (.int .i64)] fun xs κ => bif mayRB xs.1 xs.2.1 xs.2.2.1 xs.2.2.2.1 then κ (argA .bool (mayR xs.1 xs.2.1 xs.2.2.1 xs.2.2.2.1)) else none
def h_cumR : Hand := handN [(.pair (.int .i64) (.pair (.sl (.int .i64)) (.pair (.sl (.int .i64)) (.pair (.sl (.int .i64)) (.pair (.sl (.int .i64)) (.pair (.sl (.int .i64)) (.pair (.int .i64) (.sl (.sl (.int .i64)))))))))), (.sl (.sl (.int .i64)))] fun xs κ => bif cumRB xs.1 xs.2.1 then κ (.tup [argA (.sl (.sl (.int .i64))) ((cumR xs.1 xs.2.1).1), argA .bool ((cumR xs.1 xs.2.1).2)]) else none
def h_doms530 : Hand := handN [(.sl (.sl (.int .i64)))] fun xs κ => bif Nat.ble xs.1.length 1000 then κ (argA (.sl (.pair (.int .i64) (.pair (.sl (.int .u64)) (.pair (.int .i64) (.pair (.int .i64) (.int .i64)))))) (domsL xs.1)) else none
def h_lists534 : Hand := handN [(.sl (.pair (.int .i64) (.pair (.sl (.int .u64)) (.pair (.int .i64) (.pair (.int .i64) (.int .i64))))))] fun xs κ => bif Nat.ble xs.1.length 1000 && xs.1.all listB then κ (argA (.sl (.sl (.int .i64))) (listsL xs.1)) else none
def h_wakes532 : Hand := handN [] fun xs κ => κ (argA .bool true)
end Go.Proofs.YtdihbphkbdelbaaGreatDoor.Ev
