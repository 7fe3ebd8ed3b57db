/-
The table of types; the handlers.
Conditions: none.
-/
import Derived.Test.YtohdaehblenokaaAp
import Derived.Test.YtohdaehblenokaaProg
import Derived.KernelRfl
import Derived.Shelf.Spec.TrailingZeros
set_option linter.unusedVariables false
set_option linter.unusedSimpArgs false
set_option maxRecDepth 100000
namespace Go.Proofs.Ytohdaehblenokaa.Ev
open Go
def tt : List (Nat × TInfo) := [(2, ⟨(.int .i64), false, 8, none, [], some .i64, false⟩),
 (3, ⟨(.int .i64), false, 8, none, [], some .i64, false⟩),
 (4, ⟨.bool, false, 1, none, [], none, false⟩),
 (5, ⟨(.int .u8), false, 1, none, [], some .u8, false⟩),
 (6, ⟨(.int .u8), false, 1, none, [], some .u8, false⟩),
 (7, ⟨(.pair (.int .i64) (.pair (.int .i64) (.pair .bool (.int .u8)))), true, 24, none, [(0, 2), (1, 3), (2, 4), (3, 6)], none, false⟩),
 (8, ⟨(.pair (.int .i64) (.pair (.int .i64) (.pair .bool (.int .u8)))), true, 24, none, [(0, 2), (1, 3), (2, 4), (3, 6)], none, false⟩),
 (9, ⟨.str, false, 16, none, [], none, true⟩),
 (10, ⟨.str, false, 16, none, [], none, true⟩),
 (11, ⟨.str, false, 16, none, [], none, true⟩),
 (12, ⟨(.int .u64), false, 8, none, [], some .u64, false⟩),
 (13, ⟨(.pair .str (.int .u64)), true, 24, none, [(0, 9), (1, 12)], none, false⟩),
 (14, ⟨(.pair .str (.int .u64)), true, 24, none, [(0, 9), (1, 12)], none, false⟩),
 (21, ⟨(.int .i32), false, 4, none, [], some .i32, false⟩),
 (22, ⟨(.sl (.int .u8)), false, 24, some 5, [], none, false⟩),
 (23, ⟨(.sl (.int .i8)), false, 24, some 61, [], none, false⟩),
 (24, ⟨(.int .i16), false, 2, none, [], some .i16, false⟩),
 (25, ⟨(.pair (.int .u8) (.pair (.sl (.int .u8)) (.pair (.sl (.int .u8)) (.pair (.sl (.int .i8)) (.pair (.int .i16) (.int .u8)))))), true, 88, none, [(0, 5), (1, 22), (2, 22), (3, 23), (4, 24), (5, 5)], none, false⟩),
 (26, ⟨(.pair (.int .u8) (.pair (.sl (.int .u8)) (.pair (.sl (.int .u8)) (.pair (.sl (.int .i8)) (.pair (.int .i16) (.int .u8)))))), true, 88, none, [(0, 5), (1, 22), (2, 22), (3, 23), (4, 24), (5, 5)], none, false⟩),
 (27, ⟨(.sl (.int .i64)), false, 24, some 3, [], none, false⟩),
 (29, ⟨(.sl (.sl (.int .i64))), false, 24, some 27, [], none, false⟩),
 (30, ⟨(.pair (.int .i64) (.pair (.sl (.int .i64)) (.pair (.sl (.int .i64)) (.pair (.sl (.int .i64)) (.pair (.sl (.int .i64)) (.pair (.sl (.int .i64)) (.pair (.int .i64) (.sl (.sl (.int .i64)))))))))), true, 160, none, [(0, 3), (1, 27), (2, 27), (3, 27), (4, 27), (5, 27), (6, 3), (7, 29)], none, false⟩),
 (31, ⟨(.pair (.int .i64) (.pair (.sl (.int .i64)) (.pair (.sl (.int .i64)) (.pair (.sl (.int .i64)) (.pair (.sl (.int .i64)) (.pair (.sl (.int .i64)) (.pair (.int .i64) (.sl (.sl (.int .i64)))))))))), true, 160, none, [(0, 3), (1, 27), (2, 27), (3, 27), (4, 27), (5, 27), (6, 3), (7, 29)], none, false⟩),
 (45, ⟨(.sl .str), false, 24, some 9, [], none, false⟩),
 (50, ⟨(.int .i64), false, 8, none, [], some .i64, false⟩),
 (61, ⟨(.int .i8), false, 1, none, [], some .i8, false⟩),
 (75, ⟨(.int .u64), false, 8, none, [], some .u64, false⟩),
 (78, ⟨(.pair .str .str), true, 32, none, [(0, 9), (1, 9)], none, false⟩),
 (79, ⟨(.pair .str .str), true, 32, none, [(0, 9), (1, 9)], none, false⟩),
 (80, ⟨(.sl (.pair .str .str)), false, 24, some 79, [], none, false⟩),
 (88, ⟨(.int .i64), false, 8, none, [], some .i64, false⟩),
 (97, ⟨(.int .u32), false, 4, none, [], some .u32, false⟩),
 (99, ⟨(.int .u64), false, 8, none, [], some .u64, false⟩),
 (100, ⟨(.int .u64), false, 8, none, [], some .u64, false⟩),
 (120, ⟨(.int .u8), false, 1, none, [], some .u8, false⟩),
 (121, ⟨(.int .u8), false, 1, none, [], some .u8, false⟩),
 (124, ⟨(.int .i32), false, 4, none, [], some .i32, false⟩),
 (125, ⟨(.int .i32), false, 4, none, [], some .i32, false⟩)]
def inv : World → Prop := fun _ => True
def pullC : (t : Ty) → List AV → Option t.D
 | .pair a b, cs => (match implode no (.pair a b) cs with
  | some (y, []) => some y
  | _ => none)
 | t, [c] => pullA t c
 | _, _ => none
def h_any : Hand := fun args κ => match args with
 | [x0, .fn 46 [] [.rp cs]] => (match pullA (.sl (.int .i64)) x0, pullC (.int .i64) cs with
  | some y0, some z => κ (.v .bool (List.any y0 (varB z)))
  | _, _ => none)
 | [x0, .fn 82 [] [.rp cs]] => (match pullA (.sl (.int .i64)) x0, pullC (.int .i64) cs with
  | some y0, some z => κ (.v .bool (List.any y0 (numB z)))
  | _, _ => none)
 | [x0, .fn 24 [] []] => (match pullA (.sl (.int .i64)) x0 with
  | some y0 => κ (.v .bool (List.any y0 farB))
  | none => none)
 | _ => none
def h_idxF : Hand := fun args κ => match args with
 | [x0, .fn 46 [] [.rp cs]] => (match pullA (.sl (.int .i64)) x0, pullC (.int .i64) cs with
  | some y0, some z => κ (.v (.int .i64) (idx (varB z) y0 (0 : Int)))
  | _, _ => none)
 | [x0, .fn 82 [] [.rp cs]] => (match pullA (.sl (.int .i64)) x0, pullC (.int .i64) cs with
  | some y0, some z => κ (.v (.int .i64) (idx (numB z) y0 (0 : Int)))
  | _, _ => none)
 | [x0, .fn 24 [] []] => (match pullA (.sl (.int .i64)) x0 with
  | some y0 => κ (.v (.int .i64) (idx farB y0 (0 : Int)))
  | none => none)
 | _ => none
def h_anyR : Hand := fun args κ => match args with
 | [x0, .fn 62 [] [.rp cs]] => (match pullA (.sl (.sl (.int .i64))) x0, pullC (.pair (.int .i64) (.pair (.sl (.int .i64)) (.pair (.sl (.int .i64)) (.pair (.sl (.int .i64)) (.pair (.sl (.int .i64)) (.pair (.sl (.int .i64)) (.pair (.int .i64) (.sl (.sl (.int .i64)))))))))) cs with
  | some y0, some z => κ (.v .bool (List.any y0 (rowN z)))
  | _, _ => none)
 | [x0, .fn 30 [] [.rp cs]] => (match pullA (.sl (.sl (.int .i64))) x0, pullC (.sl (.int .i64)) cs with
  | some y0, some z => κ (.v .bool (List.any y0 (rowEqB z)))
  | _, _ => none)
 | _ => none
def h_idxR : Hand := fun args κ => match args with
 | [x0, .fn 62 [] [.rp cs]] => (match pullA (.sl (.sl (.int .i64))) x0, pullC (.pair (.int .i64) (.pair (.sl (.int .i64)) (.pair (.sl (.int .i64)) (.pair (.sl (.int .i64)) (.pair (.sl (.int .i64)) (.pair (.sl (.int .i64)) (.pair (.int .i64) (.sl (.sl (.int .i64)))))))))) cs with
  | some y0, some z => κ (.v (.int .i64) (idx (rowN z) y0 (0 : Int)))
  | _, _ => none)
 | [x0, .fn 30 [] [.rp cs]] => (match pullA (.sl (.sl (.int .i64))) x0, pullC (.sl (.int .i64)) cs with
  | some y0, some z => κ (.v (.int .i64) (idx (rowEqB z) y0 (0 : Int)))
  | _, _ => none)
 | _ => none
def h_varB : Hand := fun args κ => match args with
 | [x0, .rp cs] => (match pullA (.int .i64) x0, pullC (.int .i64) cs with
  | some y0, some z => κ (.v .bool (varB z y0))
  | _, _ => none)
 | _ => none
def h_numB : Hand := fun args κ => match args with
 | [x0, .rp cs] => (match pullA (.int .i64) x0, pullC (.int .i64) cs with
  | some y0, some z => κ (.v .bool (numB z y0))
  | _, _ => none)
 | _ => none
def h_rowN : Hand := fun args κ => match args with
 | [x0, .rp cs] => (match pullA (.sl (.int .i64)) x0, pullC (.pair (.int .i64) (.pair (.sl (.int .i64)) (.pair (.sl (.int .i64)) (.pair (.sl (.int .i64)) (.pair (.sl (.int .i64)) (.pair (.sl (.int .i64)) (.pair (.int .i64) (.sl (.sl (.int .i64)))))))))) cs with
  | some y0, some z => κ (.v .bool (rowN z y0))
  | _, _ => none)
 | _ => none
def h_rowEqB : Hand := fun args κ => match args with
 | [x0, .rp cs] => (match pullA (.sl (.int .i64)) x0, pullC (.sl (.int .i64)) cs with
  | some y0, some z => κ (.v .bool (rowEqB z y0))
  | _, _ => none)
 | _ => none
def h_farB : Hand := handN [(.int .i64)] fun xs κ => κ (argA .bool (farB xs.1))
def h_indexL : Hand := handN [(.sl (.int .i64)), (.int .i64)] fun xs κ => κ (argA (.int .i64) (indexL xs.1 xs.2.1))
def h_containsL : Hand := handN [(.sl (.int .i64)), (.int .i64)] fun xs κ => κ (argA .bool (containsL xs.1 xs.2.1))
def h_placesL : Hand := handN [(.sl (.int .u8)), (.int .i64), (.int .i64)] fun xs κ => bif placesB xs.1 xs.2.1 xs.2.2.1 then κ (argA (.sl (.int .i64)) (placesL xs.1 xs.2.1 xs.2.2.1)) else none
def h_numbersL : Hand := handN [(.sl (.int .i8)), (.int .i64), (.int .i64), (.int .i64), (.int .i64)] fun xs κ => bif numbersB xs.1 xs.2.1 xs.2.2.1 xs.2.2.2.1 xs.2.2.2.2.1 then κ (argA (.sl (.int .i64)) (numbersL xs.1 xs.2.1 xs.2.2.1 xs.2.2.2.1 xs.2.2.2.2.1)) else none
def h_idxI : Hand := handN [.str, (.int .u8)] fun xs κ => κ (argA (.int .i64) (idxI xs.1 xs.2.1))
def h_cntI : Hand := handN [.str, (.int .u8)] fun xs κ => κ (argA (.int .i64) (cntI xs.1 xs.2.1))
def h_idxJ : Hand := handN [.str, (.int .u8)] fun xs κ => κ (argA (.int .i64) (idxJ xs.1 xs.2.1))
def h_idx1 : Hand := handN [.str, .str] fun xs κ => bif decide (xs.2.1.size = 1) then κ (argA (.int .i64) (idx1 xs.1 xs.2.1)) else none
def h_idx2 : Hand := handN [.str, .str] fun xs κ => bif decide (xs.2.1.size = 1) then κ (argA (.int .i64) (idx2 xs.1 xs.2.1)) else none
def h_has1 : Hand := handN [.str, .str] fun xs κ => bif decide (xs.2.1.size = 1) then κ (argA .bool (has1 xs.1 xs.2.1)) else none
def h_cnt1 : Hand := handN [.str, .str] fun xs κ => bif decide (xs.2.1.size = 1) then κ (argA (.int .i64) (cnt1 xs.1 xs.2.1)) else none
def h_forms : Hand := handN [] fun xs κ => κ (argA (.sl (.pair .str .str)) formsL)
def h_word : Hand := handN [(.int .i64)] fun xs κ => κ (.tup [argA .str (wordS xs.1), argA .bool (inS xs.1)])
def h_shapeS : Hand := handN [(.int .i64)] fun xs κ => κ (argA .str (shapeS xs.1))
def h_shapes : Hand := handN [] fun xs κ => κ (argA (.sl .str) shapesL)
def h_withinD : Hand := handN [(.int .i64), (.int .i64), (.int .i64)] fun xs κ => κ (argA .bool (withinD xs.1 xs.2.1 xs.2.2.1))
def h_namedD : Hand := handN [(.int .i64), .str, .str, .str] fun xs κ => bif decide (xs.2.2.1.size = 1) && decide (xs.2.2.2.1.size = 1) then κ (argA .bool (namedD xs.1 xs.2.1 xs.2.2.1 xs.2.2.2.1)) else none
def h_concatL : Hand := handN [(.sl (.sl (.int .i64)))] fun xs κ => bif concatB xs.1 then κ (argA (.sl (.int .i64)) (concatL xs.1)) else none
def h_varsD : Hand := handN [(.pair (.int .i64) (.pair (.sl (.int .i64)) (.pair (.sl (.int .i64)) (.pair (.sl (.int .i64)) (.pair (.sl (.int .i64)) (.pair (.sl (.int .i64)) (.pair (.int .i64) (.sl (.sl (.int .i64))))))))))] fun xs κ => bif varsB xs.1 then κ (argA (.sl (.int .i64)) (varsD xs.1)) else none
def h_boundedD : Hand := handN [(.sl (.int .i64)), (.int .i64)] fun xs κ => κ (argA .bool (boundedD xs.1 xs.2.1))
def h_hasB : Hand := handN [.str, (.int .u8)] fun xs κ => bif decide (xs.1.size ≤ 100) then κ (argA (.int .i64) (hasB xs.1 xs.2.1)) else none
def h_grow : Hand := fun args κ => match args with
 | [.nl, .v (.int .i64) n] => bif growB n then κ (.nw 3 (.int .i64) []) else none
 | _ => none
end Go.Proofs.Ytohdaehblenokaa.Ev
