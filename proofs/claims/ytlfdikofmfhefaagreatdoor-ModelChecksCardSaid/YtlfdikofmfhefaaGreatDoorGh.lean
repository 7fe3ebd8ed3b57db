/-
The handlers.
Conditions: none.
-/
import Derived.Test.YtlfdikofmfhefaaGreatDoorAa
set_option linter.unusedVariables false
set_option linter.unusedSimpArgs false
set_option maxRecDepth 100000
namespace Go.Proofs.YtlfdikofmfhefaaGreatDoor.Ev
open Go
def h_countedG : Hand := handN [(.pair (.int .i64) (.pair (.sl (.int .i64)) (.pair (.sl (.int .i64)) (.pair (.sl (.int .i64)) (.pair (.sl (.int .i64)) (.pair (.sl (.int .i64)) (.pair (.int .i64) (.sl (.sl (.int .i64)))))))))), .str] fun xs κ => bif smallC xs.1 then κ (argA .bool (countedG xs.1 xs.2.1)) else none
def h_alikeG : Hand := handN [(.pair (.int .i64) (.pair (.sl (.int .i64)) (.pair (.sl (.int .i64)) (.pair (.sl (.int .i64)) (.pair (.sl (.int .i64)) (.pair (.sl (.int .i64)) (.pair (.int .i64) (.sl (.sl (.int .i64))))))))))] fun xs κ => bif smallC xs.1 then κ (argA .bool (alikeG xs.1)) else none
def h_numbersG : Hand := handN [(.pair (.int .i64) (.pair (.sl (.int .i64)) (.pair (.sl (.int .i64)) (.pair (.sl (.int .i64)) (.pair (.sl (.int .i64)) (.pair (.sl (.int .i64)) (.pair (.int .i64) (.sl (.sl (.int .i64))))))))))] fun xs κ => bif smallC xs.1 then κ (argA .bool (numbersG xs.1)) else none
def h_countsG : Hand := handN [(.pair (.int .i64) (.pair (.sl (.int .i64)) (.pair (.sl (.int .i64)) (.pair (.sl (.int .i64)) (.pair (.sl (.int .i64)) (.pair (.sl (.int .i64)) (.pair (.int .i64) (.sl (.sl (.int .i64))))))))))] fun xs κ => bif countsB xs.1 then κ (argA .bool (countsG xs.1)) else none
def h_rightG : Hand := handN [(.pair (.int .i64) (.pair (.sl (.int .i64)) (.pair (.sl (.int .i64)) (.pair (.sl (.int .i64)) (.pair (.sl (.int .i64)) (.pair (.sl (.int .i64)) (.pair (.int .i64) (.sl (.sl (.int .i64)))))))))), (.int .i64)] fun xs κ => bif smallC xs.1 then κ (argA (.int .i64) (rightG xs.1 xs.2.1)) else none
def h_arityG : Hand := handN [(.pair (.int .i64) (.pair (.sl (.int .i64)) (.pair (.sl (.int .i64)) (.pair (.sl (.int .i64)) (.pair (.sl (.int .i64)) (.pair (.sl (.int .i64)) (.pair (.int .i64) (.sl (.sl (.int .i64)))))))))), .str] fun xs κ => bif arityB xs.1 xs.2.1 then κ (argA .bool (arityG xs.1 xs.2.1)) else none
def h_coefsG : Hand := handN [(.pair (.int .i64) (.pair (.sl (.int .i64)) (.pair (.sl (.int .i64)) (.pair (.sl (.int .i64)) (.pair (.sl (.int .i64)) (.pair (.sl (.int .i64)) (.pair (.int .i64) (.sl (.sl (.int .i64))))))))))] fun xs κ => bif smallC xs.1 && coefsB xs.1 then κ (argA .bool (coefsG xs.1)) else none
def h_rightD : Hand := handN [(.pair (.int .i64) (.pair (.sl (.int .i64)) (.pair (.sl (.int .i64)) (.pair (.sl (.int .i64)) (.pair (.sl (.int .i64)) (.pair (.sl (.int .i64)) (.pair (.int .i64) (.sl (.sl (.int .i64)))))))))), (.int .i64)] fun xs κ => bif smallC xs.1 && rightNB xs.2.1 then κ (argA (.int .i64) (rightD xs.1 xs.2.1)) else none
def h_eqL : Hand := handN [(.sl (.int .i64)), (.sl (.int .i64))] fun xs κ => κ (argA .bool (eqL xs.1 xs.2.1))
def h_values : Hand := fun args κ => match args with
 | [x0] => (match pullA (.sl (.int .i64)) x0 with
  | some y0 => κ (.fn 144 [] [.rp [.v (.sl (.int .i64)) y0]])
  | none => none)
 | _ => none
def h_sorted : Hand := fun args κ => match args with
 | [.fn 144 [] [.rp cs]] => (match pullC (.sl (.int .i64)) cs with
  | some z => bif sortB z then κ (.nw 3 (.int .i64) (sortL z)) else none
  | none => none)
 | _ => none
end Go.Proofs.YtlfdikofmfhefaaGreatDoor.Ev
