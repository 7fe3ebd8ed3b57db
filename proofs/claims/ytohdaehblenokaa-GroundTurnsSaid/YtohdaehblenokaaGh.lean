/-
The handlers.
Conditions: none.
-/
import Derived.Test.YtohdaehblenokaaAa
set_option linter.unusedVariables false
set_option linter.unusedSimpArgs false
set_option maxRecDepth 100000
namespace Go.Proofs.Ytohdaehblenokaa.Ev
open Go
def h_countedG : Hand := handN [(.pair (.int .i64) (.pair (.sl (.int .i64)) (.pair (.sl (.int .i64)) (.pair (.sl (.int .i64)) (.pair (.sl (.int .i64)) (.pair (.sl (.int .i64)) (.pair (.int .i64) (.sl (.sl (.int .i64)))))))))), .str] fun xs κ => bif smallC xs.1 then κ (argA .bool (countedG xs.1 xs.2.1)) else none
def h_alikeG : Hand := handN [(.pair (.int .i64) (.pair (.sl (.int .i64)) (.pair (.sl (.int .i64)) (.pair (.sl (.int .i64)) (.pair (.sl (.int .i64)) (.pair (.sl (.int .i64)) (.pair (.int .i64) (.sl (.sl (.int .i64))))))))))] fun xs κ => bif smallC xs.1 then κ (argA .bool (alikeG xs.1)) else none
def h_numbersG : Hand := handN [(.pair (.int .i64) (.pair (.sl (.int .i64)) (.pair (.sl (.int .i64)) (.pair (.sl (.int .i64)) (.pair (.sl (.int .i64)) (.pair (.sl (.int .i64)) (.pair (.int .i64) (.sl (.sl (.int .i64))))))))))] fun xs κ => bif smallC xs.1 then κ (argA .bool (numbersG xs.1)) else none
def h_countsG : Hand := handN [(.pair (.int .i64) (.pair (.sl (.int .i64)) (.pair (.sl (.int .i64)) (.pair (.sl (.int .i64)) (.pair (.sl (.int .i64)) (.pair (.sl (.int .i64)) (.pair (.int .i64) (.sl (.sl (.int .i64))))))))))] fun xs κ => bif countsB xs.1 then κ (argA .bool (countsG xs.1)) else none
def h_rightG : Hand := handN [(.pair (.int .i64) (.pair (.sl (.int .i64)) (.pair (.sl (.int .i64)) (.pair (.sl (.int .i64)) (.pair (.sl (.int .i64)) (.pair (.sl (.int .i64)) (.pair (.int .i64) (.sl (.sl (.int .i64)))))))))), (.int .i64)] fun xs κ => bif smallC xs.1 then κ (argA (.int .i64) (rightG xs.1 xs.2.1)) else none
def h_eqL : Hand := handN [(.sl (.int .i64)), (.sl (.int .i64))] fun xs κ => κ (argA .bool (eqL xs.1 xs.2.1))
def h_valuesL : Hand := handN [(.sl (.int .i64)), (.sl (.int .i64))] fun xs κ => bif placesB1 xs.1 xs.2.1 then κ (argA (.sl (.int .i64)) (valuesL xs.1 xs.2.1)) else none
def h_sumX : Hand := handN [(.pair (.int .i64) (.pair (.sl (.int .i64)) (.pair (.sl (.int .i64)) (.pair (.sl (.int .i64)) (.pair (.sl (.int .i64)) (.pair (.sl (.int .i64)) (.pair (.int .i64) (.sl (.sl (.int .i64)))))))))), (.sl (.int .i64))] fun xs κ => bif sumXB xs.1 xs.2.1 then κ (argA (.int .i64) (sumX xs.1 xs.2.1)) else none
def h_truthB : Hand := handN [(.int .i64), .bool] fun xs κ => κ (argA .bool (truthB xs.1 xs.2.1))
def h_impliedB : Hand := handN [(.int .i64), .bool] fun xs κ => κ (argA .bool (impliedB xs.1 xs.2.1))
def h_logicX : Hand := handN [(.pair (.int .i64) (.pair (.sl (.int .i64)) (.pair (.sl (.int .i64)) (.pair (.sl (.int .i64)) (.pair (.sl (.int .i64)) (.pair (.sl (.int .i64)) (.pair (.int .i64) (.sl (.sl (.int .i64)))))))))), (.sl (.int .i64)), (.sl (.int .i64))] fun xs κ => bif logicXB xs.1 xs.2.1 xs.2.2.1 then κ (argA .bool (logicX xs.1 xs.2.1 xs.2.2.1)) else none
def h_apartX : Hand := handN [(.sl (.int .i64))] fun xs κ => bif sortB xs.1 then κ (argA .bool (apartX xs.1)) else none
def h_fitsX : Hand := handN [(.pair (.int .i64) (.pair (.sl (.int .i64)) (.pair (.sl (.int .i64)) (.pair (.sl (.int .i64)) (.pair (.sl (.int .i64)) (.pair (.sl (.int .i64)) (.pair (.int .i64) (.sl (.sl (.int .i64)))))))))), (.sl (.int .i64))] fun xs κ => bif fitsXB xs.1 xs.2.1 then κ (argA .bool (fitsX xs.1 xs.2.1)) else none
def h_roundX : Hand := handN [(.sl (.int .i64))] fun xs κ => bif Nat.ble xs.1.length 1000 then κ (argA .bool (roundX xs.1)) else none
def h_countedX : Hand := handN [(.pair (.int .i64) (.pair (.sl (.int .i64)) (.pair (.sl (.int .i64)) (.pair (.sl (.int .i64)) (.pair (.sl (.int .i64)) (.pair (.sl (.int .i64)) (.pair (.int .i64) (.sl (.sl (.int .i64)))))))))), (.sl (.int .i64))] fun xs κ => bif countedXB xs.1 xs.2.1 then κ (argA .bool (countedX xs.1 xs.2.1)) else none
def h_cmpX : Hand := handN [(.sl (.int .i64)), (.sl (.int .i64))] fun xs κ => bif cmpXB xs.1 xs.2.1 then κ (argA (.int .i64) (cmpX xs.1 xs.2.1)) else none
def h_cmpI : Hand := handN [(.int .i64), (.int .i64)] fun xs κ => κ (argA (.int .i64) (cmpI xs.1 xs.2.1))
def h_nanI : Hand := handN [(.int .i64)] fun xs κ => κ (argA .bool (nanI xs.1))
def h_inverseX : Hand := handN [(.sl (.int .i64)), (.sl (.int .i64))] fun xs κ => bif Nat.ble xs.1.length 1000 && Nat.ble xs.2.1.length 1000 then κ (argA .bool (inverseX xs.1 xs.2.1)) else none
def h_arithX : Hand := handN [(.pair (.int .i64) (.pair (.sl (.int .i64)) (.pair (.sl (.int .i64)) (.pair (.sl (.int .i64)) (.pair (.sl (.int .i64)) (.pair (.sl (.int .i64)) (.pair (.int .i64) (.sl (.sl (.int .i64)))))))))), (.sl (.int .i64))] fun xs κ => bif arithXB xs.1 xs.2.1 then κ (argA .bool (arithX xs.1 xs.2.1)) else none
def h_holdsX : Hand := handN [(.pair (.int .i64) (.pair (.sl (.int .i64)) (.pair (.sl (.int .i64)) (.pair (.sl (.int .i64)) (.pair (.sl (.int .i64)) (.pair (.sl (.int .i64)) (.pair (.int .i64) (.sl (.sl (.int .i64)))))))))), (.sl (.int .i64))] fun xs κ => bif holdsXB xs.1 xs.2.1 then κ (argA .bool (holdsX xs.1 xs.2.1)) else none
def h_values : Hand := fun args κ => match args with
 | [x0] => (match pullA (.sl (.int .i64)) x0 with
  | some y0 => κ (.fn 40 [] [.rp [.v (.sl (.int .i64)) y0]])
  | none => none)
 | _ => none
def h_sorted : Hand := fun args κ => match args with
 | [.fn 40 [] [.rp cs]] => (match pullC (.sl (.int .i64)) cs with
  | some z => bif sortB z then κ (.nw 3 (.int .i64) (sortL z)) else none
  | none => none)
 | _ => none
def h_nearL : Hand := handN [(.sl (.int .i64)), (.int .i64)] fun xs κ => bif nearLB xs.1 xs.2.1 then κ (argA (.sl (.int .i64)) (nearL xs.1 xs.2.1)) else none
def h_wakes526 : Hand := handN [] fun xs κ => κ (argA .bool true)
def h_withK : Hand := fun args κ => match args with
 | [x0, .rp cs] => (match pullA (.int .i64) x0, pullC ConT cs with
  | some k, some z => κ (.agg (explode ConT ((k, z.2) : Con)))
  | _, _ => none)
 | _ => none
def h_cloneI : Hand := handN [(.sl (.int .i64))] fun xs κ => bif Nat.ble xs.1.length 1000 then κ (.nw 3 (.int .i64) xs.1) else none
def h_cloneR : Hand := handN [(.sl (.sl (.int .i64)))] fun xs κ => bif Nat.ble xs.1.length 2000 then κ (.nw 27 (.sl (.int .i64)) xs.1) else none
def h_backL : Hand := handN [(.sl (.int .i64))] fun xs κ => bif Nat.ble xs.1.length 1000 then κ (argA (.sl (.int .i64)) (List.reverse xs.1)) else none
def h_revIF (args : List AV) (e : Nat) : (t : Ty) → List t.D → (Option AV → List t.D → Option AV) → Option AV
 | (.int .i64), xs, κ => (match args with
  | [.un] => bif Nat.beq e 3 && Nat.ble (List.length xs) 2000 then κ (some (.tup [])) (List.reverse xs) else none
  | _ => none)
 | _, _, _ => none
def h_revI : MHand := (0, h_revIF)
def h_revRF (args : List AV) (e : Nat) : (t : Ty) → List t.D → (Option AV → List t.D → Option AV) → Option AV
 | (.sl (.int .i64)), xs, κ => (match args with
  | [.un] => bif Nat.beq e 27 && Nat.ble (List.length xs) 2000 then κ (some (.tup [])) (List.reverse xs) else none
  | _ => none)
 | _, _, _ => none
def h_revR : MHand := (0, h_revRF)
end Go.Proofs.Ytohdaehblenokaa.Ev
