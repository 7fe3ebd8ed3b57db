/-
Models: names, domains, constraints; whether they may be: plain data.
Conditions: none.
The handlers.
Conditions: none.
-/
import Derived.Test.YtlfdikofmfhefaaGreatDoorAp
import Derived.Test.YtlfdikofmfhefaaGreatDoorEvA
import Derived.Test.YtlfdikofmfhefaaGreatDoorGh
set_option linter.unusedVariables false
namespace Go.Proofs.YtlfdikofmfhefaaGreatDoor.Ev
open Go
abbrev ModelP := List ByteArray × List (List Int) × List Con × Int × Int
def zeroI (x : Int) : Bool := decide (x = 0)
def letterI (c : Int) : Bool := (decide (c ≥ 97) && decide (c ≤ 122)) || (decide (c ≥ 65) && decide (c ≤ 90))
def digitI (c : Int) : Bool := decide (c ≥ 48) && decide (c ≤ 57)
def innerI (c : Int) : Bool := letterI c || (digitI c || decide (c = 95))
def runGo (s : ByteArray) : Nat → Nat → Nat
 | 0, i => i
 | n + 1, i => if innerI (byteW s i) then runGo s n (i + 1) else i
def runD (s : ByteArray) : Int := (runGo s s.size 0 : Nat)
def nameX (s : ByteArray) : Bool := !(strEq s ⟨#[]⟩) && (decide ((s.size : Int) ≤ 32) && (letterI (byteW s 0) && decide (runD s = (s.size : Int))))
def wordYGo (s : ByteArray) : Nat → Nat → Nat
 | 0, i => i
 | n + 1, i => if !(letterI (byteW s i)) && (decide (i = 0) || (!(digitI (byteW s i)) && !(decide (byteW s i = 95)))) then i else wordYGo s n (i + 1)
def wordY (s : ByteArray) : Int := (wordYGo s s.size 0 : Nat)
def nameY (s : ByteArray) : Bool := decide (wordY s > 0) && (decide (wordY s = (s.size : Int)) && decide (wordY s ≤ 32))
def keptS (s : ByteArray) : Bool := strEq s ⟨#[118, 97, 114]⟩ || (strEq s ⟨#[99, 111, 110, 115, 116, 114, 97, 105, 110, 116]⟩ || strEq s ⟨#[115, 111, 108, 118, 101]⟩)
def sizesB (l : List ByteArray) : Bool := l.all fun s => Nat.ble s.size 1000
def refL (l : List Int) : List Int := if okL l then refOf l else []
def refE (l : List Int) : Int := if okL l then 0 else if l.length = 0 then 4 else if l.any outD then 3 else 5
def listedX (l : List Int) : Bool := decide ((ofD l).2 = 0) && eqL (listD (ofD l).1) l
def varsGo : List ByteArray → List ByteArray → List (List Int) → Int
 | met, s :: ns, d :: ds => if !(nameX s) || keptS s then 7 else if met.any (fun t => strEq t s) then 8 else if !(listedX d) then 3 else varsGo (s :: met) ns ds
 | _, _, _ => 0
def varsX (m : ModelP) : Int := varsGo [] m.1 m.2.1
def goalX (m : ModelP) : Bool := bif decide (m.2.2.2.1 = 0) then decide (m.2.2.2.2 = 0) else withinD m.2.2.2.1 1 2 && withinD m.2.2.2.2 0 ((m.1.length : Int) - 1)
def consGo (r : Con → Int) : Nat → List Con → Option (Int × Int)
 | _, [] => none
 | i, c :: cs => if r c = 0 then consGo r (i + 1) cs else some ((i : Int), r c)
def checkX (m : ModelP) : Int × Int :=
 if m.1.length ≠ m.2.1.length then (-1, 2) else if (m.1.length : Int) > 256 ∨ (m.2.2.1.length : Int) > 1024 then (-1, 12) else if varsX m ≠ 0 then (-1, varsX m) else
 match consGo (fun c => rightG c (m.1.length : Int)) 0 m.2.2.1 with
 | some r => r
 | none => if goalX m then (-1, 0) else (-1, 17)
def varsYGo (ns : List ByteArray) (ds : List (List Int)) : Nat → Nat → Int
 | 0, _ => 0
 | n + 1, i => if !(nameY (ns.getD i ByteArray.empty)) || keptS (ns.getD i ByteArray.empty) then 7 else if (List.range i).any (fun k => strEq (ns.getD k ByteArray.empty) (ns.getD i ByteArray.empty)) then 8 else
  if refE (ds.getD i []) ≠ 0 ∨ eqL (refL (ds.getD i [])) (ds.getD i []) = false then 3 else varsYGo ns ds n (i + 1)
def varsY (m : ModelP) : Int := varsYGo m.1 m.2.1 m.1.length 0
def goalY (m : ModelP) : Bool := !(decide (m.2.2.2.1 < 0) || (decide (m.2.2.2.1 > 2) || ((decide (m.2.2.2.1 = 0) && !(decide (m.2.2.2.2 = 0))) || (decide (m.2.2.2.1 > 0) && (decide (m.2.2.2.2 < 0) || decide (m.2.2.2.2 ≥ (m.1.length : Int)))))))
def checkY (m : ModelP) : Int × Int :=
 if m.1.length ≠ m.2.1.length then (-1, 2) else if (m.1.length : Int) > 256 ∨ (m.2.2.1.length : Int) > 1024 then (-1, 12) else if varsY m ≠ 0 then (-1, varsY m) else
 match consGo (fun c => rightD c (m.1.length : Int)) 0 m.2.2.1 with
 | some r => r
 | none => if goalY m then (-1, 0) else (-1, 17)
def modelB (m : ModelP) : Bool := Nat.ble m.1.length 2000 && (Nat.ble m.2.1.length 2000 && (Nat.ble m.2.2.1.length 2000 && (sizesB m.1 && (m.2.1.all (fun l => Nat.ble l.length 1000) && m.2.2.1.all smallC))))
def varsB2 (m : ModelP) : Bool := modelB m && decide (m.1.length = m.2.1.length)
end Go.Proofs.YtlfdikofmfhefaaGreatDoor.Ev
set_option linter.unusedVariables false
set_option linter.unusedSimpArgs false
set_option maxRecDepth 100000
namespace Go.Proofs.YtlfdikofmfhefaaGreatDoor.Ev
open Go
def h_letterI : Hand := handN [(.int .i32)] fun xs κ => κ (argA .bool (letterI xs.1))
def h_digitI : Hand := handN [(.int .i32)] fun xs κ => κ (argA .bool (digitI xs.1))
def h_letterB : Hand := handN [(.int .u8)] fun xs κ => κ (argA .bool (letterI xs.1))
def h_digitB : Hand := handN [(.int .u8)] fun xs κ => κ (argA .bool (digitI xs.1))
def h_run : Hand := fun args κ => match args with
 | [x0, .fn 99 [] []] => (match pullA .str x0 with
  | some s => κ (.v (.int .i64) (runD s))
  | none => none)
 | _ => none
def h_wordY : Hand := handN [.str, (.int .i64)] fun xs κ => bif zeroI xs.2.1 && Nat.ble xs.1.size 1000 then κ (argA (.int .i64) (wordY xs.1)) else none
def h_nameY : Hand := handN [.str] fun xs κ => bif Nat.ble xs.1.size 1000 then κ (argA .bool (nameY xs.1)) else none
def h_refA : Hand := handN [(.sl (.int .i64))] fun xs κ => bif Nat.ble xs.1.length 1000 then κ (.tup [argA (.sl (.int .i64)) (refL xs.1), argA (.int .i64) (refE xs.1)]) else none
def h_sameL : Hand := handN [(.sl (.int .i64)), (.sl (.int .i64))] fun xs κ => bif Nat.ble xs.1.length 1000 then κ (argA .bool (eqL xs.1 xs.2.1)) else none
def h_varsX : Hand := handN [(.pair (.sl .str) (.pair (.sl (.sl (.int .i64))) (.pair (.sl (.pair (.int .i64) (.pair (.sl (.int .i64)) (.pair (.sl (.int .i64)) (.pair (.sl (.int .i64)) (.pair (.sl (.int .i64)) (.pair (.sl (.int .i64)) (.pair (.int .i64) (.sl (.sl (.int .i64))))))))))) (.pair (.int .i64) (.int .i64)))))] fun xs κ => bif varsB2 xs.1 then κ (argA (.int .i64) (varsX xs.1)) else none
def h_goalX : Hand := handN [(.pair (.sl .str) (.pair (.sl (.sl (.int .i64))) (.pair (.sl (.pair (.int .i64) (.pair (.sl (.int .i64)) (.pair (.sl (.int .i64)) (.pair (.sl (.int .i64)) (.pair (.sl (.int .i64)) (.pair (.sl (.int .i64)) (.pair (.int .i64) (.sl (.sl (.int .i64))))))))))) (.pair (.int .i64) (.int .i64)))))] fun xs κ => bif Nat.ble xs.1.1.length 2000 then κ (argA .bool (goalX xs.1)) else none
def h_checkX : Hand := handN [(.pair (.sl .str) (.pair (.sl (.sl (.int .i64))) (.pair (.sl (.pair (.int .i64) (.pair (.sl (.int .i64)) (.pair (.sl (.int .i64)) (.pair (.sl (.int .i64)) (.pair (.sl (.int .i64)) (.pair (.sl (.int .i64)) (.pair (.int .i64) (.sl (.sl (.int .i64))))))))))) (.pair (.int .i64) (.int .i64)))))] fun xs κ => bif modelB xs.1 then κ (.tup [argA (.int .i64) ((checkX xs.1).1), argA (.int .i64) ((checkX xs.1).2)]) else none
def h_checkY : Hand := handN [(.pair (.sl .str) (.pair (.sl (.sl (.int .i64))) (.pair (.sl (.pair (.int .i64) (.pair (.sl (.int .i64)) (.pair (.sl (.int .i64)) (.pair (.sl (.int .i64)) (.pair (.sl (.int .i64)) (.pair (.sl (.int .i64)) (.pair (.int .i64) (.sl (.sl (.int .i64))))))))))) (.pair (.int .i64) (.int .i64)))))] fun xs κ => bif modelB xs.1 then κ (.tup [argA (.int .i64) ((checkY xs.1).1), argA (.int .i64) ((checkY xs.1).2)]) else none
def h_wakes514 : Hand := handN [] fun xs κ => κ (argA .bool true)
end Go.Proofs.YtlfdikofmfhefaaGreatDoor.Ev
