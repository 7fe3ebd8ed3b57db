/-
Seat 'a': what the functions answer, as plain data: lists, solutions, the filters.
Conditions: none.
-/
import Derived.Test.YthdpbmcidebagaaGreatDoorAq
set_option linter.unusedVariables false
set_option linter.unusedSimpArgs false
set_option maxRecDepth 10000
namespace Go.Proofs.YthdpbmcidebagaaGreatDoor.Ev
open Go
def hasL (l : List Int) (v : Int) : Bool := l.any fun x => decide (x = v)
/-- A number put into a rising list. -/
def insR (v : Int) : List Int → List Int
  | [] => [v]
  | x :: xs => if x > v then v :: x :: xs else x :: insR v xs
def refGo : List Int → List Int → List Int
  | [], out => out
  | v :: xs, out => refGo xs (if hasL out v then out else insR v out)
def refOf (l : List Int) : List Int := refGo l []
def cutL (l : List Int) (most width : Int) : List Int := (l.take most.toNat).map fun v => v.tmod width
def smallL (l : List Int) (most width : Int) : List Int := refOf (cutL l most width)
def smallB (l : List Int) (most width : Int) : Bool := Nat.ble (cutL l most width).length 1000 && decide (width ≠ 0) && decide (0 ≤ most) && decide (most ≤ 1000) && okL (cutL l most width)
def domsL (l : List (List Int)) : List Dom := l.map fun x => (ofD x).1
def listsL (d : List Dom) : List (List Int) := d.map listD
def lensB (a : List (List Int)) : Bool := a.all fun x => Nat.ble x.length 1000000
def sameL (a b : List (List Int)) : Bool := decide (a = b)
def iota (a : Int) (n : Nat) : List Int := (List.range n).map fun (i : Nat) => a + (i : Int)
def localC (c : Con) : Con := (c.1, iota 0 c.2.1.length, iota c.2.1.length c.2.2.1.length, c.2.2.2)
def localB (c : Con) : Bool := Nat.ble c.2.1.length 1000 && Nat.ble c.2.2.1.length 1000
/-! ### rows -/
/-- Are there more than so many rows? -/
def manyGo (most : Int) : List (List Int) → Int → Bool
  | [], _ => false
  | l :: ds, n => if n * (l.length : Int) > most then true else manyGo most ds (n * (l.length : Int))
def manyL (d : List (List Int)) (most : Int) : Bool := manyGo most d 1
def prodN : List (List Int) → Nat
  | [] => 1
  | l :: ds => l.length * prodN ds
def rowR : List (List Int) → Nat → List Int
  | [], _ => []
  | l :: ds, k => l.getD (k % l.length) 0 :: rowR ds (k / l.length)
def rowOf (d : List (List Int)) (k : Nat) : List Int := (rowR d.reverse k).reverse
def prodL (d : List (List Int)) : List (List Int) := (List.range (prodN d)).map (rowOf d)
def productB (d : List (List Int)) (most : Int) : Bool := decide (0 ≤ most) && decide (most ≤ 100000) && Nat.ble d.length 1000 && d.all fun l => Nat.ble l.length 1000 && Nat.ble 1 l.length
/-! ### does a constraint hold? -/
def at0 (a : List Int) (l : List Int) (i : Nat) : Int := a.getD (l.getD i 0).toNat 0
def inB (a : List Int) (v : Int) : Bool := decide (0 ≤ v) && decide (v < a.length)
def threeB (c : Con) (a : List Int) : Bool := decide (c.1 = 11) && decide (c.2.1.length = 2) && inB a (c.2.1.getD 0 0) && inB a (c.2.1.getD 1 0) && Nat.ble c.2.2.2.1.length 1000
def threeC (c : Con) (a : List Int) : Bool := decide (at0 a c.2.1 0 ≥ 1) && decide (at0 a c.2.1 0 ≤ c.2.2.2.1.length) && decide (c.2.2.2.1.getD (at0 a c.2.1 0 - 1).toNat 0 = at0 a c.2.1 1)
def reifK (c : Con) : Bool := decide (c.1 = 13) || decide (c.1 = 14) || decide (c.1 = 15) || decide (c.1 = 16)
def logicB (c : Con) (a : List Int) : Bool := reifK c && decide (c.2.1.length = 1) && decide (c.2.2.1.length = 1) && inB a (c.2.1.getD 0 0) && inB a (c.2.2.1.getD 0 0)
def soC (c : Con) (v : Int) : Bool := if c.1 = 14 ∨ c.1 = 16 then decide (v ≤ c.2.2.2.2.2.2.1) else decide (v = c.2.2.2.2.2.2.1)
/-- What is reified, of two values. -/
def allowedC (c : Con) (v b : Int) : Bool := if b = 1 then soC c v else if c.1 = 15 ∨ c.1 = 16 then true else !soC c v
def logicC (c : Con) (a : List Int) : Bool := (decide (at0 a c.2.2.1 0 = 0) || decide (at0 a c.2.2.1 0 = 1)) && allowedC c (at0 a c.2.1 0) (at0 a c.2.2.1 0)
def holdsB (c : Con) (a : List Int) : Bool := threeB c a || logicB c a
def holdsC (c : Con) (a : List Int) : Bool := if c.1 = 11 then threeC c a else logicC c a
def solL (c : Con) (d : List (List Int)) (most : Int) : List (List Int) × Bool := bif manyL d most then ([], false) else ((prodL d).filter (holdsC (localC c)), true)
def exactGo (rows d : List (List Int)) : List (List Int) := (List.range d.length).map fun i => (d.getD i []).filter fun v => rows.any fun r => decide (r.getD i 0 = v)
def exactL (c : Con) (d : List (List Int)) (most : Int) : List (List Int) × Bool := if (solL c d most).1.length = 0 then ([], false) else (exactGo (solL c d most).1 d, true)
/-! ### plain constraints -/
def placesL (l : List Int) (n vars : Int) : List Int := (List.range n.toNat).map fun (i : Nat) => (if i < l.length then IntKind.i64.wrap (l.getD i 0) else (i : Int)).tmod vars
def placesB (l : List Int) (n vars : Int) : Bool := decide (0 ≤ n) && decide (n ≤ 1000) && decide (vars ≠ 0)
def numR (v least wide : Int) : Int := if v.tmod wide < 0 ∧ least ≥ 0 then IntKind.i64.wrap (0 - v.tmod wide) else v.tmod wide
def numbersL (l : List Int) (from_ n least wide : Int) : List Int := (List.range n.toNat).map fun (i : Nat) => numR (if from_ + (i : Int) < l.length then IntKind.i64.wrap (l.getD (from_ + (i : Int)).toNat 0) else 1) least wide
def numbersB (l : List Int) (from_ n least wide : Int) : Bool := decide (0 ≤ from_) && decide (from_ ≤ 100000) && decide (0 ≤ n) && decide (n ≤ 1000) && decide (wide ≠ 0)
/-! ### the filters -/
def fitsB (c : Con) (f l : Int) : Bool := !(decide (f ≤ c.1) && decide (c.1 ≤ l)) || kindB c
def lenCB (c : Con) (n : Nat) : Bool := decide (n = c.2.1.length + c.2.2.1.length)
def fitsD (c : Con) (d : List Dom) (f l : Int) : Bool := decide (f ≤ c.1) && decide (c.1 ≤ l) && decide (rightM c 256 = 0) && lenCB c d.length && !(List.any d emptyD)
def fitsR (c : Con) (d : List (List Int)) (f l : Int) : Bool := decide (f ≤ c.1) && decide (c.1 ≤ l) && decide (rightR c 256 = 0) && lenCB c d.length && d.all fun x => decide (x.length ≠ 0)
def madeAll (l : List (List Int)) : List Dom × Bool := bif l.all okL then (domsL l, true) else ([], false)
def dom0 : Dom := (0, [], 0, 0, 0)
def elemGo (d0 d1 : Dom) : Int → List Int → List Int × List Int
  | _, [] => ([], [])
  | i, v :: vs => if hasD d0 (i + 1) && hasD d1 v then ((i + 1) :: (elemGo d0 d1 (i + 1) vs).1, v :: (elemGo d0 d1 (i + 1) vs).2) else elemGo d0 d1 (i + 1) vs
def elemF (c : Con) (d : List Dom) : List Dom × Bool := bif fitsD c d 11 11 then madeAll [(elemGo (d.getD 0 dom0) (d.getD 1 dom0) 0 c.2.2.2.1).1, (elemGo (d.getD 0 dom0) (d.getD 1 dom0) 0 c.2.2.2.1).2] else ([], false)
def filtB (f l : Int) (c : Con) (d : List Dom) : Bool := fitsB c f l && d.all listB
def reifB (c : Con) (d1 : Dom) (v b : Int) : Bool := hasD d1 b && allowedC c v b
def reifV (c : Con) (d1 : Dom) (v : Int) : List Int := (if reifB c d1 v 0 then [0] else []) ++ (if reifB c d1 v 1 then [1] else [])
def reifXs (c : Con) (d1 : Dom) (l : List Int) : List Int := l.flatMap fun v => (reifV c d1 v).map fun _ => v
def reifBs (c : Con) (d1 : Dom) (l : List Int) : List Int := l.flatMap fun v => reifV c d1 v
def reifF (c : Con) (d : List Dom) : List Dom × Bool := bif fitsD c d 13 16 then madeAll [reifXs c (d.getD 1 dom0) (listD (d.getD 0 dom0)), reifBs c (d.getD 1 dom0) (listD (d.getD 0 dom0))] else ([], false)
/-! ### constraints and domains made of plain data -/
abbrev Small := Int × List Int × List Int × List Int × Int × Int
abbrev Case := Small × List (List Int)
def conC (z : Small) (v : Int) : Con := if z.1 = 10 then (11, placesL z.2.1 2 v, [], numbersL z.2.2.2.1 0 (IntKind.i64.wrap (1 + ((z.2.2.2.1.length : Int).tmod 5))) (-1) 5, [], [], 0, [])
  else (z.1 + 1, placesL z.2.1 1 v, placesL z.2.2.1 1 v, [], [], [], (IntKind.i64.wrap z.2.2.2.2.1).tmod 12, [])
def pickL (d : List (List Int)) (i : Nat) : List Int := if i < d.length ∧ (d.getD i []).length > 0 then d.getD i [] else [(i : Int).tmod 3, 1]
end Go.Proofs.YthdpbmcidebagaaGreatDoor.Ev
