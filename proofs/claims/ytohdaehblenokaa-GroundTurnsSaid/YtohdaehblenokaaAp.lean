/-
Seat 'a': words and domains as plain data: their bits, their lists, how they are made of numbers.
Conditions: none.
Seat 'a': what the functions answer, as plain data: constraints, and whether they may be.
Conditions: none.
Seat 'a': what the functions answer, as plain data: lists, solutions, the filters.
Conditions: none.
Seat 'a': a word that isn't 0 has bits: what OnesCount64 answers; a domain that isn't empty has a size.
Conditions: none.
Constraints of all kinds: whether they may be, whether they hold of values: plain data.
Conditions: none.
-/
import Derived.Test.YtohdaehblenokaaEvR
import Derived.Lib.TrailingZeros
import Derived.Laws.Bits64b
import Derived.Lib.Bytealg
import Derived.Lib.SlicesCompact
set_option linter.unusedVariables false
set_option linter.unusedSimpArgs false
namespace Go.Proofs.Ytohdaehblenokaa.Ev
open Go
abbrev Dom := Int × List Int × Int × Int × Int
abbrev DomT : Ty := .pair (.int .i64) (.pair (.sl (.int .u64)) (.pair (.int .i64) (.pair (.int .i64) (.int .i64))))
def U (w : Int) : Prop := 0 ≤ w ∧ w < 18446744073709551616
def tb (w : Int) (i : Nat) : Bool := w.toNat.testBit i
abbrev Rising (l : List Int) : Prop := l.Pairwise (· < ·)
def placeD (v : Int) : Int := bitsW .andNot .i64 v 63
def zerosD (lo hi : Int) : List Int := List.replicate ((placeD hi - placeD lo) / 64 + 1).toNat 0
structure Wf (d : Dom) : Prop where
  off : d.1 % 64 = 0
  lo : -1000064 ≤ d.1
  hi : d.1 ≤ 1000000
  ws : ∀ w ∈ d.2.1, U w
  len : d.2.1.length ≤ 40000
def maxF (m : Int) (xs : List Int) : Int := xs.foldl (fun m y => if y > m then y else m) m
def minF (m : Int) (xs : List Int) : Int := xs.foldl (fun m y => if y < m then y else m) m
def maxL (xs : List Int) : Int := maxF (xs.getD 0 0) (xs.drop 1)
def minL (xs : List Int) : Int := minF (xs.getD 0 0) (xs.drop 1)
structure OkL (xs : List Int) : Prop where
  lo : -1000000 ≤ minL xs
  hi : maxL xs ≤ 1000000
  le : minL xs ≤ maxL xs
  wide : maxL xs - minL xs < 65536
  pl : placeD (minL xs) = minL xs / 64 * 64
  ph : placeD (maxL xs) = maxL xs / 64 * 64
  len : (zerosD (minL xs) (maxL xs)).length = (maxL xs / 64 - minL xs / 64 + 1).toNat
  fit : ∀ v ∈ xs, placeD (minL xs) ≤ v ∧ (v - placeD (minL xs)) / 64 < (zerosD (minL xs) (maxL xs)).length
end Go.Proofs.Ytohdaehblenokaa.Ev
set_option linter.unusedVariables false
set_option linter.unusedSimpArgs false
set_option maxRecDepth 10000
namespace Go.Proofs.Ytohdaehblenokaa.Ev
open Go
abbrev Con := Int × List Int × List Int × List Int × List Int × List Int × Int × List (List Int)
abbrev LI : Ty := .sl (.int .i64)
abbrev ConT : Ty := .pair (.int .i64) (.pair LI (.pair LI (.pair LI (.pair LI (.pair LI (.pair (.int .i64) (.sl LI)))))))
abbrev bC (a : Int) (b c d e f : List Int) (g : Int) (h : List (List Int)) : List AV := [.v (.int .i64) a, .v (.sl (.int .i64)) b, .v (.sl (.int .i64)) c, .v (.sl (.int .i64)) d, .v (.sl (.int .i64)) e, .v (.sl (.int .i64)) f, .v (.int .i64) g, .v (.sl (.sl (.int .i64))) h]
def idx {α : Type} (p : α → Bool) : List α → Int → Int
 | [], _ => -1
 | x :: xs, i => bif p x then i else idx p xs (i + 1)
def idxI (s : ByteArray) (c : Int) : Int := Lib.indexByte s.data.toList c.toNat.toUInt8
def cntI (s : ByteArray) (c : Int) : Int := (Lib.countByte s.data.toList c.toNat.toUInt8 : Nat)
def idxJ (s : ByteArray) (c : Int) : Int := idxI s c
def idx1 (s u : ByteArray) : Int := bif strEq u s then 0 else idxI s (byteW u 0)
def idx2 (s u : ByteArray) : Int := idx1 s u
def has1 (s u : ByteArray) : Bool := decide (idx2 s u ≥ 0)
def cnt1 (s u : ByteArray) : Int := cntI s (byteW u 0)
def shapesL : List ByteArray := [⟨#[]⟩, ⟨#[99, 86, 107]⟩, ⟨#[99, 86, 107]⟩, ⟨#[99, 86, 107]⟩, ⟨#[99, 86, 107, 119]⟩, ⟨#[118, 118, 118]⟩, ⟨#[118, 118, 118]⟩, ⟨#[118, 118, 118]⟩, ⟨#[118, 118]⟩, ⟨#[118, 118, 118]⟩, ⟨#[118, 118, 118]⟩, ⟨#[118, 99, 118]⟩, ⟨#[86, 87]⟩, ⟨#[118, 107, 119]⟩, ⟨#[118, 107, 119]⟩, ⟨#[118, 107, 119]⟩, ⟨#[118, 107, 119]⟩, ⟨#[86]⟩, ⟨#[86, 114]⟩, ⟨#[86, 99, 100, 107]⟩, ⟨#[86]⟩, ⟨#[86, 99, 100, 101]⟩, ⟨#[86, 87]⟩, ⟨#[86, 87]⟩]
def formsL : List (ByteArray × ByteArray) := [(⟨#[108, 105, 110, 95, 101, 113]⟩, ⟨#[99, 86, 107]⟩), (⟨#[108, 105, 110, 95, 108, 101]⟩, ⟨#[99, 86, 107]⟩), (⟨#[108, 105, 110, 95, 110, 101]⟩, ⟨#[99, 86, 107]⟩), (⟨#[108, 105, 110, 95, 114, 101, 105, 102]⟩, ⟨#[99, 86, 107, 119]⟩), (⟨#[116, 105, 109, 101, 115]⟩, ⟨#[118, 118, 118]⟩), (⟨#[100, 105, 118]⟩, ⟨#[118, 118, 118]⟩), (⟨#[109, 111, 100]⟩, ⟨#[118, 118, 118]⟩), (⟨#[97, 98, 115]⟩, ⟨#[118, 118]⟩), (⟨#[109, 105, 110]⟩, ⟨#[118, 118, 118]⟩), (⟨#[109, 97, 120]⟩, ⟨#[118, 118, 118]⟩), (⟨#[101, 108, 101, 109, 101, 110, 116]⟩, ⟨#[118, 99, 118]⟩), (⟨#[99, 108, 97, 117, 115, 101]⟩, ⟨#[86, 87]⟩), (⟨#[101, 113, 95, 114, 101, 105, 102]⟩, ⟨#[118, 107, 119]⟩), (⟨#[108, 101, 95, 114, 101, 105, 102]⟩, ⟨#[118, 107, 119]⟩), (⟨#[101, 113, 95, 105, 109, 112]⟩, ⟨#[118, 107, 119]⟩), (⟨#[108, 101, 95, 105, 109, 112]⟩, ⟨#[118, 107, 119]⟩), (⟨#[97, 108, 108, 95, 100, 105, 102, 102, 101, 114, 101, 110, 116]⟩, ⟨#[86]⟩), (⟨#[116, 97, 98, 108, 101]⟩, ⟨#[86, 114]⟩), (⟨#[99, 117, 109, 117, 108, 97, 116, 105, 118, 101]⟩, ⟨#[86, 99, 100, 107]⟩), (⟨#[99, 105, 114, 99, 117, 105, 116]⟩, ⟨#[86]⟩), (⟨#[103, 99, 99]⟩, ⟨#[86, 99, 100, 101]⟩), (⟨#[108, 101, 120, 95, 108, 101]⟩, ⟨#[86, 87]⟩), (⟨#[105, 110, 118, 101, 114, 115, 101]⟩, ⟨#[86, 87]⟩)]
def inS (k : Int) : Bool := decide (1 ≤ k) && decide (k ≤ 23)
def wordS (k : Int) : ByteArray := bif inS k then (formsL.getD (k - 1).toNat (ByteArray.empty, ByteArray.empty)).1 else ⟨#[]⟩
def shapeS (k : Int) : ByteArray := bif inS k then (formsL.getD (k - 1).toNat (ByteArray.empty, ByteArray.empty)).2 else ⟨#[]⟩
def withinD (n a b : Int) : Bool := decide (n ≥ a) && decide (n ≤ b)
def namedD (n : Int) (s o a : ByteArray) : Bool := bif has1 s a then withinD n 1 64 else decide (n = cnt1 s o)
def varsB (c : Con) : Bool := decide (0 < (c.2.1.length : Int) + c.2.2.1.length) && decide ((c.2.1.length : Int) + c.2.2.1.length ≤ 1000)
def varsD (c : Con) : List Int := c.2.1 ++ c.2.2.1
def concatL (l : List (List Int)) : List Int := l.flatten
def concatB (l : List (List Int)) : Bool := decide (0 < (l.flatten.length : Int)) && decide ((l.flatten.length : Int) ≤ 1000) && decide (l.length = 2)
def growB (n : Int) : Bool := decide (0 < n) && decide (n ≤ 1000000)
def varB (z v : Int) : Bool := decide (v < 0) || decide (v ≥ z)
def numB (z v : Int) : Bool := decide (v < z) || decide (v > 1000000)
def rowN (c : Con) (r : List Int) : Bool := !(decide ((r.length : Int) = (c.2.1.length : Int)))
def boundedD (l : List Int) (m : Int) : Bool := !(List.any l (numB m))
def inL (l : List Int) (lo hi : Int) : Bool := !(List.any l fun v => decide (v < lo) || decide (v > hi))
def hasGo (s : ByteArray) (c : Int) : List Nat → Int → Int
 | [], n => n
 | i :: is, n => hasGo s c is (if byteW s i = c then n + 1 else n)
def hasB (s : ByteArray) (c : Int) : Int := hasGo s c (List.range s.size) 0
def listB1 (n one all : Int) : Bool := bif decide (all > 0) then decide (n ≥ 1) && decide (n ≤ 64) else decide (n = one)
end Go.Proofs.Ytohdaehblenokaa.Ev
set_option linter.unusedVariables false
set_option linter.unusedSimpArgs false
set_option maxRecDepth 10000
namespace Go.Proofs.Ytohdaehblenokaa.Ev
open Go
def indexL (xs : List Int) (v : Int) : Int := idx (fun x => decide (v = x)) xs 0
def containsL (xs : List Int) (v : Int) : Bool := decide (indexL xs v ≥ 0)
def iota (a : Int) (n : Nat) : List Int := (List.range n).map fun (i : Nat) => a + (i : Int)
def localC (c : Con) : Con := (c.1, iota 0 c.2.1.length, iota c.2.1.length c.2.2.1.length, c.2.2.2)
def localB (c : Con) : Bool := Nat.ble c.2.1.length 1000 && Nat.ble c.2.2.1.length 1000
def manyGo (most : Int) : List (List Int) → Int → Bool
 | [], _ => false
 | l :: ds, n => if n * (l.length : Int) > most then true else manyGo most ds (n * (l.length : Int))
def manyL (d : List (List Int)) (most : Int) : Bool := manyGo most d 1
def prodN : List (List Int) → Nat
 | [] => 1
 | l :: ds => l.length * prodN ds
def rowR : List (List Int) → Nat → List Int
 | [], _ => []
 | l :: ds, k => l.getD (k % l.length) 0 :: rowR ds (k / l.length)
def rowOf (d : List (List Int)) (k : Nat) : List Int := (rowR d.reverse k).reverse
def prodL (d : List (List Int)) : List (List Int) := (List.range (prodN d)).map (rowOf d)
def productB (d : List (List Int)) (most : Int) : Bool := decide (0 ≤ most) && decide (most ≤ 100000) && Nat.ble d.length 1000 && d.all fun l => Nat.ble l.length 1000 && Nat.ble 1 l.length
def at0 (a : List Int) (l : List Int) (i : Nat) : Int := a.getD (l.getD i 0).toNat 0
def inB (a : List Int) (v : Int) : Bool := decide (0 ≤ v) && decide (v < a.length)
def rowB (c : Con) (a : List Int) : Bool := decide (c.1 = 18) && Nat.ble c.2.1.length 1000 && Nat.ble c.2.2.2.2.2.2.2.length 10000 && c.2.1.all (inB a) && c.2.2.2.2.2.2.2.all fun r => decide (r.length = c.2.1.length)
def millB (v : Int) : Bool := decide (-1000000 ≤ v) && decide (v ≤ 1000000)
def sumB (c : Con) (a : List Int) : Bool := Nat.ble c.2.1.length 1000 && decide (c.2.2.2.1.length = c.2.1.length) && c.2.1.all (inB a) && c.2.2.2.1.all millB && a.all millB
def linB (c : Con) (a : List Int) : Bool := (decide (1 ≤ c.1) && decide (c.1 ≤ 4)) && sumB c a && (!(decide (c.1 = 4)) || (decide (0 < c.2.2.1.length) && inB a (c.2.2.1.getD 0 0)))
def pairB (c : Con) (a : List Int) : Bool := decide (c.1 = 22) && Nat.ble c.2.1.length 1000 && decide (c.2.2.1.length = c.2.1.length) && c.2.1.all (inB a) && c.2.2.1.all (inB a)
def holdsB (c : Con) (a : List Int) : Bool := linB c a || (false && rowB c a) || (false && pairB c a)
def placesL (l : List Int) (n vars : Int) : List Int := (List.range n.toNat).map fun (i : Nat) => (if i < l.length then IntKind.i64.wrap (l.getD i 0) else (i : Int)).tmod vars
def placesB (l : List Int) (n vars : Int) : Bool := decide (0 ≤ n) && decide (n ≤ 1000) && decide (vars ≠ 0)
def numR (v least wide : Int) : Int := if v.tmod wide < 0 ∧ least ≥ 0 then IntKind.i64.wrap (0 - v.tmod wide) else v.tmod wide
def numbersL (l : List Int) (from_ n least wide : Int) : List Int := (List.range n.toNat).map fun (i : Nat) => numR (if from_ + (i : Int) < l.length then IntKind.i64.wrap (l.getD (from_ + (i : Int)).toNat 0) else 1) least wide
def numbersB (l : List Int) (from_ n least wide : Int) : Bool := decide (0 ≤ from_) && decide (from_ ≤ 100000) && decide (0 ≤ n) && decide (n ≤ 1000) && decide (wide ≠ 0)
abbrev Small := Int × List Int × List Int × List Int × Int × Int
abbrev Case := Small × List (List Int)
end Go.Proofs.Ytohdaehblenokaa.Ev
set_option linter.unusedVariables false
set_option linter.unusedSimpArgs false
set_option maxRecDepth 100000
namespace Go.Proofs.Ytohdaehblenokaa.Ev
open Go
def val : List Nat → Nat
 | [] => 0
 | b :: bs => b + 256 * val bs
def g1 (b : Nat) : Nat := ((b / 2) &&& 85) + (b &&& 85)
def g2 (b : Nat) : Nat := ((b / 4) &&& 51) + (b &&& 51)
def g3 (b : Nat) : Nat := (b / 16 + b) % 16
def g (b : Nat) : Nat := g3 (g2 (g1 b))
end Go.Proofs.Ytohdaehblenokaa.Ev
set_option linter.unusedVariables false
namespace Go.Proofs.Ytohdaehblenokaa.Ev
open Go
def smallC (c : Con) : Bool := Nat.ble c.2.1.length 1000 && Nat.ble c.2.2.1.length 1000 && Nat.ble c.2.2.2.1.length 1000 && Nat.ble c.2.2.2.2.1.length 1000 && Nat.ble c.2.2.2.2.2.1.length 1000 && Nat.ble c.2.2.2.2.2.2.2.length 1000
def countedG (c : Con) (s : ByteArray) : Bool :=
 bif decide (c.1 = 12) then withinD ((c.2.1.length : Int) + (c.2.2.1.length : Int)) 1 128 && (decide ((c.2.1.length : Int) ≤ 64) && decide ((c.2.2.1.length : Int) ≤ 64)) && decide ((c.2.2.2.1.length : Int) + (c.2.2.2.2.1.length : Int) + (c.2.2.2.2.2.1.length : Int) + (c.2.2.2.2.2.2.2.length : Int) = 0)
 else (bif has1 s ⟨#[114]⟩ then withinD (c.2.2.2.2.2.2.2.length : Int) 1 1024 else decide ((c.2.2.2.2.2.2.2.length : Int) = 0)) && (namedD (c.2.1.length : Int) s ⟨#[118]⟩ ⟨#[86]⟩ && (namedD (c.2.2.1.length : Int) s ⟨#[119]⟩ ⟨#[87]⟩ &&
  (namedD (c.2.2.2.1.length : Int) s ⟨#[45]⟩ ⟨#[99]⟩ && (namedD (c.2.2.2.2.1.length : Int) s ⟨#[45]⟩ ⟨#[100]⟩ && namedD (c.2.2.2.2.2.1.length : Int) s ⟨#[45]⟩ ⟨#[101]⟩))))
def alikeG (c : Con) : Bool :=
 bif decide (c.1 = 1) then decide ((c.2.2.2.1.length : Int) = (c.2.1.length : Int))
 else bif decide (c.1 = 2) then decide ((c.2.2.2.1.length : Int) = (c.2.1.length : Int))
 else bif decide (c.1 = 3) then decide ((c.2.2.2.1.length : Int) = (c.2.1.length : Int))
 else bif decide (c.1 = 4) then decide ((c.2.2.2.1.length : Int) = (c.2.1.length : Int))
 else bif decide (c.1 = 19) then decide ((c.2.2.2.1.length : Int) = (c.2.1.length : Int)) && decide ((c.2.2.2.2.1.length : Int) = (c.2.1.length : Int))
 else bif decide (c.1 = 21) then decide ((c.2.2.2.2.1.length : Int) = (c.2.2.2.1.length : Int)) && decide ((c.2.2.2.2.2.1.length : Int) = (c.2.2.2.1.length : Int))
 else bif decide (c.1 = 22) then decide ((c.2.2.1.length : Int) = (c.2.1.length : Int))
 else bif decide (c.1 = 23) then decide ((c.2.2.1.length : Int) = (c.2.1.length : Int))
 else bif decide (c.1 = 18) then !(List.any c.2.2.2.2.2.2.2 (rowN c)) else true
def loG (c : Con) : Int := if c.1 = 19 then 0 else -1000000
def seG (c : Con) : Int := if c.1 = 19 then 0 else if c.1 = 21 then 0 else -1000000
def kaG (c : Con) : Int := if c.1 = 19 then 0 else -9999999999
def numbersG (c : Con) : Bool := !(List.any c.2.2.2.2.2.2.2 fun r => !(boundedD r (loG c))) && (boundedD c.2.2.2.1 (loG c) && (boundedD c.2.2.2.2.1 (seG c) && (boundedD c.2.2.2.2.2.1 (seG c) && (decide (c.2.2.2.2.2.2.1 ≥ kaG c) && decide (c.2.2.2.2.2.2.1 ≤ 9999999999)))))
def sortL (l : List Int) : List Int := l.mergeSort fun x y => decide (x ≤ y)
def sortB (l : List Int) : Bool := !(List.isEmpty l) && Nat.ble (List.length l) 1000
def compL (l : List Int) : List Int := Lib.compact l
def cntP (C D E S : List Int) (i : Nat) : Bool := decide (D.getD i 0 > E.getD i 0) || (decide ((i : Int) > 0) && decide (S.getD i 0 = S.getD (i - 1) 0))
def countsG (c : Con) : Bool := bif decide (c.1 = 21) then !((List.range c.2.2.2.1.length).any (cntP c.2.2.2.1 c.2.2.2.2.1 c.2.2.2.2.2.1 (sortL c.2.2.2.1))) else true
def countsB (c : Con) : Bool := !(decide (c.1 = 21)) || (sortB c.2.2.2.1 && decide (c.2.2.2.2.1.length = c.2.2.2.1.length) && decide (c.2.2.2.2.2.1.length = c.2.2.2.1.length))
def rightG (c : Con) (n : Int) : Int :=
 bif strEq (shapeS c.1) ⟨#[]⟩ then 9 else bif !(countedG c (shapeS c.1) && alikeG c && (decide (c.2.2.2.2.2.2.1 = 0) || has1 (shapeS c.1) ⟨#[107]⟩)) then 10 else bif List.any (varsD c) (varB n) then 7 else bif !(numbersG c && countsG c) then 11 else 0
def arityG (c : Con) (s : ByteArray) : Bool :=
 (decide (c.2.2.2.2.2.2.1 = 0) || !(decide (hasB s 107 = 0))) &&
 bif decide (c.1 = 12) then decide ((c.2.1.length : Int) + (c.2.2.1.length : Int) ≥ 1) && (decide ((c.2.1.length : Int) ≤ 64) && (decide ((c.2.2.1.length : Int) ≤ 64) && (decide ((c.2.2.2.1.length : Int) = 0) && (decide ((c.2.2.2.2.1.length : Int) = 0) && (decide ((c.2.2.2.2.2.1.length : Int) = 0) && decide ((c.2.2.2.2.2.2.2.length : Int) = 0))))))
 else listB1 (c.2.1.length : Int) (hasB s 118) (hasB s 86) && (listB1 (c.2.2.1.length : Int) (hasB s 119) (hasB s 87) && (listB1 (c.2.2.2.1.length : Int) 0 (hasB s 99) && (listB1 (c.2.2.2.2.1.length : Int) 0 (hasB s 100) && (listB1 (c.2.2.2.2.2.1.length : Int) 0 (hasB s 101) &&
  (!((decide (hasB s 114 = 0) && decide ((c.2.2.2.2.2.2.2.length : Int) > 0)) || (decide (hasB s 114 > 0) && (decide ((c.2.2.2.2.2.2.2.length : Int) < 1) || decide ((c.2.2.2.2.2.2.2.length : Int) > 1024)))) &&
  (!(decide (c.1 ≤ 4) && !(decide ((c.2.2.2.1.length : Int) = (c.2.1.length : Int)))) &&
  (!((decide (c.1 = 19) && (!(decide ((c.2.2.2.1.length : Int) = (c.2.1.length : Int))) || !(decide ((c.2.2.2.2.1.length : Int) = (c.2.1.length : Int))))) ||
   ((decide (c.1 = 21) && (!(decide ((c.2.2.2.2.1.length : Int) = (c.2.2.2.1.length : Int))) || !(decide ((c.2.2.2.2.2.1.length : Int) = (c.2.2.2.1.length : Int))))) || (decide (c.1 ≥ 22) && !(decide ((c.2.2.1.length : Int) = (c.2.1.length : Int)))))) &&
  !(List.any c.2.2.2.2.2.2.2 (rowN c)))))))))
def loY (c : Con) : Int := if c.1 = 19 then 0 else -1000000
def seY (c : Con) : Int := if c.1 = 21 then 0 else if c.1 = 19 then 0 else -1000000
def kaY (c : Con) : Int := if c.1 = 19 then 0 else -9999999999
def twiceY (C : List Int) (i : Nat) : Bool := (List.range i).any fun j => decide (C.getD i 0 = C.getD j 0)
def coefsG (c : Con) : Bool := inL c.2.2.2.1 (loY c) 1000000 && (inL c.2.2.2.2.1 (seY c) 1000000 && (inL c.2.2.2.2.2.1 (seY c) 1000000 && (!(decide (c.2.2.2.2.2.2.1 < kaY c)) && (!(decide (c.2.2.2.2.2.2.1 > 9999999999)) &&
 (!(List.any c.2.2.2.2.2.2.2 fun r => !(inL r (-1000000) 1000000)) && !(decide (c.1 = 21) && (List.range c.2.2.2.1.length).any fun i => decide (c.2.2.2.2.1.getD i 0 > c.2.2.2.2.2.1.getD i 0) || twiceY c.2.2.2.1 i))))))
def hiY (n : Int) : Int := if n > 0 then n - 1 else -1
def rightD (c : Con) (n : Int) : Int :=
 bif decide (c.1 < 1) || decide (c.1 > 23) then 9 else bif !(arityG c (shapesL.getD c.1.toNat ByteArray.empty)) then 10 else bif !(inL c.2.1 0 (hiY n) && inL c.2.2.1 0 (hiY n)) then 7 else bif !(coefsG c) then 11 else 0
def farB (v : Int) : Bool := decide (v < -1000000) || decide (v > 1000000)
def rowEqB (x r : List Int) : Bool := decide (r = x)
def eqL (a b : List Int) : Bool := decide (a = b)
def valuesL (l a : List Int) : List Int := l.map fun v => a.getD v.toNat 0
def placesB1 (l a : List Int) : Bool := Nat.ble l.length 1000 && l.all (inB a)
def millsB (l : List Int) : Bool := Nat.ble l.length 1000 && l.all millB
def dotL : List Int → List Int → Int
 | k :: ks, v :: vs => k * v + dotL ks vs
 | _, _ => 0
def truthB (b : Int) (so : Bool) : Bool := (decide (b = 0) && !so) || (decide (b = 1) && so)
def impliedB (b : Int) (so : Bool) : Bool := decide (b = 0) || (decide (b = 1) && so)
def loadGo (t : Int) : List Int → List Int → List Int → Int
 | x :: xs, c :: cs, d :: ds => (if x ≤ t ∧ t < x + c then d else 0) + loadGo t xs cs ds
 | _, _, _ => 0
def fitL (C D : List Int) (K : Int) (x : List Int) : Bool := x.all fun t => decide (loadGo t x C D ≤ K)
def fitLB (C D x : List Int) : Bool := millsB C && millsB D && millsB x && decide (C.length = x.length) && decide (D.length = x.length)
def cntL (x : List Int) (v : Int) : Int := ((x.filter fun w => decide (w = v)).length : Int)
def gccL (C D E x : List Int) : Bool := !((List.range C.length).any fun i => decide (cntL x (C.getD i 0) < D.getD i 0) || decide (cntL x (C.getD i 0) > E.getD i 0))
def gccLB (C D E x : List Int) : Bool := Nat.ble C.length 1000 && Nat.ble x.length 1000 && decide (D.length = C.length) && decide (E.length = C.length)
def sumX (c : Con) (x : List Int) : Int := dotL c.2.2.2.1 x
def sumXB (c : Con) (x : List Int) : Bool := millsB c.2.2.2.1 && millsB x && decide (c.2.2.2.1.length = x.length)
def logicX (c : Con) (x y : List Int) : Bool :=
 bif decide (c.1 = 4) then truthB (y.getD 0 0) (decide (sumX c x ≤ c.2.2.2.2.2.2.1)) else bif decide (c.1 = 13) then truthB (y.getD 0 0) (decide (x.getD 0 0 = c.2.2.2.2.2.2.1)) else bif decide (c.1 = 14) then truthB (y.getD 0 0) (decide (x.getD 0 0 ≤ c.2.2.2.2.2.2.1)) else
 bif decide (c.1 = 15) then impliedB (y.getD 0 0) (decide (x.getD 0 0 = c.2.2.2.2.2.2.1)) else bif decide (c.1 = 16) then impliedB (y.getD 0 0) (decide (x.getD 0 0 ≤ c.2.2.2.2.2.2.1)) else containsL x 1 || containsL y 0
def logicXB (c : Con) (x y : List Int) : Bool :=
 bif decide (c.1 = 4) then decide (0 < y.length) && sumXB c x else bif decide (13 ≤ c.1) && decide (c.1 ≤ 16) then decide (0 < x.length) && decide (0 < y.length) else true
def apartX (x : List Int) : Bool := decide (((compL (sortL x)).length : Int) = (x.length : Int))
def roundGo (x : List Int) : Nat → Int → Nat → Bool
 | 0, _, _ => false
 | m + 1, i, n => let v := x.getD (i - 1).toNat 0; if v < 1 ∨ v > (x.length : Int) then false else if v = 1 then decide (n = x.length) else roundGo x m v (n + 1)
def roundX (x : List Int) : Bool := roundGo x x.length 1 1
def fitsX (c : Con) (x : List Int) : Bool := fitL c.2.2.2.1 c.2.2.2.2.1 c.2.2.2.2.2.2.1 x
def fitsXB (c : Con) (x : List Int) : Bool := fitLB c.2.2.2.1 c.2.2.2.2.1 x
def countedX (c : Con) (x : List Int) : Bool := gccL c.2.2.2.1 c.2.2.2.2.1 c.2.2.2.2.2.1 x
def countedXB (c : Con) (x : List Int) : Bool := gccLB c.2.2.2.1 c.2.2.2.2.1 c.2.2.2.2.2.1 x
def cmpI (a b : Int) : Int := if a < b then -1 else if a > b then 1 else 0
def cmpX : List Int → List Int → Int
 | x :: xs, y :: ys => if x < y then -1 else if x > y then 1 else cmpX xs ys
 | [], [] => 0
 | [], _ :: _ => -1
 | _ :: _, [] => 1
def cmpXB (x y : List Int) : Bool := Nat.ble x.length 1000 && decide (y.length = x.length)
def inverseX (x y : List Int) : Bool := !((List.range x.length).any fun i => decide (x.getD i 0 < 1) || (decide (x.getD i 0 > (y.length : Int)) || !(decide (y.getD (x.getD i 0 - 1).toNat 0 = (i : Int) + 1))))
def arithX (c : Con) (x : List Int) : Bool :=
 bif decide (c.1 = 5) then decide (x.getD 0 0 * x.getD 1 0 = x.getD 2 0) else bif decide (c.1 = 6) then !(decide (x.getD 1 0 = 0)) && decide ((x.getD 0 0).tdiv (x.getD 1 0) = x.getD 2 0) else bif decide (c.1 = 7) then !(decide (x.getD 1 0 = 0)) && decide ((x.getD 0 0).tmod (x.getD 1 0) = x.getD 2 0) else
 bif decide (c.1 = 8) then decide ((if x.getD 0 0 < -(x.getD 0 0) then -(x.getD 0 0) else x.getD 0 0) = x.getD 1 0) else bif decide (c.1 = 9) then decide ((if x.getD 1 0 < x.getD 0 0 then x.getD 1 0 else x.getD 0 0) = x.getD 2 0) else
 bif decide (c.1 = 10) then decide ((if x.getD 1 0 > x.getD 0 0 then x.getD 1 0 else x.getD 0 0) = x.getD 2 0) else
 decide (x.getD 0 0 ≥ 1) && (decide (x.getD 0 0 ≤ (c.2.2.2.1.length : Int)) && decide (c.2.2.2.1.getD (x.getD 0 0 - 1).toNat 0 = x.getD 1 0))
def arithXB (c : Con) (x : List Int) : Bool := millsB x && (bif decide (c.1 = 8) || !(decide (5 ≤ c.1) && decide (c.1 ≤ 10)) then decide (2 ≤ x.length) else decide (3 ≤ x.length))
def bodyX (c : Con) (x y : List Int) : Bool :=
 bif decide (c.1 = 1) then decide (sumX c x = c.2.2.2.2.2.2.1) else bif decide (c.1 = 2) then decide (sumX c x ≤ c.2.2.2.2.2.2.1) else bif decide (c.1 = 3) then !(decide (sumX c x = c.2.2.2.2.2.2.1)) else
 bif decide (c.1 = 4) || (decide (c.1 = 12) || (decide (13 ≤ c.1) && decide (c.1 ≤ 16))) then logicX c x y else bif decide (c.1 = 17) then apartX x else bif decide (c.1 = 18) then List.any c.2.2.2.2.2.2.2 (rowEqB x) else
 bif decide (c.1 = 19) then fitsX c x else bif decide (c.1 = 20) then roundX x else bif decide (c.1 = 21) then countedX c x else bif decide (c.1 = 22) then decide (cmpX x y ≤ 0) else bif decide (c.1 = 23) then inverseX x y else arithX c x
def holdsX (c : Con) (a : List Int) : Bool := bif !(decide (rightG c (a.length : Int) = 0)) || List.any a farB then false else bodyX c (valuesL c.2.1 a) (valuesL c.2.2.1 a)
def holdsXB (c : Con) (a : List Int) : Bool := smallC c && Nat.ble a.length 1000
def sumY (c : Con) (a : List Int) : Int := dotL c.2.2.2.1 (valuesL c.2.1 a)
def linearY (c : Con) (a : List Int) : Bool := if c.1 = 1 then decide (sumY c a = c.2.2.2.2.2.2.1) else if c.1 = 2 then decide (sumY c a ≤ c.2.2.2.2.2.2.1) else if c.1 = 3 then !(decide (sumY c a = c.2.2.2.2.2.2.1)) else
 (decide (at0 a c.2.2.1 0 = 1) && decide (sumY c a ≤ c.2.2.2.2.2.2.1)) || (decide (at0 a c.2.2.1 0 = 0) && decide (sumY c a > c.2.2.2.2.2.2.1))
def nanI (x : Int) : Bool := !(decide (x = x))
def threeY (c : Con) (a : List Int) : Bool := arithX c (valuesL c.2.1 a)
def logicY (c : Con) (a : List Int) : Bool :=
 bif decide (c.1 = 12) then List.any (valuesL c.2.1 a) (fun v => decide (v = 1)) || List.any (valuesL c.2.2.1 a) (fun v => decide (v = 0)) else logicX c (valuesL c.2.1 a) (valuesL c.2.2.1 a)
def rowY (c : Con) (a : List Int) : Bool := List.any c.2.2.2.2.2.2.2 (rowEqB (valuesL c.2.1 a))
def cumY (c : Con) (a : List Int) : Bool := fitL c.2.2.2.1 c.2.2.2.2.1 c.2.2.2.2.2.2.1 (valuesL c.2.1 a)
def circGo (x : List Int) : Nat → Nat → List Bool → Bool
 | 0, i, _ => decide (i = 0)
 | m + 1, i, met => let v := x.getD i 0; if v < 1 ∨ v > (x.length : Int) then false else if met.getD (v - 1).toNat false then false else circGo x m (v - 1).toNat (met.set (v - 1).toNat true)
def circY (c : Con) (a : List Int) : Bool := circGo (valuesL c.2.1 a) c.2.1.length 0 (List.replicate c.2.1.length false)
def gccY (c : Con) (a : List Int) : Bool := gccL c.2.2.2.1 c.2.2.2.2.1 c.2.2.2.2.2.1 (valuesL c.2.1 a)
def lexY : List Int → List Int → Bool
 | x :: xs, y :: ys => if x = y then lexY xs ys else decide (x < y)
 | _, _ => true
def invP (x y : List Int) (i k : Nat) : Bool := decide (x.getD i 0 < 1) || (decide (x.getD i 0 > (x.length : Int)) || (decide (y.getD k 0 < 1) || (decide (y.getD k 0 > (x.length : Int)) || !(decide (x.getD i 0 = (k : Int) + 1) == decide (y.getD k 0 = (i : Int) + 1)))))
def invY (x y : List Int) : Bool := !((List.range x.length).any fun i => (List.range x.length).any fun k => invP x y i k)
def pairsY (c : Con) (a : List Int) : Bool := bif decide (c.1 = 22) then lexY (valuesL c.2.1 a) (valuesL c.2.2.1 a) else invY (valuesL c.2.1 a) (valuesL c.2.2.1 a)
def unlikeY (x : List Int) : Bool := !((List.range x.length).any fun i => (List.range i).any fun k => decide (x.getD i 0 = x.getD k 0))
def holdsY (c : Con) (a : List Int) : Bool :=
 bif decide (c.1 ≤ 4) then linearY c a else bif decide (c.1 ≤ 11) then threeY c a else bif decide (c.1 ≤ 16) then logicY c a else bif decide (c.1 = 17) then unlikeY (valuesL c.2.1 a) else bif decide (c.1 = 18) then rowY c a else bif decide (c.1 = 19) then cumY c a else bif decide (c.1 = 20) then circY c a else bif decide (c.1 = 21) then gccY c a else pairsY c a
def anyY (c : Con) (a : List Int) : Bool := bif !(decide (rightD c (a.length : Int) = 0)) || List.any a farB then false else holdsY c a
def nearL (a : List Int) (n : Int) : List Int := (List.range n.toNat).map fun (i : Nat) => if i < a.length then (a.getD i 0).tmod 7 else (i : Int)
def nearLB (a : List Int) (n : Int) : Bool := decide (0 ≤ n) && decide (n ≤ 1000)
end Go.Proofs.Ytohdaehblenokaa.Ev
