/-
Seat 'a': what the functions answer, as plain data: constraints, and whether they may be.
Conditions: none.
-/
import Derived.Test.YthdpbmcidebagaaGreatDoorAp
import Derived.Test.YthdpbmcidebagaaGreatDoorEvR
import Derived.Lib.Bytealg
set_option linter.unusedVariables false
set_option linter.unusedSimpArgs false
set_option maxRecDepth 10000
namespace Go.Proofs.YthdpbmcidebagaaGreatDoor.Ev
open Go
abbrev Con := Int × List Int × List Int × List Int × List Int × List Int × Int × List (List Int)
abbrev LI : Ty := .sl (.int .i64)
abbrev ConT : Ty := .pair (.int .i64) (.pair LI (.pair LI (.pair LI (.pair LI (.pair LI (.pair (.int .i64) (.sl LI)))))))
/-- The first place at which it holds, from 'i' on; or -1. -/
def idx {α : Type} (p : α → Bool) : List α → Int → Int
  | [], _ => -1
  | x :: xs, i => bif p x then i else idx p xs (i + 1)
def idxI (s : ByteArray) (c : Int) : Int := Lib.indexByte s.data.toList c.toNat.toUInt8
def cntI (s : ByteArray) (c : Int) : Int := (Lib.countByte s.data.toList c.toNat.toUInt8 : Nat)
def idxJ (s : ByteArray) (c : Int) : Int := idxI s c
def idx1 (s u : ByteArray) : Int := bif strEq u s then 0 else idxI s (byteW u 0)
def idx2 (s u : ByteArray) : Int := idx1 s u
def has1 (s u : ByteArray) : Bool := decide (idx2 s u ≥ 0)
def cnt1 (s u : ByteArray) : Int := cntI s (byteW u 0)
def shapesL : List ByteArray := [⟨#[]⟩, ⟨#[99, 86, 107]⟩, ⟨#[99, 86, 107]⟩, ⟨#[99, 86, 107]⟩, ⟨#[99, 86, 107, 119]⟩, ⟨#[118, 118, 118]⟩, ⟨#[118, 118, 118]⟩, ⟨#[118, 118, 118]⟩, ⟨#[118, 118]⟩, ⟨#[118, 118, 118]⟩, ⟨#[118, 118, 118]⟩, ⟨#[118, 99, 118]⟩, ⟨#[86, 87]⟩, ⟨#[118, 107, 119]⟩, ⟨#[118, 107, 119]⟩, ⟨#[118, 107, 119]⟩, ⟨#[118, 107, 119]⟩, ⟨#[86]⟩, ⟨#[86, 114]⟩, ⟨#[86, 99, 100, 107]⟩, ⟨#[86]⟩, ⟨#[86, 99, 100, 101]⟩, ⟨#[86, 87]⟩, ⟨#[86, 87]⟩]
def formsL : List (ByteArray × ByteArray) := [(⟨#[108, 105, 110, 95, 101, 113]⟩, ⟨#[99, 86, 107]⟩), (⟨#[108, 105, 110, 95, 108, 101]⟩, ⟨#[99, 86, 107]⟩), (⟨#[108, 105, 110, 95, 110, 101]⟩, ⟨#[99, 86, 107]⟩), (⟨#[108, 105, 110, 95, 114, 101, 105, 102]⟩, ⟨#[99, 86, 107, 119]⟩), (⟨#[116, 105, 109, 101, 115]⟩, ⟨#[118, 118, 118]⟩), (⟨#[100, 105, 118]⟩, ⟨#[118, 118, 118]⟩), (⟨#[109, 111, 100]⟩, ⟨#[118, 118, 118]⟩), (⟨#[97, 98, 115]⟩, ⟨#[118, 118]⟩), (⟨#[109, 105, 110]⟩, ⟨#[118, 118, 118]⟩), (⟨#[109, 97, 120]⟩, ⟨#[118, 118, 118]⟩), (⟨#[101, 108, 101, 109, 101, 110, 116]⟩, ⟨#[118, 99, 118]⟩), (⟨#[99, 108, 97, 117, 115, 101]⟩, ⟨#[86, 87]⟩), (⟨#[101, 113, 95, 114, 101, 105, 102]⟩, ⟨#[118, 107, 119]⟩), (⟨#[108, 101, 95, 114, 101, 105, 102]⟩, ⟨#[118, 107, 119]⟩), (⟨#[101, 113, 95, 105, 109, 112]⟩, ⟨#[118, 107, 119]⟩), (⟨#[108, 101, 95, 105, 109, 112]⟩, ⟨#[118, 107, 119]⟩), (⟨#[97, 108, 108, 95, 100, 105, 102, 102, 101, 114, 101, 110, 116]⟩, ⟨#[86]⟩), (⟨#[116, 97, 98, 108, 101]⟩, ⟨#[86, 114]⟩), (⟨#[99, 117, 109, 117, 108, 97, 116, 105, 118, 101]⟩, ⟨#[86, 99, 100, 107]⟩), (⟨#[99, 105, 114, 99, 117, 105, 116]⟩, ⟨#[86]⟩), (⟨#[103, 99, 99]⟩, ⟨#[86, 99, 100, 101]⟩), (⟨#[108, 101, 120, 95, 108, 101]⟩, ⟨#[86, 87]⟩), (⟨#[105, 110, 118, 101, 114, 115, 101]⟩, ⟨#[86, 87]⟩)]
def inS (k : Int) : Bool := decide (1 ≤ k) && decide (k ≤ 23)
def wordS (k : Int) : ByteArray := bif inS k then (formsL.getD (k - 1).toNat (ByteArray.empty, ByteArray.empty)).1 else ⟨#[]⟩
def shapeS (k : Int) : ByteArray := bif inS k then (formsL.getD (k - 1).toNat (ByteArray.empty, ByteArray.empty)).2 else ⟨#[]⟩
def withinD (n a b : Int) : Bool := decide (n ≥ a) && decide (n ≤ b)
def namedD (n : Int) (s o a : ByteArray) : Bool := bif has1 s a then withinD n 1 64 else decide (n = cnt1 s o)
def kindB (c : Con) : Bool := decide (c.1 = 11) || decide (c.1 = 13) || decide (c.1 = 14) || decide (c.1 = 15) || decide (c.1 = 16) || decide (c.1 = 18)
def shapeB (c : Con) (s : ByteArray) : Bool := kindB c && decide (s = shapeS c.1)
def varsB (c : Con) : Bool := decide (0 < (c.2.1.length : Int) + c.2.2.1.length) && decide ((c.2.1.length : Int) + c.2.2.1.length ≤ 1000)
def varsD (c : Con) : List Int := c.2.1 ++ c.2.2.1
def concatL (l : List (List Int)) : List Int := l.flatten
def concatB (l : List (List Int)) : Bool := decide (0 < (l.flatten.length : Int)) && decide ((l.flatten.length : Int) ≤ 1000) && decide (l.length = 2)
def smallN (n : Int) : Bool := decide (n ≤ 1000000)
def growB (n : Int) : Bool := decide (0 < n) && decide (n ≤ 1000000)
def varB (z v : Int) : Bool := decide (v < 0) || decide (v ≥ z)
def numB (z v : Int) : Bool := decide (v < z) || decide (v > 1000000)
def rowN (c : Con) (r : List Int) : Bool := !(decide ((r.length : Int) = (c.2.1.length : Int)))
def emptyD (d : Dom) : Bool := decide (sizeD d = 0)
def boundedD (l : List Int) (m : Int) : Bool := !(List.any l (numB m))
def inL (l : List Int) (lo hi : Int) : Bool := !(List.any l fun v => decide (v < lo) || decide (v > hi))
def hasGo (s : ByteArray) (c : Int) : List Nat → Int → Int
  | [], n => n
  | i :: is, n => hasGo s c is (if byteW s i = c then n + 1 else n)
def hasB (s : ByteArray) (c : Int) : Int := hasGo s c (List.range s.size) 0
def listB1 (n one all : Int) : Bool := bif decide (all > 0) then decide (n ≥ 1) && decide (n ≤ 64) else decide (n = one)
def noneL (c : Con) : Bool := decide (c.2.2.2.2.1.length = 0) && decide (c.2.2.2.2.2.1.length = 0)
/-- Are there as many elements in each list as there must be? -/
def countedD (c : Con) (_ : ByteArray) : Bool :=
  bif decide (c.1 = 11) then decide (c.2.2.2.2.2.2.2.length = 0) && decide (c.2.1.length = 2) && decide (c.2.2.1.length = 0) && decide (1 ≤ c.2.2.2.1.length) && decide (c.2.2.2.1.length ≤ 64) && noneL c
  else bif decide (c.1 = 18) then decide (1 ≤ c.2.2.2.2.2.2.2.length) && decide (c.2.2.2.2.2.2.2.length ≤ 1024) && decide (1 ≤ c.2.1.length) && decide (c.2.1.length ≤ 64) && decide (c.2.2.1.length = 0) && decide (c.2.2.2.1.length = 0) && noneL c
  else decide (c.2.2.2.2.2.2.2.length = 0) && decide (c.2.1.length = 1) && decide (c.2.2.1.length = 1) && decide (c.2.2.2.1.length = 0) && noneL c
def alikeD (c : Con) : Bool := bif decide (c.1 = 18) then !(List.any c.2.2.2.2.2.2.2 (rowN c)) else true
def kB (c : Con) : Bool := decide (c.2.2.2.2.2.2.1 = 0) || (decide (13 ≤ c.1) && decide (c.1 ≤ 16))
def arityD (c : Con) (s : ByteArray) : Bool := kB c && countedD c s && alikeD c
def numbersD (c : Con) : Bool := c.2.2.2.2.2.2.2.all (fun r => boundedD r (-1000000)) && boundedD c.2.2.2.1 (-1000000) && boundedD c.2.2.2.2.1 (-1000000) && boundedD c.2.2.2.2.2.1 (-1000000) &&
  decide (c.2.2.2.2.2.2.1 ≥ -9999999999) && decide (c.2.2.2.2.2.2.1 ≤ 9999999999)
def countsD (_ : Con) : Bool := true
def coefsD (c : Con) : Bool := inL c.2.2.2.1 (-1000000) 1000000 && inL c.2.2.2.2.1 (-1000000) 1000000 && inL c.2.2.2.2.2.1 (-1000000) 1000000 &&
  decide (c.2.2.2.2.2.2.1 ≥ -9999999999) && decide (c.2.2.2.2.2.2.1 ≤ 9999999999) && c.2.2.2.2.2.2.2.all (fun r => inL r (-1000000) 1000000)
/-- May a constraint be, of so many variables? (Of the kinds that this seat is about.) -/
def rightM (c : Con) (n : Int) : Int :=
  bif !(countedD c ⟨#[]⟩ && alikeD c && kB c) then 10 else bif List.any (varsD c) (varB n) then 7 else bif !(numbersD c) then 11 else 0
def rightR (c : Con) (n : Int) : Int :=
  bif !(arityD c ⟨#[]⟩) then 10 else bif !(inL c.2.1 0 (if n > 0 then n - 1 else -1) && inL c.2.2.1 0 (if n > 0 then n - 1 else -1)) then 7 else bif !(coefsD c) then 11 else 0
theorem any_congr {α : Type} {l : List α} {p q : α → Bool} (h : ∀ x, p x = q x) : l.any p = l.any q := by
  have : p = q := funext h
  rw [this]
theorem bounded_in (l : List Int) : boundedD l (-1000000) = inL l (-1000000) 1000000 := by
  unfold boundedD inL
  congr 1
/-- The document's answer is the program's. -/
theorem right_same (c : Con) (n : Int) (hn : 0 < n) : rightM c n = rightR c n := by
  unfold rightM rightR
  have e1 : (countedD c ⟨#[]⟩ && alikeD c && kB c) = arityD c ⟨#[]⟩ := by
    unfold arityD
    cases countedD c ⟨#[]⟩ <;> cases alikeD c <;> cases kB c <;> rfl
  have e2 : List.any (varsD c) (varB n) = !(inL c.2.1 0 (if n > 0 then n - 1 else -1) && inL c.2.2.1 0 (if n > 0 then n - 1 else -1)) := by
    unfold varsD inL
    rw [List.any_append, if_pos hn]
    have h : ∀ v : Int, varB n v = (decide (v < 0) || decide (v > n - 1)) := by
      intro v
      unfold varB
      congr 1
      by_cases h : v ≥ n
      · have h2 : v > n - 1 := by omega
        simp [h, h2]
      · have h2 : ¬ v > n - 1 := by omega
        simp only [h, h2]
    rw [any_congr h, any_congr h]
    simp
  have e3 : numbersD c = coefsD c := by
    unfold numbersD coefsD
    simp only [bounded_in]
    cases inL c.2.2.2.1 (-1000000) 1000000 <;> cases inL c.2.2.2.2.1 (-1000000) 1000000 <;> cases inL c.2.2.2.2.2.1 (-1000000) 1000000 <;>
      cases c.2.2.2.2.2.2.2.all (fun r => inL r (-1000000) 1000000) <;> simp
  rw [e1, e2, e3]
end Go.Proofs.YthdpbmcidebagaaGreatDoor.Ev
