/-
Seat 'a': constraints and domains made of plain data: what the functions answer, and what they are like.
Conditions: the kinds of Element, EqReif, LeReif, EqImp, LeImp.
Seat 'a': elem.Filter's answer is the document's: the plain law.
Conditions: what is made of plain data.
Seat 'a': elem.Filter's answer is the document's: the plain laws.
Conditions: what is made of plain data.
Seat 'a': ElemFilters is true: what the law's function answers.
Conditions: the numbers of the constraint's first list are of 8 bits.
Seat 'a': contracts off the shelf, at this program's numbers: slices.Grow, math/bits.TrailingZeros64.
Conditions: none.
-/
import Derived.Test.YtohdaehblenokaaAw
import Derived.Test.YtohdaehblenokaaAm
import Derived.Test.YtohdaehblenokaaAp
import Derived.Shelf.Spec.SlicesGrow
import Derived.Shelf.Spec.TrailingZeros
import Derived.Test.YtohdaehblenokaaProg
import Derived.KernelRfl
set_option linter.unusedVariables false
set_option linter.unusedSimpArgs false
set_option maxRecDepth 100000
namespace Go.Proofs.Ytohdaehblenokaa.Ev
open Go
abbrev ZRest := List Int × List Int × List Int × Int × Int
abbrev SmallT : Ty := .pair (.int .u8) (.pair (.sl (.int .u8)) (.pair (.sl (.int .u8)) (.pair (.sl (.int .i8)) (.pair (.int .i16) (.int .u8)))))
abbrev CaseT : Ty := .pair SmallT (.sl (.sl (.int .i64)))
theorem places_ok {l : List Int} {n v : Int} (h0 : 0 ≤ n) (h1 : n ≤ 1000) (hv : v ≠ 0) : placesB l n v = true := by unfold placesB; simp [h0, h1, hv]
theorem tmod_abs {v w : Int} (hw : 0 < w) : -w < v.tmod w ∧ v.tmod w < w := by
 rcases Int.le_total 0 v with h | h
 ·rw [Int.tmod_eq_emod_of_nonneg h]
  have h1 := Int.emod_nonneg v (show w ≠ 0 by omega)
  have h2 := Int.emod_lt_of_pos v hw
  omega
 ·have e : v.tmod w = -((-v).tmod w) := by rw [Int.neg_tmod, Int.neg_neg]
  rw [e, Int.tmod_eq_emod_of_nonneg (by omega)]
  have h1 := Int.emod_nonneg (-v) (show w ≠ 0 by omega)
  have h2 := Int.emod_lt_of_pos (-v) hw
  omega
structure SmallDom (w : Int) (l : List Int) : Prop where
  ris : Rising l
  ne : l ≠ []
  abs : ∀ x ∈ l, -w < x ∧ x < w
  len : l.length ≤ 6
theorem places_length (l : List Int) (n v : Int) : (placesL l n v).length = n.toNat := by unfold placesL; simp
end Go.Proofs.Ytohdaehblenokaa.Ev
set_option linter.unusedVariables false
set_option linter.unusedSimpArgs false
set_option maxRecDepth 100000
namespace Go.Proofs.Ytohdaehblenokaa.Ev
open Go
def U8s (l : List Int) : Prop := ∀ x ∈ l, 0 ≤ x ∧ x < 256
theorem numbers_length (l : List Int) (f n least wide : Int) : (numbersL l f n least wide).length = n.toNat := by unfold numbersL; simp
end Go.Proofs.Ytohdaehblenokaa.Ev
set_option linter.unusedVariables false
set_option linter.unusedSimpArgs false
set_option maxRecDepth 100000
namespace Go.Proofs.Ytohdaehblenokaa.Ev
open Go
end Go.Proofs.Ytohdaehblenokaa.Ev
set_option linter.unusedVariables false
set_option linter.unusedSimpArgs false
set_option maxRecDepth 100000
namespace Go.Proofs.Ytohdaehblenokaa.Ev
open Go
theorem two_of {α : Type} {l : List α} (h : l.length = 2) : ∃ a b, l = [a, b] := by
 match l, h with
 | [a, b], _ => exact ⟨a, b, rfl⟩
end Go.Proofs.Ytohdaehblenokaa.Ev
namespace Go.Proofs
open Go Go.Shelf
def Try.growI_ren : Go.Shelf.Ren :=
 {f := fun x => match x with
   | 4 => 81
   | n => n
  t := fun x => match x with
   | 22 => 27
   | 25 => 3
   | n => n
  g := fun n => n }
theorem Try.growI : Lays8.n4 Try.prog Try.growI_ren where
 mixed := by kernel_rfl
 f4 := ⟨Try.f81.name, by kernel_rfl, by kernel_rfl⟩
 t0 := by kernel_rfl
 a0 := fun w => by kernel_rfl
 z0 := fun w => by kernel_rfl
 v0 := fun w => by kernel_rfl
 t3 := by kernel_rfl
 a3 := fun w => by kernel_rfl
 z3 := fun w => by kernel_rfl
 v3 := fun w => by kernel_rfl
 t4 := by kernel_rfl
 a4 := fun w => by kernel_rfl
 z4 := fun w => by kernel_rfl
 v4 := fun w => by kernel_rfl
 t9 := by kernel_rfl
 a9 := fun w => by kernel_rfl
 z9 := fun w => by kernel_rfl
 v9 := fun w => by kernel_rfl
 t20 := by kernel_rfl
 a20 := fun w => by kernel_rfl
 z20 := fun w => by kernel_rfl
 v20 := fun w => by kernel_rfl
 t22 := by kernel_rfl
 a22 := fun w => by kernel_rfl
 z22 := fun w => by kernel_rfl
 v22 := fun w => by kernel_rfl
end Go.Proofs
